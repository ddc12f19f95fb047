import Derived.Test.YtfhjncbdgjlcoaaGreatDoorYn3
set_option linter.unusedVariables false
set_option linter.unusedSimpArgs false
set_option maxHeartbeats 4000000
namespace Go.Proofs.YtfhjncbdgjlcoaaGreatDoor
open Tryz
section
open Go.RowKit
open Go.Lib
theorem Ki (s:ByteArray) (p:Nat) (h:p<s.size) (hd:eC (s[p]'h)=true):bU s p=((s[p]'h).toNat:Int)/\bN s p=1:=by
 have h1:=of_decide_eq_true hd;have:=decode_ascii s p h a_;unfold bU bN;rw[this];exact⟨rfl,rfl⟩
theorem Uw (s:ByteArray) (p:Nat) (h:p<s.size) (hd:eC (s[p]'h)=false):bU s p<48\/57<bU s p:=by
 have h1: ¬(48<=(s[p]'h).toNat/\(s[p]'h).toNat<=57):=of_decide_eq_false hd;by_cases ha:(s[p]'h).toNat<128
 .have:=decode_ascii s p h ha;unfold bU;rw[this];simp only[];omega
 .have:=(decode_high s p h a_).1;unfold bU;omega
def oA (s:ByteArray) (p:Nat):Prop:=(s.data.toList.take p).all eC=true
theorem oA.zero (s:ByteArray):oA s 0:=rfl
theorem Aj (s:ByteArray) (p:Nat) (h:p<s.size):s.data.toList.take (p+1)=s.data.toList.take p++ [s[p]'h]:=by
 rw[List.take_succ_eq_append_getElem s'];rfl
theorem oA.next {s:ByteArray}{p:Nat} (h:oA s p) (hp:p<s.size) (hd:eC (s[p]'hp)=true):oA s (p+1):=by
 unfold oA at *;rw[Aj s p hp,List.all_append,h,List.all_cons,hd];rfl
theorem oA.fin {s:ByteArray}{p:Nat} (h:oA s p) (hp:s.size<=p):dC s.data.toList=!s.toList.isEmpty:=by
 unfold oA at h;rw[uV A'] at h;unfold dC;rw[h,Lib.toList_data,Bool.and_true]
theorem Kj {s:ByteArray}{p:Nat} (hp:p<s.size) (hd:eC (s[p]'hp)=false):dC s.data.toList=false:=by
 unfold dC;rw[Bool.and_eq_false_iff];right;rw[List.all_eq_false];exact⟨s[p]'hp,Array.getElem_mem_toList _,by rw[hd];simp⟩
theorem Kk (s:ByteArray) (w:World):
  Calls prog 96 #[s] w (aT w (.bool (dC s.data.toList))):=by
 have OI:=trivial;exact JS
end
section
open Go.RowKit
open Go.Lib hiding intOf
theorem Ux {p:UInt8->Bool}{l:aC} (h:l.all (λc=>!p c)=true):cO p l=(l,[],false):=
 Ts p l λc a=>by have:=iN.1 h c a;simpa using this
theorem Uy {p:UInt8->Bool}{l:aC}{k:Nat}{b:UInt8} (h:(l.take k).all (λc=>!p c)=true) (hb:l[k]?=some b) (hp:p b=true):cO p l=(l.take k,l.drop (k+1),true):=by
 obtain⟨a,e⟩:=aW.1 hb;have f:l=l.take k++b::l.drop (k+1):=by
  rw[<-e,<-gB a,sS]
 have:=Jb p (l.take k) b (l.drop (k+1)) (λc d=>by have:=iN.1 h c d;simpa using this) hp;rw[<-f] at this;exact this
def nI (p:UInt8->Bool) (s:ByteArray) (k:Nat):Prop:=(s.data.toList.take k).all (λc=>!p c)=true
theorem nI.next {p:UInt8->Bool}{s:ByteArray}{k:Nat} (h:nI p s k) (hk:k<s.size) (hp:p (s[k]'hk)=false):nI p s (k+1):=by
 unfold nI at *;rw[Aj s k hk,List.all_append,h,List.all_cons,hp];rfl
theorem nI.fin {p:UInt8->Bool}{s:ByteArray}{k:Nat} (h:nI p s k) (hk:s.size<=k):cO p s.data.toList=(s.data.toList,[],false):=by
 unfold nI at h;rw[uV A'] at h;exact Ux h
theorem nI.hit {p:UInt8->Bool}{s:ByteArray}{k:Nat} (h:nI p s k) (hk:k<s.size) (hp:p (s[k]'hk)=true):cO p s.data.toList=(s.data.toList.take k,s.data.toList.drop (k+1),true):=
 Uy h (by rw[Array.getElem?_toList,Array.getElem?_eq_getElem hk];rfl) hp
def xV (R:aC×aC×Bool):Ending:= .returned (.tuple #[bs R.1,bs R.2.1,R.2.2])
theorem Kl (s A:ByteArray) (p:UInt8->Bool) (w:World) (hp: ∀b,p b=decide (0<=Lib.indexByte A.data.toList b)) (hs:s.size<=4294967296):
  Calls prog 137 #[s,A] w λe w'=>e=xV (cO p s.data.toList)/\aA w w':=by
 obtain⟨R,l⟩:=exQ<|cO p s.data.toList;rw[l];have m:=hid l;clear l;have o:=hid hp;clear hp;go_in;go_wp2;go_loopw [10] (λi wr=> ∃k:Nat,k<=s.size/\i= .int .i64 k/\Hid (nI p s k)/\Hid (aA w wr)) (λi _=>s.size-(RowKit.intOf i).toNat)
 case atStart=>exact⟨0,a_,rfl,rfl,aD _ _⟩
 case round=>
  obtain⟨k,hk,rfl,g,h⟩:=hrel;by_cases hlt:k<s.size
  .have hlz:(k:Int)<(s.size:Int):=a_;have c:=xL A (s[k]'hlt);have a:=o.out (s[k]'hlt);cases hpp:p (s[k]'hlt) with
   | true=>
    have j:=hid (m.out.symm.trans (g.out.hit hlt hpp));rw[hpp] at a;have f:0<=Lib.indexByte A.data.toList (s[k]'hlt):=of_decide_eq_true a.symm;generalize Lib.indexByte A.data.toList (s[k]'hlt)=I at *;have d:=hid c;clear c hpp a;go_wp2_with (go_at_call 41;go_must (refine(d.out _).mono ?_);rintro e w' ⟨rfl,rfl⟩);go_quiet (fail);go_wp2;go_ret3;exact⟨by rw[j.out,vQ,Ic];rfl,below_drewN h.out _⟩
   | false=>
    have n:=hid (g.out.next hlt hpp);rw[hpp] at a;have f:Lib.indexByte A.data.toList (s[k]'hlt)<0:=Int.not_le.1 (of_decide_eq_false a.symm);generalize Lib.indexByte A.data.toList (s[k]'hlt)=I at *;have d:=hid c;clear c hpp a;go_wp2_with (go_at_call 41;go_must (refine(d.out _).mono ?_);rintro e w' ⟨rfl,rfl⟩);go_roundw
    case rel=>exact⟨k+1,a_,t_,n.out,h.out⟩
    case measure=>simp[RowKit.intOf];omega
  .have j:=hid (m.out.symm.trans (g.out.fin a_));go_wp2;go_ret3;exact⟨by rw[j.out];unfold xV;simp only[xJ];rfl,h.out⟩
theorem Km (s:ByteArray) (w:World) (R:Bool) (h:dC s.data.toList=R):
  Calls prog 96 #[s] w (aT w (.bool R)):=by
 rw[<-h];exact Kk s w
theorem Uz {n:eJ} (h:n≠cM) (h2: ¬pM n):kH n=false:=aJ (by rintro(a | a);exact h a;exact h2 a)
theorem Ed (s:ByteArray) (h:s.size-1<s.size):s.data.toList.getLast?=some (s[s.size-1]'h):=by
 rw[List.getLast?_eq_getElem?,Array.getElem?_toList];have a:s.data.toList.length=s.size:=rfl;rw[a,Array.getElem?_eq_getElem h];rfl
theorem Ak (b:UInt8):((b.toNat:Int)==48)=decide (b=48):=by
 by_cases h:b=48
 .subst h;rfl
 .rw[aJ h,aI];intro e;apply h;apply UInt8.toNat_inj.1;rw[show (48:UInt8).toNat=48 from rfl];omega
theorem Kn (neg:Bool) (d:ByteArray) (e:Int) (w:World) (hd:d.size<=9223372036854775807):
  Calls prog 61 #[.agg #[neg,d,e]] w (aT w (.bool (kH ⟨neg,d.data.toList,e⟩))):=by
 have s:d.data.toList.length=d.size:=rfl;by_cases hn:(⟨neg,d.data.toList,e⟩:eJ)=cM
 .rw[hn,show kH cM=true from rfl];injection hn with o j x;subst o x;have h4:d.toList= []:=by rw[Lib.toList_data];exact j
  clear j s;go_in;go_wp2;go_ret;exact⟨rfl,(aD _ _).alloc (aF _) _⟩
 .have i:neg=true\/ ¬d.toList= []\/ ¬e=0:=by
   by_cases o:neg=true
   .exact .inl o
   by_cases j:d.toList= []
   .right;right;intro x;apply hn;rw[Lib.toList_data] at j;rw[j,x];cases neg<;>first | rfl | exact absurd rfl o
   .exact .inr (.inl j)
  have c:=λj=>Uz (n:=⟨neg,d.data.toList,e⟩) hn j;have f:pM ⟨neg,d.data.toList,e⟩->kH ⟨neg,d.data.toList,e⟩=true:=λh=>aQ (.inr h);generalize kH ⟨neg,d.data.toList,e⟩=R at *;have m: ∀(D:Bool),dC d.data.toList=D->(D=true->0<d.size):=by
   intro D o j;rw[j] at o;have:=(oT o).1;exact lr
  cases hD:dC d.data.toList with
  | false=>
   obtain rfl:=c (λh=>by have:=h.1;simp only[] at this;rw[hD] at this;cases this);have r:=hid (λw=>Km d w false hD);clear c f m hD hn;rcases i with i | i | i
   all_goals exact dt
  | true=>
   have g:=m true hD rfl;have r:=hid (λw=>Km d w true hD);have a:d.size-1<d.size:=a_;have e1:=xK d g;have e2:=Ed d a;have b1:=Ak (d[0]'g);have b2:=Ak (d[d.size-1]'a);have hne: ¬d.toList= []:=by rw[Lib.toList_data];intro h;rw[h] at s;simp at s;omega
   have RP:pM ⟨neg,d.data.toList,e⟩↔d.size<=1000/\ ¬(d[0]'g)=48/\ ¬(d[d.size-1]'a)=48/\ -1000000<=e/\e<=1000000:=by
    unfold pM;simp only[hD,s,e1,e2,true_and,ne_eq,cC]
   clear m hD hn i e1 e2;by_cases c1:d.size<=1000
   .by_cases c2:(d[0]'g)=48
    .obtain rfl:=c (λh=>(RP.1 h).2.1 c2);rw[aQ c2] at b1;clear c f RP c2 b2;exact dt
    .rw [aJ c2] at b1;by_cases c3:(d[d.size-1]'a)=48
     .obtain rfl:=c (λh=>(RP.1 h).2.2.1 c3);rw[aQ c3] at b2;clear c f RP c2 c3;exact dt
     .rw[aJ c3] at b2;have C:R=decide (-1000000<=e/\e<=1000000):=by
       by_cases c4: -1000000<=e/\e<=1000000
       .rw[aQ c4];exact f (RP.2 ⟨c1,c2,c3,c4.1,c4.2⟩)
       .rw[aJ c4];exact c (λh=>c4 (RP.1 h).2.2.2)
      have v:=hid C;clear c f RP c2 c3 C;have k:e< -1000000\/(-1000000<=e/\e<=1000000)\/(-1000000<=e/\1000000<e):=a_;rcases k with k | ⟨k,u⟩ | ⟨k,u⟩
      all_goals
       go_in;go_wp2_with (go_at_call 96;go_must (refine(r.out _).mono ?_);rintro en w1 ⟨rfl,b⟩;obtain⟨A,y⟩:=vO b);go_ret;refine⟨qH ?_,((aD _ _).alloc (aF _) _).trans (b.mono e_)⟩;rw[v.out]
       first
        | (rw[aJ (p:= -1000000<=e/\e<=1000000) a_];simp;omega)
        | (rw[aQ (p:= -1000000<=e/\e<=1000000) a_];simp;omega)
        | (rw[aJ (p:= -1000000<=e/\e<=1000000) a_];simp)
        | (rw[aQ (p:= -1000000<=e/\e<=1000000) a_];simp)
        | (rw[aJ (p:= -1000000<=e/\e<=1000000) a_])
        | (rw[aQ (p:= -1000000<=e/\e<=1000000) a_])
   .obtain rfl:=c (λh=>c1 (RP.1 h).1);clear c f RP b1 b2;exact dt
theorem Ee (l:aC) (c:UInt8):Lib.hasPrefix l [c]=(l.head?==some c)/\Lib.trimPrefix l [c]=if l.head?=some c then l.drop 1 else l:=by
 cases l with
 | nil=>simp[Lib.hasPrefix,Lib.trimPrefix]
 | cons x t=>
  by_cases h:x=c
  .subst h;simp[Lib.hasPrefix,Lib.trimPrefix]
  .have e1:(c==x)=false:=aI.2 (Ne.symm h);have e2:(x==c)=false:=aI.2 h;simp[Lib.hasPrefix,Lib.trimPrefix,h,List.isPrefixOf,e1,e2]
theorem Ko (l:aC) (w:World):
  Calls prog 136 #[bs l, .string ⟨#[45]⟩] w λe w'=>e= .returned (.tuple #[bs (fZ l),(l.head?==some 45)])/\w=w':=by
 have h:=strings_CutPrefix (bs l) ⟨#[45]⟩ w;rw[aY,show (⟨#[45]⟩:ByteArray).data.toList= [45] from rfl,(Ee l 45).1,(Ee l 45).2] at h;exact au
theorem Va (l:aC) (w:World) (h:l.head?≠some 45):
  Calls prog 138 #[bs l, .string ⟨#[43]⟩] w λe w'=>e= .returned (.string (bs (fJ l)))/\w=w':=by
 have c:=strings_TrimPrefix (bs l) ⟨#[43]⟩ w;rw[aY,show (⟨#[43]⟩:ByteArray).data.toList= [43] from rfl,(Ee l 43).2] at c;have e:fJ l=if l.head?=some 43 then l.drop 1 else l:=by unfold fJ;simp[h]
 rw[<-e] at c;exact c.mono λ_ _ ⟨a,b⟩=>⟨a,b.symm⟩
theorem Kq {l:aC} (h:(l.head?==some 45)=false):fZ l=l/\l.head?≠some 45:=by
 have a:l.head?≠some 45:=aI.1 h;unfold fZ;rw[if_neg a];exact⟨rfl,a⟩
theorem Vb {l:aC} (h:(l.head?==some 45)=true):fJ l=fZ l:=by
 have a:l.head?=some 45:=beq_iff_eq.1 h;unfold fZ fJ;rw[if_pos a,if_pos (.inl a)]
theorem Vc (l:aC) (w:World) (hs:l.length<=4294967296):
  Calls prog 137 #[bs l, .string ⟨#[101,69]⟩] w λe w'=>e=xV (cO fI l)/\aA w w':=by
 have h:=Kl (bs l) ⟨#[101,69]⟩ fI w (λb=>by
  show (b==101||b==69)=decide (0<=Lib.indexByte [101,69] b);unfold Lib.indexByte Lib.indexByte Lib.indexByte;by_cases h1:b=101
  .subst h1;decide
  .by_cases h2:b=69
   .subst h2;decide
   .have e1:(101==b)=false:=aI.2 (Ne.symm h1);have e2:(69==b)=false:=aI.2 (Ne.symm h2);simp[h1,h2,e1,e2]) (by rw[aP];exact hs)
 rw[aY] at h;exact h
theorem Vd (l:aC) (w:World) (hs:l.length<=4294967296):
  Calls prog 137 #[bs l, .string ⟨#[46]⟩] w λe w'=>e=xV (cO iM l)/\aA w w':=by
 have h:=Kl (bs l) ⟨#[46]⟩ iM w (λb=>by
  show (b==46)=decide (0<=Lib.indexByte [46] b);unfold Lib.indexByte Lib.indexByte;by_cases h1:b=46
  .subst h1;decide
  .have e1:(46==b)=false:=aI.2 (Ne.symm h1);simp[h1,e1]) (by rw[aP];exact hs)
 rw[aY] at h;exact h
theorem Ef (l:aC) (w:World) (R:Bool) (h:dC l=R):
  Calls prog 96 #[bs l] w (aT w (.bool R)):=by
 have:=Kk (bs l) w;rw[aY,h] at this;exact this
def Ve (l:aC) (e:Ending):Prop:= ∃(n lo:Bool) (a b c:aC) (is:Bool),e= .returned (.tuple #[.agg #[n,lo,bs a,bs b,bs c],is])/\
 lE l=if is then some ⟨n,a,b,lo,c⟩ else none
theorem Am (l:aC):(fZ l).length<=l.length:=by unfold fZ;split<;>simp
theorem Kr (p:UInt8->Bool) (l:aC):(cO p l).1.length<=l.length:=by
 unfold cO;split
 .exact aF _
 .exact(List.takeWhile_sublist _).length_le
theorem pQ {w:World}{g:Nat}{t:TypeId}{cs:Array Value} (h:w.heap[g]?=some (.cells cs t (0,0))) (i:Nat):w.cell? (g,i)=cs[i]?:=cell_of_row w g i cs t (0,0) h
theorem tE {w:World}{g:Nat}{t:TypeId}{cs:Array Value} (h:w.heap[g]?=some (.cells cs t (0,0))) (i:Nat):w.frozen? ⟨g,i,none⟩=false:=by simp[World.frozen?,h]
theorem cA {w:World}{g:Nat}{t:TypeId}{cs:Array Value} (h:w.heap[g]?=some (.cells cs t (0,0))) (i:Nat) (u:Value):(w.setCell ⟨g,i,none⟩ u).heap[g]?=some (.cells (cs.setIfInBounds i u) t (0,0)):=aj
theorem jA {B:Nat}{W w:World} (h:Below B W w) {k o:Nat}{v:Value} (hk:B<=k):Below B W (w.setCell ⟨k,o,none⟩ v):=h.setCell (p:=⟨k,o,none⟩) hk v
theorem tF {w:World}{g:Nat}{t:TypeId}{a b c d e:Value} (h:w.heap[g]?=some (.cells #[a,b,c,d,e] t (0,0))):
  w.cell? (g,0)=some a/\w.cell? (g,1)=some b/\w.cell? (g,2)=some c/\w.cell? (g,3)=some d/\w.cell? (g,4)=some e/\
  w.frozen? ⟨g,0,none⟩=false/\w.frozen? ⟨g,1,none⟩=false/\w.frozen? ⟨g,2,none⟩=false/\w.frozen? ⟨g,3,none⟩=false/\w.frozen? ⟨g,4,none⟩=false:=
 ⟨pQ h 0,pQ h 1,pQ h 2,pQ h 3,pQ h 4,tE h 0,tE h 1,tE h 2,tE h 3,tE h 4⟩
def Vf (has:Bool) (x:aC) (lo:Bool) (xf:aC):Prop:=(has=true->dC xf=true)/\xf=(if has then fJ x else [])/\lo=(has&&x.head?==some 45)
theorem Vg (l:aC) (w:World) (hs:l.length<=4294967296):
  Calls prog 98 #[bs l] w λe w'=>Ve l e/\aA w w':=by
 have hu:=Am l;have c1:=Ko l;have c2:=λw=>Vc (fZ l) w a_;have hm:=Kr fI (fZ l);obtain⟨m,x,c,hc⟩: ∃m x c,cO fI (fZ l)=(m,x,c):=⟨_,_,_,rfl⟩;rw[hc] at c2 hm;simp only[] at hm;have c6:=λw=>Vd m w a_;obtain⟨wh,rs,pt,hd⟩: ∃wh rs pt,cO iM m=(wh,rs,pt):=⟨_,_,_,rfl⟩;rw[hd] at c6;have s:lE l=if qI c pt (if c then fJ x else []) wh rs then some ⟨l.head?==some 45,wh,rs,c&&x.head?==some 45,if c then fJ x else []⟩ else none:=by
  unfold lE;simp only[hc,hd]
 obtain⟨ng,S⟩:=exQ (l.head?==some 45);rw[S] at c1 s;have C1:=hid c1;have C2:=hid c2;have C6:=hid c6;have HL:=hid s;have X:c=false->x= []:=λh=>(Do (h ▸ hc)).2;have ah:=hid X;clear c1 c2 c6 hc hd s S X;have q: ∃D2,dC wh=D2:=⟨_,rfl⟩;obtain⟨D2,q⟩:=q;have C7:=hid (λw=>Ef wh w D2 q);have A: ∃D3,dC rs=D3:=⟨_,rfl⟩;obtain⟨D3,A⟩:=A;have C8:=hid (λw=>Ef rs w D3 A);have G:D2=true->0<(bs wh).size:=λh=>by
  have:=(oT (q.trans h)).1;rw[aP];cases wh with
  | nil=>exact absurd rfl this
  | cons _ _=>simp
 have ad:=hid q;have af:=hid A;clear q A;have o: ∀h:0<(bs wh).size,wh.head?=some ((bs wh)[0]'h):=λh=>by have:=xK (bs wh) h;rw[aY] at this;exact this
 have T:=hid (show (bs wh).toList=wh by rw[Lib.toList_data,aY]);obtain⟨Wh,t⟩:=exQ<|bs wh;have O:=hid t;have HF:=hid o;clear o;rw[t] at T G HF;have ag:=hid (show ∀w,Calls prog 96 #[Wh] w (aT w (.bool D2)) from by rw[<-t];exact C7.out);have ak:=hid (show ∀w,Calls prog 137 #[.string (bs m), .string ⟨#[46]⟩] w (aT w (.tuple #[Wh, .string (bs rs), .bool pt])) from by rw[<-t];exact C6.out);clear C6 C7 t;go_in;go_wp2_with (go_at_call 136;go_must (refine(C1.out _).mono ?_);rintro e w' ⟨rfl,rfl⟩);refine(C2.out _).mono ?_;rintro e w1 ⟨rfl,g⟩;unfold xV;have i:=hid ((g.block w.heap.size e_).trans (heap_alloc_new w _));obtain⟨a0,a1,a2,a3,a4,f0,f1,f2,f3,f4⟩:=tF i.out;have E:w.heap.size<w1.heap.size:=by have:=g.size;simp at this;omega
 have M:=hid (((aD w.heap.size w).alloc (aF _) _).trans (g.mono e_));clear g;go_upto_if 21 with(fail);have z: ∀xf,xf=(if c then fJ x else [])->c=true->dC xf=false->lE l=none:=λxf h1 h2 V=>by
  rw[HL.out,<-h1];unfold qI;rw[h2,V];simp
 have U:=hid z;clear z;go_cut [4] (λs4 wx=> ∃(lo:Bool) (xf:aC),s4= .string (bs xf)/\Vf c x lo xf/\
   Hid (wx.heap[w.heap.size]?=some (.cells #[ng,lo, .string ⟨#[]⟩, .string ⟨#[]⟩, .string ⟨#[]⟩] 139 (0,0)))/\Hid (aA w wx))
 case first=>
  cases c with
  | false=>
   have hx:=hid (ah.out rfl);go_wp2;go_meet;exact⟨false,x,rfl,⟨λh=>JD,hx.out,rfl⟩,i.out,M.out⟩
  | true=>
   obtain⟨lo,j⟩:=exQ (x.head?==some 45);have c3:=Ko x;rw[j] at c3;have C3:=hid c3;clear c3;have C5:=hid (λw=>Ef (fJ x) w _ rfl);cases lo with
   | true=>
    have r:=Vb j;have HXE:=hid r;rw[<-r] at C3;clear r;have f:=hid j;clear j;cases hD:dC (fJ x) with
    | true=>
     have SG:=trivial;exact P6
    | false=>exact P6
   | false=>
    obtain⟨r,H⟩:=Kq j;rw[r] at C3;have C4:=hid (λw=>Va x w H);clear r H;have f:=hid j;clear j;cases hD:dC (fJ x) with
    | true=>
     have SF:=trivial;exact P5
    | false=>exact P5
 case rest=>
  obtain⟨lo,xf,rfl,HX,Q,Y⟩:=hcut;have W:=hid HX;clear HX;have I: ∀b:Bool,qI c pt xf wh rs=b->lE l=if b then some ⟨ng,wh,rs,lo,xf⟩ else none:=λb hb=>by
   obtain⟨_,h2,V⟩:=W.out;rw[HL.out,<-h2,<-V,hb]
  have F: ∀b2 b3:Bool,D2=b2->(!pt||D3)=b3-> ∀b4:Bool,((wh== [48])||(wh.head? !=some 48))=b4->qI c pt xf wh rs=(b2&&b3&&b4):=λb2 b3 h2 V b4 h4=>by
   obtain⟨h1,_,_⟩:=W.out;unfold qI;rw[ad.out,af.out,h2,V,h4];cases c with
   | false=>rfl
   | true=>rw[h1 rfl];rfl
  have f:=hid I;have D:=hid F;clear I F;have ai:w.heap.size<wc.heap.size:=aG Q;have ab:=hid Q;have al:=hid Y;clear Q Y a0 a1 a2 a3 a4 f0 f1 f2 f3 f4;obtain⟨a0,a1,a2,a3,a4,f0,f1,f2,f3,f4⟩:=tF ab.out;go_wp2_with fail;refine(ak.out _).mono ?_;rintro e w2 ⟨rfl,a⟩;have d:Hid (w2.heap[w.heap.size]?=some (.cells #[ng,lo, .string ⟨#[]⟩, .string ⟨#[]⟩, .string (bs xf)] 139 (0,0))):=(a.block w.heap.size (by simp[World.setCell];exact ai)).trans (cA ab.out 4 _);have L:w.heap.size<w2.heap.size:=aG d.out;have k:=hid ((al.out.setCell (p:=⟨w.heap.size,4,none⟩) (aF _) (.string (bs xf))).trans (a.mono D'));clear a a0 a1 a2 a3 a4 f0 f1 f2 f3 f4;obtain⟨a0,a1,a2,a3,a4,f0,f1,f2,f3,f4⟩:=tF d.out;go_wp2_with fail;refine(ag.out _).mono ?_;rintro e w3 ⟨rfl,J⟩;have P:Hid (w3.heap[w.heap.size]?=some (.cells #[ng,lo,Wh, .string (bs rs), .string (bs xf)] 139 (0,0))):=(J.block w.heap.size (by simp[World.setCell];exact L)).trans (cA (cA d.out 2 _) 3 _);have ae:w.heap.size<w3.heap.size:=aG P.out;have K:=hid (((k.out.setCell (p:=⟨w.heap.size,2,none⟩) (aF _) (.string Wh)).setCell (p:=⟨w.heap.size,3,none⟩) (aF _) (.string (bs rs))).trans (J.mono D'));clear J a0 a1 a2 a3 a4 f0 f1 f2 f3 f4;obtain⟨a0,a1,a2,a3,a4,f0,f1,f2,f3,f4⟩:=tF P.out;cases D2 with
  | false=>
   have NZ:=trivial;exact JF
  | true=>
   have hp:=G rfl;have hpz:(0:Int)<(Wh.size:Int):=a_;obtain⟨b4,B,y⟩: ∃b4,((wh== [48])||(wh.head? !=some 48))=b4/\((Wh.toList== [48])=true/\b4=true\/(Wh.toList== [48])=false/\(((Wh[0]'hp).toNat:Int) !=48)=b4):=by
    refine⟨_,rfl,?_⟩;have hh:=HF.out hp;rw[T.out,hh];by_cases g1:wh= [48]
    .left;rw[g1];exact⟨rfl,rfl⟩
    .right;rw[aI.2 g1];refine⟨rfl,?_⟩;rw[Bool.false_or];by_cases g2:(Wh[0]'hp)=48
     .rw[g2];rfl
     .rw[show (((Wh[0]'hp).toNat:Int) !=48)=true from by rw[eN];intro h;apply g2;apply UInt8.toNat_inj.1;rw[show (48:UInt8).toNat=48 from rfl];omega];symm;rw[eN];intro h;exact g2 (bA h)
   cases pt with
   | false=>
    have wm:=trivial;exact tc
   | true=>
    go_wp2_with fail;refine(C8.out _).mono ?_;rintro e w4 ⟨rfl,u⟩;have aj:Hid (w4.heap[w.heap.size]?=some (.cells #[ng,lo,Wh, .string (bs rs), .string (bs xf)] 139 (0,0))):=(u.block w.heap.size ae).trans P.out;have aa:=hid (K.out.trans (u.mono a_));clear u a0 a1 a2 a3 a4 f0 f1 f2 f3 f4;obtain⟨a0,a1,a2,a3,a4,f0,f1,f2,f3,f4⟩:=tF aj.out;cases D3 with
    | false=>exact JF
    | true=>exact tc
theorem Ks (l:aC) (w:World):
  Calls prog 29 #[bs l, .string ⟨#[48]⟩] w λe w'=>e= .returned (.string (bs (cS l)))/\w=w':=by
 have h:=strings_TrimLeft_one (bs l) 48 b_ w;rw[aY] at h;exact au
theorem Vh (l:aC) (w:World) (hl:l.length<=9223372036854775807):
  Calls prog 99 #[bs l, .string ⟨#[48]⟩] w λe w'=>e= .returned (.string (bs (cW l)))/\w=w':=by
 have h:=strings_TrimRight_one (bs l) 48 b_ w (by rw[aP];exact hl);rw[aY] at h;exact au
theorem Eg (p:UInt8->Bool) (l:aC):(cO p l).1.length+(cO p l).2.1.length<=l.length:=by
 have h:=congrArg List.length (List.takeWhile_append_dropWhile (p:=λc=>!p c) (l:=l));rw[aZ] at h;unfold cO;split
 .simp
 .rename_i e;rw[e] at h;simp only[bM] at h;simp only[];omega
theorem Vi {l:aC}{x:sQ} (h:lE l=some x):x.whole.length+x.rest.length<=l.length:=by
 unfold lE at h;simp only[] at h;generalize (if(cO fI (fZ l)).2.2=true then fJ (cO fI (fZ l)).2.1 else [])=xx at h;split at h
 .injection h with h;subst h;have h1:=Eg iM (cO fI (fZ l)).1;have h2:=Kr fI (fZ l);have h3:=Am l;simp only[];omega
 .cases h
theorem Vj {x:sQ}{k:Int}{D:aC} (h1:dC x.whole=true) (h2:x.rest.all eC=true) (hlen: ¬1000<x.whole.length+x.rest.length) (hD:cS (x.whole++x.rest)=D) (hd:D≠ []):
  kH ⟨x.neg,cW D,k⟩=decide (¬(k< -1000000\/1000000<k)):=by
 have a:D.all eC=true:=hD ▸ zR GT;have d:=Je (l:=D) (hD ▸ Dp _) hd;have hl1:D.length<=x.whole.length+x.rest.length:=by
  have:=(List.dropWhile_sublist (p:=λc:UInt8=>c==48) (l:=x.whole++x.rest)).length_le;rw[aZ] at this;exact hD ▸ this
 have b:=congrArg List.length (vV D);rw[aZ] at b;unfold kH;apply decide_eq_decide.2;constructor
 .rintro(h | h)
  .injection h with _ h _;exact absurd h d.1
  .have e:=h.2.2.2.2;simp only[] at e;omega
 .intro h;exact .inr ⟨Jd d.1 (Jf a),by show (cW D).length<=1000;omega,d.2,Jc _,by simp only[];omega,by simp only[];omega⟩
def eK (n:eJ):Value:= .agg #[n.neg,bs n.dig,n.exp]
def pR (r:eJ×Int):Ending:= .returned (.tuple #[eK r.1,r.2])
theorem iS {w:World}{g:Nat}{t:TypeId}{a b c:Value} (h:w.heap[g]?=some (.cells #[a,b,c] t (0,0))):
  w.cell? (g,0)=some a/\w.cell? (g,1)=some b/\w.cell? (g,2)=some c/\
  w.frozen? ⟨g,0,none⟩=false/\w.frozen? ⟨g,1,none⟩=false/\w.frozen? ⟨g,2,none⟩=false:=
 ⟨pQ h 0,pQ h 1,pQ h 2,tE h 0,tE h 1,tE h 2⟩
theorem An (l:aC) (w:World) (hs:l.length<=4294967296):
  Calls prog 63 #[bs l] w λe w'=>e=pR (eF l)/\aA w w':=by
 obtain⟨R,hR⟩:=exQ<|eF l;rw[hR];have HR:=hid hR;clear hR;have CR:=hid (λw=>Vg l w hs);go_in;go_wp2_with fail;refine(CR.out _).mono ?_;rintro e w1 ⟨⟨n,lo,a,b,c,is,rfl,bg⟩,az⟩;have HL:=hid bg;clear bg;have C1:=hid (Ks c);have fB:=hid (((aD w.heap.size w).alloc (aF _) _).trans (az.mono e_));have av:=hid ((az.block w.heap.size e_).trans (heap_alloc_new w _));have fH:w.heap.size<w1.heap.size:=aG av.out;clear az;obtain⟨r0,r1,r2,g0,g1,g2⟩:=iS av.out;cases is with
 | false=>exact II
 | true=>
  have bg:lE l=some ⟨n,a,b,lo,c⟩:=HL.out;have cK:=Vi bg;obtain⟨p1,p2,p3⟩:=Jg bg;have br:oO ⟨n,a,b,lo,c⟩=R:=by rw[<-HR.out];unfold eF;rw[bg]
  simp only[] at cK p1 p2 p3;unfold oO at br;simp only[] at br;have sa:=aP a;have sb:=aP b;have sc:=aP (cS c);clear HL HR bg;by_cases t1:1000<a.length+b.length
  .have MK:=trivial;exact II
  rw[if_neg t1] at br;by_cases t2:9<(cS c).length
  .have ML:=trivial;exact II
  rw[if_neg t2] at br;rw[<-zJ c] at br;obtain⟨Z,hZ⟩:=exQ<|cS c;have ig:Z.all eC=true:=hZ ▸ zR p3;rw[hZ] at br t2 C1 sc;clear hZ p3;have dk:(bs Z).data.toList=Z:=aY Z;obtain⟨S,hS⟩:=exQ<|bs Z;rw[hS] at dk C1 sc;have eN:S.size<=9:=by rw[sc];omega
  have HE:=hid br;have HZ:=hid ig;have dN:=hid dk;have gk:=hid p1;have fb:=hid p2;have eT:=hid t1;clear br ig dk p1 p2 t2 hS sc;have dB: ∀p (h:p<S.size),eC (S[p]'h)=true:=λp h=>by exact F5
  have dP: ∀p,0<=fA (S.data.toList.take p)/\fA (S.data.toList.take p)<1000000000:=λp=>by exact I2
  have fU:=hid dB;have cm:=hid dP;clear dB dP;go_wp2_with (go_at_call 29;go_must (refine(C1.out _).mono ?_);rintro e w' ⟨rfl,rfl⟩);go_loopw [7,9] (λs7 _ wr=> ∃p:Nat,p<=S.size/\s7= .int .i64 (fA (S.data.toList.take p))/\Hid (wr.heap[w1.heap.size+1]?=some (.stringIter S p))/\Hid (wr.heap[w1.heap.size]?=some (.cells #[n,lo,bs a,bs b,bs c] 139 (0,0)))/\Hid (wr.heap[w.heap.size]?=some (.cells #[false, .string ⟨#[]⟩,(0:Int)] 80 (0,0)))/\Hid (aA w wr)) (λ_ _ wr=>S.size-wr.iterPos (w1.heap.size+1))
  case atStart=>
   have eu:(w1.alloc (.cells #[n,lo,bs a,bs b,bs c] 139)).heap.size=w1.heap.size+1:=e_;refine⟨0,a_,rfl,?_,?_,?_,?_⟩
   .have:=World.iter_heap (w1.alloc (.cells #[n,lo,bs a,bs b,bs c] 139)) S 0;rw[eu] at this;exact this
   .exact(Below.heap_alloc _ _ _ (by rw[eu];omega)).trans (heap_alloc_new w1 _)
   .exact(Below.heap_alloc _ _ _ (by rw[eu];omega)).trans ((Below.heap_alloc _ _ _ fH).trans av.out)
   .exact(fB.out.alloc a_ _).alloc (by rw[eu];omega) _
  case round=>
   obtain⟨p,hp,rfl,HI,HX,HO,HW⟩:=hrel;by_cases ab:p<S.size
   .have OV:=trivial;exact J3
   .have ic: ∀ty,(Instr.next (.pointer (some ⟨w1.heap.size+1,0,none⟩)) true ty).run prog wr= .ok (.tuple #[false]) wr:=λty=>Lib.run_next_end_at wr _ S p ty HI.out ab;have hV:fA (S.data.toList.take p)=fA Z:=by
     rw[uV GQ,dN.out]
    have b1:=cm.out p;rw[hV] at b1 ⊢;clear hV;have bV:=HE.out;generalize fA Z=V at *;obtain⟨x0,x1,x2,x3,x4,f0,f1,f2,f3,f4⟩:=tF HX.out;obtain⟨r0,r1,r2,g0,g1,g2⟩:=iS HO.out;obtain⟨D,hD⟩:=exQ<|cS (a++b);rw[hD] at bV;have C2:=hid (show ∀w,Calls prog 29 #[bs a++bs b, .string ⟨#[48]⟩] w λe w'=>e= .returned (.string (bs D))/\w=w' from λw=>by rw[jP,<-hD];exact Ks (a++b) w);have i8:D.length<=1000:=by
     have:=(List.dropWhile_sublist (p:=λc:UInt8=>c==48) (l:=a++b)).length_le;rw[aZ] at this;have G:(cS (a++b)).length<=a.length+b.length:=this;rw[hD] at G;have:=eT.out;omega
    have df:=congrArg List.length (vV D);rw[aZ] at df;have C3:=hid (λw=>Vh D w a_);have C4:=hid (λk w=>Kn n (bs (cW D)) k w M');have sD:=aP D;have sT:=aP (cW D);have htl:(cW D).length<=D.length:=a_;clear df;have ea:=hid (λN k=>Vj (x:=⟨n,a,b,lo,c⟩) (k:=k) gk.out fb.out eT.out hD N);have bZ:(bs D).toList=D:=DN;clear hD;have hbl:b.length<=1000:=by have:=eT.out;omega
    by_cases N:D= []
    .rw[if_pos N] at bV;rw[N] at bZ;have I:=hid bV;clear bV;cases lo
     all_goals
      go_wp2_with (go_at_call 29;go_must (refine(C2.out _).mono ?_);rintro e w' ⟨rfl,rfl⟩);clear r0 r1 r2 g0 g1 g2;have hf:=iS (cA (cA (cA HO.out 0 (.bool false)) 1 (.string ⟨#[]⟩)) 2 (.int .i64 0));obtain⟨r0,r1,r2,g0,g1,g2⟩:=hf;refine bodyPost_ret (v:= .tuple #[eK cM,(0:Int)]) ?_ rfl ⟨by rw[<-I.out];rfl,?_⟩
      .exact EN
      .repeat (first | refine jA ?_ (aF _) | refine Below.drew ?_)
       exact HW.out
    .rw [if_neg N] at bV;have fL: ¬(bs D).toList= []:=by rw[bZ];exact N
     have gI:((bs D).toList== [])=false:=aI.2 fL;have hP:(bs D).toList.isEmpty=false:=by rw[bZ];cases D with | nil=>exact absurd rfl N | cons _ _=>rfl
     clear bZ;have f8:=hid bV;clear bV;cases lo with
     | false=>
      have R5:=trivial;exact PX
     | true=>exact PX
theorem Vk (n:eJ) (w:World) (hd:n.dig.length<=4294967296) (R:Bool) (h:kH n=R):
  Calls prog 61 #[.agg #[n.neg,bs n.dig,n.exp]] w (aT w (.bool R)):=by
 have:=Kn n.neg (bs n.dig) n.exp w M';rw[aY,h] at this;exact this
theorem Ao {n:eJ} (h:kH n=true):n.dig.length<=1000/\ -1000000<=n.exp/\n.exp<=1000000:=by
 rcases of_decide_eq_true h with h | h
 .subst h;simp[cM]
 .exact⟨h.2.1,h.2.2.2.2.1,h.2.2.2.2.2⟩
def tG (w:World):Prop:=Lib.TabIs prog w "internal/strconv.uint64pow10" .u64 Lib.pow10Tab
theorem tG.keep {w w':World} (h:tG w) (hb:aA w w'):tG w':=Id h hb
theorem Vl (w:World) (k:Nat) (os:Array Obj):aA w (Go.Sort.grow (w.drewN k) os):=
 ⟨rfl,rfl,rfl,by simp[Go.Sort.grow],λj a=>Go.Sort.heap_grow_old (w.drewN k) os a⟩
theorem Kt (n:Int) (w:World) (h0: -9223372036854775808<=n/\n<=9223372036854775807) (hT:tG w):
  Calls prog 62 #[n] w (aT w (.string (bs (Lib.itoa n)))):=
 (strconv_Itoa n h0.1 h0.2 w hT).mono λ_ _ ⟨a,k,os,b⟩=>⟨a,b ▸ Vl w k os⟩
theorem Aq (n:Int) (h:n.natAbs<10 ^ 20):(Lib.itoa n).length<=22:=by
 have h1:=Dn n.natAbs 20 h b_;unfold Lib.itoa;split
 .simp;omega
 .rw[show n.toNat=n.natAbs from by omega];omega
theorem Vm (n:Int) (w:World) (h0: -9223372036854775808<=n/\n<=9223372036854775807) (hT:tG w):
  Calls prog 35 #[n] w (aT w (eK (rI n))):=by
 have C1:=hid (λw hT=>Kt n w h0 hT);have C2:=hid (λw=>An (Lib.itoa n) w (by have:=Aq n a_;omega));obtain⟨R,hR⟩:=exQ<|eF (Lib.itoa n);have Z:rI n=R.1:=by unfold rI;rw[hR]
 rw[hR] at C2;rw[Z];have HT:=hid (hT.keep (aL w (.cells #[false, .string ⟨#[]⟩,(0:Int)] 80)));clear hT hR Z;obtain⟨N,er⟩:=R;obtain⟨ng,dg,ex⟩:=N;go_in;go_wp2_with fail;refine aH (C1.out _ HT.out) λw1 g=>?_;go_wp2_with fail;refine(C2.out _).mono ?_;unfold pR eK;rintro e w2 ⟨rfl,a⟩;have i:=hid ((g.block w.heap.size e_).trans (heap_alloc_new w _));have E:w.heap.size<w1.heap.size:=aG i.out;have d:=hid ((a.block w.heap.size E).trans i.out);have L:w.heap.size<w2.heap.size:=aG d.out;have k:=hid (((aL w _).trans (g.mono e_)).trans (a.mono a_));clear g a;obtain⟨r0,r1,r2,g0,g1,g2⟩:=iS d.out;go_wp2_with fail;have hf:=iS ((Below.heap_alloc _ (.cells #[ng,bs dg,ex] 80) w.heap.size (by simp[World.setCell];exact L)).trans (cA (cA (cA d.out 0 (.bool ng)) 1 (.string (bs dg))) 2 (.int .i64 ex)));clear r0 r1 r2 g0 g1 g2;obtain⟨r0,r1,r2,g0,g1,g2⟩:=hf;refine bodyPost_ret (v:= .agg #[ng,bs dg,ex]) ?_ rfl ⟨rfl,?_⟩
 .simp[results,results35,go_sem,r0,r1,r2]
 .refine Below.alloc ?_ D' _;exact EJ
theorem uW (c:UInt8) (l:aC):(⟨#[c]⟩:ByteArray)++bs l=bs (c::l):=by
 have:=jP [c] l;exact this
theorem Eh (n:eJ) (w:World) (hd:n.dig.length<=4294967296) (hT:tG w):
  Calls prog 34 #[.agg #[n.neg,bs n.dig,n.exp]] w (aT w (.string (bs (kS n)))):=by
 have SI:=trivial;exact P8
end
end Go.Proofs.YtfhjncbdgjlcoaaGreatDoor
