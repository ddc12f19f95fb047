import Derived.Lib.MapLaws
import Derived.Lib.ValidLaws
import Derived.Lib.RuneBytes
import Derived.Lib.TrimAscii
import Derived.Test.YtaifnmjjpddikaaGreatDoorRl2
import Derived.Test.YtaifnmjjpddikaaGreatDoorRl1
namespace Go.Proofs.YtaifnmjjpddikaaGreatDoor
set_option linter.unusedVariables false
set_option linter.unusedSimpArgs false
section
open Go.Lib
theorem nM (x:Int) (h0:0<=x) (h1:x<256):x.toNat.toUInt8.toNat=x.toNat:=by
 rw[show x.toNat.toUInt8=UInt8.ofNat x.toNat from rfl,UInt8.toNat_ofNat'];exact Nat.mod_eq_of_lt (by omega)
def lH (r:Int):Prop:=0<=r/\r<=1114111/\(r<55296\/57343<r)
theorem Ro (r:Int) (h:lH r) (t:List UInt8):decodeL (encodeRune r++t)=(r.toNat,(encodeRune r).length):=by
 obtain⟨c,d,h2⟩:=h;rw[decodeL_N];unfold encodeRune;by_cases g1:r<=127
 ·rw[encodeRuneZ_one c g1];simp only[fU,List.map_nil,aV,gY,jW,jJ,List.getD_cons_zero];rw[nM r c (by omega)];unfold decodeN;rw[if_pos (by omega)]
 by_cases g2:r<=2047
 ·rw[encodeRuneZ_two (by omega) g2];simp only[fU,List.map_nil,aV,gY,jW,jJ,List.getD_cons_zero,List.getD_cons_succ];rw[nM _ (by omega) (by omega),nM (128+r % 64) (by omega) (by omega)];unfold decodeN;rw[if_neg (by omega),if_pos ⟨by omega,by omega,by omega⟩,if_pos (by omega)];congr 1;omega
 by_cases g3:r<=65535
 ·rw[encodeRuneZ_three (by omega)];simp only[fU,List.map_nil,aV,gY,jW,jJ,List.getD_cons_zero,List.getD_cons_succ];rw[nM _ (by omega) (by omega),nM (128+r / 64 % 64) (by omega) (by omega),nM (128+r % 64) (by omega) (by omega)];unfold decodeN;rw[if_neg (by omega),if_neg (by omega),if_pos ⟨by omega,⟨by omega,by omega⟩,by omega,by omega⟩,if_pos ⟨by omega,by omega⟩];congr 1;omega
 ·rw[encodeRuneZ_four (by omega) d];simp only[fU,List.map_nil,aV,gY,jW,jJ,List.getD_cons_zero,List.getD_cons_succ];rw[nM _ (by omega) (by omega),nM (128+r / 4096 % 64) (by omega) (by omega),nM (128+r / 64 % 64) (by omega) (by omega),nM (128+r % 64) (by omega) (by omega)];unfold decodeN;rw[if_neg (by omega),if_neg (by omega),if_neg (by omega),if_pos ⟨by omega,⟨by omega,by omega⟩,⟨by omega,by omega⟩,by omega,by omega⟩,if_pos ⟨by omega,by omega⟩];congr 1;omega
theorem Rp (r:Int) (h:lH r) (hr:128<=r):2<=(encodeRune r).length:=by
 obtain⟨h0,c,h2⟩:=h;unfold encodeRune;rw[bK];by_cases g2:r<=2047
 ·rw[encodeRuneZ_two (by omega) g2];simp
 by_cases g3:r<=65535
 ·rw[encodeRuneZ_three (by omega)];simp
 ·rw[encodeRuneZ_four (by omega) c];simp
theorem Rq (r:Int) (h:lH r) (hr:128<=r): ∀c∈encodeRune r,128<=c.toNat:=by
 obtain⟨h0,f,h2⟩:=h;have key: ∀l:List Int,(∀x∈l,128<=x/\x<256)-> ∀c∈l.map (λx=>x.toNat.toUInt8),128<=c.toNat:=by
  intro l g c e;obtain⟨x,d,rfl⟩:=oQ.1 e;have:=g x d;rw[nM x (by omega) (by omega)];omega
 refine key _ ?_;by_cases g2:r<=2047
 ·rw[encodeRuneZ_two (by omega) g2];intro x d;simp only[dC,List.not_mem_nil,or_false] at d;omega
 by_cases g3:r<=65535
 ·rw[encodeRuneZ_three (by omega)];intro x d;simp only[dC,List.not_mem_nil,or_false] at d;omega
 ·rw[encodeRuneZ_four (by omega) f];intro x d;simp only[dC,List.not_mem_nil,or_false] at d;omega
theorem vM (l:List UInt8):lH ((decodeL l).1:Int):=by
 rw[decodeL_N];have k0:=(l.getD 0 0).toNat_lt;rcases decodeN_shape l.length (l.getD 0 0).toNat (l.getD 1 0).toNat (l.getD 2 0).toNat (l.getD 3 0).toNat with⟨c,e⟩ | ⟨c1,c2,c3,cv,e⟩ | ⟨c1,c2,c3,c4,cv,cs,e⟩ | ⟨c1,c2,c3,c4,c5,cv,cw,e⟩ | e
 all_goals
  rw[e];unfold lH;dsimp only;omega
theorem Gp (r:Int):encodeRune r≠ []:=by
 intro h;have:=(encodeRuneZ_length r).1;unfold encodeRune at h;rw[List.map_eq_nil_iff] at h;rw[h] at this;simp at this
theorem Rr (c:UInt8) (h:c.toNat<128):encodeRune (c.toNat:Int)= [c]:=by
 unfold encodeRune;rw[encodeRuneZ_one (by omega) (by omega)];simp
theorem Rs (l:List UInt8) (hne:l≠ []) (h:validD l=true): ∃r t,lH r/\l=encodeRune r++t/\validD t=true/\decodeL l=(r.toNat,(encodeRune r).length):=by
 rw[validD_step l hne] at h;by_cases hb:(decodeL l).1=65533/\(decodeL l).2=1
 ·rw[if_pos hb] at h;cases h
 ·rw[if_neg hb] at h;have d:=encode_decode l hne hb;have c:=decodeL_le l hne;refine⟨((decodeL l).1:Int),l.drop (decodeL l).2,vM l,by rw[d,oR],h,?_⟩;rw[d,cD,fT,Nat.min_eq_left c]
theorem Gq (r:Int) (h:lH r) (t:List UInt8):validD (encodeRune r++t)=validD t:=by
 rw[validD_step _ (by simp[Gp]),Ro r h t,if_neg,List.drop_left];rintro⟨a,b⟩;simp only at a b;have h0:=h.1;have:=Rp r h (by omega);omega
theorem xW (s t:List UInt8) (hs:validD s=true):validD (s++t)=validD t:=by
 obtain⟨n,e⟩: ∃n,s.length<=n:=⟨_,aE _⟩
 induction n generalizing s with
 | zero=>
  obtain rfl:s= []:=List.eq_nil_of_length_eq_zero (by omega);rfl
 | succ n ih=>
  by_cases hne:s= []
  ·subst hne;rfl
  ·obtain⟨r,u,d,rfl,c,_⟩:=Rs s hne hs;have:=sE.2 (Gp r);rw[mV,Gq r d];exact ih u c (by rw[aW] at e;omega)
theorem Aq (r:Int) (h:lH r):validD (encodeRune r)=true:=by
 have:=Gq r h [];rw[List.append_nil] at this;rw[this];rfl
theorem Rt (n b0 b1 b2 b3:Nat) (h:128<=b0) (h0:b0<256):128<=(decodeN n b0 b1 b2 b3).1:=by
 unfold decodeN
 repeat' split
 all_goals simp at *
 all_goals omega
theorem Ru (l:List UInt8) (hne:l≠ []) (hp:iW (decodeL l)=false):lH ((decodeL l).1:Int)/\32<=((decodeL l).1:Int)/\encodeRune ((decodeL l).1:Int)=l.take (decodeL l).2/\(decodeL l).2<=l.length/\1<=(decodeL l).2:=by
 have c:=hp;unfold iW at c;simp only[Bool.or_eq_false_iff,decide_eq_false_iff_not,Bool.and_eq_false_iff,aK] at c;exact⟨vM l,by omega,encode_decode l hne (by omega),decodeL_le l hne,decodeL_width l⟩
theorem tX (f:Nat) (c:UInt8) (r:List UInt8) (i:Nat) (acc:List UInt8):cY (f+1) (c::r) i acc=if c=34 then(acc,(i:Int)+1,0) else if(eQ (c::r)).2=0 then([],(i:Int),2) else
  cY f ((c::r).drop (eQ (c::r)).2.toNat) (i+(eQ (c::r)).2.toNat) (acc++Lib.encodeRune (eQ (c::r)).1):=rfl
theorem Gr: ∀(f:Nat) (l:List UInt8) (i:Nat) (acc:List UInt8),(cY f l i acc).2.2=0->(i:Int)<(cY f l i acc).2.1/\(cY f l i acc).2.1<=i+l.length
 | 0,_,_,_,h=>by simp[cY] at h
 | _+1,[],_,_,h=>by simp[cY] at h
 | f+1,c::r,i,acc,h=>by
  rw[tX] at h ⊢;split
  ·exact⟨by simp only[];omega,by simp only[aV];omega⟩
  ·rename_i h34;rw[if_neg h34] at h;split
   ·rename_i h0;rw[if_pos h0] at h;exact absurd h (by simp)
   ·rename_i h0;rw[if_neg h0] at h;have hp:=sC (c::r) (List.cons_ne_nil _ _);obtain⟨P,hP⟩:=exQ<|eQ (c::r);rw[hP] at h hp h0 ⊢;have:=Gr f _ _ _ h;rw[bB] at this;omega
theorem Gs: ∀(f:Nat) (l:List UInt8) (i k:Nat) (acc:List UInt8),cY f l (i+k) acc=((cY f l i acc).1,(cY f l i acc).2.1+k,(cY f l i acc).2.2)
 | 0,_,i,k,_=>by simp[cY]
 | _+1,[],i,k,_=>by simp[cY]
 | f+1,c::r,i,k,acc=>by
  rw[tX,tX];split
  ·simp only[Prod.mk.injEq,true_and,and_true];omega
  ·split
   ·simp only[Prod.mk.injEq,true_and,and_true];omega
   ·rw[show i+k+(eQ (c::r)).2.toNat=(i+(eQ (c::r)).2.toNat)+k by omega];exact Gs f _ _ _ _
theorem Gt: ∀(f g:Nat) (l:List UInt8) (i:Nat) (acc:List UInt8),l.length<f->l.length<g->cY f l i acc=cY g l i acc
 | 0,_,l,_,_,h,_=>by omega
 | _,0,l,_,_,_,h=>by omega
 | _+1,_+1,[],_,_,_,_=>rfl
 | f+1,g+1,c::r,i,acc,hf,hg=>by
  rw[tX,tX];split
  ·rfl
  ·split
   ·rfl
   ·have hp:=sC (c::r) (List.cons_ne_nil _ _);exact Gt f g _ _ _ (by rw[bB];omega) (by rw[bB];omega)
theorem Rv (s:List UInt8) (a:Nat) (ha:a<=s.length):bT s a=((bT (s.drop a) 0).1,(bT (s.drop a) 0).2.1+a,(bT (s.drop a) 0).2.2):=by
 unfold bT;rw[fT,Int.toNat_zero,mP,Nat.add_zero];by_cases h:s[a]?=some 34
 ·rw[if_pos ⟨by omega,h⟩,if_pos ⟨by omega,h⟩,jH,show a+(0+1)=a+1 by omega];have hl:=(aR.1 h).1;rw[Gt (s.length+1) ((s.drop a).length+1) _ _ _ (by rw[bB];omega) (by rw[bB,bB];omega)];have:=Gs ((s.drop a).length+1) (s.drop (a+1)) (0+1) a [];rw[show 0+1+a=a+1 by omega] at this;exact this
 ·rw[if_neg (λg=>h g.2),if_neg (λg=>h g.2)];simp
theorem Rw (l:List UInt8) (h:(bT l 0).2.2=0):0<(bT l 0).2.1/\(bT l 0).2.1<=l.length:=by
 unfold bT at h ⊢;by_cases h1:0<=(0:Int)/\l[(0:Int).toNat]?=some 34
 ·rw[if_pos h1] at h ⊢;have:=Gr _ _ _ _ h;rw[bB] at this;have c:=(aR.1 h1.2).1;simp only[Int.toNat_zero] at this c ⊢;omega
 ·rw[if_neg h1] at h;exact absurd h (by simp)
def dF (p:UInt8->Bool) (l:List UInt8):Nat:=(l.takeWhile p).length
def mA (c:UInt8):Bool:=c==32||c==9||c==10||c==13
def jX (c:UInt8):Bool:=dZ c||c==45||c==43||c==46||c==101||c==69
def gR (c:UInt8):Bool:=decide (97<=c.toNat/\c.toNat<=122)
def qC (c:UInt8):Option Nat:=if c=123 then some 0 else if c=125 then some 1 else if c=91 then some 2 else if c=93 then some 3 else if c=44 then some 4 else if c=58 then some 5 else none
def mB (l:List UInt8):Nat:=if l= [116,114,117,101] then 10 else if l= [102,97,108,115,101] then 11 else if l= [110,117,108,108] then 12 else 0
def cA (l:List UInt8):Nat×Nat×Int:=
 match l with
 | []=>(0,0,2)
 | c::_=>match qC c with
  | some k=>(2+k,1,0)
  | none=>if mA c then(1,dF mA l,0) else if c=34 then(if(bT l 0).2.2=0 then(8,(bT l 0).2.1.toNat,0) else(0,(bT l 0).2.1.toNat,(bT l 0).2.2)) else
   if c=45\/dZ c=true then(if(cL (l.take (dF jX l))).2=0 then(9,dF jX l,0) else(0,0,(cL (l.take (dF jX l))).2)) else
   if mB (l.take (dF gR l))=0 then(0,0,2) else(mB (l.take (dF gR l)),dF gR l,0)
theorem tY (p:UInt8->Bool) (l:List UInt8):dF p l<=l.length:=(List.takeWhile_sublist _).length_le
theorem xY (p:UInt8->Bool) (c:UInt8) (l:List UInt8):dF p (c::l)=if p c then dF p l+1 else 0:=by
 unfold dF;rw[List.takeWhile_cons];split<;>rfl
theorem Gu (c:UInt8) (k:Nat) (h:qC c=some k):k<=5:=by
 unfold qC at h
 repeat' split at h
 all_goals first | (injection h with h;omega) | cases h
theorem Gv (l:List UInt8):mB l=0\/(10<=mB l/\mB l<=12/\0<l.length):=by
 unfold mB;split
 ·rename_i h;right;rw[h];simp
 ·split
  ·rename_i h;right;rw[h];simp
  ·split
   ·rename_i h;right;rw[h];simp
   ·left;rfl
theorem Gw (l:List UInt8):0<=(bT l 0).2.1/\(bT l 0).2.1<=l.length:=by
 have d: ∀(f:Nat) (l:List UInt8) (i:Nat) (acc:List UInt8),(i:Int)<=(cY f l i acc).2.1/\(cY f l i acc).2.1<=i+l.length:=by
  intro f
  induction f with
  | zero=>intro l i acc;simp[cY];omega
  | succ f ih=>
   intro l i acc;cases l with
   | nil=>simp[cY]
   | cons c r=>
    rw[tX];split
    ·simp only[aV];omega
    ·split
     ·simp only[aV];omega
     ·have hp:=sC (c::r) (List.cons_ne_nil _ _);have:=ih ((c::r).drop (eQ (c::r)).2.toNat) (i+(eQ (c::r)).2.toNat) (acc++encodeRune (eQ (c::r)).1);rw[bB] at this;omega
 unfold bT;by_cases h1:0<=(0:Int)/\l[(0:Int).toNat]?=some 34
 ·rw[if_pos h1];have:=d (l.length+1) (l.drop ((0:Int).toNat+1)) ((0:Int).toNat+1) [];rw[bB] at this;have e:=(aR.1 h1.2).1;simp only[Int.toNat_zero] at this e ⊢;omega
 ·rw[if_neg h1];simp
theorem rC (l:List UInt8) (hne:l≠ []):(cA l).2.1<=l.length/\((cA l).2.2=0->1<=(cA l).1/\(cA l).1<=12/\0<(cA l).2.1):=by
 cases l with
 | nil=>exact absurd rfl hne
 | cons c r=>
  unfold cA;simp only[];cases hs:qC c with
  | some k=>
   have:=Gu c k hs;simp only[];exact⟨by simp,λ_=>⟨by omega,by omega,by omega⟩⟩
  | none=>
   simp only[];split
   ·rename_i i;have:=tY mA (c::r);refine⟨this,λ_=>⟨by simp,by simp,?_⟩⟩;rw[xY,if_pos i];simp
   ·split
    ·have hr:=Gw (c::r);split
     ·rename_i d;have:=Rw (c::r) d;exact⟨by simp only[];omega,λ_=>⟨by simp,by simp,by simp only[];omega⟩⟩
     ·rename_i d;exact⟨by simp only[];omega,λh=>absurd h d⟩
    ·split
     ·rename_i g;have f:jX c=true:=by
       unfold jX;rcases g with rfl | g
       ·decide
       ·rw[g];rfl
      split
      ·refine⟨tY _ _,λ_=>⟨by simp,by simp,?_⟩⟩;simp only[];rw[xY,if_pos f];simp
      ·rename_i d;exact⟨by simp,λh=>absurd h d⟩
     ·have e:=Gv ((c::r).take (dF gR (c::r)));split
      ·exact⟨by simp,λh=>absurd h (by simp)⟩
      ·rename_i d;rcases e with e | e
       ·exact absurd e d
       ·refine⟨tY _ _,λ_=>⟨by simp only[];omega,by simp only[];omega,?_⟩⟩;have:=e.2.2;rw[cD] at this;simp only[];omega
structure aQ where
 kind:Nat
 sf:Nat
 st:Nat
deriving DecidableEq
def eU:Nat->List UInt8->Nat->List aQ×Option (Nat×Int)
 | 0,_,_=>([],none)
 | _+1,[],_=>([],none)
 | f+1,c::r,i=>if(cA (c::r)).2.2=0 then(⟨(cA (c::r)).1,i,i+(cA (c::r)).2.1⟩::(eU f ((c::r).drop (cA (c::r)).2.1) (i+(cA (c::r)).2.1)).1,(eU f ((c::r).drop (cA (c::r)).2.1) (i+(cA (c::r)).2.1)).2) else([],some (i+(cA (c::r)).2.1,(cA (c::r)).2.2))
def eR (s:List UInt8):List aQ×Int×Int:=
 if 65536<s.length then([],0,3) else match (eU s.length s 0).2 with
 | none=>((eU s.length s 0).1,(s.length:Int),0)
 | some (p,e)=>([],(p:Int),e)
theorem sF (f:Nat) (c:UInt8) (r:List UInt8) (i:Nat):eU (f+1) (c::r) i=if(cA (c::r)).2.2=0 then(⟨(cA (c::r)).1,i,i+(cA (c::r)).2.1⟩::(eU f ((c::r).drop (cA (c::r)).2.1) (i+(cA (c::r)).2.1)).1,(eU f ((c::r).drop (cA (c::r)).2.1) (i+(cA (c::r)).2.1)).2) else([],some (i+(cA (c::r)).2.1,(cA (c::r)).2.2)):=rfl
theorem sG (f i:Nat):eU f [] i=([],none):=by cases f<;>rfl
def Gx:List aQ->Nat->Nat->Prop
 | [],a,b=>a=b
 | t::ts,a,b=>t.sf=a/\t.sf<t.st/\1<=t.kind/\t.kind<=12/\Gx ts t.st b
theorem Gy: ∀(f:Nat) (l:List UInt8) (i:Nat),l.length<=f->(eU f l i).2=none->Gx (eU f l i).1 i (i+l.length)
 | f,[],i,_,_=>by rw[sG];rfl
 | 0,_::_,_,h,_=>by simp at h
 | f+1,c::r,i,hf,h=>by
  rw[sF] at h ⊢;by_cases h0:(cA (c::r)).2.2=0
  ·rw[if_pos h0] at h ⊢;have hle:=(rC (c::r) (List.cons_ne_nil _ _)).1;have d:=(rC (c::r) (List.cons_ne_nil _ _)).2 h0;have hlc:(c::r).length=r.length+1:=rfl;have:=Gy f _ _ (by rw[bB];omega) h;rw[bB] at this;refine⟨rfl,by simp only[];omega,d.1,d.2.1,?_⟩;rw[show i+(c::r).length=i+(cA (c::r)).2.1+((c::r).length-(cA (c::r)).2.1) by omega];exact this
  ·rw[if_neg h0] at h;cases h
theorem xZ: ∀(f:Nat) (l:List UInt8) (i p:Nat) (e:Int),l.length<=f->(eU f l i).2=some (p,e)->i<=p/\p<=i+l.length/\e≠0
 | f,[],i,_,_,_,h=>by rw[sG] at h;cases h
 | 0,_::_,_,_,_,h,_=>by simp at h
 | f+1,c::r,i,p,e,hf,h=>by
  rw[sF] at h;have hle:=(rC (c::r) (List.cons_ne_nil _ _)).1;by_cases h0:(cA (c::r)).2.2=0
  ·rw[if_pos h0] at h;have hok:=(rC (c::r) (List.cons_ne_nil _ _)).2 h0;have hlc:(c::r).length=r.length+1:=rfl;have:=xZ f _ _ p e (by rw[bB];omega) h;rw[bB] at this;omega
  ·rw[if_neg h0] at h;simp only[cN,Prod.mk.injEq] at h;obtain⟨rfl,rfl⟩:=h;exact⟨by omega,by omega,h0⟩
theorem Gz: ∀(f:Nat) (s l:List UInt8) (i:Nat),l.length<=f->s.drop i=l-> ∀t∈(eU f l i).1,(cA (s.drop t.sf)).2.2=0/\t.kind=(cA (s.drop t.sf)).1/\t.st=t.sf+(cA (s.drop t.sf)).2.1/\s.drop t.sf≠ []
 | f,_,[],i,_,_,t,ht=>by rw[sG] at ht;cases ht
 | 0,_,_::_,_,h,_,_,_=>by simp at h
 | f+1,s,c::r,i,hf,hs,t,ht=>by
  rw[sF] at ht;by_cases h0:(cA (c::r)).2.2=0
  ·rw[if_pos h0] at ht;rcases dC.1 ht with rfl | ht
   ·simp only[];rw[hs];exact⟨h0,rfl,rfl,List.cons_ne_nil _ _⟩
   ·have hok:=(rC (c::r) (List.cons_ne_nil _ _)).2 h0;have hlc:(c::r).length=r.length+1:=rfl;exact Gz f s _ _ (by rw[bB];omega) (by rw[<-jH,hs]) t ht
  ·rw[if_neg h0] at ht;cases ht
theorem Rx (l:List UInt8) (hne:l≠ []) (h:(eQ l).2≠0):lH (eQ l).1:=by
 unfold eQ at h ⊢;split
 ·rename_i d;rw[if_pos d] at h;unfold sA at h ⊢;cases h1:l[1]? with
  | none=>rw[h1] at h;exact absurd rfl h
  | some c=>
   rw[h1] at h;simp only[] at h ⊢;split
   ·unfold lY lH
    repeat' split
    all_goals simp
   ·rename_i f;rw[if_neg f] at h;split
    ·rename_i e;rw[if_pos e] at h;unfold mS at h ⊢;cases h2:jI (l.drop 2) with
     | none=>rw[h2] at h;exact absurd rfl h
     | some hi=>
      rw[h2] at h;have hb:=tW h2;simp only[] at h ⊢;split
      ·rename_i g;rw[if_pos g] at h;exact absurd rfl h
      ·rename_i g;rw[if_neg g] at h;split
       ·unfold lH;simp only[];omega
       ·rename_i g2;rw[if_neg g2] at h;split
        ·rename_i g3;rw[if_pos g3] at h;exact absurd rfl h
        ·rename_i g3;rw[if_neg g3] at h;cases h4:jI (l.drop 8) with
         | none=>rw[h4] at h;exact absurd rfl h
         | some lo=>
          rw[h4] at h;simp only[] at h ⊢;split
          ·rename_i g5;rw[if_pos g5] at h;exact absurd rfl h
          ·unfold lH;simp only[];omega
    ·rename_i e;rw[if_neg e] at h;exact absurd rfl h
 ·rename_i d;rw[if_neg d] at h;split
  ·rename_i g;rw[if_pos g] at h;exact absurd rfl h
  ·exact vM l
theorem Ha: ∀(f:Nat) (l:List UInt8) (i:Nat) (acc:List UInt8),validD acc=true->validD (cY f l i acc).1=true
 | 0,_,_,_,_=>rfl
 | _+1,[],_,_,_=>rfl
 | f+1,c::r,i,acc,h=>by
  unfold cY;split
  ·exact h
  ·split
   ·rfl
   ·rename_i h2;refine Ha f _ _ _ ?_;rw[xW _ _ h];exact Aq _ (Rx _ (List.cons_ne_nil _ _) h2)
theorem Ry (l:List UInt8) (a:Int):validD (bT l a).1=true:=by
 unfold bT;split
 ·exact Ha _ _ _ _ rfl
 ·rfl
theorem Ar: ∀(f:Nat) (l:List UInt8) (i:Nat) (acc:List UInt8),
  ((i:Int)<=(cY f l i acc).2.1/\(cY f l i acc).2.1<=i+l.length)/\((cY f l i acc).2.2=0\/((cY f l i acc).2.2=2/\(cY f l i acc).1= []))
 | 0,_,_,_=>⟨by simp[cY];omega, .inr ⟨rfl,rfl⟩⟩
 | _+1,[],_,_=>⟨by simp[cY], .inr ⟨rfl,rfl⟩⟩
 | f+1,c::r,i,acc=>by
  unfold cY;split
  ·exact⟨by simp;omega, .inl rfl⟩
  ·split
   ·exact⟨by simp;omega, .inr ⟨rfl,rfl⟩⟩
   ·rename_i h2;have hp:=sC (c::r) (List.cons_ne_nil _ _);obtain⟨P,hP⟩:=exQ<|eQ (c::r);rw[hP] at hp h2 ⊢;have:=Ar f ((c::r).drop P.2.toNat) (i+P.2.toNat) (acc++encodeRune P.1);rw[bB] at this;refine⟨?_,this.2⟩;have d:=this.1;simp only[aV] at d hp ⊢;omega
theorem Hb (l:List UInt8):((dM l).2.2≠0->(dM l).1= []/\0<=(dM l).2.1/\(dM l).2.1<=l.length/\(dM l).2.2=2)/\((dM l).2.2=0->(dM l).2.1=l.length/\validD (dM l).1=true):=by
 have g:=Ry l 0;have d:(0<=(bT l 0).2.1/\(bT l 0).2.1<=l.length)/\((bT l 0).2.2=0\/((bT l 0).2.2=2/\(bT l 0).1= [])):=by
  unfold bT;split
  ·rename_i h;have hl:=(aR.1 h.2).1;have:=Ar (l.length+1) (l.drop ((0:Int).toNat+1)) ((0:Int).toNat+1) [];rw[bB] at this;exact⟨by have:=this.1;simp only[Int.toNat_zero] at *;omega,this.2⟩
  ·exact⟨by simp, .inr ⟨rfl,rfl⟩⟩
 unfold dM;obtain⟨R,i⟩:=exQ<|bT l 0;rw[i] at g d ⊢;obtain⟨s,k,e⟩:=R;simp only[] at g d ⊢;split
 ·rename_i h;exact⟨λ_=>⟨rfl,by simp only[];omega,by simp only[];omega,rfl⟩,λc=>absurd c (by simp)⟩
 ·rename_i h;refine⟨λc=>?_,λc=>⟨?_,g⟩⟩
  ·simp only[] at c;rcases d.2 with f | f
   ·exact absurd f c
   ·exact⟨f.2,d.1.1,d.1.2,f.1⟩
  ·simp only[] at c ⊢;by_cases hk:k<l.length
   ·exact absurd ⟨c,hk⟩ h
   ·omega
abbrev Sp:=Nat×Nat
structure aD where
 kind:Nat
 sf:Nat
 st:Nat
 key:Sp
 kids:List Nat
 pcs:List Sp
deriving DecidableEq
inductive JR where
 | ok (rest:List aQ) (last:Sp) (nodes:List aD)
 | bad (at':Nat) (er:Int)
def eV:List aQ->Nat
 | []=>0
 | t::_=>t.kind
def eW (n:Nat):List aQ->Nat
 | []=>n
 | t::_=>t.sf
def cU (k:Nat):Nat:=if k=12 then 1 else if k=10\/k=11 then 2 else if k=9 then 3 else if k=8 then 4 else if k=4 then 5 else if k=2 then 6 else 0
def modN (f:aD->aD):Nat->List aD->List aD
 | _,[]=> []
 | 0,x::l=>f x::l
 | n+1,x::l=>x::modN f n l
def eA (n kid:Nat) (pc:Sp) (l:List aD):List aD:=modN (λx=> { x with kids:=x.kids++ [kid],pcs:=x.pcs++ [pc] }) n l
def iO (n e:Nat) (l:List aD):List aD:=modN (λx=> { x with st:=e }) n l
abbrev VF:=List aQ->Sp->List aD->Sp->JR
def gZ (txt:List UInt8) (V:VF) (obj:Bool) (had:List (List UInt8)) (rest:List aQ) (last:Sp) (nodes:List aD):JR×List (List UInt8):=
 if obj=false then(V rest last nodes (0,0),had) else match rest with
  | []=>(.bad txt.length 2,had)
  | t::r=>
   if t.kind≠8 then(.bad t.sf 2,had) else
   if(dM ((txt.drop t.sf).take (t.st-t.sf))).1∈had then(.bad t.sf 7,had) else
   match r with
   | []=>(.bad txt.length 2,(dM ((txt.drop t.sf).take (t.st-t.sf))).1::had)
   | c::r2=>if c.kind≠7 then(.bad c.sf 2,(dM ((txt.drop t.sf).take (t.st-t.sf))).1::had) else
    (V r2 (c.sf,c.st) nodes (t.sf,t.st),(dM ((txt.drop t.sf).take (t.st-t.sf))).1::had)
def iP (txt:List UInt8) (V:VF) (closing:Nat) (obj:Bool) (n:Nat):Nat->List (List UInt8)->List aQ->Sp->List aD->JR
 | 0,_,_,_,_=> .bad 0 0
 | f+1,had,rest,last,nodes=>match gZ txt V obj had rest last nodes with
  | (.bad a e,_)=> .bad a e
  | (.ok r l ns,had')=>match r with
   | []=> .bad txt.length 2
   | t::r'=>if t.kind=closing then .ok r' (t.sf,t.st) (eA n nodes.length (last.2,t.sf) ns) else
    if t.kind=6 then iP txt V closing obj n f had' r' (t.sf,t.st) (eA n nodes.length (last.2,t.sf) ns) else .bad t.sf 2
def iI (txt:List UInt8) (V:VF) (closing:Nat) (obj:Bool) (n:Nat) (rest:List aQ) (last:Sp) (nodes:List aD):JR:=
 match rest with
 | []=>iP txt V closing obj n 1 [] rest last nodes
 | t::r=>if t.kind=closing then .ok r (t.sf,t.st) nodes else iP txt V closing obj n (rest.length+1) [] rest last nodes
def tZ (n:Nat):JR->JR
 | .ok r l ns=> .ok r l (iO n l.2 ns)
 | .bad a e=> .bad a e
def bS (txt:List UInt8):Nat->VF
 | 0,rest,last,nodes,key=>if cU (eV rest)=0 then .bad (eW txt.length rest) 2 else .bad (eW txt.length rest) 5
 | lv+1,rest,last,nodes,key=>if cU (eV rest)=0 then .bad (eW txt.length rest) 2 else
  if nodes.length=4096 then .bad (eW txt.length rest) 6 else match rest with
  | []=> .bad 0 0
  | t::r=>tZ nodes.length (
   if t.kind=4 then iI txt (bS txt lv) 5 false nodes.length r (t.sf,t.st) (nodes++ [⟨cU t.kind,t.sf,t.st,key,[],[]⟩]) else
   if t.kind=2 then iI txt (bS txt lv) 3 true nodes.length r (t.sf,t.st) (nodes++ [⟨cU t.kind,t.sf,t.st,key,[],[]⟩]) else
   .ok r (t.sf,t.st) (nodes++ [⟨cU t.kind,t.sf,t.st,key,[],[]⟩]))
def fN (s:List UInt8):List aD×Int×Int:=
 if(eR s).2.2≠0 then([],(eR s).2.1,(eR s).2.2) else
  match bS s 32 ((eR s).1.filter (λt=>t.kind !=1)) (0,0) [] (0,0) with
  | .bad a e=>([],(a:Int),e)
  | .ok [] _ ns=>(ns,(s.length:Int),0)
  | .ok (t::_) _ _=>([],(t.sf:Int),2)
theorem oS (f:aD->aD): ∀(n:Nat) (l:List aD),(modN f n l).length=l.length
 | _,[]=>by simp[modN]
 | 0,x::l=>rfl
 | n+1,x::l=>by rw[modN,aV,oS f n l,aV]
theorem rD (f:aD->aD): ∀(n:Nat) (l:List aD) (j:Nat),(modN f n l)[j]?=if j=n then(l[j]?).map f else l[j]?
 | n,[],j=>by cases n<;>simp[modN]
 | 0,x::l,0=>rfl
 | 0,x::l,j+1=>by simp[modN]
 | n+1,x::l,0=>by simp[modN]
 | n+1,x::l,j+1=>by
  rw[modN,cH,cH,rD f n l j];simp
theorem As (f:aD->aD): ∀(pre:List aD) (x:aD) (post:List aD),modN f pre.length (pre++x::post)=pre++f x::post
 | [],x,post=>rfl
 | y::pre,x,post=>by
  show y::modN f pre.length (pre++x::post)=_;rw[As f pre x post];rfl
def vN (n:Nat) (l:List aD):Prop:= ∀y∈l,y.kids.length<=n/\y.pcs.length<=n
def oT (V:VF):Prop:= ∀rest last nodes key r l ns,V rest last nodes key= .ok r l ns-> ∃more,ns=nodes++more/\1<=more.length/\more.length+r.length<=rest.length/\(∃k,r=rest.drop k)/\vN more.length more
theorem vP {txt:List UInt8}{V:VF} (hV:oT V) {obj:Bool}{had:List (List UInt8)}{rest:List aQ}{last:Sp}{nodes:List aD}{r:List aQ}{l:Sp}{ns:List aD}{had':List (List UInt8)}
  (h:gZ txt V obj had rest last nodes=(.ok r l ns,had')): ∃more,ns=nodes++more/\1<=more.length/\more.length+r.length<=rest.length/\(∃k,r=rest.drop k)/\vN more.length more:=by
 unfold gZ at h;split at h
 ·injection h with h _;exact hV _ _ _ _ _ _ _ h
 ·split at h
  ·injection h with h _;cases h
  ·rename_i t q;split at h
   ·injection h with h _;cases h
   ·split at h
    ·injection h with h _;cases h
    ·split at h
     ·injection h with h _;cases h
     ·rename_i c r2;split at h
      ·injection h with h _;cases h
      ·injection h with h _;obtain⟨more,e,f,h3,⟨k,d⟩,g⟩:=hV _ _ _ _ _ _ _ h;exact⟨more,e,f,by simp only[aV];omega,⟨k+2,by rw[d];rfl⟩,g⟩
def eH (pre:List aD) (x:aD) (post:List aD) (nodes:List aD):Prop:=nodes=pre++x::post/\x.kids.length<=post.length/\x.pcs.length<=post.length/\vN post.length post
theorem eH.add {pre:List aD}{x:aD}{post nodes more:List aD} (h:eH pre x post nodes) (hm:vN more.length more) (h1:1<=more.length) (k:Nat) (pc:Sp):
  eH pre { x with kids:=x.kids++ [k],pcs:=x.pcs++ [pc] } (post++more) (eA pre.length k pc (nodes++more)):=by
 obtain⟨rfl,h2,h3,d⟩:=h;refine⟨?_,?_,?_,?_⟩
 ·unfold eA;rw[mV,jW,As]
 ·simp only[aW,aV,gY];omega
 ·simp only[aW,aV,gY];omega
 ·intro y c;rw[aW];rcases nN.1 c with c | c
  ·have:=d y c;omega
  ·have:=hm y c;omega
theorem At {txt:List UInt8}{V:VF} (hV:oT V) {closing:Nat}{obj:Bool}{pre:List aD}: ∀(f:Nat) {had:List (List UInt8)}{rest:List aQ}{last:Sp}{nodes:List aD}{r:List aQ}{l:Sp}{ns:List aD}{x:aD}{post:List aD},
  eH pre x post nodes->iP txt V closing obj pre.length f had rest last nodes= .ok r l ns-> ∃x' post',eH pre x' post' ns/\x'.kind=x.kind/\x'.sf=x.sf/\x'.key=x.key/\post.length<post'.length/\post'.length+r.length<post.length+rest.length/\ ∃k,r=rest.drop k
 | 0,_,_,_,_,_,_,_,_,_,_,h=>by cases h
 | f +1,had,rest,last,nodes,r,l,ns,x,post,hm,h=>by
  unfold iP at h;split at h
  ·cases h
  ·rename_i r1 l1 ns1 had1 hk;obtain⟨more,rfl,h2,h3,⟨k,h4⟩,h5⟩:=vP hV hk;split at h
   ·cases h
   ·rename_i t r';simp only[aV] at h3;have c:r'=rest.drop (k+1):=by rw[<-jH,<-h4];rfl
    have d:=hm.add h5 h2 nodes.length (last.2,t.sf);split at h
    ·injection h with e1 e2 e3;subst e1;subst e3;exact⟨_,_,d,rfl,rfl,rfl,by rw[aW];omega,by rw[aW];omega,_,c⟩
    ·split at h
     ·obtain⟨x',post',i1,i2,i3,i4,i5,i6,k2,i7⟩:=At hV f d h;rw[aW] at i5 i6;exact⟨x',post',i1,i2,i3,i4,by omega,by omega,k+1+k2,by rw[i7,c,jH]⟩
     ·cases h
theorem yA {txt:List UInt8}{V:VF} (hV:oT V) {closing:Nat}{obj:Bool}{pre:List aD}{rest:List aQ}{last:Sp}{nodes:List aD}{r:List aQ}{l:Sp}{ns:List aD}{x:aD}{post:List aD}
  (hm:eH pre x post nodes) (h:iI txt V closing obj pre.length rest last nodes= .ok r l ns): ∃x' post',eH pre x' post' ns/\x'.kind=x.kind/\x'.sf=x.sf/\x'.key=x.key/\post.length<=post'.length/\post'.length+r.length<=post.length+rest.length/\ ∃k,r=rest.drop k:=by
 unfold iI at h;split at h
 ·obtain⟨x',post',i1,i2,i3,i4,i5,i6,i7⟩:=At hV _ hm h;exact⟨x',post',i1,i2,i3,i4,by omega,by omega,i7⟩
 ·rename_i t q;split at h
  ·injection h with d h2 c;subst d c;exact⟨x,post,hm,rfl,rfl,rfl,aE _,by simp only[aV];omega,1,rfl⟩
  ·obtain⟨x',post',i1,i2,i3,i4,i5,i6,i7⟩:=At hV _ hm h;exact⟨x',post',i1,i2,i3,i4,by omega,by omega,i7⟩
theorem Rz {pre:List aD}{x:aD}{post nodes:List aD} (h:eH pre x post nodes) (e:Nat):eH pre { x with st:=e } post (iO pre.length e nodes):=by
 obtain⟨rfl,d,f,c⟩:=h;exact⟨by unfold iO;rw[As],d,f,c⟩
theorem nO (txt:List UInt8): ∀lv,oT (bS txt lv)
 | 0=>λrest last nodes key r l ns h=>by
  unfold bS at h;split at h<;>cases h
 | lv +1=>λrest last nodes key r l ns h=>by
  have ih:=nO txt lv;cases rest with
  | nil=>
   unfold bS at h;rw[if_pos (show cU (eV [])=0 from rfl)] at h;cases h
  | cons t q=>
   unfold bS at h;split at h
   ·cases h
   ·split at h
    ·cases h
    ·simp only[] at h;have key2: ∀x:JR,tZ nodes.length x= .ok r l ns-> ∃ns',x= .ok r l ns'/\ns=iO nodes.length l.2 ns':=by
      intro x j;cases x with
      | bad a e=>cases j
      | ok r' l' ns'=>
       injection j with c g i;subst c g;exact⟨ns',rfl,i.symm⟩
     obtain⟨ns',c,rfl⟩:=key2 _ h;have d:eH nodes ⟨cU t.kind,t.sf,t.st,key,[],[]⟩ [] (nodes++ [⟨cU t.kind,t.sf,t.st,key,[],[]⟩]):=⟨rfl,aE _,aE _,λy f=>by cases f⟩;have fin: ∀ {x':aD}{post':List aD},eH nodes x' post' ns'->post'.length+r.length<=q.length->(∃k,r=q.drop k)-> ∃more,iO nodes.length l.2 ns'=nodes++more/\1<=more.length/\more.length+r.length<=(t::q).length/\(∃k,r=(t::q).drop k)/\vN more.length more:=by
      intro x' post' p hl ⟨k,hk⟩;obtain⟨e1,e2,e3,e4⟩:=Rz p l.2;refine⟨_,e1,by simp,by simp only[aV];omega,⟨k+1,by rw[hk];rfl⟩,λy f=>?_⟩;simp only[aV];rcases dC.1 f with rfl | f
      ·exact⟨by omega,by omega⟩
      ·have:=e4 y f;omega
     split at c
     ·obtain⟨x',post',i1,_,_,_,_,i6,i7⟩:=yA ih d c;exact fin i1 (by simpa using i6) i7
     ·split at c
      ·obtain⟨x',post',i1,_,_,_,_,i6,i7⟩:=yA ih d c;exact fin i1 (by simpa using i6) i7
      ·injection c with g i o;subst g o;exact fin d (by simp) ⟨0,rfl⟩
section
variable {α β:Type}{R:α->β->Prop}
end
section
variable {txt txt':List UInt8}{a b m n:Nat}{deep:Prop}{V V':VF}
end
theorem Hc {k:Nat}{x:JR}{r:List aQ}{l:Sp}{ns:List aD} (hx:tZ k x= .ok r l ns): ∃ns',x= .ok r l ns'/\ns=iO k l.2 ns':=by
 cases x with
 | bad a e=>cases hx
 | ok r' l' ns'=>
  injection hx with c d f;subst c d;exact⟨ns',rfl,f.symm⟩
def vQ (ts:List aQ):List aQ:=ts.filter (λt=>t.kind !=1)
def uA (n:Nat):JR->List aD×Int×Int
 | .bad a e=>([],(a:Int),e)
 | .ok [] _ ns=>(ns,(n:Int),0)
 | .ok (t::_) _ _=>([],(t.sf:Int),2)
def Bd (V:VF):Prop:= ∀rest last nodes key a e,V rest last nodes key= .bad a e->e≠0
theorem Sa {txt:List UInt8}{V:VF} (hV:Bd V) {obj:Bool}{had had':List (List UInt8)}{rest:List aQ}{last:Sp}{nodes:List aD}{a:Nat}{e:Int} (h:gZ txt V obj had rest last nodes=(.bad a e,had')):e≠0:=by
 unfold gZ at h;split at h
 ·injection h with h _;exact hV _ _ _ _ _ _ h
 ·split at h
  ·injection h with h _;injection h with _ h;rw[<-h];decide
  ·split at h
   ·injection h with h _;injection h with _ h;rw[<-h];decide
   ·split at h
    ·injection h with h _;injection h with _ h;rw[<-h];decide
    ·split at h
     ·injection h with h _;injection h with _ h;rw[<-h];decide
     ·split at h
      ·injection h with h _;injection h with _ h;rw[<-h];decide
      ·injection h with h _;exact hV _ _ _ _ _ _ h
theorem Au {txt:List UInt8}{V:VF} (hV:Bd V) (hE:oT V) {closing:Nat}{obj:Bool}{n:Nat}: ∀(f:Nat) {had:List (List UInt8)}{rest:List aQ}{last:Sp}{nodes:List aD}{a:Nat}{e:Int},rest.length<f->iP txt V closing obj n f had rest last nodes= .bad a e->e≠0
 | 0,_,_,_,_,_,_,hf,_=>by omega
 | f +1,had,rest,last,nodes,a,e,hf,h=>by
  unfold iP at h;split at h
  ·rename_i hk;injection h with h1 h2;subst h1 h2;exact Sa hV hk
  ·rename_i r1 l1 ns1 had1 hk;obtain⟨more,_,h2,h3,_⟩:=vP hE hk;split at h
   ·injection h with _ h;rw[<-h];decide
   ·simp only[aV] at h3;split at h
    ·cases h
    ·split at h
     ·exact Au hV hE f (by omega) h
     ·injection h with _ h;rw[<-h];decide
theorem Hd {txt:List UInt8}{V:VF} (hV:Bd V) (hE:oT V) {closing:Nat}{obj:Bool}{n:Nat}{rest:List aQ}{last:Sp}{nodes:List aD}{a:Nat}{e:Int} (h:iI txt V closing obj n rest last nodes= .bad a e):e≠0:=by
 unfold iI at h;split at h
 ·exact Au hV hE 1 (by simp) h
 ·split at h
  ·cases h
  ·exact Au hV hE _ (by simp) h
theorem Sb {k:Nat}{x:JR}{a:Nat}{e:Int} (hx:tZ k x= .bad a e):x= .bad a e:=by
 cases x with
 | bad a' e'=>exact hx
 | ok r' l' ns'=>cases hx
theorem He (txt:List UInt8): ∀lv,Bd (bS txt lv)
 | 0=>λrest last nodes key a e h=>by
  unfold bS at h;split at h
  ·injection h with _ h;rw[<-h];decide
  ·injection h with _ h;rw[<-h];decide
 | lv +1=>λrest last nodes key a e h=>by
  have ih:=He txt lv;have d:=nO txt lv;unfold bS at h;split at h
  ·injection h with _ h;rw[<-h];decide
  ·rename_i f;split at h
   ·injection h with _ h;rw[<-h];decide
   ·cases rest with
    | nil=>exact absurd rfl f
    | cons t r=>
     simp only[] at h;have c:=Sb h;split at c
     ·exact Hd ih d c
     ·split at c
      ·exact Hd ih d c
      ·cases c
theorem Hf (s:List UInt8):fN s=if(eR s).2.2≠0 then([],(eR s).2.1,(eR s).2.2) else uA s.length (bS s 32 (vQ (eR s).1) (0,0) [] (0,0)):=by
 unfold fN vQ uA;rfl
theorem Sc {s:List UInt8} (h:(eR s).2.2=0):s.length<=65536/\eU s.length s 0=((eR s).1,none):=by
 unfold eR at h ⊢;by_cases hb:65536<s.length
 ·rw[if_pos hb] at h;exact absurd h (by simp)
 ·rw[if_neg hb] at h ⊢;cases hG:(eU s.length s 0).2 with
  | none=>exact⟨by omega,Prod.ext rfl hG⟩
  | some x=>
   obtain⟨p,e⟩:=x;rw[hG] at h;exact absurd h (xZ s.length s 0 p e (aE _) hG).2.2
theorem Av {s:List UInt8} (h:(fN s).2.2=0):s.length<=65536/\ ∃T l ns,eU s.length s 0=(T,none)/\bS s 32 (vQ T) (0,0) [] (0,0)= .ok [] l ns/\fN s=(ns,(s.length:Int),0):=by
 rw[Hf] at h ⊢;by_cases h0:(eR s).2.2=0
 ·rw[if_neg (by simpa using h0)] at h ⊢;obtain⟨c,d⟩:=Sc h0;refine⟨c,(eR s).1,?_⟩;cases hv:bS s 32 (vQ (eR s).1) (0,0) [] (0,0) with
  | bad a e=>rw[hv] at h;exact absurd h (He s 32 _ _ _ _ _ _ hv)
  | ok r l ns=>
   cases r with
   | cons t r=>rw[hv] at h;exact absurd h (by simp[uA])
   | nil=>exact⟨l,ns,d,rfl,rfl⟩
 ·rw[if_pos h0] at h;exact absurd h h0
theorem Hg {pre:List aD}{x:aD}{post nodes:List aD} (h:eH pre x post nodes):nodes[pre.length]?=some x:=by
 rw[h.1,mC (aE _),Nat.sub_self];rfl
theorem Sd {pre:List aD}{x:aD}{post nodes:List aD} (h:eH pre x post nodes):nodes.length=pre.length+1+post.length:=by
 rw[h.1,aW,aV];omega
end
section
open Go.Lib
end
section
open Go.Lib (compareBytes)
open Go.Lib (compareBytes compareInt)
open Go.Lib (compareBytes compareInt itoa decDigits nDigits)
theorem Hh (p:UInt8->Bool): ∀l:List UInt8,(∀c∈l,p c=true)->l.dropWhile p= []
 | [],_=>rfl
 | c::t,h=>by rw[List.dropWhile_cons,if_pos (h c gS)];exact Hh p t λx hx=>h x (List.mem_cons_of_mem _ hx)
theorem yB (p:UInt8->Bool) (l:List UInt8) (h: ∀c∈l,p c=false):dJ p l=(l,[],false):=by
 unfold dJ;rw[Hh _ l λc d=>by simp[h c d]]
theorem Aw (p:UInt8->Bool): ∀(a:List UInt8) (b:UInt8) (t:List UInt8),(∀c∈a,p c=false)->p b=true->dJ p (a++b::t)=(a,t,true)
 | [],b,t,_,hb=>by simp[dJ,hb]
 | c::a,b,t,h,hb=>by
  have ih:=Aw p a b t (λx e=>h x (List.mem_cons_of_mem _ e)) hb;have d:=h c (gS);unfold dJ at ih ⊢;rw[jW,List.dropWhile_cons,List.takeWhile_cons,d];simp only[Bool.not_false,if_true];cases hd:(a++b::t).dropWhile (λc=>!p c) with
  | nil=>rw[hd] at ih;simp at ih
  | cons y r=>rw[hd] at ih;simp at ih ⊢;exact ih
theorem Hi (u:Nat):(decDigits u).all dZ=true/\decDigits u≠ []/\fM (decDigits u)=(u:Int):=by
 induction u using Nat.strongRecOn with
 | _ u ih=>
  have c: ∀k:Nat,k<10->dZ (UInt8.ofNat (48+k))=true/\((UInt8.ofNat (48+k)).toNat:Int)=48+k:=by
   intro k hk;have:(UInt8.ofNat (48+k)).toNat=48+k:=by rw[UInt8.toNat_ofNat'];omega
   refine⟨aM (by rw[this];omega),by rw[this];omega⟩
  by_cases h:u<10
  ·rw[decDigits,dif_pos h];refine⟨by rw[List.all_cons,(c u h).1];rfl,by simp,?_⟩;unfold fM;simp only[List.foldl_cons,List.foldl_nil];rw[(c u h).2];omega
  ·rw[decDigits,dif_neg h];obtain⟨d,h2,e⟩:=ih (u / 10) (by omega);refine⟨?_,by simp,?_⟩
   ·rw[List.all_append,cT];exact⟨d,by rw[List.all_cons,(c (u % 10) (by omega)).1];rfl⟩
   ·rw[Ak,e,(c (u % 10) (by omega)).2];omega
theorem Hj (u:Nat): ∀k,u<10 ^ k->1<=k->(decDigits u).length<=k:=by
 induction u using Nat.strongRecOn with
 | _ u ih=>
  intro k d e;by_cases h:u<10
  ·rw[decDigits,dif_pos h];exact e
  ·rw[decDigits,dif_neg h,aW];obtain⟨m,rfl⟩: ∃m,k=m+1:=⟨k-1,by omega⟩;rw[Nat.pow_succ] at d;rcases Nat.eq_zero_or_pos m with c | c
   ·subst c;simp at d;omega
   ·have:=ih (u / 10) (by omega) m (by omega) c;simp;omega
theorem vR (l:List UInt8):l=dE l++List.replicate (l.length-(dE l).length) 48:=by
 unfold dE;have h:=List.takeWhile_append_dropWhile (p:=λx:UInt8=>x==48) (l:=l.reverse);have d:(l.reverse.takeWhile (· ==48))=List.replicate (l.reverse.takeWhile (· ==48)).length 48:=by
  rw[List.eq_replicate_iff];refine⟨rfl,λb e=>?_⟩;have:=fH.1 (List.all_takeWhile (p:=λx:UInt8=>x==48) (l:=l.reverse)) b e;simpa using this
 have c:l=(l.reverse.dropWhile (· ==48)).reverse++(l.reverse.takeWhile (· ==48)).reverse:=by
  rw[<-List.reverse_append,h,List.reverse_reverse]
 have f:l.length-(l.reverse.dropWhile (· ==48)).reverse.length=(l.reverse.takeWhile (· ==48)).length:=by
  have:=congrArg List.length c;rw[aW,(show (l.reverse.takeWhile (· ==48)).reverse.length=(l.reverse.takeWhile (· ==48)).length from List.length_reverse)] at this;omega
 rw[f,<-List.reverse_replicate,<-d];exact c
theorem Hk (l:List UInt8):(dE l).getLast?≠some 48:=by
 unfold dE;rw[List.getLast?_reverse];intro h;have:=List.head?_dropWhile_not (p:=λx:UInt8=>x==48) (l:=l.reverse);rw[h] at this;simp at this
theorem Se {l:List UInt8} (h:l.getLast?≠some 48):dE l=l:=by
 unfold dE;rw[List.getLast?_eq_head?_reverse] at h;cases hc:l.reverse with
 | nil=>simp at hc;subst hc;rfl
 | cons x t=>
  rw[hc] at h;have c: ¬(x==48)=true:=by
   intro c;apply h;rw[List.head?_cons];congr 1;simpa using c
  rw[List.dropWhile_cons,if_neg c,<-hc,List.reverse_reverse]
theorem Sf {l:List UInt8} (h:l.head?≠some 48):gK l=l:=by
 unfold gK;cases l with
 | nil=>rfl
 | cons x t=>
  have c: ¬(x==48)=true:=by
   intro c;apply h;rw[List.head?_cons];congr 1;simpa using c
  rw[List.dropWhile_cons,if_neg c]
theorem Hl (l:List UInt8) (h:l.all dZ=true):(∀c∈l,gX c=false)/\(∀c∈l,mQ c=false)/\l.head?≠some 45/\l.head?≠some 43:=by
 have g: ∀c∈l,48<=c.toNat/\c.toNat<=57:=λc g=>of_decide_eq_true (fH.1 h c g);have d: ∀c∈l,∀k:UInt8,(k.toNat<48\/57<k.toNat)->c≠k:=λc f k hk e=>by have:=g c f;rw[e] at this;omega
 refine⟨λc f=>?_,λc f=>?_,λe=>?_,λe=>?_⟩
 ·unfold gX;rw[Bool.or_eq_false_iff];exact⟨by simpa using d c f 101 (by decide),by simpa using d c f 69 (by decide)⟩
 ·unfold mQ;simpa using d c f 46 (by decide)
 ·exact d 45 (List.mem_of_mem_head? e) 45 (by decide) rfl
 ·exact d 43 (List.mem_of_mem_head? e) 43 (by decide) rfl
open Go.Lib (compareBytes compareInt itoa decDigits nDigits)
def eX (n:eG):List UInt8:=
 if jV n=false then [] else if n.dig= [] then [48] else
 (if n.neg then [45] else [])++(n.dig++(if n.exp≠0 then 101::itoa n.exp else []))
theorem Hm {p:UInt8->Bool}{l a b:List UInt8} (h:dJ p l=(a,b,false)):a=l/\b= []:=by
 unfold dJ at h;split at h
 ·injection h with d c;injection c with e _;exact⟨d.symm,e.symm⟩
 ·injection h with d c;injection c with e f;cases f
theorem sH {l:List UInt8} (h:fG l=true):l≠ []/\l.all dZ=true:=by
 unfold fG at h;rw[cT] at h;exact⟨by intro e;rw[e] at h;simp at h,h.2⟩
theorem Ax {l:List UInt8} (h:l≠ []) (h2:l.all dZ=true):fG l=true:=by
 unfold fG;rw[h2,Bool.and_true];cases l with
 | nil=>exact absurd rfl h
 | cons _ _=>rfl
theorem Hn {l:List UInt8} (h:l.head?≠some 48) (hne:l≠ []):dE l≠ []/\(dE l).head?≠some 48:=by
 have c:=vR l;have d:dE l≠ []:=by
  intro e;rw[e,jJ] at c;cases hc:l with
  | nil=>exact hne hc
  | cons x t=>
   rw[hc] at c h;simp only[aV,gY,Nat.sub_zero,List.replicate_succ] at c;injection c with f _;apply h;rw[f];rfl
 refine⟨d,?_⟩;rw[c] at h;cases hc:dE l with
 | nil=>exact absurd hc d
 | cons x t=>rw[hc] at h;exact h
theorem Ho (l:List UInt8):(gK l).head?≠some 48:=by
 unfold gK;intro h;have:=List.head?_dropWhile_not (p:=λx:UInt8=>x==48) (l:=l);rw[h] at this;simp at this
theorem Ay {l:List UInt8} (h:l.all dZ=true):(gK l).all dZ=true:=by
 rw[fH] at h ⊢;intro x c;exact h x ((List.dropWhile_sublist _).subset c)
theorem Hp {l:List UInt8} (h:l.all dZ=true):(dE l).all dZ=true:=by
 rw[vR l,List.all_append,cT] at h;exact h.1
theorem Hq {l:List UInt8}{x:rY} (h:iN l=some x):fG x.whole=true/\x.rest.all dZ=true/\x.exp.all dZ=true:=by
 unfold iN at h;simp only[] at h;have g:(dJ gX (fS l)).2.2=false->(if(dJ gX (fS l)).2.2=true then gQ (dJ gX (fS l)).2.1 else [])= []:=λe=>by rw[e];rfl
 generalize (if(dJ gX (fS l)).2.2=true then gQ (dJ gX (fS l)).2.1 else [])=xx at h g;split at h
 ·rename_i c;injection h with h;subst h;unfold nK at c;simp only[cT,Bool.or_eq_true,Bool.not_eq_true'] at c;obtain⟨⟨f,i,d⟩,_⟩:=c;refine⟨i,?_,?_⟩
  ·rcases d with d | d
   ·have:=(Hm (p:=mQ) (l:=(dJ gX (fS l)).1) (a:=(dJ mQ (dJ gX (fS l)).1).1) (b:=(dJ mQ (dJ gX (fS l)).1).2.1) (by rw[<-d])).2;rw[this];rfl
   ·exact(sH d).2
  ·rcases f with f | f
   ·rw[g f];rfl
   ·exact(sH f).2
 ·cases h
theorem Sg {x:rY}{n:eG} (h1:fG x.whole=true) (h2:x.rest.all dZ=true) (h:nL x=(n,0)):jV n=true:=by
 unfold nL at h;split at h
 ·injection h with _ h;cases h
 rename_i hlen;split at h
 ·injection h with _ h;cases h
 simp only[] at h;generalize (if x.low=true then-fM x.exp else fM x.exp)=ee at h;split at h
 ·injection h with h _;subst h;rfl
 rename_i g;split at h
 ·injection h with _ h;cases h
 rename_i hk;injection h with h _;subst h;have d:(gK (x.whole++x.rest)).all dZ=true:=Ay (by rw[List.all_append,cT];exact⟨(sH h1).2,h2⟩);have f:=Hn (Ho _) g;have hl1:(gK (x.whole++x.rest)).length<=x.whole.length+x.rest.length:=by
  have:=(List.dropWhile_sublist (p:=λc:UInt8=>c==48) (l:=x.whole++x.rest)).length_le;rw[aW] at this;exact this
 have e:=congrArg List.length (vR (gK (x.whole++x.rest)));rw[aW] at e;refine aM (.inr ⟨Ax f.1 (Hp d),?_,f.2,Hk _,?_,?_⟩)
 ·show (dE (gK (x.whole++x.rest))).length<=1000;omega
 ·simp only[];omega
 ·simp only[];omega
theorem Az {l:List UInt8}{n:eG} (h:cL l=(n,0)):jV n=true:=by
 unfold cL at h;cases hl:iN l with
 | none=>rw[hl] at h;injection h with _ h;cases h
 | some x=>
  rw[hl] at h;obtain⟨c,d,_⟩:=Hq hl;exact Sg c d h
theorem Sh (n:eG) (h:jV n=true):cL (eX n)=(n,0):=by
 rcases of_decide_eq_true h with u | q
 ·subst u;rfl
 have hr':=q;obtain⟨k,hlen,l,v,he1,he2⟩:=q;obtain⟨e,i⟩:=sH k;obtain⟨n1,n2,n3,n4⟩:=Hl _ i;have r:eX n=(if n.neg then [45] else [])++(n.dig++(if n.exp≠0 then 101::itoa n.exp else [])):=by
  unfold eX;rw[h];simp only[Bool.true_eq_false,if_false];rw[if_neg e]
 have o: ∀t:List UInt8,(n.dig++t).head?=n.dig.head?:=λt=>by
  cases f:n.dig with
  | nil=>exact absurd f e
  | cons _ _=>rfl
 have j:fS (eX n)=n.dig++(if n.exp≠0 then 101::itoa n.exp else [])/\((eX n).head?==some 45)=n.neg:=by
  rw[r];unfold fS;cases n.neg with
  | true=>simp
  | false=>
   simp only[Bool.false_eq_true,if_false,jJ];rw[o,if_neg n3];exact⟨rfl,aK.2 n3⟩
 have d: ∀x:rY,x=⟨n.neg,n.dig,[],decide (n.exp<0),if n.exp=0 then [] else decDigits n.exp.natAbs⟩->nL x=(n,0):=by
  rintro x rfl;unfold nL;simp only[gY,Nat.add_zero,List.append_nil];rw[if_neg (by omega)];have hz:(gK (if n.exp=0 then [] else decDigits n.exp.natAbs)).length<=9:=by
   have w:=Hj n.exp.natAbs 9 (by omega) (by decide);by_cases e0:n.exp=0
   ·rw[if_pos e0];simp[gK]
   ·rw[if_neg e0];exact aY ((List.dropWhile_sublist _).length_le) w
  rw[if_neg (by omega),Sf l,if_neg e,Se v];have s:(if decide (n.exp<0)=true then-fM (if n.exp=0 then [] else decDigits n.exp.natAbs) else fM (if n.exp=0 then [] else decDigits n.exp.natAbs))=n.exp:=by
   by_cases e0:n.exp=0
   ·rw[e0];rfl
   ·rw[if_neg e0,(Hi _).2.2];by_cases e1:n.exp<0
    ·rw[if_pos (aM e1)];omega
    ·rw[if_neg (by simp[e1])];omega
  rw[s,if_neg (by omega)];cases n;simp
 unfold cL;by_cases e0:n.exp=0
 ·have c:iN (eX n)=some ⟨n.neg,n.dig,[],decide (n.exp<0),if n.exp=0 then [] else decDigits n.exp.natAbs⟩:=by
   unfold iN;simp only[j.1,j.2,e0,ne_eq,not_true,if_false,List.append_nil,yB gX _ n1,yB mQ _ n2];have g:nK false false [] n.dig []=true:=by
    unfold nK;rw[k];simp[l]
   simp[g]
  rw[c];exact d _ rfl
 ·have c:iN (eX n)=some ⟨n.neg,n.dig,[],decide (n.exp<0),if n.exp=0 then [] else decDigits n.exp.natAbs⟩:=by
   obtain⟨d1,d2,d3⟩:=Hi n.exp.natAbs;obtain⟨_,_,m3,m4⟩:=Hl _ d1;have p:gQ (itoa n.exp)=decDigits n.exp.natAbs/\((itoa n.exp).head?==some 45)=decide (n.exp<0):=by
    unfold gQ itoa;by_cases e1:n.exp<0
    ·rw[if_pos e1];simp[e1]
    ·rw[if_neg e1,show n.exp.toNat=n.exp.natAbs by omega,if_neg (by intro f;rcases f with f | f;exact m3 f;exact m4 f)];exact⟨rfl,by rw[aH e1,aK];exact m3⟩
   unfold iN;simp only[j.1,j.2,ne_eq,e0,not_false_eq_true,if_true,Aw gX _ 101 _ n1 rfl,yB mQ _ n2,p.1,p.2,Bool.true_and,if_false];have g:nK true false (decDigits n.exp.natAbs) n.dig []=true:=by
    unfold nK;rw[k,Ax d2 d1];simp[l]
   simp[g]
  rw[c];exact d _ rfl
end
end Go.Proofs.YtaifnmjjpddikaaGreatDoor
