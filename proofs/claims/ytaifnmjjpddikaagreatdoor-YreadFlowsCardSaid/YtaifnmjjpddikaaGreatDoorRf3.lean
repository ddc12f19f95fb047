import Derived.Lib.MapLaws
import Derived.Lib.ValidLaws
import Derived.Lib.RuneBytes
import Derived.Lib.TrimAscii
import Derived.Test.YtaifnmjjpddikaaGreatDoorRf2
import Derived.Test.YtaifnmjjpddikaaGreatDoorRf1
namespace Go.Proofs.YtaifnmjjpddikaaGreatDoor
set_option linter.unusedSimpArgs false
set_option linter.unusedVariables false
open Go.Lib
theorem nQ (x:Int) (h0:0<=x) (h1:x<256):x.toNat.toUInt8.toNat=x.toNat:=by
 rw[show x.toNat.toUInt8=UInt8.ofNat x.toNat from rfl,UInt8.toNat_ofNat'];exact Nat.mod_eq_of_lt (by omega)
def mB (r:Int):Prop:=0<=r/\r<=1114111/\(r<55296\/57343<r)
theorem zT (r:Int) (h:mB r) (t:List UInt8):decodeL (encodeRune r++t)=(r.toNat,(encodeRune r).length):=by
 obtain⟨h0,h1,h2⟩:=h;rw[decodeL_N];unfold encodeRune;by_cases g1:r<=127
 ·rw[encodeRuneZ_one h0 g1];simp only[kD,List.map_nil,aT,gR,dH,iL,List.getD_cons_zero];rw[nQ r h0 (by omega)];unfold decodeN;rw[if_pos (by omega)]
 by_cases g2:r<=2047
 ·rw[encodeRuneZ_two (by omega) g2];simp only[kD,List.map_nil,aT,gR,dH,iL,List.getD_cons_zero,List.getD_cons_succ];rw[nQ _ (by omega) (by omega),nQ (128+r % 64) (by omega) (by omega)];unfold decodeN;rw[if_neg (by omega),if_pos ⟨by omega,by omega,by omega⟩,if_pos (by omega)];congr 1;omega
 by_cases g3:r<=65535
 ·rw[encodeRuneZ_three (by omega)];simp only[kD,List.map_nil,aT,gR,dH,iL,List.getD_cons_zero,List.getD_cons_succ];rw[nQ _ (by omega) (by omega),nQ (128+r / 64 % 64) (by omega) (by omega),nQ (128+r % 64) (by omega) (by omega)];unfold decodeN;rw[if_neg (by omega),if_neg (by omega),if_pos ⟨by omega,⟨by omega,by omega⟩,by omega,by omega⟩,if_pos ⟨by omega,by omega⟩];congr 1;omega
 ·rw[encodeRuneZ_four (by omega) h1];simp only[kD,List.map_nil,aT,gR,dH,iL,List.getD_cons_zero,List.getD_cons_succ];rw[nQ _ (by omega) (by omega),nQ (128+r / 4096 % 64) (by omega) (by omega),nQ (128+r / 64 % 64) (by omega) (by omega),nQ (128+r % 64) (by omega) (by omega)];unfold decodeN;rw[if_neg (by omega),if_neg (by omega),if_neg (by omega),if_pos ⟨by omega,⟨by omega,by omega⟩,⟨by omega,by omega⟩,by omega,by omega⟩,if_pos ⟨by omega,by omega⟩];congr 1;omega
theorem Fd (r:Int) (h:mB r) (hr:128<=r):2<=(encodeRune r).length:=by
 obtain⟨h0,h1,h2⟩:=h;unfold encodeRune;rw[bU];by_cases g2:r<=2047
 ·rw[encodeRuneZ_two (by omega) g2];simp
 by_cases g3:r<=65535
 ·rw[encodeRuneZ_three (by omega)];simp
 ·rw[encodeRuneZ_four (by omega) h1];simp
theorem zU (l:List UInt8):mB ((decodeL l).1:Int):=by
 rw[decodeL_N];have k0:=(l.getD 0 0).toNat_lt;rcases decodeN_shape l.length (l.getD 0 0).toNat (l.getD 1 0).toNat (l.getD 2 0).toNat (l.getD 3 0).toNat with⟨c,e⟩ | ⟨c1,c2,c3,cv,e⟩ | ⟨c1,c2,c3,c4,cv,cs,e⟩ | ⟨c1,c2,c3,c4,c5,cv,cw,e⟩ | e
 all_goals
  rw[e];unfold mB;dsimp only;omega
theorem zV (r:Int):encodeRune r≠ []:=by
 intro h;have:=(encodeRuneZ_length r).1;unfold encodeRune at h;rw[List.map_eq_nil_iff] at h;rw[h] at this;simp at this
theorem Fe (c:UInt8) (h:c.toNat<128):encodeRune (c.toNat:Int)= [c]:=by
 unfold encodeRune;rw[encodeRuneZ_one (by omega) (by omega)];simp
theorem Ff (l:List UInt8) (hne:l≠ []) (h:validD l=true): ∃r t,mB r/\l=encodeRune r++t/\validD t=true/\decodeL l=(r.toNat,(encodeRune r).length):=by
 rw[validD_step l hne] at h;by_cases hb:(decodeL l).1=65533/\(decodeL l).2=1
 ·rw[if_pos hb] at h;cases h
 ·rw[if_neg hb] at h;have he:=encode_decode l hne hb;have hle:=decodeL_le l hne;refine⟨((decodeL l).1:Int),l.drop (decodeL l).2,zU l,by rw[he,rO],h,?_⟩;rw[he,cF,fC,Nat.min_eq_left hle]
theorem Fg (r:Int) (h:mB r) (t:List UInt8):validD (encodeRune r++t)=validD t:=by
 rw[validD_step _ (by simp[zV]),zT r h t,if_neg,uW];rintro⟨a,b⟩;simp only at a b;have h0:=h.1;have:=Fd r h (by omega);omega
theorem Pz (s t:List UInt8) (hs:validD s=true):validD (s++t)=validD t:=by
 obtain⟨n,hn⟩: ∃n,s.length<=n:=⟨_,aE _⟩
 induction n generalizing s with
 | zero=>
  obtain rfl:s= []:=List.eq_nil_of_length_eq_zero (by omega);rfl
 | succ n ih=>
  by_cases hne:s= []
  ·subst hne;rfl
  ·obtain⟨r,u,hr,rfl,hu,_⟩:=Ff s hne hs;have:=tJ.2 (zV r);rw[pN,Fg r hr];exact ih u hu (by rw[aS] at hn;omega)
theorem Qa (n b0 b1 b2 b3:Nat) (h:128<=b0) (h0:b0<256):128<=(decodeN n b0 b1 b2 b3).1:=by
 unfold decodeN
 repeat' split
 all_goals simp at *
 all_goals omega
theorem Fh {l l':List UInt8}{n:Nat} (h:l.take n=l'.take n) (hn:0<n):l.head?=l'.head?:=by
 cases n with
 | zero=>omega
 | succ n=>cases l<;>cases l'<;>simp at h ⊢;exact h.1
theorem zW {l l':List UInt8}{n:Nat} (h:l.take n=l'.take n) (i:Nat) (hi:i<n):l[i]?=l'[i]?:=by
 have:=congrArg (λx=>x[i]?) h;simp only[List.getElem?_take,if_pos hi] at this;exact this
theorem rP {l l':List UInt8}{n:Nat} (h:l.take n=l'.take n) (k m:Nat) (hk:k+m<=n):(l.drop k).take m=(l'.drop k).take m:=by
 have h2:=congrArg (λx=>(x.drop k).take m) h;simp only[List.drop_take,List.take_take,Nat.min_eq_left (show m<=n-k by omega)] at h2;exact h2
theorem zX {l l':List UInt8} (h:l.take 4=l'.take 4):eO l=eO l':=by
 unfold eO;have hl:=congrArg List.length h;rw[cF,cF] at hl;by_cases h4:l.length<4
 ·rw[if_pos h4,if_pos (by omega)]
 ·rw[if_neg h4,if_neg (by omega),h]
theorem Qb {l l':List UInt8} (h:l.take 2=l'.take 2):Lib.hasPrefix l [92,117]=Lib.hasPrefix l' [92,117]:=by
 match l,l' with
 | [],[]=>rfl
 | [],_::_=>simp at h
 | _::_,[]=>simp at h
 | [a],[b]=>simp at h;rw[h]
 | [a],b::c::t=>simp at h
 | a::c::t,[b]=>simp at h
 | a::c::t,b::d::u=>
  simp at h;unfold Lib.hasPrefix;simp[List.isPrefixOf,h.1,h.2]
theorem Qc {l l':List UInt8} (hne:(fM l).2≠0) (h:l.take (fM l).2.toNat=l'.take (fM l).2.toNat):fM l'=fM l:=by
 unfold fM at hne h;cases h2:eO (l.drop 2) with
 | none=>rw[h2] at hne;exact absurd rfl hne
 | some hi=>
  rw[h2] at hne h;simp only[] at hne h;by_cases g1:56320<=hi/\hi<57344
  ·rw[if_pos g1] at hne;exact absurd rfl hne
  rw[if_neg g1] at hne h;by_cases g2:hi<55296\/57344<=hi
  ·rw[if_pos g2] at hne h;simp only[] at h;have e1:eO (l'.drop 2)=some hi:=by rw[<-h2];exact(zX (rP h 2 4 (by decide))).symm
   unfold fM;simp only[h2,e1,if_neg g1,if_pos g2]
  rw[if_neg g2] at hne h;by_cases g3:Lib.hasPrefix (l.drop 6) [92,117]=false
  ·rw[if_pos g3] at hne;exact absurd rfl hne
  rw[if_neg g3] at hne h;cases h4:eO (l.drop 8) with
  | none=>rw[h4] at hne;exact absurd rfl hne
  | some lo=>
   rw[h4] at hne h;simp only[] at hne h;by_cases g5:lo<56320\/57344<=lo
   ·rw[if_pos g5] at hne;exact absurd rfl hne
   rw[if_neg g5] at hne h;simp only[] at h;have e1:eO (l'.drop 2)=some hi:=by rw[<-h2];exact(zX (rP h 2 4 (by decide))).symm
   have e2:eO (l'.drop 8)=some lo:=by rw[<-h4];exact(zX (rP h 8 4 (by decide))).symm
   have e3:Lib.hasPrefix (l'.drop 6) [92,117]=Lib.hasPrefix (l.drop 6) [92,117]:=(Qb (rP h 6 2 (by decide))).symm;unfold fM;simp only[h2,e1,if_neg g1,if_neg g2,e3,if_neg g3,h4,e2]
theorem Qd {l l':List UInt8} (hne:(jF l).2≠0) (h:l.take (jF l).2.toNat=l'.take (jF l).2.toNat):jF l'=jF l:=by
 unfold jF at hne h;cases h1:l[1]? with
 | none=>rw[h1] at hne;exact absurd rfl hne
 | some c=>
  rw[h1] at hne h;simp only[] at hne h;by_cases g1:(kE c.toNat).2=true
  ·rw[if_pos g1] at h;have e1:l'[1]?=some c:=by rw[<-h1];exact(zW h 1 (show 1<(2:Int).toNat by decide)).symm
   unfold jF;simp only[h1,e1,if_pos g1]
  rw[if_neg g1] at hne h;by_cases g2:c.toNat=117
  ·rw [if_pos g2] at hne h;have hb:=Ez l;have h2:2<=(fM l).2.toNat:=by
    have :(fM l).2=6\/(fM l).2=12\/(fM l).2=0:=by
     unfold fM;cases eO (l.drop 2) with
     | none=>simp
     | some a=>
      simp only[];split
      ·simp
      ·split
       ·simp
       ·split
        ·simp
        ·cases eO (l.drop 8) with
         | none=>simp
         | some b=>simp only[];split<;>simp
    omega
   have e1:l'[1]?=some c:=by rw[<-h1];exact(zW h 1 (by omega)).symm
   have e2:=Qc hne h;unfold jF;simp only[h1,e1,if_neg g1,if_pos g2,e2]
  ·rw[if_neg g2] at hne;exact absurd rfl hne
theorem Qe (l:List UInt8) (hne:l≠ []) (hp:fV (decodeL l)=false):mB ((decodeL l).1:Int)/\32<=((decodeL l).1:Int)/\encodeRune ((decodeL l).1:Int)=l.take (decodeL l).2/\(decodeL l).2<=l.length/\1<=(decodeL l).2:=by
 have hp2:=hp;unfold fV at hp2;simp only[Bool.or_eq_false_iff,decide_eq_false_iff_not,Bool.and_eq_false_iff,aG] at hp2;exact⟨zU l,by omega,encode_decode l hne (by omega),decodeL_le l hne,decodeL_width l⟩
theorem Qf {l l':List UInt8} (hne:l≠ []) (hp:fV (decodeL l)=false) (h:l.take (decodeL l).2=l'.take (decodeL l).2):decodeL l'=decodeL l:=by
 obtain⟨h1,h2,h3,h4,h5⟩:=Qe l hne hp;have hl':l'=encodeRune ((decodeL l).1:Int)++l'.drop (decodeL l).2:=by rw[h3,h,rO]
 have:=zT _ h1 (l'.drop (decodeL l).2);rw[<-hl',h3,cF,Nat.min_eq_left h4,fC] at this;exact this
theorem Qg {l l':List UInt8} (hne:l≠ []) (h0:(cI l).2≠0) (h:l.take (cI l).2.toNat=l'.take (cI l).2.toNat):cI l'=cI l:=by
 have hb:=nP l hne;have hh:l.head?=l'.head?:=Fh h (by omega);unfold cI at h0 h ⊢;rw[<-hh];by_cases h92:l.head?=some 92
 ·rw[if_pos h92] at h0 h ⊢;rw[if_pos h92];exact Qd h0 h
 ·rw[if_neg h92] at h0 h ⊢;rw[if_neg h92];cases hp:fV (decodeL l) with
  | true=>rw[hp,if_pos rfl] at h0;exact absurd rfl h0
  | false=>
   rw[hp,if_neg (by simp)] at h;simp only[fC] at h;rw[Qf hne hp h,hp]
theorem nR (f:Nat) (c:UInt8) (r:List UInt8) (i:Nat) (acc:List UInt8):bY (f+1) (c::r) i acc=if c=34 then(acc,(i:Int)+1,0) else if(cI (c::r)).2=0 then([],(i:Int),2) else
  bY f ((c::r).drop (cI (c::r)).2.toNat) (i+(cI (c::r)).2.toNat) (acc++Lib.encodeRune (cI (c::r)).1):=rfl
theorem tK: ∀(f:Nat) (l:List UInt8) (i:Nat) (acc:List UInt8),(bY f l i acc).2.2=0->(i:Int)<(bY f l i acc).2.1/\(bY f l i acc).2.1<=i+l.length
 | 0,_,_,_,h=>by simp[bY] at h
 | _+1,[],_,_,h=>by simp[bY] at h
 | f+1,c::r,i,acc,h=>by
  rw[nR] at h ⊢;split
  ·exact⟨by simp only[];omega,by simp only[aT];omega⟩
  ·rename_i h34;rw[if_neg h34] at h;split
   ·rename_i h0;rw[if_pos h0] at h;exact absurd h (by simp)
   ·rename_i h0;rw[if_neg h0] at h;have hp:=nP (c::r) (List.cons_ne_nil _ _);obtain⟨P,hP⟩:=exQ<|cI (c::r);rw[hP] at h hp h0 ⊢;have:=tK f _ _ _ h;rw[aV] at this;omega
theorem Fi: ∀(f f':Nat) (l l':List UInt8) (i:Nat) (acc:List UInt8),(bY f l i acc).2.2=0->l.take ((bY f l i acc).2.1-i).toNat=l'.take ((bY f l i acc).2.1-i).toNat->l'.length<f'->bY f' l' i acc=bY f l i acc
 | 0,_,_,_,_,_,h,_,_=>by simp[bY] at h
 | _+1,_,[],_,_,_,h,_,_=>by simp[bY] at h
 | f+1,f',c::r,l',i,acc,h,ht,hf=>by
  have hok:=tK (f+1) (c::r) i acc h;have hh:=Fh ht (by omega);obtain⟨g,rfl⟩: ∃g,f'=g+1:=⟨f'-1,by omega⟩;cases l' with
  | nil=>simp at hh
  | cons c' r'=>
   obtain rfl:c'=c:=(by simpa using hh.symm);rw[nR] at h ht hok;rw[nR,nR];by_cases h34:c'=34
   ·rw[if_pos h34,if_pos h34]
   rw[if_neg h34] at h ht hok;rw[if_neg h34,if_neg h34];by_cases h0:(cI (c'::r)).2=0
   ·rw[if_pos h0] at h;exact absurd h (by simp)
   rw[if_neg h0] at h ht hok;have hp:=nP (c'::r) (List.cons_ne_nil _ _);have hrec:=tK f _ _ _ h;have hpl:cI (c'::r')=cI (c'::r):=by
    refine Qg (List.cons_ne_nil _ _) h0 ?_;have:=rP ht 0 (cI (c'::r)).2.toNat (by omega);simpa using this
   rw[hpl,if_neg h0,if_neg h0];have hlc:(c'::r').length=r'.length+1:=rfl;refine Fi f g _ _ _ _ h ?_ (by rw[aV];omega);exact rP ht (cI (c'::r)).2.toNat _ (by omega)
theorem Fj: ∀(f:Nat) (l:List UInt8) (i k:Nat) (acc:List UInt8),bY f l (i+k) acc=((bY f l i acc).1,(bY f l i acc).2.1+k,(bY f l i acc).2.2)
 | 0,_,i,k,_=>by simp[bY]
 | _+1,[],i,k,_=>by simp[bY]
 | f+1,c::r,i,k,acc=>by
  rw[nR,nR];split
  ·simp only[Prod.mk.injEq,true_and,and_true];omega
  ·split
   ·simp only[Prod.mk.injEq,true_and,and_true];omega
   ·rw[show i+k+(cI (c::r)).2.toNat=(i+(cI (c::r)).2.toNat)+k by omega];exact Fj f _ _ _ _
theorem Fk: ∀(f g:Nat) (l:List UInt8) (i:Nat) (acc:List UInt8),l.length<f->l.length<g->bY f l i acc=bY g l i acc
 | 0,_,l,_,_,h,_=>by omega
 | _,0,l,_,_,_,h=>by omega
 | _+1,_+1,[],_,_,_,_=>rfl
 | f+1,g+1,c::r,i,acc,hf,hg=>by
  rw[nR,nR];split
  ·rfl
  ·split
   ·rfl
   ·have hp:=nP (c::r) (List.cons_ne_nil _ _);exact Fk f g _ _ _ (by rw[aV];omega) (by rw[aV];omega)
theorem Qh (s:List UInt8) (a:Nat) (ha:a<=s.length):bN s a=((bN (s.drop a) 0).1,(bN (s.drop a) 0).2.1+a,(bN (s.drop a) 0).2.2):=by
 unfold bN;rw[fC,Int.toNat_zero,iI,Nat.add_zero];by_cases h:s[a]?=some 34
 ·rw[if_pos ⟨by omega,h⟩,if_pos ⟨by omega,h⟩,kB,show a+(0+1)=a+1 by omega];have hl:=(aQ.1 h).1;rw[Fk (s.length+1) ((s.drop a).length+1) _ _ _ (by rw[aV];omega) (by rw[aV,aV];omega)];have:=Fj ((s.drop a).length+1) (s.drop (a+1)) (0+1) a [];rw[show 0+1+a=a+1 by omega] at this;exact this
 ·rw[if_neg (λg=>h g.2),if_neg (λg=>h g.2)];simp
theorem xF (l:List UInt8) (h:(bN l 0).2.2=0):0<(bN l 0).2.1/\(bN l 0).2.1<=l.length:=by
 unfold bN at h ⊢;by_cases h1:0<=(0:Int)/\l[(0:Int).toNat]?=some 34
 ·rw[if_pos h1] at h ⊢;have:=tK _ _ _ _ h;rw[aV] at this;have hl:=(aQ.1 h1.2).1;simp only[Int.toNat_zero] at this hl ⊢;omega
 ·rw[if_neg h1] at h;exact absurd h (by simp)
theorem Fl (l l':List UInt8) (h:(bN l 0).2.2=0) (ht:l.take (bN l 0).2.1.toNat=l'.take (bN l 0).2.1.toNat):bN l' 0=bN l 0:=by
 have hok:=xF l h;have hh:l[0]?=l'[0]?:=zW ht 0 (by omega);unfold bN at h ht hok ⊢;simp only[Int.toNat_zero] at h ht hok ⊢;by_cases h1:0<=(0:Int)/\l[0]?=some 34
 ·rw[if_pos h1] at h ht hok ⊢;rw[if_pos ⟨h1.1,by rw[<-hh];exact h1.2⟩];refine Fi _ _ _ _ _ _ h ?_ (by rw[aV];omega);refine rP ht (0+1) _ ?_;omega
 ·rw[if_neg h1] at h;exact absurd h (by simp)
def bA (p:UInt8->Bool) (l:List UInt8):Nat:=(l.takeWhile p).length
def bR (c:UInt8):Bool:=c==32||c==9||c==10||c==13
def gD (c:UInt8):Bool:=dR c||c==45||c==43||c==46||c==101||c==69
def dS (c:UInt8):Bool:=decide (97<=c.toNat/\c.toNat<=122)
def jG (c:UInt8):Option Nat:=if c=123 then some 0 else if c=125 then some 1 else if c=91 then some 2 else if c=93 then some 3 else if c=44 then some 4 else if c=58 then some 5 else none
def iT (l:List UInt8):Nat:=if l= [116,114,117,101] then 10 else if l= [102,97,108,115,101] then 11 else if l= [110,117,108,108] then 12 else 0
def bB (l:List UInt8):Nat×Nat×Int:=
 match l with
 | []=>(0,0,2)
 | c::_=>match jG c with
  | some k=>(2+k,1,0)
  | none=>if bR c then(1,bA bR l,0) else if c=34 then(if(bN l 0).2.2=0 then(8,(bN l 0).2.1.toNat,0) else(0,(bN l 0).2.1.toNat,(bN l 0).2.2)) else
   if c=45\/dR c=true then(if(cZ (l.take (bA gD l))).2=0 then(9,bA gD l,0) else(0,0,(cZ (l.take (bA gD l))).2)) else
   if iT (l.take (bA dS l))=0 then(0,0,2) else(iT (l.take (bA dS l)),bA dS l,0)
theorem mO (p:UInt8->Bool) (l:List UInt8):bA p l<=l.length:=(List.takeWhile_sublist _).length_le
theorem jO (p:UInt8->Bool) (c:UInt8) (l:List UInt8):bA p (c::l)=if p c then bA p l+1 else 0:=by
 unfold bA;rw[List.takeWhile_cons];split<;>rfl
theorem zY (p:UInt8->Bool) (d:UInt8) (b:List UInt8) (hd:p d=false): ∀l:List UInt8,bA p (l++d::b)=bA p l
 | []=>by rw[iL,jO,hd];rfl
 | c::l=>by
  rw[dH,jO,jO,zY p d b hd l]
theorem Fm (c:UInt8) (k:Nat) (h:jG c=some k):k<=5:=by
 unfold jG at h
 repeat' split at h
 all_goals first | (injection h with h;omega) | cases h
theorem Fo (l:List UInt8):iT l=0\/(10<=iT l/\iT l<=12/\0<l.length):=by
 unfold iT;split
 ·rename_i h;right;rw[h];simp
 ·split
  ·rename_i h;right;rw[h];simp
  ·split
   ·rename_i h;right;rw[h];simp
   ·left;rfl
theorem Fp (l:List UInt8):0<=(bN l 0).2.1/\(bN l 0).2.1<=l.length:=by
 have hgo: ∀(f:Nat) (l:List UInt8) (i:Nat) (acc:List UInt8),(i:Int)<=(bY f l i acc).2.1/\(bY f l i acc).2.1<=i+l.length:=by
  intro f
  induction f with
  | zero=>intro l i acc;simp[bY];omega
  | succ f ih=>
   intro l i acc;cases l with
   | nil=>simp[bY]
   | cons c r=>
    rw[nR];split
    ·simp only[aT];omega
    ·split
     ·simp only[aT];omega
     ·have hp:=nP (c::r) (List.cons_ne_nil _ _);have:=ih ((c::r).drop (cI (c::r)).2.toNat) (i+(cI (c::r)).2.toNat) (acc++encodeRune (cI (c::r)).1);rw[aV] at this;omega
 unfold bN;by_cases h1:0<=(0:Int)/\l[(0:Int).toNat]?=some 34
 ·rw[if_pos h1];have:=hgo (l.length+1) (l.drop ((0:Int).toNat+1)) ((0:Int).toNat+1) [];rw[aV] at this;have hl:=(aQ.1 h1.2).1;simp only[Int.toNat_zero] at this hl ⊢;omega
 ·rw[if_neg h1];simp
theorem nS (l:List UInt8) (hne:l≠ []):(bB l).2.1<=l.length/\((bB l).2.2=0->1<=(bB l).1/\(bB l).1<=12/\0<(bB l).2.1):=by
 cases l with
 | nil=>exact absurd rfl hne
 | cons c r=>
  unfold bB;simp only[];cases hs:jG c with
  | some k=>
   have:=Fm c k hs;simp only[];exact⟨by simp,λ_=>⟨by omega,by omega,by omega⟩⟩
  | none=>
   simp only[];split
   ·rename_i hb;have:=mO bR (c::r);refine⟨this,λ_=>⟨by simp,by simp,?_⟩⟩;rw[jO,if_pos hb];simp
   ·split
    ·have hr:=Fp (c::r);split
     ·rename_i h0;have:=xF (c::r) h0;exact⟨by simp only[];omega,λ_=>⟨by simp,by simp,by simp only[];omega⟩⟩
     ·rename_i h0;exact⟨by simp only[];omega,λh=>absurd h h0⟩
    ·split
     ·rename_i hd;have hnb:gD c=true:=by
       unfold gD;rcases hd with rfl | hd
       ·decide
       ·rw[hd];rfl
      split
      ·refine⟨mO _ _,λ_=>⟨by simp,by simp,?_⟩⟩;simp only[];rw[jO,if_pos hnb];simp
      ·rename_i h0;exact⟨by simp,λh=>absurd h h0⟩
     ·have hw:=Fo ((c::r).take (bA dS (c::r)));split
      ·exact⟨by simp,λh=>absurd h (by simp)⟩
      ·rename_i h0;rcases hw with hw | hw
       ·exact absurd hw h0
       ·refine⟨mO _ _,λ_=>⟨by simp only[];omega,by simp only[];omega,?_⟩⟩;have:=hw.2.2;rw[cF] at this;simp only[];omega
structure aL where
 kind:Nat
 sf:Nat
 st:Nat
deriving DecidableEq
def bS:Nat->List UInt8->Nat->List aL×Option (Nat×Int)
 | 0,_,_=>([],none)
 | _+1,[],_=>([],none)
 | f+1,c::r,i=>if(bB (c::r)).2.2=0 then(⟨(bB (c::r)).1,i,i+(bB (c::r)).2.1⟩::(bS f ((c::r).drop (bB (c::r)).2.1) (i+(bB (c::r)).2.1)).1,(bS f ((c::r).drop (bB (c::r)).2.1) (i+(bB (c::r)).2.1)).2) else([],some (i+(bB (c::r)).2.1,(bB (c::r)).2.2))
def dT (s:List UInt8):List aL×Int×Int:=
 if 65536<s.length then([],0,3) else match (bS s.length s 0).2 with
 | none=>((bS s.length s 0).1,(s.length:Int),0)
 | some (p,e)=>([],(p:Int),e)
theorem iU (f:Nat) (c:UInt8) (r:List UInt8) (i:Nat):bS (f+1) (c::r) i=if(bB (c::r)).2.2=0 then(⟨(bB (c::r)).1,i,i+(bB (c::r)).2.1⟩::(bS f ((c::r).drop (bB (c::r)).2.1) (i+(bB (c::r)).2.1)).1,(bS f ((c::r).drop (bB (c::r)).2.1) (i+(bB (c::r)).2.1)).2) else([],some (i+(bB (c::r)).2.1,(bB (c::r)).2.2)):=rfl
theorem lM (f i:Nat):bS f [] i=([],none):=by cases f<;>rfl
theorem zZ: ∀(f g:Nat) (l:List UInt8) (i:Nat),l.length<=f->l.length<=g->bS f l i=bS g l i
 | f,g,[],i,_,_=>by rw[lM,lM]
 | 0,_,_::_,_,h,_=>by simp at h
 | _,0,_::_,_,_,h=>by simp at h
 | f+1,g+1,c::r,i,hf,hg=>by
  rw[iU,iU];by_cases h:(bB (c::r)).2.2=0
  ·have hok:=(nS (c::r) (List.cons_ne_nil _ _)).2 h;have hlc:(c::r).length=r.length+1:=rfl;rw[if_pos h,if_pos h,zZ f g _ _ (by rw[aV];omega) (by rw[aV];omega)]
  ·rw[if_neg h,if_neg h]
theorem xG: ∀(f:Nat) (l:List UInt8) (i p:Nat) (e:Int),l.length<=f->(bS f l i).2=some (p,e)->i<=p/\p<=i+l.length/\e≠0
 | f,[],i,_,_,_,h=>by rw[lM] at h;cases h
 | 0,_::_,_,_,_,h,_=>by simp at h
 | f+1,c::r,i,p,e,hf,h=>by
  rw[iU] at h;have hle:=(nS (c::r) (List.cons_ne_nil _ _)).1;by_cases h0:(bB (c::r)).2.2=0
  ·rw[if_pos h0] at h;have hok:=(nS (c::r) (List.cons_ne_nil _ _)).2 h0;have hlc:(c::r).length=r.length+1:=rfl;have:=xG f _ _ p e (by rw[aV];omega) h;rw[aV] at this;omega
  ·rw[if_neg h0] at h;simp only[cS,Prod.mk.injEq] at h;obtain⟨rfl,rfl⟩:=h;exact⟨by omega,by omega,h0⟩
def kF (n:Nat) (t:aL):aL:=⟨t.kind,t.sf+n,t.st+n⟩
theorem Fq: ∀(f:Nat) (l:List UInt8) (i k:Nat),bS f l (i+k)=((bS f l i).1.map (kF k),(bS f l i).2.map λx=>(x.1+k,x.2))
 | f,[],i,k=>by rw[lM,lM];rfl
 | 0,_::_,_,_=>rfl
 | f+1,c::r,i,k=>by
  rw[iU,iU];by_cases h0:(bB (c::r)).2.2=0
  ·rw[if_pos h0,if_pos h0,show i+k+(bB (c::r)).2.1=(i+(bB (c::r)).2.1)+k by omega,Fq f _ _ k];simp only[kD,Prod.mk.injEq,and_true,List.cons.injEq];simp only[kF,aL.mk.injEq,and_true,true_and]
  ·rw[if_neg h0,if_neg h0];simp only[List.map_nil,Option.map_some,cS,Prod.mk.injEq,true_and,and_true];omega
theorem xH: ∀(f:Nat) (l:List UInt8) (i:Nat) (acc:List UInt8),
  ((i:Int)<=(bY f l i acc).2.1/\(bY f l i acc).2.1<=i+l.length)/\((bY f l i acc).2.2=0\/((bY f l i acc).2.2=2/\(bY f l i acc).1= []))
 | 0,_,_,_=>⟨by simp[bY];omega, .inr ⟨rfl,rfl⟩⟩
 | _+1,[],_,_=>⟨by simp[bY], .inr ⟨rfl,rfl⟩⟩
 | f+1,c::r,i,acc=>by
  unfold bY;split
  ·exact⟨by simp;omega, .inl rfl⟩
  ·split
   ·exact⟨by simp;omega, .inr ⟨rfl,rfl⟩⟩
   ·rename_i h2;have hp:=nP (c::r) (List.cons_ne_nil _ _);obtain⟨P,hP⟩:=exQ<|cI (c::r);rw[hP] at hp h2 ⊢;have:=xH f ((c::r).drop P.2.toNat) (i+P.2.toNat) (acc++encodeRune P.1);rw[aV] at this;refine⟨?_,this.2⟩;have h3:=this.1;simp only[aT] at h3 hp ⊢;omega
abbrev Sp:=Nat×Nat
structure aD where
 kind:Nat
 sf:Nat
 st:Nat
 key:Sp
 kids:List Nat
 pcs:List Sp
deriving DecidableEq
inductive JR where
 | ok (rest:List aL) (last:Sp) (nodes:List aD)
 | bad (at':Nat) (er:Int)
def eP:List aL->Nat
 | []=>0
 | t::_=>t.kind
def eQ (n:Nat):List aL->Nat
 | []=>n
 | t::_=>t.sf
def cJ (k:Nat):Nat:=if k=12 then 1 else if k=10\/k=11 then 2 else if k=9 then 3 else if k=8 then 4 else if k=4 then 5 else if k=2 then 6 else 0
def iM (f:aD->aD):Nat->List aD->List aD
 | _,[]=> []
 | 0,x::l=>f x::l
 | n+1,x::l=>x::iM f n l
def dU (n kid:Nat) (pc:Sp) (l:List aD):List aD:=iM (λx=> { x with kids:=x.kids++ [kid],pcs:=x.pcs++ [pc] }) n l
def jP (n e:Nat) (l:List aD):List aD:=iM (λx=> { x with st:=e }) n l
abbrev VF:=List aL->Sp->List aD->Sp->JR
def gE (txt:List UInt8) (V:VF) (obj:Bool) (had:List (List UInt8)) (rest:List aL) (last:Sp) (nodes:List aD):JR×List (List UInt8):=
 if obj=false then(V rest last nodes (0,0),had) else match rest with
  | []=>(.bad txt.length 2,had)
  | t::r=>
   if t.kind≠8 then(.bad t.sf 2,had) else
   if(fW ((txt.drop t.sf).take (t.st-t.sf))).1∈had then(.bad t.sf 7,had) else
   match r with
   | []=>(.bad txt.length 2,(fW ((txt.drop t.sf).take (t.st-t.sf))).1::had)
   | c::r2=>if c.kind≠7 then(.bad c.sf 2,(fW ((txt.drop t.sf).take (t.st-t.sf))).1::had) else
    (V r2 (c.sf,c.st) nodes (t.sf,t.st),(fW ((txt.drop t.sf).take (t.st-t.sf))).1::had)
def iA (txt:List UInt8) (V:VF) (closing:Nat) (obj:Bool) (n:Nat):Nat->List (List UInt8)->List aL->Sp->List aD->JR
 | 0,_,_,_,_=> .bad 0 0
 | f+1,had,rest,last,nodes=>match gE txt V obj had rest last nodes with
  | (.bad a e,_)=> .bad a e
  | (.ok r l ns,had')=>match r with
   | []=> .bad txt.length 2
   | t::r'=>if t.kind=closing then .ok r' (t.sf,t.st) (dU n nodes.length (last.2,t.sf) ns) else
    if t.kind=6 then iA txt V closing obj n f had' r' (t.sf,t.st) (dU n nodes.length (last.2,t.sf) ns) else .bad t.sf 2
def gS (txt:List UInt8) (V:VF) (closing:Nat) (obj:Bool) (n:Nat) (rest:List aL) (last:Sp) (nodes:List aD):JR:=
 match rest with
 | []=>iA txt V closing obj n 1 [] rest last nodes
 | t::r=>if t.kind=closing then .ok r (t.sf,t.st) nodes else iA txt V closing obj n (rest.length+1) [] rest last nodes
def mC (n:Nat):JR->JR
 | .ok r l ns=> .ok r l (jP n l.2 ns)
 | .bad a e=> .bad a e
def bP (txt:List UInt8):Nat->VF
 | 0,rest,last,nodes,key=>if cJ (eP rest)=0 then .bad (eQ txt.length rest) 2 else .bad (eQ txt.length rest) 5
 | lv+1,rest,last,nodes,key=>if cJ (eP rest)=0 then .bad (eQ txt.length rest) 2 else
  if nodes.length=4096 then .bad (eQ txt.length rest) 6 else match rest with
  | []=> .bad 0 0
  | t::r=>mC nodes.length (
   if t.kind=4 then gS txt (bP txt lv) 5 false nodes.length r (t.sf,t.st) (nodes++ [⟨cJ t.kind,t.sf,t.st,key,[],[]⟩]) else
   if t.kind=2 then gS txt (bP txt lv) 3 true nodes.length r (t.sf,t.st) (nodes++ [⟨cJ t.kind,t.sf,t.st,key,[],[]⟩]) else
   .ok r (t.sf,t.st) (nodes++ [⟨cJ t.kind,t.sf,t.st,key,[],[]⟩]))
def eC (s:List UInt8):List aD×Int×Int:=
 if(dT s).2.2≠0 then([],(dT s).2.1,(dT s).2.2) else
  match bP s 32 ((dT s).1.filter (λt=>t.kind !=1)) (0,0) [] (0,0) with
  | .bad a e=>([],(a:Int),e)
  | .ok [] _ ns=>(ns,(s.length:Int),0)
  | .ok (t::_) _ _=>([],(t.sf:Int),2)
theorem pO (f:aD->aD): ∀(n:Nat) (l:List aD),(iM f n l).length=l.length
 | _,[]=>by simp[iM]
 | 0,x::l=>rfl
 | n+1,x::l=>by rw[iM,aT,pO f n l,aT]
theorem tL (f:aD->aD): ∀(n:Nat) (l:List aD) (j:Nat),(iM f n l)[j]?=if j=n then(l[j]?).map f else l[j]?
 | n,[],j=>by cases n<;>simp[iM]
 | 0,x::l,0=>rfl
 | 0,x::l,j+1=>by simp[iM]
 | n+1,x::l,0=>by simp[iM]
 | n+1,x::l,j+1=>by
  rw[iM,cD,cD,tL f n l j];simp
theorem uX (f:aD->aD): ∀(pre:List aD) (x:aD) (post:List aD),iM f pre.length (pre++x::post)=pre++f x::post
 | [],x,post=>rfl
 | y::pre,x,post=>by
  show y::iM f pre.length (pre++x::post)=_;rw[uX f pre x post];rfl
def uY (n:Nat) (l:List aD):Prop:= ∀y∈l,y.kids.length<=n/\y.pcs.length<=n
def qQ (V:VF):Prop:= ∀rest last nodes key r l ns,V rest last nodes key= .ok r l ns-> ∃more,ns=nodes++more/\1<=more.length/\more.length+r.length<=rest.length/\(∃k,r=rest.drop k)/\uY more.length more
theorem xI {txt:List UInt8}{V:VF} (hV:qQ V) {obj:Bool}{had:List (List UInt8)}{rest:List aL}{last:Sp}{nodes:List aD}{r:List aL}{l:Sp}{ns:List aD}{had':List (List UInt8)}
  (h:gE txt V obj had rest last nodes=(.ok r l ns,had')): ∃more,ns=nodes++more/\1<=more.length/\more.length+r.length<=rest.length/\(∃k,r=rest.drop k)/\uY more.length more:=by
 unfold gE at h;split at h
 ·injection h with h _;exact hV _ _ _ _ _ _ _ h
 ·split at h
  ·injection h with h _;cases h
  ·rename_i t q;split at h
   ·injection h with h _;cases h
   ·split at h
    ·injection h with h _;cases h
    ·split at h
     ·injection h with h _;cases h
     ·rename_i c r2;split at h
      ·injection h with h _;cases h
      ·injection h with h _;obtain⟨more,h1,h2,h3,⟨k,h4⟩,h5⟩:=hV _ _ _ _ _ _ _ h;exact⟨more,h1,h2,by simp only[aT];omega,⟨k+2,by rw[h4];rfl⟩,h5⟩
def fJ (pre:List aD) (x:aD) (post:List aD) (nodes:List aD):Prop:=nodes=pre++x::post/\x.kids.length<=post.length/\x.pcs.length<=post.length/\uY post.length post
theorem fJ.add {pre:List aD}{x:aD}{post nodes more:List aD} (h:fJ pre x post nodes) (hm:uY more.length more) (h1:1<=more.length) (k:Nat) (pc:Sp):
  fJ pre { x with kids:=x.kids++ [k],pcs:=x.pcs++ [pc] } (post++more) (dU pre.length k pc (nodes++more)):=by
 obtain⟨rfl,h2,h3,h4⟩:=h;refine⟨?_,?_,?_,?_⟩
 ·unfold dU;rw[pN,dH,uX]
 ·simp only[aS,aT,gR];omega
 ·simp only[aS,aT,gR];omega
 ·intro y hy;rw[aS];rcases pP.1 hy with hy | hy
  ·have:=h4 y hy;omega
  ·have:=hm y hy;omega
theorem Aa {txt:List UInt8}{V:VF} (hV:qQ V) {closing:Nat}{obj:Bool}{pre:List aD}: ∀(f:Nat) {had:List (List UInt8)}{rest:List aL}{last:Sp}{nodes:List aD}{r:List aL}{l:Sp}{ns:List aD}{x:aD}{post:List aD},
  fJ pre x post nodes->iA txt V closing obj pre.length f had rest last nodes= .ok r l ns-> ∃x' post',fJ pre x' post' ns/\x'.kind=x.kind/\x'.sf=x.sf/\x'.key=x.key/\post.length<post'.length/\post'.length+r.length<post.length+rest.length/\ ∃k,r=rest.drop k
 | 0,_,_,_,_,_,_,_,_,_,_,h=>by cases h
 | f +1,had,rest,last,nodes,r,l,ns,x,post,hm,h=>by
  unfold iA at h;split at h
  ·cases h
  ·rename_i r1 l1 ns1 had1 hk;obtain⟨more,rfl,h2,h3,⟨k,h4⟩,h5⟩:=xI hV hk;split at h
   ·cases h
   ·rename_i t r';simp only[aT] at h3;have hr':r'=rest.drop (k+1):=by rw[<-kB,<-h4];rfl
    have hm2:=hm.add h5 h2 nodes.length (last.2,t.sf);split at h
    ·injection h with e1 e2 e3;subst e1;subst e3;exact⟨_,_,hm2,rfl,rfl,rfl,by rw[aS];omega,by rw[aS];omega,_,hr'⟩
    ·split at h
     ·obtain⟨x',post',i1,i2,i3,i4,i5,i6,k2,i7⟩:=Aa hV f hm2 h;rw[aS] at i5 i6;exact⟨x',post',i1,i2,i3,i4,by omega,by omega,k+1+k2,by rw[i7,hr',kB]⟩
     ·cases h
theorem xJ {txt:List UInt8}{V:VF} (hV:qQ V) {closing:Nat}{obj:Bool}{pre:List aD}{rest:List aL}{last:Sp}{nodes:List aD}{r:List aL}{l:Sp}{ns:List aD}{x:aD}{post:List aD}
  (hm:fJ pre x post nodes) (h:gS txt V closing obj pre.length rest last nodes= .ok r l ns): ∃x' post',fJ pre x' post' ns/\x'.kind=x.kind/\x'.sf=x.sf/\x'.key=x.key/\post.length<=post'.length/\post'.length+r.length<=post.length+rest.length/\ ∃k,r=rest.drop k:=by
 unfold gS at h;split at h
 ·obtain⟨x',post',i1,i2,i3,i4,i5,i6,i7⟩:=Aa hV _ hm h;exact⟨x',post',i1,i2,i3,i4,by omega,by omega,i7⟩
 ·rename_i t q;split at h
  ·injection h with h1 h2 h3;subst h1 h3;exact⟨x,post,hm,rfl,rfl,rfl,aE _,by simp only[aT];omega,1,rfl⟩
  ·obtain⟨x',post',i1,i2,i3,i4,i5,i6,i7⟩:=Aa hV _ hm h;exact⟨x',post',i1,i2,i3,i4,by omega,by omega,i7⟩
theorem Qi {pre:List aD}{x:aD}{post nodes:List aD} (h:fJ pre x post nodes) (e:Nat):fJ pre { x with st:=e } post (jP pre.length e nodes):=by
 obtain⟨rfl,h2,h3,h4⟩:=h;exact⟨by unfold jP;rw[uX],h2,h3,h4⟩
theorem mP (txt:List UInt8): ∀lv,qQ (bP txt lv)
 | 0=>λrest last nodes key r l ns h=>by
  unfold bP at h;split at h<;>cases h
 | lv +1=>λrest last nodes key r l ns h=>by
  have ih:=mP txt lv;cases rest with
  | nil=>
   unfold bP at h;rw[if_pos (show cJ (eP [])=0 from rfl)] at h;cases h
  | cons t q=>
   unfold bP at h;split at h
   ·cases h
   ·split at h
    ·cases h
    ·simp only[] at h;have key2: ∀x:JR,mC nodes.length x= .ok r l ns-> ∃ns',x= .ok r l ns'/\ns=jP nodes.length l.2 ns':=by
      intro x hx;cases x with
      | bad a e=>cases hx
      | ok r' l' ns'=>
       injection hx with h1 h2 h3;subst h1 h2;exact⟨ns',rfl,h3.symm⟩
     obtain⟨ns',h1,rfl⟩:=key2 _ h;have hm0:fJ nodes ⟨cJ t.kind,t.sf,t.st,key,[],[]⟩ [] (nodes++ [⟨cJ t.kind,t.sf,t.st,key,[],[]⟩]):=⟨rfl,aE _,aE _,λy hy=>by cases hy⟩;have fin: ∀ {x':aD}{post':List aD},fJ nodes x' post' ns'->post'.length+r.length<=q.length->(∃k,r=q.drop k)-> ∃more,jP nodes.length l.2 ns'=nodes++more/\1<=more.length/\more.length+r.length<=(t::q).length/\(∃k,r=(t::q).drop k)/\uY more.length more:=by
      intro x' post' hm hl ⟨k,hk⟩;obtain⟨e1,e2,e3,e4⟩:=Qi hm l.2;refine⟨_,e1,by simp,by simp only[aT];omega,⟨k+1,by rw[hk];rfl⟩,λy hy=>?_⟩;simp only[aT];rcases dN.1 hy with rfl | hy
      ·exact⟨by omega,by omega⟩
      ·have:=e4 y hy;omega
     split at h1
     ·obtain⟨x',post',i1,_,_,_,_,i6,i7⟩:=xJ ih hm0 h1;exact fin i1 (by simpa using i6) i7
     ·split at h1
      ·obtain⟨x',post',i1,_,_,_,_,i6,i7⟩:=xJ ih hm0 h1;exact fin i1 (by simpa using i6) i7
      ·injection h1 with h2 h3 h4;subst h2 h4;exact fin hm0 (by simp) ⟨0,rfl⟩
end Go.Proofs.YtaifnmjjpddikaaGreatDoor
