import Derived.Test.YtjnooaljcgkfpaaGreatDoorBk2
import Derived.Lib.MapLaws
import Derived.Lib.ValidLaws
import Derived.Lib.RuneBytes
import Derived.Lib.TrimAscii
import Derived.Test.YtjnooaljcgkfpaaGreatDoorBk1
set_option maxRecDepth 100000
set_option maxHeartbeats 4000000
namespace Go.Proofs.YtjnooaljcgkfpaaGreatDoor
set_option linter.unusedVariables false
set_option linter.unusedSimpArgs false
section
open Go.RowKit
open Go.Lib hiding intOf
def cN:Nat->List UInt8->Nat->List UInt8->List UInt8×Int×Int
 | 0,_,i,_=>([],(i:Int),2)
 | _+1,[],i,_=>([],(i:Int),2)
 | f+1,c::r,i,acc=>if c=34 then(acc,(i:Int)+1,0) else if(dE (c::r)).2=0 then([],(i:Int),2) else
  cN f ((c::r).drop (dE (c::r)).2.toNat) (i+(dE (c::r)).2.toNat) (acc++Lib.encodeRune (dE (c::r)).1)
def bZ (l:List UInt8) (at':Int):List UInt8×Int×Int:=
 if 0<=at'/\l[at'.toNat]?=some 34 then cN (l.length+1) (l.drop (at'.toNat+1)) (at'.toNat+1) [] else([],at',2)
def lR (r:List UInt8×Int×Int):Ending:= .returned (.tuple #[.string (bs r.1), .int .i64 r.2.1, .int .i64 r.2.2])
theorem Vj (l:List UInt8):0<=(mD l).1/\(mD l).1<=1114111/\((mD l).2=0\/(1<=(mD l).2/\(mD l).2<=l.length)):=by
 unfold mD;cases h1:iL (l.drop 2) with
 | none=>simp
 | some h=>
  obtain⟨h2,c⟩:=wT h1;rw[aZ] at c;simp only[];split
  ·simp
  ·split
   ·simp only[];omega
   ·split
    ·simp
    ·cases h4:iL (l.drop 8) with
     | none=>simp
     | some lo=>
      obtain⟨h5,d⟩:=wT h4;rw[aZ] at d;simp only[];split
      ·simp
      ·simp only[];omega
theorem Vk (n:Int):0<=(kT n).1/\(kT n).1<=1114111:=by
 unfold kT
 repeat' split
 all_goals simp
theorem tH (l:List UInt8) (hne:l≠ []):0<=(dE l).1/\(dE l).1<=1114111/\((dE l).2=0\/(1<=(dE l).2/\(dE l).2<=l.length)):=by
 unfold dE;split
 ·unfold pI;cases h:l[1]? with
  | none=>simp
  | some c=>
   have hl:1<l.length:=(aP.1 h).1;have hm:=Vk c.toNat;simp only[];split
   ·simp only[];omega
   ·split
    ·exact Vj l
    ·simp
 ·split
  ·simp
  ·have d:=oH (bs l) 0;rw[aW,List.drop_zero] at d;have f:=rX (bs l) 0;have e:0<(bs l).size:=by rw[aQ];cases l with | nil=>exact absurd rfl hne | cons _ _=>simp
   have g:=pE (bs l) 0 e;have sl:=aQ l;unfold bG at f;unfold bB at g;rw[d];simp only[];omega
theorem Ja (l:List UInt8) (a:Nat) (w:World) (hs:l.length<=1073741824) (ha:a<=l.length) (hV:dC w) (hT:cD w):
  Calls Tryz.prog 175 #[.string (bs l), .int .i64 a] w λe w'=>e=lR (bZ l a)/\Below w.heap.size w w':=by
 have sl:=aQ l;obtain⟨R,t⟩:=exQ<|bZ l a;rw[t];unfold bZ at t;rw[eU] at t;have I:=hid hV;have J:=hid hT;clear hV hT;by_cases h34:l[a]?=some 34
 ·rw [if_pos ⟨by omega,h34⟩] at t;have G:a<l.length:=(aP.1 h34).1;have c:a<(bs l).size:=by omega
  have t1:((((bs l)[a]'c).toNat:Int) !=34)=false:=by
   have:=rZ l a c;rw[h34] at this;have v:(bs l)[a]'c=34:=(by simpa using this.symm);rw[v];rfl
  have d1:decide (l.length<=a)=false:=aJ (by omega);have L:=hid t;clear t h34;go_enter Tryz.func175,Tryz.ntmps175;go_wp2_with fail;go_loopw [1,8,9] (λs1 _ _ wr=> ∃(i f:Nat) (acc:List UInt8),s1= .int .i64 i/\i<=l.length/\acc.length<=4*i/\l.length<i+f/\Hid (cN f (l.drop i) i acc=R)/\Hid (iM w.heap.size w.heap.size acc wr)/\Hid (Below w.heap.size w wr)) (λs1 _ _ _=>l.length-(RowKit.intOf s1).toNat)
  case atStart=>exact⟨a+1,l.length+1,[],by go_num,by omega,by simp,by omega,L.out,iM.new w,aH w _⟩
  case round=>
   obtain⟨i,f,acc,rfl,hi,hacc,hf,C,B,q⟩:=hrel;obtain⟨g,rfl⟩: ∃g,f=g+1:=⟨f-1,by omega⟩;by_cases hlt:i<l.length
   ·have j:i<(bs l).size:=(by omega);have o:l.drop i=l[i]'hlt::l.drop (i+1):=iJ hlt;have r:=rZ l i j;rw[bH hlt] at r;have k:(bs l)[i]'j=l[i]'hlt:=(by simpa using r.symm);have T34:=Cv ((bs l)[i]'j) 34 34 rfl;have d:=C.out;rw[o] at d;unfold cN at d;rw[<-o,<-k] at d;clear C;by_cases hq:(bs l)[i]'j=34
    ·rw[if_pos hq] at d;have z:=hid d;rw[beq_iff_eq.2 hq] at T34;clear d o r k hq;go_wp2_with fail;refine(Tryz.Builder_String_any_k w.heap.size w.heap.size acc _ B.out q.out.size).mono ?_;rintro e W1 ⟨rfl,_,b1,_⟩;go_wp2_with fail;go_ret3;exact⟨by rw[<-z.out];rfl,q.out.trans b1⟩
    ·rw[if_neg hq] at d;rw[aG.2 hq] at T34;have u:l.drop i≠ []:=by rw[o];exact List.cons_ne_nil _ _
     have s:=tH (l.drop i) u;rw[aZ] at s;obtain⟨P,hP⟩:=exQ<|dE (l.drop i);obtain⟨rn,wd⟩:=P;have CP:Hid (∀w,dC w->cD w->Calls Tryz.prog 199 #[.string ((bs l).extract i l.length)] w λe w'=>e= .returned (.tuple #[.int .i32 rn, .int .i64 wd])/\Below w.heap.size w w'):=hid (λw K v=>by have:=Vh (l.drop i) w u (by rw[aZ];omega) K v;rw[hP] at this;rw[mV _ _ _ rfl];exact this);rw[hP] at d s;simp only[] at d s;obtain⟨p0,p1,p2⟩:=s;have H:w.heap.size<=wr.heap.size:=q.out.size;clear o r k hq u hP;by_cases hw0:wd=0
     ·rw[if_pos hw0] at d;have z:=hid d;subst hw0;clear d p2;go_wp2_with fail;refine(CP.out _ (I.out.keep q.out) (J.out.keep q.out)).mono ?_;rintro e w1 ⟨rfl,p⟩;go_wp2_with fail;go_ret3;exact⟨by rw[<-z.out];rfl,q.out.trans (p.mono H)⟩
     ·rw[if_neg hw0] at d;obtain⟨N,rfl⟩: ∃N:Nat,wd=N:=⟨wd.toNat,by omega⟩;rw[eU,lP] at d;have hN:1<=N/\N<=l.length-i:=(by omega);have E:=Lib.runeCells_le rn;rw[Lib.runeCells_length] at E;have hw1:((N:Int)==0)=false:=aG.2 hw0;have D:=hid d;clear d hw0 p2;go_wp2_with fail;refine(CP.out _ (I.out.keep q.out) (J.out.keep q.out)).mono ?_;rintro e w1 ⟨rfl,p⟩;have A:=hid (B.out.keep p);have x:=hid (q.out.trans (p.mono H));clear p;go_wp2_with fail;refine(wU w.heap.size w.heap.size acc rn _ A.out ⟨p0,p1⟩ (by omega) x.out.size).mono ?_;rintro e w2 ⟨rfl,v,b2,_⟩;have y:=hid v;have F:=hid (x.out.trans b2);clear v b2;go_wp2_with fail;go_roundw
      case rel=>exact⟨i+N,g,acc++Lib.encodeRune rn,by go_num,by omega,by rw[aI];omega,by omega,D.out,y.out,F.out⟩
      case measure=>simp[RowKit.intOf];omega
   ·have d:=C.out;rw[List.drop_of_length_le (by omega)] at d;have z:=hid (show ([],(i:Int),2)=R from d);obtain rfl:i=l.length:=(by omega);clear d C;go_wp2_with fail;go_ret3;exact⟨by rw[<-z.out];rfl,q.out⟩
 ·rw[if_neg (λh=>h34 h.2)] at t;subst t;by_cases G:a<l.length
  ·have c:a<(bs l).size:=(by omega);have t1:((((bs l)[a]'c).toNat:Int) !=34)=true:=by
    rw[gP];intro h;apply h34;rw[rZ l a c];have:((bs l)[a]'c)=34:=UInt8.toNat_inj.1 (by show _=34;omega);rw[this]
   clear h34;go_enter Tryz.func175,Tryz.ntmps175;go_wp2_with fail;go_ret3;exact⟨rfl,aB _ _⟩
  ·clear h34;go_enter Tryz.func175,Tryz.ntmps175;go_wp2_with fail;go_ret3;exact⟨rfl,aB _ _⟩
def fW (l:List UInt8):List UInt8×Int×Int:=
 if(bZ l 0).2.2=0/\(bZ l 0).2.1<l.length then([],(bZ l 0).2.1,2) else bZ l 0
def mW (l:List UInt8) (a:Int):Int×Int:=if a<0\/(l.length:Int)<a then(0,2) else((bZ l a).2.1,(bZ l a).2.2)
theorem Jb (l:List UInt8) (a:Int) (w:World) (hs:l.length<=1073741824) (hV:dC w) (hT:cD w):
  Calls Tryz.prog 194 #[.string (bs l), .int .i64 a] w λe w'=>e= .returned (.tuple #[.int .i64 (mW l a).1, .int .i64 (mW l a).2])/\Below w.heap.size w w':=by
 have sl:=aQ l;unfold mW;by_cases h:a<0\/(l.length:Int)<a
 ·rw[if_pos h];rcases h with h | h
  all_goals
   go_enter Tryz.func194,Tryz.ntmps194;go_wp2_with fail;go_ret2;exact⟨rfl,aB _ _⟩
 ·rw[if_neg h];have h1:0<=a:=by omega
  have h2:a<=l.length:=by omega
  have C:=Ja l a.toNat w hs (by omega) hV hT;rw[show ((a.toNat:Nat):Int)=a by omega] at C;obtain⟨R,d⟩:=exQ<|bZ l a;obtain⟨s,k,er⟩:=R;rw[d] at C ⊢;have f:=hid C;clear C d hV hT h;go_enter Tryz.func194,Tryz.ntmps194;go_wp2_with fail;refine f.out.mono ?_;unfold lR;rintro e w1 ⟨rfl,c⟩;go_wp2_with fail;go_ret2;exact⟨rfl,c⟩
theorem zP (l:List UInt8) (w:World) (hs:l.length<=1073741824) (hV:dC w) (hT:cD w):
  Calls Tryz.prog 143 #[.string (bs l)] w λe w'=>e=lR (fW l)/\Below w.heap.size w w':=by
 have sl:=aQ l;have C:=Ja l 0 w hs (by omega) hV hT;have d:fW l=if(bZ l 0).2.2=0/\(bZ l 0).2.1<l.length then([],(bZ l 0).2.1,2) else bZ l 0:=rfl;obtain⟨R,g⟩:=exQ<|bZ l 0;obtain⟨s,k,er⟩:=R;rw[show ((0:Nat):Int)=0 from rfl,g] at C;rw[g] at d;simp only[] at d;have f:=hid C;clear C g hV hT;by_cases h1:er=0
 ·subst h1;by_cases h2:k<l.length
  ·rw[d,if_pos ⟨rfl,h2⟩];clear d;go_enter Tryz.func143,Tryz.ntmps143;go_wp2_with fail;refine f.out.mono ?_;unfold lR;rintro e w1 ⟨rfl,c⟩;go_wp2_with fail;go_ret3;exact⟨rfl,c⟩
  ·rw[d,if_neg (λh=>h2 h.2)];clear d;go_enter Tryz.func143,Tryz.ntmps143;go_wp2_with fail;refine f.out.mono ?_;unfold lR;rintro e w1 ⟨rfl,c⟩;go_wp2_with fail;go_ret3;exact⟨rfl,c⟩
 ·rw[d,if_neg (λh=>h1 h.1)];have t1:(er==0)=false:=aG.2 h1;clear d h1;go_enter Tryz.func143,Tryz.ntmps143;go_wp2_with fail;refine f.out.mono ?_;unfold lR;rintro e w1 ⟨rfl,c⟩;go_wp2_with fail;go_ret3;exact⟨rfl,c⟩
end
section
open Go.Lib
theorem oK (x:Int) (h0:0<=x) (h1:x<256):x.toNat.toUInt8.toNat=x.toNat:=by
 rw[show x.toNat.toUInt8=UInt8.ofNat x.toNat from rfl,UInt8.toNat_ofNat'];exact Nat.mod_eq_of_lt (by omega)
def iZ (r:Int):Prop:=0<=r/\r<=1114111/\(r<55296\/57343<r)
theorem Da (r:Int) (h:iZ r) (t:List UInt8):decodeL (encodeRune r++t)=(r.toNat,(encodeRune r).length):=by
 obtain⟨c,d,h2⟩:=h;rw[decodeL_N];unfold encodeRune;by_cases g1:r<=127
 ·rw[encodeRuneZ_one c g1];simp only[lQ,List.map_nil,aL,bY,cU,eE,List.getD_cons_zero];rw[oK r c (by omega)];unfold decodeN;rw[if_pos (by omega)]
 by_cases g2:r<=2047
 ·rw[encodeRuneZ_two (by omega) g2];simp only[lQ,List.map_nil,aL,bY,cU,eE,List.getD_cons_zero,List.getD_cons_succ];rw[oK _ (by omega) (by omega),oK (128+r % 64) (by omega) (by omega)];unfold decodeN;rw[if_neg (by omega),if_pos ⟨by omega,by omega,by omega⟩,if_pos (by omega)];congr 1;omega
 by_cases g3:r<=65535
 ·rw[encodeRuneZ_three (by omega)];simp only[lQ,List.map_nil,aL,bY,cU,eE,List.getD_cons_zero,List.getD_cons_succ];rw[oK _ (by omega) (by omega),oK (128+r / 64 % 64) (by omega) (by omega),oK (128+r % 64) (by omega) (by omega)];unfold decodeN;rw[if_neg (by omega),if_neg (by omega),if_pos ⟨by omega,⟨by omega,by omega⟩,by omega,by omega⟩,if_pos ⟨by omega,by omega⟩];congr 1;omega
 ·rw[encodeRuneZ_four (by omega) d];simp only[lQ,List.map_nil,aL,bY,cU,eE,List.getD_cons_zero,List.getD_cons_succ];rw[oK _ (by omega) (by omega),oK (128+r / 4096 % 64) (by omega) (by omega),oK (128+r / 64 % 64) (by omega) (by omega),oK (128+r % 64) (by omega) (by omega)];unfold decodeN;rw[if_neg (by omega),if_neg (by omega),if_neg (by omega),if_pos ⟨by omega,⟨by omega,by omega⟩,⟨by omega,by omega⟩,by omega,by omega⟩,if_pos ⟨by omega,by omega⟩];congr 1;omega
theorem Db (r:Int) (h:iZ r) (hr:128<=r):2<=(encodeRune r).length:=by
 obtain⟨h0,c,h2⟩:=h;unfold encodeRune;rw[cA];by_cases g2:r<=2047
 ·rw[encodeRuneZ_two (by omega) g2];simp
 by_cases g3:r<=65535
 ·rw[encodeRuneZ_three (by omega)];simp
 ·rw[encodeRuneZ_four (by omega) c];simp
theorem tI (r:Int) (h:iZ r) (hr:128<=r): ∀c∈encodeRune r,128<=c.toNat:=by
 obtain⟨h0,e,h2⟩:=h;have key: ∀l:List Int,(∀x∈l,128<=x/\x<256)-> ∀c∈l.map (λx=>x.toNat.toUInt8),128<=c.toNat:=by
  intro l f c g;obtain⟨x,d,rfl⟩:=pJ.1 g;have:=f x d;rw[oK x (by omega) (by omega)];omega
 refine key _ ?_;by_cases g2:r<=2047
 ·rw[encodeRuneZ_two (by omega) g2];intro x d;simp only[eV,List.not_mem_nil,or_false] at d;omega
 by_cases g3:r<=65535
 ·rw[encodeRuneZ_three (by omega)];intro x d;simp only[eV,List.not_mem_nil,or_false] at d;omega
 ·rw[encodeRuneZ_four (by omega) e];intro x d;simp only[eV,List.not_mem_nil,or_false] at d;omega
theorem wV (l:List UInt8):iZ ((decodeL l).1:Int):=by
 rw[decodeL_N];have k0:=(l.getD 0 0).toNat_lt;rcases decodeN_shape l.length (l.getD 0 0).toNat (l.getD 1 0).toNat (l.getD 2 0).toNat (l.getD 3 0).toNat with⟨c,e⟩ | ⟨c1,c2,c3,cv,e⟩ | ⟨c1,c2,c3,c4,cv,cs,e⟩ | ⟨c1,c2,c3,c4,c5,cv,cw,e⟩ | e
 all_goals
  rw[e];unfold iZ;dsimp only;omega
theorem pK (r:Int):encodeRune r≠ []:=by
 intro h;have:=(encodeRuneZ_length r).1;unfold encodeRune at h;rw[List.map_eq_nil_iff] at h;rw[h] at this;simp at this
theorem tJ (c:UInt8) (h:c.toNat<128):encodeRune (c.toNat:Int)= [c]:=by
 unfold encodeRune;rw[encodeRuneZ_one (by omega) (by omega)];simp
theorem sA (l:List UInt8) (hne:l≠ []) (h:validD l=true): ∃r t,iZ r/\l=encodeRune r++t/\validD t=true/\decodeL l=(r.toNat,(encodeRune r).length):=by
 rw[validD_step l hne] at h;by_cases hb:(decodeL l).1=65533/\(decodeL l).2=1
 ·rw[if_pos hb] at h;cases h
 ·rw[if_neg hb] at h;have d:=encode_decode l hne hb;have c:=decodeL_le l hne;refine⟨((decodeL l).1:Int),l.drop (decodeL l).2,wV l,by rw[d,mC],h,?_⟩;rw[d,cB,eU,Nat.min_eq_left c]
theorem zQ (r:Int) (h:iZ r) (t:List UInt8):validD (encodeRune r++t)=validD t:=by
 rw[validD_step _ (by simp[pK]),Da r h t,if_neg,kU];rintro⟨a,b⟩;simp only at a b;have h0:=h.1;have:=Db r h (by omega);omega
theorem Dc (s t:List UInt8) (hs:validD s=true):validD (s++t)=validD t:=by
 obtain⟨n,c⟩: ∃n,s.length<=n:=⟨_,aD _⟩
 induction n generalizing s with
 | zero=>
  obtain rfl:s= []:=List.eq_nil_of_length_eq_zero (by omega);rfl
 | succ n ih=>
  by_cases hne:s= []
  ·subst hne;rfl
  ·obtain⟨r,u,d,rfl,e,_⟩:=sA s hne hs;have:=mX.2 (pK r);rw[dY,zQ r d];exact ih u e (by rw[aI] at c;omega)
theorem Vl (n b0 b1 b2 b3:Nat) (h:128<=b0) (h0:b0<256):128<=(decodeN n b0 b1 b2 b3).1:=by
 unfold decodeN
 repeat' split
 all_goals simp at *
 all_goals omega
theorem vB (f:Nat) (c:UInt8) (r:List UInt8) (i:Nat) (acc:List UInt8):cN (f+1) (c::r) i acc=if c=34 then(acc,(i:Int)+1,0) else if(dE (c::r)).2=0 then([],(i:Int),2) else
  cN f ((c::r).drop (dE (c::r)).2.toNat) (i+(dE (c::r)).2.toNat) (acc++Lib.encodeRune (dE (c::r)).1):=rfl
theorem Jc: ∀(f:Nat) (l:List UInt8) (i:Nat) (acc:List UInt8),(cN f l i acc).2.2=0->(i:Int)<(cN f l i acc).2.1/\(cN f l i acc).2.1<=i+l.length
 | 0,_,_,_,h=>by simp[cN] at h
 | _+1,[],_,_,h=>by simp[cN] at h
 | f+1,c::r,i,acc,h=>by
  rw[vB] at h ⊢;split
  ·exact⟨by simp only[];omega,by simp only[aL];omega⟩
  ·rename_i h34;rw[if_neg h34] at h;split
   ·rename_i h0;rw[if_pos h0] at h;exact absurd h (by simp)
   ·rename_i h0;rw[if_neg h0] at h;have hp:=tH (c::r) (List.cons_ne_nil _ _);obtain⟨P,hP⟩:=exQ<|dE (c::r);rw[hP] at h hp h0 ⊢;have:=Jc f _ _ _ h;rw[aZ] at this;omega
theorem Jd: ∀(f:Nat) (l:List UInt8) (i k:Nat) (acc:List UInt8),cN f l (i+k) acc=((cN f l i acc).1,(cN f l i acc).2.1+k,(cN f l i acc).2.2)
 | 0,_,i,k,_=>by simp[cN]
 | _+1,[],i,k,_=>by simp[cN]
 | f+1,c::r,i,k,acc=>by
  rw[vB,vB];split
  ·simp only[Prod.mk.injEq,true_and,and_true];omega
  ·split
   ·simp only[Prod.mk.injEq,true_and,and_true];omega
   ·rw[show i+k+(dE (c::r)).2.toNat=(i+(dE (c::r)).2.toNat)+k by omega];exact Jd f _ _ _ _
theorem Je: ∀(f g:Nat) (l:List UInt8) (i:Nat) (acc:List UInt8),l.length<f->l.length<g->cN f l i acc=cN g l i acc
 | 0,_,l,_,_,h,_=>by omega
 | _,0,l,_,_,_,h=>by omega
 | _+1,_+1,[],_,_,_,_=>rfl
 | f+1,g+1,c::r,i,acc,hf,hg=>by
  rw[vB,vB];split
  ·rfl
  ·split
   ·rfl
   ·have hp:=tH (c::r) (List.cons_ne_nil _ _);exact Je f g _ _ _ (by rw[aZ];omega) (by rw[aZ];omega)
theorem Vm (s:List UInt8) (a:Nat) (ha:a<=s.length):bZ s a=((bZ (s.drop a) 0).1,(bZ (s.drop a) 0).2.1+a,(bZ (s.drop a) 0).2.2):=by
 unfold bZ;rw[eU,Int.toNat_zero,nO,Nat.add_zero];by_cases h:s[a]?=some 34
 ·rw[if_pos ⟨by omega,h⟩,if_pos ⟨by omega,h⟩,lP,show a+(0+1)=a+1 by omega];have hl:=(aP.1 h).1;rw[Je (s.length+1) ((s.drop a).length+1) _ _ _ (by rw[aZ];omega) (by rw[aZ,aZ];omega)];have:=Jd ((s.drop a).length+1) (s.drop (a+1)) (0+1) a [];rw[show 0+1+a=a+1 by omega] at this;exact this
 ·rw[if_neg (λg=>h g.2),if_neg (λg=>h g.2)];simp
theorem Vn (l:List UInt8) (h:(bZ l 0).2.2=0):0<(bZ l 0).2.1/\(bZ l 0).2.1<=l.length:=by
 unfold bZ at h ⊢;by_cases h1:0<=(0:Int)/\l[(0:Int).toNat]?=some 34
 ·rw[if_pos h1] at h ⊢;have:=Jc _ _ _ _ h;rw[aZ] at this;have c:=(aP.1 h1.2).1;simp only[Int.toNat_zero] at this c ⊢;omega
 ·rw[if_neg h1] at h;exact absurd h (by simp)
def dF (p:UInt8->Bool) (l:List UInt8):Nat:=(l.takeWhile p).length
def mY (c:UInt8):Bool:=c==32||c==9||c==10||c==13
def kV (c:UInt8):Bool:=cT c||c==45||c==43||c==46||c==101||c==69
def iN (c:UInt8):Bool:=decide (97<=c.toNat/\c.toNat<=122)
def sB (c:UInt8):Option Nat:=if c=123 then some 0 else if c=125 then some 1 else if c=91 then some 2 else if c=93 then some 3 else if c=44 then some 4 else if c=58 then some 5 else none
def nS (l:List UInt8):Nat:=if l= [116,114,117,101] then 10 else if l= [102,97,108,115,101] then 11 else if l= [110,117,108,108] then 12 else 0
def dL (l:List UInt8):Nat×Nat×Int:=
 match l with
 | []=>(0,0,2)
 | c::_=>match sB c with
  | some k=>(2+k,1,0)
  | none=>if mY c then(1,dF mY l,0) else if c=34 then(if(bZ l 0).2.2=0 then(8,(bZ l 0).2.1.toNat,0) else(0,(bZ l 0).2.1.toNat,(bZ l 0).2.2)) else
   if c=45\/cT c=true then(if(cO (l.take (dF kV l))).2=0 then(9,dF kV l,0) else(0,0,(cO (l.take (dF kV l))).2)) else
   if nS (l.take (dF iN l))=0 then(0,0,2) else(nS (l.take (dF iN l)),dF iN l,0)
theorem vC (p:UInt8->Bool) (l:List UInt8):dF p l<=l.length:=(List.takeWhile_sublist _).length_le
theorem zR (p:UInt8->Bool) (c:UInt8) (l:List UInt8):dF p (c::l)=if p c then dF p l+1 else 0:=by
 unfold dF;rw[List.takeWhile_cons];split<;>rfl
theorem Jf (c:UInt8) (k:Nat) (h:sB c=some k):k<=5:=by
 unfold sB at h
 repeat' split at h
 all_goals first | (injection h with h;omega) | cases h
theorem Jg (l:List UInt8):nS l=0\/(10<=nS l/\nS l<=12/\0<l.length):=by
 unfold nS;split
 ·rename_i h;right;rw[h];simp
 ·split
  ·rename_i h;right;rw[h];simp
  ·split
   ·rename_i h;right;rw[h];simp
   ·left;rfl
theorem Jh (l:List UInt8):0<=(bZ l 0).2.1/\(bZ l 0).2.1<=l.length:=by
 have d: ∀(f:Nat) (l:List UInt8) (i:Nat) (acc:List UInt8),(i:Int)<=(cN f l i acc).2.1/\(cN f l i acc).2.1<=i+l.length:=by
  intro f
  induction f with
  | zero=>intro l i acc;simp[cN];omega
  | succ f ih=>
   intro l i acc;cases l with
   | nil=>simp[cN]
   | cons c r=>
    rw[vB];split
    ·simp only[aL];omega
    ·split
     ·simp only[aL];omega
     ·have hp:=tH (c::r) (List.cons_ne_nil _ _);have:=ih ((c::r).drop (dE (c::r)).2.toNat) (i+(dE (c::r)).2.toNat) (acc++encodeRune (dE (c::r)).1);rw[aZ] at this;omega
 unfold bZ;by_cases h1:0<=(0:Int)/\l[(0:Int).toNat]?=some 34
 ·rw[if_pos h1];have:=d (l.length+1) (l.drop ((0:Int).toNat+1)) ((0:Int).toNat+1) [];rw[aZ] at this;have e:=(aP.1 h1.2).1;simp only[Int.toNat_zero] at this e ⊢;omega
 ·rw[if_neg h1];simp
theorem zS (l:List UInt8) (hne:l≠ []):(dL l).2.1<=l.length/\((dL l).2.2=0->1<=(dL l).1/\(dL l).1<=12/\0<(dL l).2.1):=by
 cases l with
 | nil=>exact absurd rfl hne
 | cons c r=>
  unfold dL;simp only[];cases hs:sB c with
  | some k=>
   have:=Jf c k hs;simp only[];exact⟨by simp,λ_=>⟨by omega,by omega,by omega⟩⟩
  | none=>
   simp only[];split
   ·rename_i i;have:=vC mY (c::r);refine⟨this,λ_=>⟨by simp,by simp,?_⟩⟩;rw[zR,if_pos i];simp
   ·split
    ·have hr:=Jh (c::r);split
     ·rename_i d;have:=Vn (c::r) d;exact⟨by simp only[];omega,λ_=>⟨by simp,by simp,by simp only[];omega⟩⟩
     ·rename_i d;exact⟨by simp only[];omega,λh=>absurd h d⟩
    ·split
     ·rename_i f;have g:kV c=true:=by
       unfold kV;rcases f with rfl | f
       ·decide
       ·rw[f];rfl
      split
      ·refine⟨vC _ _,λ_=>⟨by simp,by simp,?_⟩⟩;simp only[];rw[zR,if_pos g];simp
      ·rename_i d;exact⟨by simp,λh=>absurd h d⟩
     ·have e:=Jg ((c::r).take (dF iN (c::r)));split
      ·exact⟨by simp,λh=>absurd h (by simp)⟩
      ·rename_i d;rcases e with e | e
       ·exact absurd e d
       ·refine⟨vC _ _,λ_=>⟨by simp only[];omega,by simp only[];omega,?_⟩⟩;have:=e.2.2;rw[cB] at this;simp only[];omega
structure aS where
 kind:Nat
 sf:Nat
 st:Nat
deriving DecidableEq
def gK:Nat->List UInt8->Nat->List aS×Option (Nat×Int)
 | 0,_,_=>([],none)
 | _+1,[],_=>([],none)
 | f+1,c::r,i=>if(dL (c::r)).2.2=0 then(⟨(dL (c::r)).1,i,i+(dL (c::r)).2.1⟩::(gK f ((c::r).drop (dL (c::r)).2.1) (i+(dL (c::r)).2.1)).1,(gK f ((c::r).drop (dL (c::r)).2.1) (i+(dL (c::r)).2.1)).2) else([],some (i+(dL (c::r)).2.1,(dL (c::r)).2.2))
def eW (s:List UInt8):List aS×Int×Int:=
 if 65536<s.length then([],0,3) else match (gK s.length s 0).2 with
 | none=>((gK s.length s 0).1,(s.length:Int),0)
 | some (p,e)=>([],(p:Int),e)
theorem wW (f:Nat) (c:UInt8) (r:List UInt8) (i:Nat):gK (f+1) (c::r) i=if(dL (c::r)).2.2=0 then(⟨(dL (c::r)).1,i,i+(dL (c::r)).2.1⟩::(gK f ((c::r).drop (dL (c::r)).2.1) (i+(dL (c::r)).2.1)).1,(gK f ((c::r).drop (dL (c::r)).2.1) (i+(dL (c::r)).2.1)).2) else([],some (i+(dL (c::r)).2.1,(dL (c::r)).2.2)):=rfl
theorem wX (f i:Nat):gK f [] i=([],none):=by cases f<;>rfl
theorem zT: ∀(f:Nat) (l:List UInt8) (i p:Nat) (e:Int),l.length<=f->(gK f l i).2=some (p,e)->i<=p/\p<=i+l.length/\e≠0
 | f,[],i,_,_,_,h=>by rw[wX] at h;cases h
 | 0,_::_,_,_,_,h,_=>by simp at h
 | f+1,c::r,i,p,e,hf,h=>by
  rw[wW] at h;have hle:=(zS (c::r) (List.cons_ne_nil _ _)).1;by_cases h0:(dL (c::r)).2.2=0
  ·rw[if_pos h0] at h;have hok:=(zS (c::r) (List.cons_ne_nil _ _)).2 h0;have hlc:(c::r).length=r.length+1:=rfl;have:=zT f _ _ p e (by rw[aZ];omega) h;rw[aZ] at this;omega
  ·rw[if_neg h0] at h;simp only[cP,Prod.mk.injEq] at h;obtain⟨rfl,rfl⟩:=h;exact⟨by omega,by omega,h0⟩
def Ji (n:UInt8):UInt8:=if n<10 then 48+n else 87+n
def qB (c:UInt8):List UInt8:=
 if c=34\/c=92 then [92,c] else if c=8 then [92,98] else if c=12 then [92,102] else if c=10 then [92,110] else if c=13 then [92,114] else if c=9 then [92,116]
 else if c<32 then [92,117,48,48,Ji (c / 16),Ji (c % 16)] else [c]
def bW (l:List UInt8):List UInt8:=l.flatMap qB
def dZ (l:List UInt8):List UInt8×Int:=if validD l then(34::(bW l++ [34]),0) else([],2)
theorem zU (a b:List UInt8):bW (a++b)=bW a++bW b:=by unfold bW;rw[List.flatMap_append]
theorem Vo (c:UInt8) (h:128<=c.toNat):qB c= [c]:=by
 have: ∀n:Fin 256,128<=n.val->qB (UInt8.ofNat n.val)= [UInt8.ofNat n.val]:=by decide+kernel
 have d:=this ⟨c.toNat,c.toNat_lt⟩ h;simpa using d
theorem zV: ∀(l:List UInt8),(∀c∈l,128<=c.toNat)->bW l=l
 | [],_=>rfl
 | c::t,h=>by
  show qB c++bW t=c::t;rw[Vo c (h c (by simp)),zV t (λd hd=>h d (by simp[hd]))];rfl
theorem Vp: ∀n:Fin 128,
  (qB (UInt8.ofNat n.val)= [UInt8.ofNat n.val]/\n.val≠92/\n.val≠34/\32<=n.val)\/
  (qB (UInt8.ofNat n.val)= [92,(qB (UInt8.ofNat n.val)).getD 1 0]/\kT ((qB (UInt8.ofNat n.val)).getD 1 0).toNat=((n.val:Int),true))\/
  (qB (UInt8.ofNat n.val)= [92,117,48,48,(qB (UInt8.ofNat n.val)).getD 4 0,(qB (UInt8.ofNat n.val)).getD 5 0]/\iK 0 [48,48,(qB (UInt8.ofNat n.val)).getD 4 0,(qB (UInt8.ofNat n.val)).getD 5 0]=some n.val/\n.val<32):=by decide+kernel
theorem Vq (c:UInt8) (hc:c.toNat<128) (t:List UInt8):dE (qB c++t)=((c.toNat:Int),((qB c).length:Int))/\(qB c++t).head?≠some 34/\0<(qB c).length:=by
 have h:=Vp ⟨c.toNat,hc⟩;simp only[UInt8.ofNat_toNat] at h;obtain⟨Q,i⟩:=exQ<|qB c;rw[i] at h ⊢;rcases h with⟨h,d,g,h3⟩ | ⟨h,d⟩ | ⟨h,d,g⟩
 ·rw[h];have e92: ¬c=92:=λe=>d (by rw[e];rfl);have e34: ¬c=34:=λe=>g (by rw[e];rfl);refine⟨?_,by simpa using e34,by simp⟩;unfold dE;rw[if_neg (by simpa using e92)];rw[show [c]++t=c::t from rfl,decodeL_ascii c t hc,if_neg]
  ·simp
  ·unfold eI;simp only[Bool.or_eq_true,eA,bV,beq_iff_eq];omega
 ·obtain⟨x,f⟩:=exQ<|Q.getD 1 0;rw[f] at h d;rw[h];refine⟨?_,by simp,by simp⟩;unfold dE;rw[if_pos (by simp)];unfold pI;simp only[cU,eE,bM,dG,d,if_true];rfl
 ·obtain⟨x,f⟩:=exQ<|Q.getD 4 0;obtain⟨y,k⟩:=exQ<|Q.getD 5 0;rw[f,k] at h d;rw[h];refine⟨?_,by simp,by simp⟩;unfold dE;rw[if_pos (by simp)];unfold pI;have j:(kT ((117:UInt8).toNat:Int)).2=false:=by decide
  simp only[cU,eE,bM,dG];rw[j,if_neg (by simp),if_pos (by rfl)];have l:iL ((92::117::48::48::x::y::t).drop 2)=some c.toNat:=by
   unfold iL;rw[if_neg (by simp),<-d];rfl
  unfold mD;rw[l];simp only[];rw[if_neg (by omega),if_pos (by omega)];rfl
theorem Vr (r:Int) (hr:iZ r) (h:128<=r) (t:List UInt8):dE (encodeRune r++t)=(r,((encodeRune r).length:Int))/\(encodeRune r++t).head?≠some 34/\0<(encodeRune r).length:=by
 have f:=tI r hr h;have i:=Db r hr h;have g:=Da r hr t;obtain⟨E,j⟩:=exQ<|encodeRune r;rw[j] at f i g ⊢;cases E with
 | nil=>simp at i
 | cons c u=>
  have d:=f c (by simp);have e92: ¬c=92:=λe=>by rw[e] at d;exact absurd d (by decide)
  have e34: ¬c=34:=λe=>by rw[e] at d;exact absurd d (by decide)
  refine⟨?_,by simpa using e34,by simp⟩;unfold dE;rw[if_neg (by simpa using e92),g,if_neg]
  ·simp only[];rw[Int.toNat_of_nonneg hr.1]
  ·unfold eI;have:=hr.1;simp only[Bool.or_eq_true,eA,bV,beq_iff_eq];omega
theorem Jj: ∀(f:Nat) (l:List UInt8) (i:Nat) (acc:List UInt8),
  ((i:Int)<=(cN f l i acc).2.1/\(cN f l i acc).2.1<=i+l.length)/\((cN f l i acc).2.2=0\/((cN f l i acc).2.2=2/\(cN f l i acc).1= []))
 | 0,_,_,_=>⟨by simp[cN];omega, .inr ⟨rfl,rfl⟩⟩
 | _+1,[],_,_=>⟨by simp[cN], .inr ⟨rfl,rfl⟩⟩
 | f+1,c::r,i,acc=>by
  unfold cN;split
  ·exact⟨by simp;omega, .inl rfl⟩
  ·split
   ·exact⟨by simp;omega, .inr ⟨rfl,rfl⟩⟩
   ·rename_i h2;have hp:=tH (c::r) (List.cons_ne_nil _ _);obtain⟨P,hP⟩:=exQ<|dE (c::r);rw[hP] at hp h2 ⊢;have:=Jj f ((c::r).drop P.2.toNat) (i+P.2.toNat) (acc++encodeRune P.1);rw[aZ] at this;refine⟨?_,this.2⟩;have d:=this.1;simp only[aL] at d hp ⊢;omega
theorem Vs: ∀n:Fin 256,(∀x∈qB (UInt8.ofNat n.val),32<=x.toNat)/\((qB (UInt8.ofNat n.val)).head?≠some 34)/\
  (∀j:Fin 5,(qB (UInt8.ofNat n.val))[j.val+1]?=some 34->(qB (UInt8.ofNat n.val))[j.val]?=some 92)/\1<=(qB (UInt8.ofNat n.val)).length/\(qB (UInt8.ofNat n.val)).length<=6:=by decide+kernel
theorem Vt (c:UInt8):(∀x∈qB c,32<=x.toNat)/\((qB c).head?≠some 34)/\(∀j:Nat,(qB c)[j+1]?=some 34->(qB c)[j]?=some 92)/\1<=(qB c).length/\(qB c).length<=6:=by
 have h:=Vs ⟨c.toNat,c.toNat_lt⟩;simp only[UInt8.ofNat_toNat] at h;refine⟨h.1,h.2.1,λj d=>?_,h.2.2.2⟩;have hl:=(aP.1 d).1;exact h.2.2.1 ⟨j,by have:=h.2.2.2.2;omega⟩ d
theorem Dd: ∀l:List UInt8,l.length<=(bW l).length/\(bW l).length<=6*l.length
 | []=>by simp[bW]
 | c::t=>by
  have hq:=Vt c;have:=Dd t;change (c::t).length<=(qB c++bW t).length/\(qB c++bW t).length<=6*(c::t).length;rw[aI,aL];omega
abbrev Sp:=Nat×Nat
structure aF where
 kind:Nat
 sf:Nat
 st:Nat
 key:Sp
 kids:List Nat
 pcs:List Sp
deriving DecidableEq
inductive JR where
 | ok (rest:List aS) (last:Sp) (nodes:List aF)
 | bad (at':Nat) (er:Int)
def fG:List aS->Nat
 | []=>0
 | t::_=>t.kind
def fC (n:Nat):List aS->Nat
 | []=>n
 | t::_=>t.sf
def eJ (k:Nat):Nat:=if k=12 then 1 else if k=10\/k=11 then 2 else if k=9 then 3 else if k=8 then 4 else if k=4 then 5 else if k=2 then 6 else 0
def lS (f:aF->aF):Nat->List aF->List aF
 | _,[]=> []
 | 0,x::l=>f x::l
 | n+1,x::l=>x::lS f n l
def fL (n kid:Nat) (pc:Sp) (l:List aF):List aF:=lS (λx=> { x with kids:=x.kids++ [kid],pcs:=x.pcs++ [pc] }) n l
def nT (n e:Nat) (l:List aF):List aF:=lS (λx=> { x with st:=e }) n l
abbrev VF:=List aS->Sp->List aF->Sp->JR
def jN (txt:List UInt8) (V:VF) (obj:Bool) (had:List (List UInt8)) (rest:List aS) (last:Sp) (nodes:List aF):JR×List (List UInt8):=
 if obj=false then(V rest last nodes (0,0),had) else match rest with
  | []=>(.bad txt.length 2,had)
  | t::r=>
   if t.kind≠8 then(.bad t.sf 2,had) else
   if(fW ((txt.drop t.sf).take (t.st-t.sf))).1∈had then(.bad t.sf 7,had) else
   match r with
   | []=>(.bad txt.length 2,(fW ((txt.drop t.sf).take (t.st-t.sf))).1::had)
   | c::r2=>if c.kind≠7 then(.bad c.sf 2,(fW ((txt.drop t.sf).take (t.st-t.sf))).1::had) else
    (V r2 (c.sf,c.st) nodes (t.sf,t.st),(fW ((txt.drop t.sf).take (t.st-t.sf))).1::had)
def kI (txt:List UInt8) (V:VF) (closing:Nat) (obj:Bool) (n:Nat):Nat->List (List UInt8)->List aS->Sp->List aF->JR
 | 0,_,_,_,_=> .bad 0 0
 | f+1,had,rest,last,nodes=>match jN txt V obj had rest last nodes with
  | (.bad a e,_)=> .bad a e
  | (.ok r l ns,had')=>match r with
   | []=> .bad txt.length 2
   | t::r'=>if t.kind=closing then .ok r' (t.sf,t.st) (fL n nodes.length (last.2,t.sf) ns) else
    if t.kind=6 then kI txt V closing obj n f had' r' (t.sf,t.st) (fL n nodes.length (last.2,t.sf) ns) else .bad t.sf 2
def jV (txt:List UInt8) (V:VF) (closing:Nat) (obj:Bool) (n:Nat) (rest:List aS) (last:Sp) (nodes:List aF):JR:=
 match rest with
 | []=>kI txt V closing obj n 1 [] rest last nodes
 | t::r=>if t.kind=closing then .ok r (t.sf,t.st) nodes else kI txt V closing obj n (rest.length+1) [] rest last nodes
def vD (n:Nat):JR->JR
 | .ok r l ns=> .ok r l (nT n l.2 ns)
 | .bad a e=> .bad a e
def bP (txt:List UInt8):Nat->VF
 | 0,rest,last,nodes,key=>if eJ (fG rest)=0 then .bad (fC txt.length rest) 2 else .bad (fC txt.length rest) 5
 | lv+1,rest,last,nodes,key=>if eJ (fG rest)=0 then .bad (fC txt.length rest) 2 else
  if nodes.length=4096 then .bad (fC txt.length rest) 6 else match rest with
  | []=> .bad 0 0
  | t::r=>vD nodes.length (
   if t.kind=4 then jV txt (bP txt lv) 5 false nodes.length r (t.sf,t.st) (nodes++ [⟨eJ t.kind,t.sf,t.st,key,[],[]⟩]) else
   if t.kind=2 then jV txt (bP txt lv) 3 true nodes.length r (t.sf,t.st) (nodes++ [⟨eJ t.kind,t.sf,t.st,key,[],[]⟩]) else
   .ok r (t.sf,t.st) (nodes++ [⟨eJ t.kind,t.sf,t.st,key,[],[]⟩]))
def gY (s:List UInt8):List aF×Int×Int:=
 if(eW s).2.2≠0 then([],(eW s).2.1,(eW s).2.2) else
  match bP s 32 ((eW s).1.filter (λt=>t.kind !=1)) (0,0) [] (0,0) with
  | .bad a e=>([],(a:Int),e)
  | .ok [] _ ns=>(ns,(s.length:Int),0)
  | .ok (t::_) _ _=>([],(t.sf:Int),2)
theorem rB (f:aF->aF): ∀(n:Nat) (l:List aF),(lS f n l).length=l.length
 | _,[]=>by simp[lS]
 | 0,x::l=>rfl
 | n+1,x::l=>by rw[lS,aL,rB f n l,aL]
theorem zW (f:aF->aF): ∀(n:Nat) (l:List aF) (j:Nat),(lS f n l)[j]?=if j=n then(l[j]?).map f else l[j]?
 | n,[],j=>by cases n<;>simp[lS]
 | 0,x::l,0=>rfl
 | 0,x::l,j+1=>by simp[lS]
 | n+1,x::l,0=>by simp[lS]
 | n+1,x::l,j+1=>by
  rw[lS,bM,bM,zW f n l j];simp
theorem De (f:aF->aF): ∀(pre:List aF) (x:aF) (post:List aF),lS f pre.length (pre++x::post)=pre++f x::post
 | [],x,post=>rfl
 | y::pre,x,post=>by
  show y::lS f pre.length (pre++x::post)=_;rw[De f pre x post];rfl
def wY (n:Nat) (l:List aF):Prop:= ∀y∈l,y.kids.length<=n/\y.pcs.length<=n
def sC (V:VF):Prop:= ∀rest last nodes key r l ns,V rest last nodes key= .ok r l ns-> ∃more,ns=nodes++more/\1<=more.length/\more.length+r.length<=rest.length/\(∃k,r=rest.drop k)/\wY more.length more
theorem zX {txt:List UInt8}{V:VF} (hV:sC V) {obj:Bool}{had:List (List UInt8)}{rest:List aS}{last:Sp}{nodes:List aF}{r:List aS}{l:Sp}{ns:List aF}{had':List (List UInt8)}
  (h:jN txt V obj had rest last nodes=(.ok r l ns,had')): ∃more,ns=nodes++more/\1<=more.length/\more.length+r.length<=rest.length/\(∃k,r=rest.drop k)/\wY more.length more:=by
 unfold jN at h;split at h
 ·injection h with h _;exact hV _ _ _ _ _ _ _ h
 ·split at h
  ·injection h with h _;cases h
  ·rename_i t q;split at h
   ·injection h with h _;cases h
   ·split at h
    ·injection h with h _;cases h
    ·split at h
     ·injection h with h _;cases h
     ·rename_i c r2;split at h
      ·injection h with h _;cases h
      ·injection h with h _;obtain⟨more,d,e,h3,⟨k,f⟩,g⟩:=hV _ _ _ _ _ _ _ h;exact⟨more,d,e,by simp only[aL];omega,⟨k+2,by rw[f];rfl⟩,g⟩
def fX (pre:List aF) (x:aF) (post:List aF) (nodes:List aF):Prop:=nodes=pre++x::post/\x.kids.length<=post.length/\x.pcs.length<=post.length/\wY post.length post
theorem fX.add {pre:List aF}{x:aF}{post nodes more:List aF} (h:fX pre x post nodes) (hm:wY more.length more) (h1:1<=more.length) (k:Nat) (pc:Sp):
  fX pre { x with kids:=x.kids++ [k],pcs:=x.pcs++ [pc] } (post++more) (fL pre.length k pc (nodes++more)):=by
 obtain⟨rfl,h2,h3,d⟩:=h;refine⟨?_,?_,?_,?_⟩
 ·unfold fL;rw[dY,cU,De]
 ·simp only[aI,aL,bY];omega
 ·simp only[aI,aL,bY];omega
 ·intro y c;rw[aI];rcases mZ.1 c with c | c
  ·have:=d y c;omega
  ·have:=hm y c;omega
theorem Df {txt:List UInt8}{V:VF} (hV:sC V) {closing:Nat}{obj:Bool}{pre:List aF}: ∀(f:Nat) {had:List (List UInt8)}{rest:List aS}{last:Sp}{nodes:List aF}{r:List aS}{l:Sp}{ns:List aF}{x:aF}{post:List aF},
  fX pre x post nodes->kI txt V closing obj pre.length f had rest last nodes= .ok r l ns-> ∃x' post',fX pre x' post' ns/\x'.kind=x.kind/\x'.sf=x.sf/\x'.key=x.key/\post.length<post'.length/\post'.length+r.length<post.length+rest.length/\ ∃k,r=rest.drop k
 | 0,_,_,_,_,_,_,_,_,_,_,h=>by cases h
 | f +1,had,rest,last,nodes,r,l,ns,x,post,hm,h=>by
  unfold kI at h;split at h
  ·cases h
  ·rename_i r1 l1 ns1 had1 hk;obtain⟨more,rfl,h2,h3,⟨k,h4⟩,h5⟩:=zX hV hk;split at h
   ·cases h
   ·rename_i t r';simp only[aL] at h3;have c:r'=rest.drop (k+1):=by rw[<-lP,<-h4];rfl
    have d:=hm.add h5 h2 nodes.length (last.2,t.sf);split at h
    ·injection h with e1 e2 e3;subst e1;subst e3;exact⟨_,_,d,rfl,rfl,rfl,by rw[aI];omega,by rw[aI];omega,_,c⟩
    ·split at h
     ·obtain⟨x',post',i1,i2,i3,i4,i5,i6,k2,i7⟩:=Df hV f d h;rw[aI] at i5 i6;exact⟨x',post',i1,i2,i3,i4,by omega,by omega,k+1+k2,by rw[i7,c,lP]⟩
     ·cases h
theorem zY {txt:List UInt8}{V:VF} (hV:sC V) {closing:Nat}{obj:Bool}{pre:List aF}{rest:List aS}{last:Sp}{nodes:List aF}{r:List aS}{l:Sp}{ns:List aF}{x:aF}{post:List aF}
  (hm:fX pre x post nodes) (h:jV txt V closing obj pre.length rest last nodes= .ok r l ns): ∃x' post',fX pre x' post' ns/\x'.kind=x.kind/\x'.sf=x.sf/\x'.key=x.key/\post.length<=post'.length/\post'.length+r.length<=post.length+rest.length/\ ∃k,r=rest.drop k:=by
 unfold jV at h;split at h
 ·obtain⟨x',post',i1,i2,i3,i4,i5,i6,i7⟩:=Df hV _ hm h;exact⟨x',post',i1,i2,i3,i4,by omega,by omega,i7⟩
 ·rename_i t q;split at h
  ·injection h with d h2 c;subst d c;exact⟨x,post,hm,rfl,rfl,rfl,aD _,by simp only[aL];omega,1,rfl⟩
  ·obtain⟨x',post',i1,i2,i3,i4,i5,i6,i7⟩:=Df hV _ hm h;exact⟨x',post',i1,i2,i3,i4,by omega,by omega,i7⟩
theorem Vu {pre:List aF}{x:aF}{post nodes:List aF} (h:fX pre x post nodes) (e:Nat):fX pre { x with st:=e } post (nT pre.length e nodes):=by
 obtain⟨rfl,f,c,d⟩:=h;exact⟨by unfold nT;rw[De],f,c,d⟩
theorem pL (txt:List UInt8): ∀lv,sC (bP txt lv)
 | 0=>λrest last nodes key r l ns h=>by
  unfold bP at h;split at h<;>cases h
 | lv +1=>λrest last nodes key r l ns h=>by
  have ih:=pL txt lv;cases rest with
  | nil=>
   unfold bP at h;rw[if_pos (show eJ (fG [])=0 from rfl)] at h;cases h
  | cons t q=>
   unfold bP at h;split at h
   ·cases h
   ·split at h
    ·cases h
    ·simp only[] at h;have key2: ∀x:JR,vD nodes.length x= .ok r l ns-> ∃ns',x= .ok r l ns'/\ns=nT nodes.length l.2 ns':=by
      intro x j;cases x with
      | bad a e=>cases j
      | ok r' l' ns'=>
       injection j with d g i;subst d g;exact⟨ns',rfl,i.symm⟩
     obtain⟨ns',d,rfl⟩:=key2 _ h;have c:fX nodes ⟨eJ t.kind,t.sf,t.st,key,[],[]⟩ [] (nodes++ [⟨eJ t.kind,t.sf,t.st,key,[],[]⟩]):=⟨rfl,aD _,aD _,λy f=>by cases f⟩;have fin: ∀ {x':aF}{post':List aF},fX nodes x' post' ns'->post'.length+r.length<=q.length->(∃k,r=q.drop k)-> ∃more,nT nodes.length l.2 ns'=nodes++more/\1<=more.length/\more.length+r.length<=(t::q).length/\(∃k,r=(t::q).drop k)/\wY more.length more:=by
      intro x' post' o hl ⟨k,hk⟩;obtain⟨e1,e2,e3,e4⟩:=Vu o l.2;refine⟨_,e1,by simp,by simp only[aL];omega,⟨k+1,by rw[hk];rfl⟩,λy f=>?_⟩;simp only[aL];rcases eV.1 f with rfl | f
      ·exact⟨by omega,by omega⟩
      ·have:=e4 y f;omega
     split at d
     ·obtain⟨x',post',i1,_,_,_,_,i6,i7⟩:=zY ih c d;exact fin i1 (by simpa using i6) i7
     ·split at d
      ·obtain⟨x',post',i1,_,_,_,_,i6,i7⟩:=zY ih c d;exact fin i1 (by simpa using i6) i7
      ·injection d with g i p;subst g p;exact fin c (by simp) ⟨0,rfl⟩
section
variable {α β:Type}{R:α->β->Prop}
end
section
variable {txt txt':List UInt8}{a b m n:Nat}{deep:Prop}{V V':VF}
end
theorem Vv {k:Nat}{x:JR}{r:List aS}{l:Sp}{ns:List aF} (hx:vD k x= .ok r l ns): ∃ns',x= .ok r l ns'/\ns=nT k l.2 ns':=by
 cases x with
 | bad a e=>cases hx
 | ok r' l' ns'=>
  injection hx with d f c;subst d f;exact⟨ns',rfl,c.symm⟩
def zZ (ts:List aS):List aS:=ts.filter (λt=>t.kind !=1)
def vE (n:Nat):JR->List aF×Int×Int
 | .bad a e=>([],(a:Int),e)
 | .ok [] _ ns=>(ns,(n:Int),0)
 | .ok (t::_) _ _=>([],(t.sf:Int),2)
def Bd (V:VF):Prop:= ∀rest last nodes key a e,V rest last nodes key= .bad a e->e≠0
theorem Vw {txt:List UInt8}{V:VF} (hV:Bd V) {obj:Bool}{had had':List (List UInt8)}{rest:List aS}{last:Sp}{nodes:List aF}{a:Nat}{e:Int} (h:jN txt V obj had rest last nodes=(.bad a e,had')):e≠0:=by
 unfold jN at h;split at h
 ·injection h with h _;exact hV _ _ _ _ _ _ h
 ·split at h
  ·injection h with h _;injection h with _ h;rw[<-h];decide
  ·split at h
   ·injection h with h _;injection h with _ h;rw[<-h];decide
   ·split at h
    ·injection h with h _;injection h with _ h;rw[<-h];decide
    ·split at h
     ·injection h with h _;injection h with _ h;rw[<-h];decide
     ·split at h
      ·injection h with h _;injection h with _ h;rw[<-h];decide
      ·injection h with h _;exact hV _ _ _ _ _ _ h
theorem Dg {txt:List UInt8}{V:VF} (hV:Bd V) (hE:sC V) {closing:Nat}{obj:Bool}{n:Nat}: ∀(f:Nat) {had:List (List UInt8)}{rest:List aS}{last:Sp}{nodes:List aF}{a:Nat}{e:Int},rest.length<f->kI txt V closing obj n f had rest last nodes= .bad a e->e≠0
 | 0,_,_,_,_,_,_,hf,_=>by omega
 | f +1,had,rest,last,nodes,a,e,hf,h=>by
  unfold kI at h;split at h
  ·rename_i hk;injection h with h1 h2;subst h1 h2;exact Vw hV hk
  ·rename_i r1 l1 ns1 had1 hk;obtain⟨more,_,h2,h3,_⟩:=zX hE hk;split at h
   ·injection h with _ h;rw[<-h];decide
   ·simp only[aL] at h3;split at h
    ·cases h
    ·split at h
     ·exact Dg hV hE f (by omega) h
     ·injection h with _ h;rw[<-h];decide
theorem Jk {txt:List UInt8}{V:VF} (hV:Bd V) (hE:sC V) {closing:Nat}{obj:Bool}{n:Nat}{rest:List aS}{last:Sp}{nodes:List aF}{a:Nat}{e:Int} (h:jV txt V closing obj n rest last nodes= .bad a e):e≠0:=by
 unfold jV at h;split at h
 ·exact Dg hV hE 1 (by simp) h
 ·split at h
  ·cases h
  ·exact Dg hV hE _ (by simp) h
theorem Vx {k:Nat}{x:JR}{a:Nat}{e:Int} (hx:vD k x= .bad a e):x= .bad a e:=by
 cases x with
 | bad a' e'=>exact hx
 | ok r' l' ns'=>cases hx
theorem Jl (txt:List UInt8): ∀lv,Bd (bP txt lv)
 | 0=>λrest last nodes key a e h=>by
  unfold bP at h;split at h
  ·injection h with _ h;rw[<-h];decide
  ·injection h with _ h;rw[<-h];decide
 | lv +1=>λrest last nodes key a e h=>by
  have ih:=Jl txt lv;have d:=pL txt lv;unfold bP at h;split at h
  ·injection h with _ h;rw[<-h];decide
  ·rename_i f;split at h
   ·injection h with _ h;rw[<-h];decide
   ·cases rest with
    | nil=>exact absurd rfl f
    | cons t r=>
     simp only[] at h;have c:=Vx h;split at c
     ·exact Jk ih d c
     ·split at c
      ·exact Jk ih d c
      ·cases c
theorem Jm (s:List UInt8):gY s=if(eW s).2.2≠0 then([],(eW s).2.1,(eW s).2.2) else vE s.length (bP s 32 (zZ (eW s).1) (0,0) [] (0,0)):=by
 unfold gY zZ vE;rfl
theorem Vy {s:List UInt8} (h:(eW s).2.2=0):s.length<=65536/\gK s.length s 0=((eW s).1,none):=by
 unfold eW at h ⊢;by_cases hb:65536<s.length
 ·rw[if_pos hb] at h;exact absurd h (by simp)
 ·rw[if_neg hb] at h ⊢;cases hG:(gK s.length s 0).2 with
  | none=>exact⟨by omega,Prod.ext rfl hG⟩
  | some x=>
   obtain⟨p,e⟩:=x;rw[hG] at h;exact absurd h (zT s.length s 0 p e (aD _) hG).2.2
theorem Jn {s:List UInt8} (h:(gY s).2.2=0):s.length<=65536/\ ∃T l ns,gK s.length s 0=(T,none)/\bP s 32 (zZ T) (0,0) [] (0,0)= .ok [] l ns/\gY s=(ns,(s.length:Int),0):=by
 rw[Jm] at h ⊢;by_cases h0:(eW s).2.2=0
 ·rw[if_neg (by simpa using h0)] at h ⊢;obtain⟨c,d⟩:=Vy h0;refine⟨c,(eW s).1,?_⟩;cases hv:bP s 32 (zZ (eW s).1) (0,0) [] (0,0) with
  | bad a e=>rw[hv] at h;exact absurd h (Jl s 32 _ _ _ _ _ _ hv)
  | ok r l ns=>
   cases r with
   | cons t r=>rw[hv] at h;exact absurd h (by simp[vE])
   | nil=>exact⟨l,ns,d,rfl,rfl⟩
 ·rw[if_pos h0] at h;exact absurd h h0
theorem Vz {pre:List aF}{x:aF}{post nodes:List aF} (h:fX pre x post nodes):nodes[pre.length]?=some x:=by
 rw[h.1,jO (aD _),Nat.sub_self];rfl
theorem Wa {pre:List aF}{x:aF}{post nodes:List aF} (h:fX pre x post nodes):nodes.length=pre.length+1+post.length:=by
 rw[h.1,aI,aL];omega
end
section
open Go.Lib
end
end Go.Proofs.YtjnooaljcgkfpaaGreatDoor
