import Derived.Test.YtjnooaljcgkfpaaGreatDoorBk11
import Derived.Test.YtjnooaljcgkfpaaGreatDoorBk3
import Derived.Lib.IndexMore
import Derived.Deep.RegionHeld3
set_option maxRecDepth 100000
set_option maxHeartbeats 4000000
namespace Go.Proofs.YtjnooaljcgkfpaaGreatDoor
set_option linter.unusedSimpArgs false
set_option linter.unusedVariables false
open Go.RowKit
open Go.Lib hiding intOf
theorem Nh (l:List UInt8):0<=(mW l 0).1/\(mW l 0).1<=l.length:=by
 unfold mW;rw[if_neg (by omega)];unfold bZ;by_cases h1:0<=(0:Int)/\l[(0:Int).toNat]?=some 34
 ·rw[if_pos h1];have:=(Jj (l.length+1) (l.drop ((0:Int).toNat+1)) ((0:Int).toNat+1) []).1;rw[aZ] at this;have a:=(aP.1 h1.2).1;simp only[Int.toNat_zero] at this a ⊢;omega
 ·rw[if_neg h1];simp
theorem Ff: ∀(f:Nat) (l:List UInt8) (i:Nat) (acc:List UInt8),(i:Int)<=(fZ f l i acc).2.1/\(fZ f l i acc).2.1<=i+l.length
 | 0,_,_,_=>by simp[fZ];omega
 | _+1,[],_,_=>by simp[fZ]
 | f+1,c::r,i,acc=>by
  rw[sO];split
  ·split
   ·rename_i h;have:=Ff f (r.drop 1) (i+2) (acc++ [39]);rw[aZ] at this;have h0:0<r.length:=(by cases r with | nil=>simp at h | cons _ _=>simp);simp only[aL];omega
   ·simp only[aL];omega
  ·split
   ·simp only[aL];omega
   ·have hle:=decodeL_le (c::r) (List.cons_ne_nil _ _);have:=Ff f ((c::r).drop (decodeL (c::r)).2) (i+(decodeL (c::r)).2) (acc++(c::r).take (decodeL (c::r)).2);rw[aZ] at this;omega
theorem Ni (l:List UInt8):0<=(iP l 0).2.1/\(iP l 0).2.1<=l.length:=by
 unfold iP;rw[if_neg (by omega)];by_cases h1:l[(0:Int).toNat]?=some 39
 ·rw[if_pos h1];have:=Ff (l.length+1) (l.drop ((0:Int).toNat+1)) ((0:Int).toNat+1) [];rw[aZ] at this;have a:=(aP.1 h1).1;simp only[Int.toNat_zero] at this a ⊢;omega
 ·rw[if_neg h1];simp
theorem Nj (l:List UInt8):cL l<=l.length:=by
 have h1:=Nh l;have h2:=Ni l;unfold cL
 repeat' split
 all_goals omega
theorem Fg (l:List UInt8) (w:World) (hs:l.length<=1073741824) (hV:dC w) (hT:cD w):
  Calls Tryz.prog 171 #[.string (bs l)] w λe w'=>e= .returned (.int .i64 (cL l))/\Below w.heap.size w w':=by
 have sl:=aQ l;obtain⟨R,a⟩:=exQ<|cL l;rw[a];unfold cL at a;have h:=hid hV;have d:=hid hT;clear hV hT;cases l with
 | nil=>
  simp at a;subst a;have he:(bs ([]:List UInt8)).toList= []:=by rw[Lib.toList_data,aW]
  have he2:(bs ([]:List UInt8)).toList.isEmpty=true:=by rw[Lib.toList_data,aW];rfl
  go_enter Tryz.func171,Tryz.ntmps171;go_wp2_with fail;go_ret;exact⟨rfl,aB _ _⟩
 | cons c r=>
  have f:0<(bs (c::r)).size:=by rw[aQ];simp
  have hne:(bs (c::r)).toList.isEmpty=false:=by rw[Lib.toList_data,aW];rfl
  have hne2: ¬(bs (c::r)).toList= []:=by rw[Lib.toList_data,aW];simp
  have T34:=pF (c::r) 34 34 rfl f;have T39:=pF (c::r) 39 39 rfl f;rw[List.head?_cons] at T34 T39 a;have hlen:(c::r).length=r.length+1:=rfl;obtain⟨L,k⟩:=exQ<|c::r;have CE:=hid (λw hV hT=>Jb (c::r) 0 w hs hV hT);have CS:=hid (λw hT=>Ew (c::r) 0 w hs hT);have eb:=Nh (c::r);have sb:=Ni (c::r);obtain⟨E,g⟩:=exQ<|mW (c::r) 0;obtain⟨k1,e1⟩:=E;obtain⟨Q,i⟩:=exQ<|iP (c::r) 0;obtain⟨q1,k2,e2⟩:=Q;rw[g] at CE eb a;rw[i] at CS sb a;unfold lR at CS;simp only[] at CE CS eb sb a;obtain⟨x,j⟩: ∃x:Int,(((bs (c::r))[0]'f).toNat:Int)=x:=⟨_,rfl⟩;rw[j] at T34 T39;clear g i k;by_cases g1:c=34
  ·rw[if_pos (by rw[g1])] at a;rw[show (some c==some 34)=true from by rw[g1];rfl] at T34;clear T39 g1;by_cases ge:e1=0
   ·rw[if_pos ge] at a;obtain⟨n,rfl⟩: ∃n:Nat,k1=n:=⟨k1.toNat,by omega⟩;rw[eU] at a;subst a ge;go_enter Tryz.func171,Tryz.ntmps171;go_wp2_with fail;(with_reducible refine(CE.out _ h.out d.out).mono ?_);rintro e w1 ⟨rfl,b⟩;go_wp2_with fail;go_ret;exact⟨rfl,b⟩
   ·rw[if_neg ge] at a;subst a;have te:(e1 !=0)=true:=gP.2 ge;clear ge;go_enter Tryz.func171,Tryz.ntmps171;go_wp2_with fail;(with_reducible refine(CE.out _ h.out d.out).mono ?_);rintro e w1 ⟨rfl,b⟩;go_wp2_with fail;go_ret;exact⟨rfl,b⟩
  rw[if_neg (by simpa using g1)] at a;rw[show (some c==some 34)=false from by rw[aG];simpa using g1] at T34;by_cases g2:c=39
  ·rw[if_pos (by rw[g2])] at a;rw[show (some c==some 39)=true from by rw[g2];rfl] at T39;clear g1 g2;by_cases ge:e2=0
   ·rw[if_pos ge] at a;obtain⟨n,rfl⟩: ∃n:Nat,k2=n:=⟨k2.toNat,by omega⟩;rw[eU] at a;subst a ge;go_enter Tryz.func171,Tryz.ntmps171;go_wp2_with fail;(with_reducible refine(CS.out _ d.out).mono ?_);rintro e w1 ⟨rfl,b⟩;go_wp2_with fail;go_ret;exact⟨rfl,b⟩
   ·rw[if_neg ge] at a;subst a;have te:(e2 !=0)=true:=gP.2 ge;clear ge;go_enter Tryz.func171,Tryz.ntmps171;go_wp2_with fail;(with_reducible refine(CS.out _ d.out).mono ?_);rintro e w1 ⟨rfl,b⟩;go_wp2_with fail;go_ret;exact⟨rfl,b⟩
  ·rw[if_neg (by simpa using g2)] at a;rw[show (some c==some 39)=false from by rw[aG];simpa using g2] at T39;subst a;clear g1 g2;go_enter Tryz.func171,Tryz.ntmps171;go_wp2_with fail;go_ret;exact⟨rfl,aB _ _⟩
theorem aAX (s:List UInt8) (j:Nat):Lib.occAt s [32,35] j=true↔s[j]?=some 32/\s[j+1]?=some 35:=by
 unfold Lib.occAt;have c:s[j]?=(s.drop j)[0]?:=by rw[nO,Nat.add_zero]
 have d:s[j+1]?=(s.drop j)[1]?:=by rw[nO]
 rw[c,d]
 match s.drop j with
 | []=>simp[List.isPrefixOf]
 | [a]=>simp[List.isPrefixOf]
 | a::b::r=>
  simp[List.isPrefixOf];constructor
  ·rintro⟨rfl,rfl⟩;exact⟨rfl,rfl⟩
  ·rintro⟨rfl,rfl⟩;exact⟨rfl,rfl⟩
theorem aAY (l:List UInt8) (a m:Nat) (ha:a<=l.length) (hm:m+1=max a 1) (hl:m<=l.length):
  (Lib.index (l.drop m) [32,35]= -1->dN l a=l.length)/\(∀i:Nat,Lib.index (l.drop m) [32,35]=i->dN l a=m+i+1/\m+i+1<=l.length):=by
 have c: ∀j,Lib.occAt (l.drop m) [32,35] j=true↔l[m+j]?=some 32/\l[m+j+1]?=some 35:=λj=>by
  rw[aAX,nO,nO];rfl
 have b: ∀i,(∀j,j<i->Lib.occAt (l.drop m) [32,35] j=false)-> ∀j,max a 1<=j->j<m+i+1-> ¬(l[j]?=some 35/\l[j-1]?=some 32):=by
  rintro i h j d k ⟨e1,e2⟩;have:=h (j-1-m) (by omega);have e:=(c (j-1-m)).2 ⟨by rw[show m+(j-1-m)=j-1 by omega];exact e2,by rw[show m+(j-1-m)+1=j by omega];exact e1⟩;rw[this] at e;cases e
 rcases Lib.index_spec (l.drop m) [32,35] with⟨d,k⟩ | ⟨i,d,k,e,o⟩
 ·refine⟨λ_=>vR l a l.length (aD _) (λh=>absurd h (Nat.lt_irrefl _)) (λj g1 g2=>?_),λi f=>by rw[d] at f;omega⟩;refine b (l.length-m) (λj n=>k j (by rw[aZ];omega)) j g1 (by omega)
 ·refine⟨λh=>by rw[d] at h;omega,λi' f=>?_⟩;obtain rfl:i=i':=by rw[d] at f;omega
  have g:=(c i).1 e;have hlt:=(aP.1 g.2).1;refine⟨vR l a (m+i+1) (by omega) (λ_=>⟨by omega,g.2,by rw[Nat.add_sub_cancel];exact g.1⟩) (b i (λj n=>?_)),by omega⟩;exact o j n
theorem Nk (l:List UInt8) (a:Nat) (w:World) (hs:l.length<=1073741824) (ha:a<=l.length) (hM:lC w):
  Calls Tryz.prog 196 #[.string (bs l), .int .i64 a] w λe w'=>e= .returned (.int .i64 (dN l a))/\w=w':=by
 have sl:=aQ l;obtain⟨M,hM⟩:=hM;obtain⟨m,f⟩: ∃m,m+1=max a 1:=⟨max a 1-1,by omega⟩;have d:m<=l.length:=by omega
 have c:=aAY l a m ha f d;obtain⟨X,j⟩:=exQ<|Lib.index (l.drop m) [32,35];have g:=Lib.index_ge (l.drop m) [32,35];have CI:Hid (Calls Tryz.prog 97 #[.string ((bs l).extract m l.length), .string ⟨#[32,35]⟩] w λe w'=>e= .returned (.int .i64 X)/\w=w'):=hid (by have h:=Tryz.strings_Index ((bs l).extract m l.length) ⟨#[32,35]⟩ M w (by rw[mV _ _ _ rfl,aQ,aZ];omega) hM;rw[mV _ _ _ rfl,aW,show (⟨#[32,35]⟩:ByteArray).data.toList= [32,35] from rfl,j] at h;rw[mV _ _ _ rfl];exact h.mono λ_ _ ⟨a,b⟩=>⟨a,b.symm⟩);rw[j] at c g;obtain⟨N,n⟩:=exQ<|dN l a;rw[n] at c ⊢;have hmax:max ((a:Int)-1) 0=(m:Int):=by omega
 clear j n hM;have ha0:(a:Int)<=(l.length:Int):=by omega
 have hm0:(0:Int)<=(m:Int):=by omega
 have hm1:(m:Int)<=(l.length:Int):=by omega
 have HM:=hid f;clear f;by_cases hx:X<0
 ·have k:=hid (c.1 (by omega));clear c;go_enter Tryz.func196,Tryz.ntmps196;go_wp2_with (go_at_call 97;refine CI.out.mono ?_;rintro e w' ⟨rfl,rfl⟩);go_ret;exact⟨uX (by rw[k.out]),rfl⟩
 ·obtain⟨i,rfl⟩: ∃i:Nat,X=i:=⟨X.toNat,by omega⟩;obtain⟨n1,n2⟩:=c.2 i rfl;have k:=hid n1;have dx:decide ((i:Int)<0)=false:=aJ (by omega);clear c hx n1;go_enter Tryz.func196,Tryz.ntmps196;go_wp2_with (go_at_call 97;refine CI.out.mono ?_;rintro e w' ⟨rfl,rfl⟩);go_ret;exact⟨uX (by rw[k.out];omega),rfl⟩
theorem Nl (l:List UInt8) (k:Nat) (h:k<l.length) (h2:k<(bs l).size):(bs l)[k]'h2=l[k]'h:=by
 have:=rZ l k h2;rw[bH h] at this;exact(bC this).symm
theorem aAZ (l:List UInt8) (k:Nat) (c:UInt8) (w:World) (hs:l.length<=1073741824) (hk:k<=1073741824):
  Calls Tryz.prog 195 #[.string (bs l), .int .i64 k, .int .u8 (c.toNat:Int)] w λe w'=>e= .returned (.bool (eR l k c))/\w=w':=by
 have sl:=aQ l;obtain⟨R,a⟩:=exQ<|eR l k c;rw[a];unfold eR at a;by_cases hlt:k<l.length
 ·have b:k<(bs l).size:=by omega
  have o:=Nl l k hlt b;have T1:=Cv ((bs l)[k]'b) c _ rfl;rw[bH hlt,<-o] at a;have d1:decide (k<l.length)=true:=aN hlt;obtain⟨n,m⟩: ∃n:Int,(c.toNat:Int)=n:=⟨_,rfl⟩;rw[m] at T1 ⊢;obtain⟨x,g⟩:=exQ<|(bs l)[k]'b;rw[g] at T1 a;have r:(((bs l)[k]'b).toNat:Int)=(x.toNat:Int):=by rw[g]
  obtain⟨y,p⟩: ∃y:Int,(x.toNat:Int)=y:=⟨_,rfl⟩;rw[p] at T1 r;by_cases he:x=c
  ·rw[show (x==c)=true from beq_iff_eq.2 he] at T1;rw[show (some x==some c)=true from by rw[he];exact beq_self_eq_true _,Bool.true_and] at a;by_cases hl1:k+1=l.length
   ·have t2:((k:Int)+1==(l.length:Int))=true:=beq_iff_eq.2 (by omega);rw[List.getElem?_eq_none (by omega)] at a;have f:R=true:=by rw[<-a];rfl
    subst f;clear a o he g p m hl1;go_enter Tryz.func195,Tryz.ntmps195;go_wp2_with fail;go_ret;exact⟨rfl,rfl⟩
   ·have t2:((k:Int)+1==(l.length:Int))=false:=aG.2 (by omega);have i:k+1<l.length:=(by omega);have d:k+1<(bs l).size:=(by omega);have j:=Nl l (k+1) i d;have T2:=Cv ((bs l)[k+1]'d) 32 32 rfl;rw[bH i,<-j] at a;have f:((bs l)[k+1]'d==32)=R:=by rw[<-a];simp
    rw[f] at T2;clear a o j he g p m hl1 f;go_enter Tryz.func195,Tryz.ntmps195;go_wp2_with fail;go_ret;exact⟨rfl,rfl⟩
  ·rw[show (x==c)=false from aG.2 he] at T1;rw[show (some x==some c)=false from aG.2 (λh=>he (bC h)),Bool.false_and] at a;subst a;clear o he g p m;go_enter Tryz.func195,Tryz.ntmps195;go_wp2_with fail;go_ret;exact⟨rfl,rfl⟩
 ·have d1:decide (k<l.length)=false:=aJ hlt;rw[List.getElem?_eq_none (by omega)] at a;have q:R=false:=by rw[<-a];rfl
  subst q;clear a;go_enter Tryz.func195,Tryz.ntmps195;go_wp2_with fail;go_ret;exact⟨rfl,rfl⟩
def Nm (h:Nat×Nat):Ending:= .returned (.tuple #[.int .i64 h.1, .int .i64 h.2])
theorem vY (l:List UInt8) (k:Nat) (c:UInt8) (ki ci:Int) (B:Bool) (hki:(k:Int)=ki) (hci:(c.toNat:Int)=ci) (hB:eR l k c=B) (hs:l.length<=1073741824) (hk:k<=1073741824) (w:World):
  Calls Tryz.prog 195 #[.string (bs l), .int .i64 ki, .int .u8 ci] w λe w'=>e= .returned (.bool B)/\w=w':=by
 subst hki hci hB;exact aAZ l k c w hs hk
theorem Nn (t:List UInt8) (c f k:Nat):nX t c (f+1) k=if c<=k then(5,0) else if eR t k 58 then(4,k) else nX t c f (k+1):=rfl
theorem aBa (l:List UInt8) (w:World) (hne:l≠ []) (hs:l.length<=1073741824) (hV:dC w) (hT:cD w) (hM:lC w):
  Calls Tryz.prog 172 #[.string (bs l)] w λe w'=>e=Nm (eY l)/\Below w.heap.size w w':=by
 have sl:=aQ l;obtain⟨R,b⟩:=exQ<|eY l;rw[b];unfold eY at b;have j:0<(bs l).size:=by rw[aQ];exact mX.2 hne
 have hl0:0<l.length:=by omega
 have T34:=pF l 34 34 rfl j;have T39:=pF l 39 39 rfl j;have T91:=pF l 91 91 rfl j;have T123:=pF l 123 123 rfl j;obtain⟨x,y⟩: ∃x:Int,(((bs l)[0]'j).toNat:Int)=x:=⟨_,rfl⟩;rw[y] at T34 T39 T91 T123;have n:=hid hV;have o:=hid hT;have t:=hid hM;clear hV hT hM hne;cases hb0:eR l 0 45 with
 | true=>
  have CS:=hid (λw=>vY l 0 45 0 45 true rfl rfl hb0 hs (by omega) w);rw[if_pos hb0] at b;subst b;clear hb0 T34 T39 T91 T123;go_enter Tryz.func172,Tryz.ntmps172;go_wp2_with (go_at_call 195;refine(CS.out _).mono ?_;rintro e w' ⟨rfl,rfl⟩);go_ret2;exact⟨rfl,aB _ _⟩
 | false=>
  have CS:=hid (λw=>vY l 0 45 0 45 false rfl rfl hb0 hs (by omega) w);rw[if_neg (by rw[hb0];simp)] at b;clear hb0;by_cases hq:l.head?=some 34\/l.head?=some 39
  ·rw[if_pos hq] at b;have CQ:=hid (λw hV hT=>Fg l w hs hV hT);obtain⟨q,i⟩:=exQ<|cL l;have s:=Nj l;rw[i] at CQ b s;clear T91 T123;have TQ:((x==34)||(x==39))=true:=by
    rw[T34,T39];rcases hq with h | h<;>rw[h]<;>rfl
   cases a:eR l q 58 with
   | true=>
    have CS2:=hid (λw=>vY l q 58 q 58 true rfl rfl a hs (by omega) w);rw[if_pos a] at b;subst b;clear a i;by_cases hx34:x=34
    ·subst hx34;clear T34 T39 hq TQ;go_enter Tryz.func172,Tryz.ntmps172;go_wp2_with (go_at_call 195;refine(CS.out _).mono ?_;rintro e w' ⟨rfl,rfl⟩);(with_reducible refine(CQ.out _ n.out o.out).mono ?_);rintro e w1 ⟨rfl,a⟩;have c:=hid a;clear a;go_wp2_with (go_at_call 195;refine(CS2.out _).mono ?_;rintro e w' ⟨rfl,rfl⟩);go_ret2;exact⟨rfl,c.out⟩
    ·have t34:(x==34)=false:=aG.2 hx34;have t39:(x==39)=true:=by rw[t34] at TQ;simpa using TQ
     clear T34 T39 hq TQ hx34;go_enter Tryz.func172,Tryz.ntmps172;go_wp2_with (go_at_call 195;refine(CS.out _).mono ?_;rintro e w' ⟨rfl,rfl⟩);(with_reducible refine(CQ.out _ n.out o.out).mono ?_);rintro e w1 ⟨rfl,a⟩;have c:=hid a;clear a;go_wp2_with (go_at_call 195;refine(CS2.out _).mono ?_;rintro e w' ⟨rfl,rfl⟩);go_ret2;exact⟨rfl,c.out⟩
   | false=>
    have CS2:=hid (λw=>vY l q 58 q 58 false rfl rfl a hs (by omega) w);rw[if_neg (by rw[a];simp)] at b;subst b;clear a i;by_cases hx34:x=34
    ·subst hx34;clear T34 T39 hq TQ;go_enter Tryz.func172,Tryz.ntmps172;go_wp2_with (go_at_call 195;refine(CS.out _).mono ?_;rintro e w' ⟨rfl,rfl⟩);(with_reducible refine(CQ.out _ n.out o.out).mono ?_);rintro e w1 ⟨rfl,a⟩;have c:=hid a;clear a;go_wp2_with (go_at_call 195;refine(CS2.out _).mono ?_;rintro e w' ⟨rfl,rfl⟩);go_ret2;exact⟨rfl,c.out⟩
    ·have t34:(x==34)=false:=aG.2 hx34;have t39:(x==39)=true:=by rw[t34] at TQ;simpa using TQ
     clear T34 T39 hq TQ hx34;go_enter Tryz.func172,Tryz.ntmps172;go_wp2_with (go_at_call 195;refine(CS.out _).mono ?_;rintro e w' ⟨rfl,rfl⟩);(with_reducible refine(CQ.out _ n.out o.out).mono ?_);rintro e w1 ⟨rfl,a⟩;have c:=hid a;clear a;go_wp2_with (go_at_call 195;refine(CS2.out _).mono ?_;rintro e w' ⟨rfl,rfl⟩);go_ret2;exact⟨rfl,c.out⟩
  ·rw [if_neg hq] at b;rw[show (l.head?==some 34)=false from aG.2 (λh=>hq (.inl h))] at T34;rw[show (l.head?==some 39)=false from aG.2 (λh=>hq (.inr h))] at T39;by_cases hbr:l.head?=some 91\/l.head?=some 123
   ·rw[if_pos hbr] at b;subst b;by_cases hx91:x=91
    ·subst hx91;clear T34 T39 T91 T123 hq hbr;go_enter Tryz.func172,Tryz.ntmps172;go_wp2_with (go_at_call 195;refine(CS.out _).mono ?_;rintro e w' ⟨rfl,rfl⟩);go_ret2;exact⟨rfl,aB _ _⟩
    ·have t91:(x==91)=false:=aG.2 hx91;have t123:(x==123)=true:=by
      rw[T123];rcases hbr with h | h
      ·rw[t91,h] at T91;cases T91
      ·rw[h];rfl
     clear T91 T123 hq hbr hx91;go_enter Tryz.func172,Tryz.ntmps172;go_wp2_with (go_at_call 195;refine(CS.out _).mono ?_;rintro e w' ⟨rfl,rfl⟩);go_ret2;exact⟨rfl,aB _ _⟩
   ·rw [if_neg hbr] at b;rw[show (l.head?==some 91)=false from aG.2 (λh=>hbr (.inl h))] at T91;rw[show (l.head?==some 123)=false from aG.2 (λh=>hbr (.inr h))] at T123;have CN:=hid (λw hM=>Nk l 0 w hs (by omega) hM);obtain⟨N,v⟩:=exQ<|dN l 0;have r:=(vQ l 0).1;rw[v] at CN b r;have z:=hid b;clear hq hbr b v;go_enter Tryz.func172,Tryz.ntmps172;go_wp2_with (go_at_call 195;refine(CS.out _).mono ?_;rintro e w' ⟨rfl,rfl⟩);go_loop [6] (λs6=> ∃k f:Nat,s6= .int .i64 k/\1<=k/\k<=l.length+1/\l.length<k+f/\Hid (nX l N f k=R)) (λs6=>l.length+1-(RowKit.intOf s6).toNat)
    case atStart=>exact⟨1,l.length,rfl,by omega,by omega,by omega,z.out⟩
    case round=>
     obtain⟨k,f,rfl,hk1,hk2,hf,m⟩:=hrel;by_cases hkN:N<=k
     ·have u:Hid (R=(5,0)):=by
       have d:=m.out;cases f with
       | zero=>exact hid d.symm
       | succ f=>rw[Nn,if_pos hkN] at d;exact hid d.symm
      have dk:decide (k<N)=false:=aJ (by omega);go_wp2_with (go_at_call 196;refine(CN.out _ t.out).mono ?_;rintro e w' ⟨rfl,rfl⟩);go_ret2;exact⟨by rw[u.out];rfl,aB _ _⟩
     ·have dk:decide (k<N)=true:=aN (by omega);obtain⟨g,rfl⟩: ∃g,f=g+1:=⟨f-1,by omega⟩;have d:=m.out;rw[Nn,if_neg hkN] at d;cases a:eR l k 58 with
      | true=>
       have CS2:=hid (λw=>vY l k 58 k 58 true rfl rfl a hs (by omega) w);rw[if_pos a] at d;have u:=hid d;clear d a m;go_wp2_with (first | (go_at_call 196;refine(CN.out _ t.out).mono ?_;rintro e w' ⟨rfl,rfl⟩) | (go_at_call 195;(with_reducible refine(CS2.out _).mono ?_);rintro e w' ⟨rfl,rfl⟩));go_ret2;exact⟨by rw[<-u.out];rfl,aB _ _⟩
      | false=>
       have CS2:=hid (λw=>vY l k 58 k 58 false rfl rfl a hs (by omega) w);rw[if_neg (by rw[a];simp)] at d;have p:=hid d;clear d a m;go_wp2_with (first | (go_at_call 196;refine(CN.out _ t.out).mono ?_;rintro e w' ⟨rfl,rfl⟩) | (go_at_call 195;(with_reducible refine(CS2.out _).mono ?_);rintro e w' ⟨rfl,rfl⟩));go_round
       case rel=>exact⟨k+1,g,by go_num,by omega,by omega,by omega,p.out⟩
       case measure=>simp[RowKit.intOf];omega
theorem oC {w:World}{g:Nat}{t:TypeId}{cs:Array Value} (h:w.heap[g]?=some (.cells cs t (0,0))) (i:Nat):w.cell? ⟨g,i,none⟩=cs[i]?:=cell_of_row w g i cs t (0,0) h
theorem qF {w:World}{g:Nat}{t:TypeId}{cs:Array Value} (h:w.heap[g]?=some (.cells cs t (0,0))) (i:Nat):w.frozen? ⟨g,i,none⟩=false:=by
 simp[World.frozen?,h]
theorem kN {w:World}{g:Nat}{t:TypeId}{cs:Array Value} (h:w.heap[g]?=some (.cells cs t (0,0))) (i:Nat) (u:Value):(w.setCell ⟨g,i,none⟩ u).heap[g]?=some (.cells (cs.setIfInBounds i u) t (0,0)):=by
 simp[World.setCell,Array.getElem?_modify,h]
def bR (w:World) (X:Nat) (r:aO):Prop:=w.heap[X]?=some (.cells #[.int .i64 r.kind, .int .i64 r.sf, .int .i64 r.st, .int .i64 r.ind, .int .i64 r.kf, .int .i64 r.kt, .int .i64 r.rf, .int .i64 r.rt, .int .i64 r.nf, .int .i64 r.nt] 143 (0,0))
abbrev aBb (w:World) (X:Nat) (r:aO):Prop:=
 w.cell? ⟨X,0,none⟩=some (.int .i64 r.kind)/\w.cell? ⟨X,1,none⟩=some (.int .i64 r.sf)/\w.cell? ⟨X,2,none⟩=some (.int .i64 r.st)/\w.cell? ⟨X,3,none⟩=some (.int .i64 r.ind)/\
 w.cell? ⟨X,4,none⟩=some (.int .i64 r.kf)/\w.cell? ⟨X,5,none⟩=some (.int .i64 r.kt)/\w.cell? ⟨X,6,none⟩=some (.int .i64 r.rf)/\w.cell? ⟨X,7,none⟩=some (.int .i64 r.rt)/\
 w.cell? ⟨X,8,none⟩=some (.int .i64 r.nf)/\w.cell? ⟨X,9,none⟩=some (.int .i64 r.nt)/\
 w.frozen? ⟨X,0,none⟩=false/\w.frozen? ⟨X,1,none⟩=false/\w.frozen? ⟨X,2,none⟩=false/\w.frozen? ⟨X,3,none⟩=false/\w.frozen? ⟨X,4,none⟩=false/\
 w.frozen? ⟨X,5,none⟩=false/\w.frozen? ⟨X,6,none⟩=false/\w.frozen? ⟨X,7,none⟩=false/\w.frozen? ⟨X,8,none⟩=false/\w.frozen? ⟨X,9,none⟩=false
theorem bR.cells {w:World}{X:Nat}{r:aO} (h:bR w X r):aBb w X r:=
  ⟨oC h 0,oC h 1,oC h 2,oC h 3,oC h 4,oC h 5,oC h 6,oC h 7,oC h 8,oC h 9,
   qF h 0,qF h 1,qF h 2,qF h 3,qF h 4,qF h 5,qF h 6,qF h 7,qF h 8,qF h 9⟩
theorem bR.lt {w:World}{X:Nat}{r:aO} (h:bR w X r):X<w.heap.size:=aE h
theorem bR.keep {w w':World}{X:Nat}{r:aO} (h:bR w X r) (hb:Below w.heap.size w w'):bR w' X r:=(hb.block X h.lt).trans h
theorem bR.drew {w:World}{X:Nat}{r:aO} (h:bR w X r):bR w.drew X r:=h
def lY (X:Nat) (a b:World):Prop:=a.grownBy b (some X)
theorem lY.of_below {X:Nat}{a b:World} (h:Below a.heap.size a b):lY X a b:=⟨h.os,h.tape,h.output,h.size,λi c _=>h.block i c⟩
theorem lY.set {X:Nat}{a b:World} (h:lY X a b) (i:Nat) (u:Value):lY X a (b.setCell ⟨X,i,none⟩ u):=
 ⟨h.os,h.tape,h.output,by have:=h.size;simpa [World.setCell] using this,λj d c=>(eQ b ⟨X,i,none⟩ u j (by rintro rfl;exact c rfl)).trans (h.block j d c)⟩
theorem lY.drew {X:Nat}{a b:World} (h:lY X a b):lY X a b.drew:=⟨h.os,h.tape,h.output,h.size,h.block⟩
def qG (l:List UInt8) (a b:Int):Bool:=if a<0\/b<a\/(l.length:Int)<b then false else !((l.drop a.toNat).take (b-a).toNat).contains 10
theorem aBc (l:List UInt8) (c:UInt8):decide (0<=Lib.indexByte l c)=l.contains c:=(Lib.contains_iff_indexByte l c).symm
theorem Fh (l:List UInt8) (a b:Int) (w:World) (hs:l.length<=1073741824):
  Calls Tryz.prog 169 #[.string (bs l), .agg #[.int .i64 a, .int .i64 b]] w λe w'=>e= .returned (.bool (qG l a b))/\Below w.heap.size w w':=by
 have sl:=aQ l;obtain⟨R,c⟩:=exQ<|qG l a b;rw[c];unfold qG at c;by_cases h1:a<0
 ·rw[if_pos (.inl h1)] at c;subst c;go_enter Tryz.func169,Tryz.ntmps169;go_wp2_with fail;go_ret;exact⟨rfl,aH _ _⟩
 by_cases h2:b<a
 ·rw[if_pos (.inr (.inl h2))] at c;subst c;go_enter Tryz.func169,Tryz.ntmps169;go_wp2_with fail;go_ret;exact⟨rfl,aH _ _⟩
 by_cases h3:(l.length:Int)<b
 ·rw[if_pos (.inr (.inr h3))] at c;subst c;go_enter Tryz.func169,Tryz.ntmps169;go_wp2_with fail;go_ret;exact⟨rfl,aH _ _⟩
 rw[if_neg (by omega)] at c;obtain⟨x,rfl⟩: ∃x:Nat,a=x:=⟨a.toNat,by omega⟩;obtain⟨y,rfl⟩: ∃y:Nat,b=y:=⟨b.toNat,by omega⟩;rw[eU,show ((y:Int)-(x:Int)).toNat=y-x by omega] at c;obtain⟨B,d⟩:=exQ<|((l.drop x).take (y-x)).contains 10;have CC:Hid (∀w,Calls Tryz.prog 58 #[.string ((bs l).extract x y), .string ⟨#[10]⟩] w λe w'=>e= .returned (.bool B)/\w=w'):=hid (λw=>by have h:=Tryz.strings_Contains_one ((bs l).extract x y) 10 w;rw[mT,aW,aW,aBc,d] at h;rw[mT,aW];exact h.mono λ_ _ ⟨a,b⟩=>⟨a,b.symm⟩);rw[d] at c;have d2:decide (y<x)=false:=aJ (by omega);have d3:decide (l.length<y)=false:=aJ (by omega);have hxy:(x:Int)<=(y:Int):=by omega
 have hyl:(y:Int)<=(l.length:Int):=by omega
 clear d h1 h2 h3;subst c;go_enter Tryz.func169,Tryz.ntmps169;go_wp2_with (go_at_call 58;refine(CC.out _).mono ?_;rintro e w' ⟨rfl,rfl⟩);go_ret;exact⟨rfl,aH _ _⟩
theorem No (l:List UInt8) (w:World):Calls Tryz.prog 76 #[.string (bs l), .string ⟨#[32]⟩] w λe w'=>e= .returned (.string (bs (l.drop (bI l))))/\w=w':=by
 have h:=Tryz.strings_TrimLeft_one (bs l) 32 (by decide) w;have e:Lib.trimLeftB (bs l).data.toList 32=l.drop (bI l):=by
  rw[aW];unfold Lib.trimLeftB bI;have h:=List.takeWhile_append_dropWhile (p:=(· ==32)) (l:=l)
  conv=>rhs;arg 2;rw[<-h]
  exact(kU).symm
 rw[e] at h;exact h.mono λ_ _ ⟨a,b⟩=>⟨a,b.symm⟩
theorem aBd (l:List UInt8) (w:World) (hs:l.length<=1073741824):Calls Tryz.prog 77 #[.string (bs l), .string ⟨#[32]⟩] w λe w'=>e= .returned (.string (bs (l.take (iS l))))/\w=w':=by
 have h:=Tryz.strings_TrimRight_one (bs l) 32 (by decide) w (by rw[aQ];omega);have e:Lib.trimRightB (bs l).data.toList 32=l.take (iS l):=by
  rw[aW];unfold Lib.trimRightB iS bI;have h:=List.takeWhile_append_dropWhile (p:=(· ==32)) (l:=l.reverse);have c:l.reverse.dropWhile (· ==32)=l.reverse.drop (l.reverse.takeWhile (· ==32)).length:=by
   conv=>rhs;arg 2;rw[<-h]
   exact(kU).symm
  rw[c,List.drop_reverse,List.reverse_reverse]
 rw[e] at h;exact h.mono λ_ _ ⟨a,b⟩=>⟨a,b.symm⟩
def Fi (t:List UInt8) (f2 tw:Nat) (r:aO):aO:=
 ⟨r.kind,r.sf,r.st,r.ind,r.kf,r.kt,r.sf+f2,r.sf+(f2+iS ((t.take tw).drop f2)),if tw<t.length then r.sf+tw else r.nf,if tw<t.length then r.st else r.nt⟩
def rJ (t:List UInt8) (f:Nat) (r:aO):aO:=Fi t (bT t f) (dN t (bT t f+cL (t.drop (bT t f)))) r
theorem bR.note {w:World}{X:Nat}{r:aO} (h:bR w X r) (a b:Int):bR ((w.setCell ⟨X,8,none⟩ (.int .i64 a)).setCell ⟨X,9,none⟩ (.int .i64 b)) X { r with nf:=a,nt:=b }:=kN (kN h 8 _) 9 _
theorem bR.rest {w:World}{X:Nat}{r:aO} (h:bR w X r) (a b:Int):bR ((w.setCell ⟨X,6,none⟩ (.int .i64 a)).setCell ⟨X,7,none⟩ (.int .i64 b)) X { r with rf:=a,rt:=b }:=kN (kN h 6 _) 7 _
def Fj (X:Nat) (r:aO) (w w':World):Prop:=bR w' X r/\lY X w w'
theorem Fk (t:List UInt8) (f X:Nat) (r:aO) (w:World) (hs:t.length<=1073741824) (hf:f<=t.length) (hX:bR w X r) (h0:0<=r.sf) (h1:r.sf<=1073741824) (hV:dC w) (hT:cD w) (hM:lC w):
  Calls Tryz.prog 173 #[.pointer (some ⟨X,0,none⟩), .string (bs t), .int .i64 f] w λe w'=>(∃v,e= .returned v)/\bR w' X (rJ t f r)/\lY X w w':=by
 have sl:=aQ t;obtain⟨b1,b2,_,_⟩:=Mh t f hf;have i:bT t f=f+bI (t.drop f):=rfl;obtain⟨R,c⟩:=exQ<|rJ t f r;rw[c];unfold rJ at c;obtain⟨f2,s⟩:=exQ<|bT t f;rw[s] at c b1 b2 i;have CL:Hid (∀w,Calls Tryz.prog 76 #[.string ((bs t).extract f t.length), .string ⟨#[32]⟩] w λe w'=>e= .returned (.string (bs (t.drop f2)))/\w=w'):=hid (λw=>by have:=No (t.drop f) w;rw[lP,<-i] at this;rw[mV _ _ _ rfl];exact this);have CQ:Hid (∀w,dC w->cD w->Calls Tryz.prog 171 #[.string ((bs t).extract f2 t.length)] w λe w'=>e= .returned (.int .i64 (cL (t.drop f2)))/\Below w.heap.size w w'):=hid (λw hV hT=>by have:=Fg (t.drop f2) w (by rw[aZ];omega) hV hT;rw[mV _ _ _ rfl];exact this);have o:=Nj (t.drop f2);rw[aZ] at o;obtain⟨q,G⟩:=exQ<|cL (t.drop f2);rw[G] at CQ c o;have CN:=hid (λw hM=>Nk t (f2+q) w hs (by omega) hM);have n:=vQ t (f2+q);obtain⟨tw,l⟩:=exQ<|dN t (f2+q);rw[l] at CN c n;unfold Fi at c;obtain⟨n1,n2,_⟩:=n;have hft:f2<=tw:=by
  by_cases d:tw<t.length
  ·have:=(n2 d).1;omega
  ·omega
 have CR:Hid (∀w,Calls Tryz.prog 77 #[.string ((bs t).extract f2 tw), .string ⟨#[32]⟩] w λe w'=>e= .returned (.string (bs (((t.take tw).drop f2).take (iS ((t.take tw).drop f2)))))/\w=w'):=hid (λw=>by have:=aBd ((t.take tw).drop f2) w (by rw[aZ,cB];omega);rw[mT,aW,<-List.drop_take];exact this);have b:((f2+q:Nat):Int)=(f2:Int)+(q:Int):=by omega
 rw[b] at CN;obtain⟨Y,E⟩:=exQ<|((t.take tw).drop f2).take (iS ((t.take tw).drop f2));have h:Y.length=iS ((t.take tw).drop f2):=by rw[<-E,cB,Nat.min_eq_left (Es _)]
 have p:=Es ((t.take tw).drop f2);rw[aZ,cB,Nat.min_eq_left n1] at p;obtain⟨z,F⟩:=exQ<|iS ((t.take tw).drop f2);rw[E] at CR;rw[F] at c h p;have sY:=aQ Y;rw[h] at sY;have sD:=aQ (t.drop f2);rw[aZ] at sD;have hsub:(t.length:Int)-((t.length-f2:Nat):Int)=(f2:Int):=by omega
 have L:=hid hX;have J:=hid hV;have M:=hid hT;have I:=hid hM;have K:=hid c;have hfi:(f:Int)<=(t.length:Int):=by omega
 have hf2i:(f2:Int)<=(t.length:Int):=by omega
 have htwi:(tw:Int)<=(t.length:Int):=by omega
 have hfti:(f2:Int)<=(tw:Int):=by omega
 clear hX hV hT hM c s G l n1 n2 E h F b i;go_enter Tryz.func173,Tryz.ntmps173;go_wp2_with (go_at_call 76;refine(CL.out _).mono ?_;rintro e w' ⟨rfl,rfl⟩);(with_reducible refine(CQ.out _ J.out M.out).mono ?_);rintro e w1 ⟨rfl,g⟩;have C:=hid (L.out.keep g);have A:=hid (I.out.keep g);have x:=hid (lY.of_below (X:=X) g);clear g;go_upto_if 27 with(go_at_call 196;(with_reducible refine(CN.out _ A.out).mono ?_);rintro e w' ⟨rfl,rfl⟩);obtain⟨r2,a⟩: ∃r2:aO,r2= { r with nf:=if tw<t.length then r.sf+tw else r.nf,nt:=if tw<t.length then r.st else r.nt }:=⟨_,rfl⟩;have j:=hid a;go_cut [] (λwx=>Hid (Fj X r2 w wx))
 case first=>
  have u:Fj X r w w1:=⟨C.out,x.out⟩;by_cases d:tw<t.length
  ·have dl:decide (tw<t.length)=true:=aN d;clear a;go_wp2_with fail;obtain⟨a0,a1,a2,a3,a4,a5,a6,a7,a8,a9,g0,g1,g2,g3,g4,g5,g6,g7,g8,g9⟩:=u.1.cells;have D:IntKind.i64.wrap (r.sf+(tw:Int))=r.sf+(tw:Int):=by rw[IntKind.wrap_i64];omega
   have B:Hid (r2= { r with nf:=r.sf+tw,nt:=r.st }):=by rw[j.out,if_pos d,if_pos d];exact hid rfl
   clear d;go_region
   all_goals go_wp2_with fail
   all_goals go_meet
   all_goals (rw[B.out];exact⟨(bR.note u.1 _ _).drew,((u.2.set 8 _).set 9 _).drew⟩)
  ·have dl:decide (tw<t.length)=false:=aJ d;have:r2=r:=(by rw[a,if_neg d,if_neg d]);subst this;clear a;go_wp2_with fail;go_meet;exact u
 have H:=hcut;clear a;have k:r2.sf=r.sf:=by rw[j.out]
 have B:Hid (R= { r2 with rf:=r.sf+f2,rt:=r.sf+(f2+z) }):=by rw[<-K.out,j.out];exact hid rfl
 rw[<-k] at h0 h1;have m:=hid k;clear k;go_upto_if 47 with fail;go_cut [7] (λs7 wx=>s7= .int .i64 (((f2+z:Nat)):Int)/\Hid (Fj X r2 w wx))
 case first=>
  by_cases hgt:f2<tw
  ·have dg:decide (f2<tw)=true:=aN hgt;go_wp2_with (go_at_call 77;refine(CR.out _).mono ?_;rintro e w' ⟨rfl,rfl⟩);go_meet;exact⟨by go_num,H.out⟩
  ·have dg:decide (f2<tw)=false:=aJ hgt;obtain rfl:z=0:=(by omega);go_wp2_with fail;go_meet;exact⟨by go_num,H.out⟩
 obtain⟨rfl,y⟩:=hcut;obtain⟨a0,a1,a2,a3,a4,a5,a6,a7,a8,a9,g0,g1,g2,g3,g4,g5,g6,g7,g8,g9⟩:=y.out.1.cells;have D:IntKind.i64.wrap (r2.sf+(f2:Int))=r2.sf+(f2:Int):=by rw[IntKind.wrap_i64];omega
 have hw2:IntKind.i64.wrap (r2.sf+((f2:Int)+(z:Int)))=r2.sf+((f2:Int)+(z:Int)):=by rw[IntKind.wrap_i64];omega
 go_wp2_with fail;go_region
 all_goals go_end0
 all_goals (refine⟨⟨_,rfl⟩,?_,(((y.out.2).set 6 _).set 7 _).drew⟩)
 all_goals (rw[B.out,<-m.out];exact(bR.rest y.out.1 _ _).drew)
def uA (w:World) (S:Nat) (a b:Int):Prop:=w.heap[S]?=some (.cells #[.int .i64 a, .int .i64 b] 76 (0,0))
abbrev aBe (w:World) (S:Nat) (a b:Int):Prop:=w.cell? ⟨S,0,none⟩=some (.int .i64 a)/\w.cell? ⟨S,1,none⟩=some (.int .i64 b)
theorem uA.cells {w:World}{S:Nat}{a b:Int} (h:uA w S a b):aBe w S a b:=⟨oC h 0,oC h 1⟩
theorem uA.keep {w w':World}{S:Nat}{a b:Int} (h:uA w S a b) (hb:Below w.heap.size w w'):uA w' S a b:=(hb.block S (aE h)).trans h
def gG (r:aO):Value:= .agg #[.int .i64 r.kind, .int .i64 r.sf, .int .i64 r.st, .int .i64 r.ind, .int .i64 r.kf, .int .i64 r.kt, .int .i64 r.rf, .int .i64 r.rt, .int .i64 r.nf, .int .i64 r.nt]
def sW (x:aO×Int×Int):Ending:= .returned (.tuple #[gG x.1, .int .i64 x.2.1, .int .i64 x.2.2])
structure eF (w:World) (a b:Int) (r:aO) (w':World):Prop where
 s:uA w' w.heap.size a b
 l:bR w' (w.heap.size+1) r
 b:Below w.heap.size w w'
 z:w.heap.size+2<=w'.heap.size
theorem eF.start (w:World) (a b:Int):eF w a b cX ((w.alloc (.cells #[.int .i64 a, .int .i64 b] 76)).alloc (.cells #[.int .i64 0, .int .i64 0, .int .i64 0, .int .i64 0, .int .i64 0, .int .i64 0, .int .i64 0, .int .i64 0, .int .i64 0, .int .i64 0] 143)):=by
 refine⟨?_,?_,?_,by simp⟩
 ·exact(Below.heap_alloc _ _ w.heap.size (by simp)).trans (heap_alloc_new w _)
 ·have:=heap_alloc_new (w.alloc (.cells #[.int .i64 a, .int .i64 b] 76)) (.cells #[.int .i64 0, .int .i64 0, .int .i64 0, .int .i64 0, .int .i64 0, .int .i64 0, .int .i64 0, .int .i64 0, .int .i64 0, .int .i64 0] 143);rw[rD] at this;exact this
 ·exact(aH w _).trans ((aH (w.alloc (.cells #[.int .i64 a, .int .i64 b] 76)) _).mono (by simp))
theorem eF.keep {w w1 w2:World}{a b:Int}{r:aO} (h:eF w a b r w1) (hb:Below w1.heap.size w1 w2):eF w a b r w2:=
 ⟨h.s.keep hb,h.l.keep hb,h.b.trans (hb.mono h.b.size),aV h.z hb.size⟩
theorem Np {w:World}{p:Addr}{u:Value}{g:Nat} (h:g≠p.block):(w.setCell p u).heap[g]?=w.heap[g]?:=eQ w p u g h
theorem eF.set {w w1:World}{a b:Int}{r:aO} (h:eF w a b r w1) {X:Nat} (hX:w.heap.size+2<=X) (i:Nat) (u:Value):eF w a b r (w1.setCell ⟨X,i,none⟩ u):=
 ⟨(Np (show w.heap.size≠X by omega)).trans h.s,(Np (show w.heap.size+1≠X by omega)).trans h.l,h.b.setCell (p:=⟨X,i,none⟩) (by show w.heap.size<=X;omega) u,by have:=h.z;simpa [World.setCell] using this⟩
theorem eF.drew {w w1:World}{a b:Int}{r:aO} (h:eF w a b r w1):eF w a b r w1.drew:=⟨h.s,h.l,h.b.drew,h.z⟩
def eG (w:World) (X:Nat) (r:aO):World:=
 (((((((((w.setCell ⟨X,0,none⟩ (.int .i64 r.kind)).setCell ⟨X,1,none⟩ (.int .i64 r.sf)).setCell ⟨X,2,none⟩ (.int .i64 r.st)).setCell ⟨X,3,none⟩ (.int .i64 r.ind)).setCell ⟨X,4,none⟩ (.int .i64 r.kf)).setCell ⟨X,5,none⟩ (.int .i64 r.kt)).setCell ⟨X,6,none⟩ (.int .i64 r.rf)).setCell ⟨X,7,none⟩ (.int .i64 r.rt)).setCell ⟨X,8,none⟩ (.int .i64 r.nf)).setCell ⟨X,9,none⟩ (.int .i64 r.nt)
theorem bR.put {w:World}{X:Nat}{r r2:aO} (h:bR w X r):bR (eG w X r2) X r2:=by
 unfold bR at h ⊢;unfold eG;simp[World.setCell,Array.getElem?_modify,h]
theorem Nq {w:World}{X g:Nat}{r:aO} (h:g≠X):(eG w X r).heap[g]?=w.heap[g]?:=by
 have a: ¬X=g:=λe=>h e.symm;unfold eG;simp[World.setCell,Array.getElem?_modify,a]
theorem Nr (w:World) (X:Nat) (r:aO):(eG w X r).heap.size=w.heap.size:=by unfold eG;simp[World.setCell]
theorem aBf (w:World) (X:Nat) (r:aO):(eG w X r).os=w.os:=by unfold eG;simp[World.setCell]
theorem aBg (w:World) (X:Nat) (r:aO):(eG w X r).tape=w.tape:=by unfold eG;simp[World.setCell]
theorem aBh (w:World) (X:Nat) (r:aO):(eG w X r).output=w.output:=by unfold eG;simp[World.setCell]
theorem eF.put {w w1:World}{a b:Int}{r r2:aO} (h:eF w a b r w1):eF w a b r2 (eG w1 (w.heap.size+1) r2):=by
 refine⟨?_,bR.put h.l,⟨?_,?_,?_,?_,?_⟩,?_⟩
 ·have d:=Nq (w:=w1) (X:=w.heap.size+1) (g:=w.heap.size) (r:=r2) (by omega);unfold uA;rw[d];exact h.s
 ·rw[aBf];exact h.b.os
 ·rw[aBg];exact h.b.tape
 ·rw[aBh];exact h.b.output
 ·rw[Nr];exact h.b.size
 ·intro i c;rw[Nq (by omega)];exact h.b.block i c
 ·rw[Nr];exact h.z
theorem aBi (T:List UInt8):T=List.replicate (bI T) 32++T.drop (bI T):=by
 have h:T.take (bI T)=List.replicate (bI T) 32:=by
  apply List.ext_getElem?;intro i;by_cases hi:i<bI T
  ·rw[List.getElem?_take,if_pos hi,xV T i hi,List.getElem?_replicate,if_pos hi]
  ·rw[List.getElem?_take,if_neg hi,List.getElem?_replicate,if_neg hi]
 rw[<-h,mC]
theorem Fl (n k:Nat) (U:List UInt8):(List.replicate n (32:UInt8)++U).drop (n+k)=U.drop k:=by
 rw[List.drop_append,List.length_replicate,List.drop_of_length_le (by rw[List.length_replicate];omega),eE];congr 1;omega
theorem aBj (U:List UInt8) (n f:Nat) (h35:U.head?≠some 35) (r:aO):
  rJ (List.replicate n 32++U) (n+f) r=⟨r.kind,r.sf,r.st,r.ind,r.kf,r.kt,r.sf+(n+bT U f),r.sf+(n+(bT U f+iS ((U.take (dN U (bT U f+cL (U.drop (bT U f))))).drop (bT U f)))),
   if dN U (bT U f+cL (U.drop (bT U f)))<U.length then r.sf+(n+dN U (bT U f+cL (U.drop (bT U f)))) else r.nf,if dN U (bT U f+cL (U.drop (bT U f)))<U.length then r.st else r.nt⟩:=by
 have e:bT (List.replicate n 32++U) (n+f)=n+bT U f:=by
  unfold bT;rw[Fl];omega
 unfold rJ;rw[e,Fl,show n+bT U f+cL (U.drop (bT U f))=n+(bT U f+cL (U.drop (bT U f))) by omega,aAh n _ U h35];unfold Fi;have a:(List.replicate n (32:UInt8)++U).length=n+U.length:=by rw[aI,List.length_replicate]
 obtain⟨tw,b⟩:=exQ<|dN U (bT U f+cL (U.drop (bT U f)));obtain⟨f2,d⟩:=exQ<|bT U f;rw[b,d,a];have c:((List.replicate n (32:UInt8)++U).take (n+tw)).drop (n+f2)=(U.take tw).drop f2:=by
  rw[List.take_append,List.length_replicate,xH (by rw[List.length_replicate];omega),show n+tw-n=tw by omega,Fl]
 rw[c];by_cases ht:tw<U.length
 ·rw[if_pos ht,if_pos ht,if_pos (by omega),if_pos (by omega)];simp only[aO.mk.injEq,true_and,and_true];omega
 ·rw[if_neg ht,if_neg ht,if_neg (by omega),if_neg (by omega)];simp only[aO.mk.injEq,true_and,and_true];omega
theorem eF.only {w w1 w2:World}{a b:Int}{r:aO} (h:eF w a b r w1) {X:Nat} (hX:w.heap.size+2<=X) (ho:lY X w1 w2):eF w a b r w2:=
  ⟨(ho.block w.heap.size (aE h.s) (by intro e;injection e;omega)).trans h.s,(ho.block (w.heap.size+1) (aE h.l) (by intro e;injection e;omega)).trans h.l,
   ⟨ho.os.trans h.b.os,ho.tape.trans h.b.tape,ho.output.trans h.b.output,aV h.b.size ho.size,λi c=>(ho.block i (iI c h.b.size) (by intro e;injection e;omega)).trans (h.b.block i c)⟩,aV h.z ho.size⟩
def Az (x y:Int) (n:Nat) (o:Option kL):aO×Int×Int:=match o with | none=>(cX,x+n,2) | some c=>(kM x y n c,y,0)
theorem yF {x y:Int}{n:Nat}{c:kL}{r:aO} (h:kM x y n c=r):Ending.returned (.tuple #[gG r, .int .i64 y, .int .i64 0])=sW (Az x y n (some c)):=by unfold sW Az;simp only[];rw[h]
theorem Fm (U T:List UInt8) (n:Nat) (x y:Int) (H:Nat×Nat) (h35:U.head?≠some 35) (hT:T=List.replicate n 32++U) (r:aO) (hr:r=⟨H.1,x,y,n,if H.1=4 then x+n else 0,if H.1=4 then x+n+H.2 else 0,x+n,x+n,0,0⟩):
  kM x y n (rG U H (bT U (dR H)) (dN U (bT U (dR H)+cL (U.drop (bT U (dR H))))))=rJ T (n+dR H) r:=by
 rw[hT,aBj U n (dR H) h35 r,hr];unfold kM rG;obtain⟨tw,a⟩:=exQ<|dN U (bT U (dR H)+cL (U.drop (bT U (dR H))));obtain⟨f2,b⟩:=exQ<|bT U (dR H);rw[a,b];by_cases ht:tw<U.length
 ·simp only[if_pos ht,aO.mk.injEq,true_and,and_true];omega
 ·simp only[if_neg ht,aO.mk.injEq,true_and,and_true];omega
theorem aBk (l:List UInt8) (x y:Nat) (w:World) (hs:l.length<=1073741824) (hxy:x<=y) (hyl:y<=l.length) (T:List UInt8) (hTd:(l.drop x).take (y-x)=T) (h10:T.contains 10=false) (hV:dC w) (hT:cD w) (hM:lC w) (hw:iR true T=T.length):
  Calls Tryz.prog 138 #[.string (bs l), .agg #[.int .i64 x, .int .i64 y]] w λe w'=>e=sW (Az x y (bI T) (mE (T.drop (bI T))))/\Below w.heap.size w w':=by
 have sl:=aQ l;have S:T.length=y-x:=by rw[<-hTd,cB,aZ];omega
 have CW:Hid (∀w,Calls Tryz.prog 169 #[.string (bs l), .agg #[.int .i64 x, .int .i64 y]] w λe w'=>e= .returned (.bool true)/\Below w.heap.size w w'):=hid (λw=>by
  have:=Fh l x y w hs;have e:qG l x y=true:=by
   unfold qG;rw[if_neg (by omega),eU,show ((y:Int)-(x:Int)).toNat=y-x by omega,hTd,h10];rfl
  rw[e] at this;exact this)
 have hex:(bs l).extract x y=bs T:=by rw[mT,aW,hTd]
 have CG:Hid (∀w,cD w->Calls Tryz.prog 170 #[.string (bs T)] w λe w'=>e= .returned (.tuple #[.int .i64 0, .bool false])/\Below w.heap.size w w'):=hid (λw hT=>by have:=Mk T w (by have:=S;omega) hT;rw[Mj hw] at this;exact this);obtain⟨n,hn⟩:=exQ<|bI T;have am:=oO T;rw[hn] at am;have CL:Hid (∀w,Calls Tryz.prog 76 #[.string (bs T), .string ⟨#[32]⟩] w λe w'=>e= .returned (.string (bs (T.drop n)))/\w=w'):=hid (λw=>by rw[<-hn];exact No T w);have sU:=aQ (T.drop n);rw[aZ] at sU;have hsub:(T.length:Int)-((T.length-n:Nat):Int)=(n:Int):=by omega
 obtain⟨U,V⟩:=exQ<|T.drop n;rw[V] at CL sU;rw[hn,V];have al:U.length<=1073741824:=by rw[<-aQ U,sU];omega
 have sT:=aQ T;have HTl:=hid S;have ab:T.length<=1073741824:=by omega
 clear S;have Q:=hid hV;have P:=hid hT;have HM:=hid hM;clear hV hT hM hw;have hxyi:(x:Int)<=(y:Int):=by omega
 have hyli:(y:Int)<=(l.length:Int):=by omega
 go_enter Tryz.func138,Tryz.ntmps138;go_wp2_with fail;have an:=hid (eF.start w x y);(with_reducible refine(CW.out _).mono ?_);rintro e w1 ⟨rfl,ah⟩;have aa:=hid (an.out.keep ah);clear ah;obtain⟨s0,s1⟩:=aa.out.s.cells;go_wp2_with fail;have ao:=hid (P.out.keep aa.out.b);(with_reducible refine(CG.out _ ao.out).mono ?_);rintro e w2 ⟨rfl,ai⟩;have ae:=hid (aa.out.keep ai);clear ai s0 s1;obtain⟨s0,s1⟩:=ae.out.s.cells;go_upto_region 8 with(go_at_call 76;refine(CL.out _).mono ?_;rintro e w' ⟨rfl,rfl⟩);go_cut [4,5,6,7,10,11] (λs4 s5 s6 s7 s10 s11 wx=> ∃X:Nat,s4= .pointer (some ⟨w.heap.size+1,0,none⟩)/\s5= .int .i64 0/\s6= .int .i64 0/\s7= .string (bs T)/\s10= .string (bs U)/\s11= .pointer (some ⟨X,0,none⟩)/\w.heap.size+2<=X/\Hid (eF w x y cX wx/\bR wx X ⟨1,x,y,n,0,0,0,0,0,0⟩))
 case first=>
  go_wp2_with fail;go_meet;exact⟨w2.heap.size,rfl,rfl,rfl,rfl,rfl,rfl,ae.out.z,ae.out.keep (aH _ _),heap_alloc_new w2 _⟩
 obtain⟨X,rfl,rfl,rfl,rfl,rfl,rfl,K,HS⟩:=hcut;obtain⟨s0,s1⟩:=HS.out.1.s.cells;obtain⟨a0,a1,a2,a3,a4,a5,a6,a7,a8,a9,g0,g1,g2,g3,g4,g5,g6,g7,g8,g9⟩:=HS.out.2.cells;go_upto_region 10 with fail;go_cut [12] (λs12 wx=>s12= .int .i64 ((x:Int)+(n:Int))/\Hid (eF w x y cX wx/\bR wx X ⟨1,x,y,n,0,0,x+n,x+n,0,0⟩))
 case first=>
  go_wp2_with fail;go_meet;exact⟨rfl,(HS.out.1.set K 6 _).set K 7 _,kN (kN HS.out.2 6 _) 7 _⟩
 clear s0 s1 a0 a1 a2 a3 a4 a5 a6 a7 a8 a9 g0 g1 g2 g3 g4 g5 g6 g7 g8 g9;obtain⟨rfl,a⟩:=hcut;obtain⟨s0,s1⟩:=a.out.1.s.cells;obtain⟨a0,a1,a2,a3,a4,a5,a6,a7,a8,a9,g0,g1,g2,g3,g4,g5,g6,g7,g8,g9⟩:=a.out.2.cells;obtain⟨b0,b1,b2,b3,b4,b5,b6,b7,b8,b9,B,j,m,r,p,C,A,D,E,F⟩:=a.out.1.l.cells;by_cases hUe:U= []
 ·have he:(bs U).toList= []:=by rw[Lib.toList_data,aW,hUe]
  have he2:(bs U).toList.isEmpty=true:=by rw[he];rfl
  have N:Hid (mE U=some ⟨1,0,0,0,none⟩):=hid (by rw[hUe];rfl);clear V hUe;go_wp2_with fail;go_region;obtain⟨W,i⟩:=exQ<|(eG wc (w.heap.size+1) ⟨1,x,y,n,0,0,x+n,x+n,0,0⟩).drew;have t:=(eF.put (r2:=⟨1,x,y,n,0,0,x+n,x+n,0,0⟩) a.out.1).drew;rw[i] at t;have f:=hid t;clear t;dsimp only[eG] at i;rw[i];clear i;clear s0 s1 a0 a1 a2 a3 a4 a5 a6 a7 a8 a9 g0 g1 g2 g3 g4 g5 g6 g7 g8 g9 b0 b1 b2 b3 b4 b5 b6 b7 b8 b9 B j m r p C A D E F;obtain⟨c0,c1,c2,c3,c4,c5,c6,c7,c8,c9,_⟩:=f.out.l.cells;go_wp2_with fail;refine bodyPost_ret (v:= .tuple #[gG ⟨1,x,y,n,0,0,x+n,x+n,0,0⟩, .int .i64 y, .int .i64 0]) ?_ rfl ⟨?_,f.out.b⟩
  ·simp[results,Tryz.results138,go_sem,gG,cX,c0,c1,c2,c3,c4,c5,c6,c7,c8,c9]
  ·rw[N.out];exact yF (by unfold kM;simp)
 ·have O:0<(bs U).size:=by rw[aQ];exact mX.2 hUe
  have hne:(bs U).toList.isEmpty=false:=by rw[Lib.toList_data,aW];cases U with | nil=>exact absurd rfl hUe | cons _ _=>rfl
  have hne2: ¬(bs U).toList= []:=by rw[Lib.toList_data,aW];exact hUe
  have T35:=pF U 35 35 rfl O;have T34:=pF U 34 34 rfl O;have T39:=pF U 39 39 rfl O;obtain⟨cc,af⟩: ∃cc:Int,(((bs U)[0]'O).toNat:Int)=cc:=⟨_,rfl⟩;rw[af] at T35 T34 T39;have d:mE U=if U.head?=some 35 then some ⟨2,0,0,0,some 0⟩ else if(U.head?=some 34\/U.head?=some 39)/\cL U=0 then none else some (rG U (eY U) (bT U (dR (eY U))) (dN U (bT U (dR (eY U))+cL (U.drop (bT U (dR (eY U))))))):=by unfold mE;rw[if_neg hUe]
  by_cases h35:U.head?=some 35
  ·rw[if_pos h35] at d;have N:=hid d;have t35:(cc==35)=true:=by rw[T35,h35];rfl
   clear d T35 T34 T39 h35 V hUe;go_upto_region 14 with fail;go_cut [] (λwx=>Hid (eF w x y cX wx/\bR wx X ⟨2,x,y,n,0,0,x+n,x+n,x+n,y⟩))
   case first=>
    go_region
    all_goals go_wp2_with fail
    all_goals go_meet
    all_goals first
     | exact⟨(((a.out.1.set K 0 _).set K 8 _).set K 9 _).drew,kN (kN (kN a.out.2 0 _) 8 _) 9 _⟩
     | exact⟨(((a.out.1.set K 8 _).set K 9 _).set K 0 _).drew,kN (kN (kN a.out.2 8 _) 9 _) 0 _⟩
   have c:=hcut;clear s0 s1 a0 a1 a2 a3 a4 a5 a6 a7 a8 a9 g0 g1 g2 g3 g4 g5 g6 g7 g8 g9 b0 b1 b2 b3 b4 b5 b6 b7 b8 b9 B j m r p C A D E F;obtain⟨s0,s1⟩:=c.out.1.s.cells;obtain⟨a0,a1,a2,a3,a4,a5,a6,a7,a8,a9,g0,g1,g2,g3,g4,g5,g6,g7,g8,g9⟩:=c.out.2.cells;obtain⟨b0,b1,b2,b3,b4,b5,b6,b7,b8,b9,B,j,m,r,p,C,A,D,E,F⟩:=c.out.1.l.cells;go_wp2_with fail;go_region;obtain⟨W,i⟩:=exQ<|(eG wc (w.heap.size+1) ⟨2,x,y,n,0,0,x+n,x+n,x+n,y⟩).drew;have t:=(eF.put (r2:=⟨2,x,y,n,0,0,x+n,x+n,x+n,y⟩) c.out.1).drew;rw[i] at t;have f:=hid t;clear t;dsimp only[eG] at i;rw[i];clear i;clear s0 s1 a0 a1 a2 a3 a4 a5 a6 a7 a8 a9 g0 g1 g2 g3 g4 g5 g6 g7 g8 g9 b0 b1 b2 b3 b4 b5 b6 b7 b8 b9 B j m r p C A D E F;obtain⟨c0,c1,c2,c3,c4,c5,c6,c7,c8,c9,_⟩:=f.out.l.cells;go_wp2_with fail;refine bodyPost_ret (v:= .tuple #[gG ⟨2,x,y,n,0,0,x+n,x+n,x+n,y⟩, .int .i64 y, .int .i64 0]) ?_ rfl ⟨?_,f.out.b⟩
   ·simp[results,Tryz.results138,go_sem,gG,cX,c0,c1,c2,c3,c4,c5,c6,c7,c8,c9]
   ·rw[N.out];exact yF (by unfold kM;simp)
  rw[if_neg h35] at d;rw[show (U.head?==some 35)=false from aG.2 h35] at T35;have CQ:=hid (λw hV hT=>Fg U w (by omega) hV hT);by_cases hbq:(U.head?=some 34\/U.head?=some 39)/\cL U=0
  ·rw[if_pos hbq] at d;have N:=hid d;rw[hbq.2] at CQ;have TQ:((cc==34)||(cc==39))=true:=by
    rw[T34,T39];rcases hbq.1 with h | h<;>rw[h]<;>rfl
   clear d h35 V hUe hbq;by_cases hc34:cc=34
   ·subst hc34;clear T34 T39 TQ T35;go_wp2_with fail;(with_reducible refine(CQ.out _ (Q.out.keep a.out.1.b) (P.out.keep a.out.1.b)).mono ?_);rintro e w3 ⟨rfl,u⟩;have c:=hid (aT (a.out.1.keep u) (a.out.2.keep u));clear u;clear s0 s1 a0 a1 a2 a3 a4 a5 a6 a7 a8 a9 g0 g1 g2 g3 g4 g5 g6 g7 g8 g9 b0 b1 b2 b3 b4 b5 b6 b7 b8 b9 B j m r p C A D E F;obtain⟨s0,s1⟩:=c.out.1.s.cells;obtain⟨a0,a1,a2,a3,a4,a5,a6,a7,a8,a9,g0,g1,g2,g3,g4,g5,g6,g7,g8,g9⟩:=c.out.2.cells;obtain⟨b0,b1,b2,b3,b4,b5,b6,b7,b8,b9,B,j,m,r,p,C,A,D,E,F⟩:=c.out.1.l.cells;go_wp2_with fail;obtain⟨W,i⟩:=exQ (eG w3 (w.heap.size+1) cX);have t:=(eF.put (r2:=cX) c.out.1);rw[i] at t;have f:=hid t;clear t;dsimp only[eG,cX] at i;rw[i];clear i;clear s0 s1 a0 a1 a2 a3 a4 a5 a6 a7 a8 a9 g0 g1 g2 g3 g4 g5 g6 g7 g8 g9 b0 b1 b2 b3 b4 b5 b6 b7 b8 b9 B j m r p C A D E F;obtain⟨c0,c1,c2,c3,c4,c5,c6,c7,c8,c9,_⟩:=f.out.l.cells;go_wp2_with fail;refine bodyPost_ret (v:= .tuple #[gG cX, .int .i64 ((x:Int)+(n:Int)), .int .i64 2]) ?_ rfl ⟨?_,f.out.b⟩
    ·simp[results,Tryz.results138,go_sem,gG,cX,c0,c1,c2,c3,c4,c5,c6,c7,c8,c9]
    ·rw[N.out];rfl
   ·have t34:(cc==34)=false:=aG.2 hc34;have t39:(cc==39)=true:=by rw[t34] at TQ;simpa using TQ
    clear T34 T39 TQ hc34;go_wp2_with fail;(with_reducible refine(CQ.out _ (Q.out.keep a.out.1.b) (P.out.keep a.out.1.b)).mono ?_);rintro e w3 ⟨rfl,u⟩;have c:=hid (aT (a.out.1.keep u) (a.out.2.keep u));clear u;clear s0 s1 a0 a1 a2 a3 a4 a5 a6 a7 a8 a9 g0 g1 g2 g3 g4 g5 g6 g7 g8 g9 b0 b1 b2 b3 b4 b5 b6 b7 b8 b9 B j m r p C A D E F;obtain⟨s0,s1⟩:=c.out.1.s.cells;obtain⟨a0,a1,a2,a3,a4,a5,a6,a7,a8,a9,g0,g1,g2,g3,g4,g5,g6,g7,g8,g9⟩:=c.out.2.cells;obtain⟨b0,b1,b2,b3,b4,b5,b6,b7,b8,b9,B,j,m,r,p,C,A,D,E,F⟩:=c.out.1.l.cells;go_wp2_with fail;obtain⟨W,i⟩:=exQ (eG w3 (w.heap.size+1) cX);have t:=(eF.put (r2:=cX) c.out.1);rw[i] at t;have f:=hid t;clear t;dsimp only[eG,cX] at i;rw[i];clear i;clear s0 s1 a0 a1 a2 a3 a4 a5 a6 a7 a8 a9 g0 g1 g2 g3 g4 g5 g6 g7 g8 g9 b0 b1 b2 b3 b4 b5 b6 b7 b8 b9 B j m r p C A D E F;obtain⟨c0,c1,c2,c3,c4,c5,c6,c7,c8,c9,_⟩:=f.out.l.cells;go_wp2_with fail;refine bodyPost_ret (v:= .tuple #[gG cX, .int .i64 ((x:Int)+(n:Int)), .int .i64 2]) ?_ rfl ⟨?_,f.out.b⟩
    ·simp[results,Tryz.results138,go_sem,gG,cX,c0,c1,c2,c3,c4,c5,c6,c7,c8,c9]
    ·rw[N.out];rfl
  ·rw [if_neg hbq] at d;have N:=hid d;have aj:=Mg U hbq;have CH:=hid (λw hV hT hM=>aBa U w hUe al hV hT hM);have L:=hid h35;have Z:Hid (T=List.replicate n 32++U):=hid (by have:=aBi T;rw[hn,V] at this;exact this);obtain⟨H,hH⟩:=exQ<|eY U;rw[hH] at N aj CH;obtain⟨q,ag⟩:=exQ<|cL U;rw[ag] at hbq CQ;clear d h35 V hH ag;go_upto_region 16 with fail;go_cut [75] (λs75 wx=>s75= .bool false/\Hid (eF w x y cX wx/\bR wx X ⟨1,x,y,n,0,0,x+n,x+n,0,0⟩))
   case first=>
    by_cases hc34:cc=34
    ·have ak:((q:Int)==0)=false:=aG.2 (λe=>hbq ⟨.inl (by rw[hc34] at T34;exact beq_iff_eq.1 T34.symm),by omega⟩);subst hc34;clear hbq T34 T39 T35;go_wp2_with fail;(with_reducible refine(CQ.out _ (Q.out.keep a.out.1.b) (P.out.keep a.out.1.b)).mono ?_);rintro e w3 ⟨rfl,u⟩;go_wp2_with fail;go_meet;exact⟨rfl,a.out.1.keep u,a.out.2.keep u⟩
    ·have t34:(cc==34)=false:=aG.2 hc34;by_cases hc39:cc=39
     ·have ak:((q:Int)==0)=false:=aG.2 (λe=>hbq ⟨.inr (by rw[hc39] at T39;exact beq_iff_eq.1 T39.symm),by omega⟩);subst hc39;clear hbq T34 T39 T35;go_wp2_with fail;(with_reducible refine(CQ.out _ (Q.out.keep a.out.1.b) (P.out.keep a.out.1.b)).mono ?_);rintro e w3 ⟨rfl,u⟩;go_wp2_with fail;go_meet;exact⟨rfl,a.out.1.keep u,a.out.2.keep u⟩
     ·have t39:(cc==39)=false:=aG.2 hc39;clear hbq T34 T39 T35;go_wp2_with fail;go_meet;exact⟨rfl,a.out⟩
   obtain⟨rfl,c⟩:=hcut;clear s0 s1 a0 a1 a2 a3 a4 a5 a6 a7 a8 a9 g0 g1 g2 g3 g4 g5 g6 g7 g8 g9 b0 b1 b2 b3 b4 b5 b6 b7 b8 b9 B j m r p C A D E F;clear hbq T34 T39 T35 af;obtain⟨s0,s1⟩:=c.out.1.s.cells;obtain⟨a0,a1,a2,a3,a4,a5,a6,a7,a8,a9,g0,g1,g2,g3,g4,g5,g6,g7,g8,g9⟩:=c.out.2.cells;obtain⟨b0,b1,b2,b3,b4,b5,b6,b7,b8,b9,B,j,m,r,p,C,A,D,E,F⟩:=c.out.1.l.cells;go_wp2_with fail;(with_reducible refine(CH.out _ (Q.out.keep c.out.1.b) (P.out.keep c.out.1.b) (HM.out.keep c.out.1.b)).mono ?_);unfold Nm;rintro e w4 ⟨rfl,ad⟩;have G:=hid (aT (c.out.1.keep ad) (c.out.2.keep ad));clear ad;clear s0 s1 a0 a1 a2 a3 a4 a5 a6 a7 a8 a9 g0 g1 g2 g3 g4 g5 g6 g7 g8 g9 b0 b1 b2 b3 b4 b5 b6 b7 b8 b9 B j m r p C A D E F;obtain⟨s0,s1⟩:=G.out.1.s.cells;obtain⟨a0,a1,a2,a3,a4,a5,a6,a7,a8,a9,g0,g1,g2,g3,g4,g5,g6,g7,g8,g9⟩:=G.out.2.cells;obtain⟨b0,b1,b2,b3,b4,b5,b6,b7,b8,b9,B,j,m,r,p,C,A,D,E,F⟩:=G.out.1.l.cells;have Y:(x:Int)<=1073741824:=(by omega);rcases aj with⟨rfl,_⟩ | rfl | ⟨k,rfl,hk1,hk,hk3⟩
   ·obtain⟨R,M⟩:=exQ<|rJ T (n+1) ⟨3,x,y,n,0,0,x+n,x+n,0,0⟩;have CR:Hid (∀W,bR W X ⟨3,x,y,n,0,0,x+n,x+n,0,0⟩->dC W->cD W->lC W->Calls Tryz.prog 173 #[.pointer (some ⟨X,0,none⟩), .string (bs T), .int .i64 ((n:Int)+1)] W λe w'=>(∃v,e= .returned v)/\bR w' X R/\lY X W w'):=hid (λW j m r p=>by have:=Fk T (n+1) X ⟨3,x,y,n,0,0,x+n,x+n,0,0⟩ W ab (by have:=aQ U;omega) j (by show (0:Int)<=(x:Int);omega) Y m r p;rw[M] at this;rw[show ((n:Int)+1)=((n+1:Nat):Int) by omega];exact this);have HR:=hid M;clear M;go_wp2_with fail;have g:=hid (aT (G.out.1.set K 0 (.int .i64 (3))) (show bR (w4.setCell ⟨X,0,none⟩ (.int .i64 (3))) X ⟨3,x,y,n,0,0,x+n,x+n,0,0⟩ from (kN G.out.2 0 (.int .i64 (3)))));clear s0 s1 a0 a1 a2 a3 a4 a5 a6 a7 a8 a9 g0 g1 g2 g3 g4 g5 g6 g7 g8 g9 b0 b1 b2 b3 b4 b5 b6 b7 b8 b9 B j m r p C A D E F;refine(CR.out _ g.out.2 (Q.out.keep g.out.1.b) (P.out.keep g.out.1.b) (HM.out.keep g.out.1.b)).mono ?_;rintro e w5 ⟨⟨v,rfl⟩,J,I⟩;have o:=hid (aT (g.out.1.only K I) J);clear J I;obtain⟨s0,s1⟩:=o.out.1.s.cells;obtain⟨a0,a1,a2,a3,a4,a5,a6,a7,a8,a9,g0,g1,g2,g3,g4,g5,g6,g7,g8,g9⟩:=o.out.2.cells;obtain⟨b0,b1,b2,b3,b4,b5,b6,b7,b8,b9,B,j,m,r,p,C,A,D,E,F⟩:=o.out.1.l.cells;go_wp2_with fail;go_region;obtain⟨W,i⟩:=exQ<|(eG w5 (w.heap.size+1) R).drew;have t:=(eF.put (r2:=R) o.out.1).drew;rw[i] at t;have f:=hid t;clear t;dsimp only[eG] at i;rw[i];clear i;clear s0 s1 a0 a1 a2 a3 a4 a5 a6 a7 a8 a9 g0 g1 g2 g3 g4 g5 g6 g7 g8 g9 b0 b1 b2 b3 b4 b5 b6 b7 b8 b9 B j m r p C A D E F;obtain⟨c0,c1,c2,c3,c4,c5,c6,c7,c8,c9,_⟩:=f.out.l.cells;go_wp2_with fail;refine bodyPost_ret (v:= .tuple #[gG R, .int .i64 y, .int .i64 0]) ?_ rfl ⟨?_,f.out.b⟩
    ·simp[results,Tryz.results138,go_sem,gG,cX,c0,c1,c2,c3,c4,c5,c6,c7,c8,c9]
    ·rw[N.out];exact yF ((Fm U T n x y (3,0) L.out Z.out ⟨3,x,y,n,0,0,x+n,x+n,0,0⟩ rfl).trans HR.out)
   ·obtain⟨R,M⟩:=exQ<|rJ T (n+0) ⟨5,x,y,n,0,0,x+n,x+n,0,0⟩;have CR:Hid (∀W,bR W X ⟨5,x,y,n,0,0,x+n,x+n,0,0⟩->dC W->cD W->lC W->Calls Tryz.prog 173 #[.pointer (some ⟨X,0,none⟩), .string (bs T), .int .i64 (n:Int)] W λe w'=>(∃v,e= .returned v)/\bR w' X R/\lY X W w'):=hid (λW j m r p=>by have:=Fk T (n+0) X ⟨5,x,y,n,0,0,x+n,x+n,0,0⟩ W ab (by have:=aQ U;omega) j (by show (0:Int)<=(x:Int);omega) Y m r p;rw[M] at this;rw[show (n:Int)=((n+0:Nat):Int) by omega];exact this);have HR:=hid M;clear M;go_wp2_with fail;have g:=hid (aT (G.out.1.set K 0 (.int .i64 (5))) (show bR (w4.setCell ⟨X,0,none⟩ (.int .i64 (5))) X ⟨5,x,y,n,0,0,x+n,x+n,0,0⟩ from (kN G.out.2 0 (.int .i64 (5)))));clear s0 s1 a0 a1 a2 a3 a4 a5 a6 a7 a8 a9 g0 g1 g2 g3 g4 g5 g6 g7 g8 g9 b0 b1 b2 b3 b4 b5 b6 b7 b8 b9 B j m r p C A D E F;refine(CR.out _ g.out.2 (Q.out.keep g.out.1.b) (P.out.keep g.out.1.b) (HM.out.keep g.out.1.b)).mono ?_;rintro e w5 ⟨⟨v,rfl⟩,J,I⟩;have o:=hid (aT (g.out.1.only K I) J);clear J I;obtain⟨s0,s1⟩:=o.out.1.s.cells;obtain⟨a0,a1,a2,a3,a4,a5,a6,a7,a8,a9,g0,g1,g2,g3,g4,g5,g6,g7,g8,g9⟩:=o.out.2.cells;obtain⟨b0,b1,b2,b3,b4,b5,b6,b7,b8,b9,B,j,m,r,p,C,A,D,E,F⟩:=o.out.1.l.cells;go_wp2_with fail;go_region;obtain⟨W,i⟩:=exQ<|(eG w5 (w.heap.size+1) R).drew;have t:=(eF.put (r2:=R) o.out.1).drew;rw[i] at t;have f:=hid t;clear t;dsimp only[eG] at i;rw[i];clear i;clear s0 s1 a0 a1 a2 a3 a4 a5 a6 a7 a8 a9 g0 g1 g2 g3 g4 g5 g6 g7 g8 g9 b0 b1 b2 b3 b4 b5 b6 b7 b8 b9 B j m r p C A D E F;obtain⟨c0,c1,c2,c3,c4,c5,c6,c7,c8,c9,_⟩:=f.out.l.cells;go_wp2_with fail;refine bodyPost_ret (v:= .tuple #[gG R, .int .i64 y, .int .i64 0]) ?_ rfl ⟨?_,f.out.b⟩
    ·simp[results,Tryz.results138,go_sem,gG,cX,c0,c1,c2,c3,c4,c5,c6,c7,c8,c9]
    ·rw[N.out];exact yF ((Fm U T n x y (5,0) L.out Z.out ⟨5,x,y,n,0,0,x+n,x+n,0,0⟩ rfl).trans HR.out)
   ·obtain⟨R,M⟩:=exQ<|rJ T (n+(k+1)) ⟨4,x,y,n,x+n,x+n+k,x+n,x+n,0,0⟩;have CR:Hid (∀W,bR W X ⟨4,x,y,n,x+n,x+n+k,x+n,x+n,0,0⟩->dC W->cD W->lC W->Calls Tryz.prog 173 #[.pointer (some ⟨X,0,none⟩), .string (bs T), .int .i64 ((n:Int)+((k:Int)+1))] W λe w'=>(∃v,e= .returned v)/\bR w' X R/\lY X W w'):=hid (λW j m r p=>by have:=Fk T (n+(k+1)) X ⟨4,x,y,n,x+n,x+n+k,x+n,x+n,0,0⟩ W ab (by have:=aQ U;omega) j (by show (0:Int)<=(x:Int);omega) Y m r p;rw[M] at this;rw[show ((n:Int)+((k:Int)+1))=((n+(k+1):Nat):Int) by omega];exact this);have HR:=hid M;clear M;go_wp2_with fail;have g:=hid (aT (((G.out.1.set K 0 (.int .i64 (4))).set K 4 (.int .i64 ((x:Int)+(n:Int)))).set K 5 (.int .i64 ((x:Int)+(n:Int)+(k:Int)))) (show bR (((w4.setCell ⟨X,0,none⟩ (.int .i64 (4))).setCell ⟨X,4,none⟩ (.int .i64 ((x:Int)+(n:Int)))).setCell ⟨X,5,none⟩ (.int .i64 ((x:Int)+(n:Int)+(k:Int)))) X ⟨4,x,y,n,x+n,x+n+k,x+n,x+n,0,0⟩ from (kN (kN (kN G.out.2 0 (.int .i64 (4))) 4 (.int .i64 ((x:Int)+(n:Int)))) 5 (.int .i64 ((x:Int)+(n:Int)+(k:Int))))));clear s0 s1 a0 a1 a2 a3 a4 a5 a6 a7 a8 a9 g0 g1 g2 g3 g4 g5 g6 g7 g8 g9 b0 b1 b2 b3 b4 b5 b6 b7 b8 b9 B j m r p C A D E F;refine(CR.out _ g.out.2 (Q.out.keep g.out.1.b) (P.out.keep g.out.1.b) (HM.out.keep g.out.1.b)).mono ?_;rintro e w5 ⟨⟨v,rfl⟩,J,I⟩;have o:=hid (aT (g.out.1.only K I) J);clear J I;obtain⟨s0,s1⟩:=o.out.1.s.cells;obtain⟨a0,a1,a2,a3,a4,a5,a6,a7,a8,a9,g0,g1,g2,g3,g4,g5,g6,g7,g8,g9⟩:=o.out.2.cells;obtain⟨b0,b1,b2,b3,b4,b5,b6,b7,b8,b9,B,j,m,r,p,C,A,D,E,F⟩:=o.out.1.l.cells;go_wp2_with fail;go_region;obtain⟨W,i⟩:=exQ<|(eG w5 (w.heap.size+1) R).drew;have t:=(eF.put (r2:=R) o.out.1).drew;rw[i] at t;have f:=hid t;clear t;dsimp only[eG] at i;rw[i];clear i;clear s0 s1 a0 a1 a2 a3 a4 a5 a6 a7 a8 a9 g0 g1 g2 g3 g4 g5 g6 g7 g8 g9 b0 b1 b2 b3 b4 b5 b6 b7 b8 b9 B j m r p C A D E F;obtain⟨c0,c1,c2,c3,c4,c5,c6,c7,c8,c9,_⟩:=f.out.l.cells;go_wp2_with fail;refine bodyPost_ret (v:= .tuple #[gG R, .int .i64 y, .int .i64 0]) ?_ rfl ⟨?_,f.out.b⟩
    ·simp[results,Tryz.results138,go_sem,gG,cX,c0,c1,c2,c3,c4,c5,c6,c7,c8,c9]
    ·rw[N.out];exact yF ((Fm U T n x y (4,k) L.out Z.out ⟨4,x,y,n,x+n,x+n+k,x+n,x+n,0,0⟩ rfl).trans HR.out)
theorem Ns (l:List UInt8) (a b:Int) (w:World) (hs:l.length<=1073741824) (h:qG l a b=false):
  Calls Tryz.prog 138 #[.string (bs l), .agg #[.int .i64 a, .int .i64 b]] w λe w'=>e=sW (cX,0,1)/\Below w.heap.size w w':=by
 have sl:=aQ l;have CW:=hid (λw=>Fh l a b w hs);rw[h] at CW;clear h;go_enter Tryz.func138,Tryz.ntmps138;go_wp2_with fail;have i:=hid (eF.start w a b);(with_reducible refine(CW.out _).mono ?_);rintro e w1 ⟨rfl,f⟩;have c:=hid (i.out.keep f);clear f;obtain⟨s0,s1⟩:=c.out.s.cells;obtain⟨b0,b1,b2,b3,b4,b5,b6,b7,b8,b9,j,n,o,r,t,p,k,u,m,q⟩:=c.out.l.cells;go_wp2_with fail;have d:=hid (eF.put (r2:=cX) c.out);obtain⟨W,g⟩:=exQ<|eG w1 (w.heap.size+1) cX;rw[g] at d;dsimp only[eG,cX] at g;rw[g];clear g s0 s1 b0 b1 b2 b3 b4 b5 b6 b7 b8 b9 j n o r t p k u m q;obtain⟨c0,c1,c2,c3,c4,c5,c6,c7,c8,c9,_⟩:=d.out.l.cells;refine bodyPost_ret (v:= .tuple #[gG cX, .int .i64 0, .int .i64 1]) ?_ rfl ⟨rfl,d.out.b⟩;simp[results,Tryz.results138,go_sem,gG,cX,c0,c1,c2,c3,c4,c5,c6,c7,c8,c9]
theorem aBl (l:List UInt8) (x y:Nat) (w:World) (hs:l.length<=1073741824) (hxy:x<=y) (hyl:y<=l.length) (T:List UInt8) (hTd:(l.drop x).take (y-x)=T) (h10:T.contains 10=false) (hT:cD w) (k:Nat) (hw:iR true T=k) (hk:k<T.length):
  Calls Tryz.prog 138 #[.string (bs l), .agg #[.int .i64 x, .int .i64 y]] w λe w'=>e=sW (cX,(x:Int)+k,2)/\Below w.heap.size w w':=by
 have sl:=aQ l;have j:T.length=y-x:=by rw[<-hTd,cB,aZ];omega
 have CW:Hid (∀w,Calls Tryz.prog 169 #[.string (bs l), .agg #[.int .i64 x, .int .i64 y]] w λe w'=>e= .returned (.bool true)/\Below w.heap.size w w'):=hid (λw=>by
  have:=Fh l x y w hs;have e:qG l x y=true:=by
   unfold qG;rw[if_neg (by omega),eU,show ((y:Int)-(x:Int)).toNat=y-x by omega,hTd,h10];rfl
  rw[e] at this;exact this)
 have hex:(bs l).extract x y=bs T:=by rw[mT,aW,hTd]
 have CG:Hid (∀w,cD w->Calls Tryz.prog 170 #[.string (bs T)] w λe w'=>e= .returned (.tuple #[.int .i64 k, .bool true])/\Below w.heap.size w w'):=hid (λw hT=>by have:=Mk T w (by omega) hT;rw[Aq hw hk] at this;exact this);have sT:=aQ T;have D:=hid hT;have hxk:IntKind.i64.wrap ((x:Int)+(k:Int))=(x:Int)+(k:Int):=by rw[IntKind.wrap_i64];omega
 have hkb:(x:Int)+(k:Int)<=1073741824:=by omega
 clear hT hw j;have hxyi:(x:Int)<=(y:Int):=by omega
 have hyli:(y:Int)<=(l.length:Int):=by omega
 go_enter Tryz.func138,Tryz.ntmps138;go_wp2_with fail;have n:=hid (eF.start w x y);(with_reducible refine(CW.out _).mono ?_);rintro e w1 ⟨rfl,g⟩;have a:=hid (n.out.keep g);clear g;obtain⟨s0,s1⟩:=a.out.s.cells;go_wp2_with fail;have i:=hid (D.out.keep a.out.b);(with_reducible refine(CG.out _ i.out).mono ?_);rintro e w2 ⟨rfl,f⟩;have c:=hid (a.out.keep f);clear f s0 s1;obtain⟨s0,s1⟩:=c.out.s.cells;obtain⟨b0,b1,b2,b3,b4,b5,b6,b7,b8,b9,o,r,t,A,B,u,p,C,q,z⟩:=c.out.l.cells;go_wp2_with fail;go_region;obtain⟨W,h⟩:=exQ<|(eG w2 (w.heap.size+1) cX).drew;have m:=(eF.put (r2:=cX) c.out).drew;rw[h] at m;have d:=hid m;clear m;dsimp only[eG,cX] at h;rw[h];clear h s0 s1 b0 b1 b2 b3 b4 b5 b6 b7 b8 b9 o r t A B u p C q z;obtain⟨c0,c1,c2,c3,c4,c5,c6,c7,c8,c9,_⟩:=d.out.l.cells;go_wp2_with fail;refine bodyPost_ret (v:= .tuple #[gG cX, .int .i64 ((x:Int)+k), .int .i64 2]) ?_ rfl ⟨rfl,d.out.b⟩;simp[results,Tryz.results138,go_sem,gG,cX,c0,c1,c2,c3,c4,c5,c6,c7,c8,c9]
theorem aBm (l:List UInt8) (a b:Int) (w:World) (hs:l.length<=1073741824) (hV:dC w) (hT:cD w) (hM:lC w):
  Calls Tryz.prog 138 #[.string (bs l), .agg #[.int .i64 a, .int .i64 b]] w λe w'=>e=sW (dI l a b)/\Below w.heap.size w w':=by
 obtain⟨R,c⟩:=exQ<|dI l a b;rw[c];unfold dI at c;by_cases hout:a<0\/b<a\/(l.length:Int)<b
 ·rw[if_pos hout] at c;subst c;exact Ns l a b w hs (by unfold qG;rw[if_pos hout])
 rw[if_neg hout] at c;obtain⟨x,rfl⟩: ∃x:Nat,a=x:=⟨a.toNat,by omega⟩;obtain⟨y,rfl⟩: ∃y:Nat,b=y:=⟨b.toNat,by omega⟩;simp only[eU,show ((y:Int)-(x:Int)).toNat=y-x by omega] at c;obtain⟨T,d⟩:=exQ<|(l.drop x).take (y-x);rw[d] at c;cases h10:T.contains 10 with
 | true=>
  rw[h10,if_pos rfl] at c;subst c;exact Ns l x y w hs (by unfold qG;rw[if_neg hout,eU,show ((y:Int)-(x:Int)).toNat=y-x by omega,d,h10];rfl)
 | false=>
  rw[h10,if_neg (by simp)] at c;by_cases hk:iR true T<T.length
  ·rw[if_pos hk] at c;subst c;exact aBl l x y w hs (by omega) (by omega) T d h10 hT _ rfl hk
  ·rw[if_neg hk] at c;have f:iR true T=T.length:=by
    have:=(Eo true T.length T 0).2;unfold iR at hk ⊢;omega
   have:=aBk l x y w hs (by omega) (by omega) T d h10 hV hT hM f;have e:Az x y (bI T) (mE (T.drop (bI T)))=R:=by rw[<-c];rfl
   rw[e] at this;exact this
end Go.Proofs.YtjnooaljcgkfpaaGreatDoor
