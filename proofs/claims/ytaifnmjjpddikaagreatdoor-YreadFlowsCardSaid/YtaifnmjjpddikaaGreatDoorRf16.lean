import Derived.Test.YtaifnmjjpddikaaGreatDoorRf12
import Derived.Test.YtaifnmjjpddikaaGreatDoorRf3
import Derived.Lib.IndexMore
import Derived.Deep.RegionHeld3
set_option maxRecDepth 100000
set_option maxHeartbeats 4000000
namespace Go.Proofs.YtaifnmjjpddikaaGreatDoor
set_option linter.unusedSimpArgs false
set_option linter.unusedVariables false
open Go.RowKit
open Go.Lib hiding intOf
theorem Jr (l:List UInt8):0<=(mA l 0).1/\(mA l 0).1<=l.length:=by
 unfold mA;rw[if_neg (by omega)];unfold bN;by_cases h1:0<=(0:Int)/\l[(0:Int).toNat]?=some 34
 ·rw[if_pos h1];have:=(xH (l.length+1) (l.drop ((0:Int).toNat+1)) ((0:Int).toNat+1) []).1;rw[aV] at this;have hl:=(aQ.1 h1.2).1;simp only[Int.toNat_zero] at this hl ⊢;omega
 ·rw[if_neg h1];simp
theorem Cc: ∀(f:Nat) (l:List UInt8) (i:Nat) (acc:List UInt8),(i:Int)<=(lA f l i acc).2.1/\(lA f l i acc).2.1<=i+l.length
 | 0,_,_,_=>by simp[lA];omega
 | _+1,[],_,_=>by simp[lA]
 | f+1,c::r,i,acc=>by
  rw[Br];split
  ·split
   ·rename_i h;have:=Cc f (r.drop 1) (i+2) (acc++ [39]);rw[aV] at this;have h0:0<r.length:=(by cases r with | nil=>simp at h | cons _ _=>simp);simp only[aT];omega
   ·simp only[aT];omega
  ·split
   ·simp only[aT];omega
   ·have hle:=decodeL_le (c::r) (List.cons_ne_nil _ _);have:=Cc f ((c::r).drop (decodeL (c::r)).2) (i+(decodeL (c::r)).2) (acc++(c::r).take (decodeL (c::r)).2);rw[aV] at this;omega
theorem Js (l:List UInt8):0<=(lB l 0).2.1/\(lB l 0).2.1<=l.length:=by
 unfold lB;rw[if_neg (by omega)];by_cases h1:l[(0:Int).toNat]?=some 39
 ·rw[if_pos h1];have:=Cc (l.length+1) (l.drop ((0:Int).toNat+1)) ((0:Int).toNat+1) [];rw[aV] at this;have hl:=(aQ.1 h1).1;simp only[Int.toNat_zero] at this hl ⊢;omega
 ·rw[if_neg h1];simp
theorem Jt (l:List UInt8):dY l<=l.length:=by
 have h1:=Jr l;have h2:=Js l;unfold dY
 repeat' split
 all_goals omega
theorem Cd (l:List UInt8) (w:World) (hs:l.length<=1073741824) (hV:cO w) (hT:cC w):
  Calls Tryz.prog 150 #[.string (bs l)] w λe w'=>e= .returned (.int .i64 (dY l))/\Below w.heap.size w w':=by
 have sl:=aR l;obtain⟨R,hR⟩:=exQ<|dY l;rw[hR];unfold dY at hR;have HV:=hid hV;have HT:=hid hT;clear hV hT;cases l with
 | nil=>
  simp at hR;subst hR;have he:(bs ([]:List UInt8)).toList= []:=by rw[Lib.toList_data,aU]
  have he2:(bs ([]:List UInt8)).toList.isEmpty=true:=by rw[Lib.toList_data,aU];rfl
  go_enter Tryz.func150,Tryz.ntmps150;go_wp2_with fail;go_ret;exact⟨rfl,aB _ _⟩
 | cons c r=>
  have h0:0<(bs (c::r)).size:=by rw[aR];simp
  have hne:(bs (c::r)).toList.isEmpty=false:=by rw[Lib.toList_data,aU];rfl
  have hne2: ¬(bs (c::r)).toList= []:=by rw[Lib.toList_data,aU];simp
  have T34:=nN (c::r) 34 34 rfl h0;have T39:=nN (c::r) 39 39 rfl h0;rw[List.head?_cons] at T34 T39 hR;have hlen:(c::r).length=r.length+1:=rfl;obtain⟨L,hL⟩:=exQ<|c::r;have CE:=hid (λw hV hT=>Fc (c::r) 0 w hs hV hT);have CS:=hid (λw hT=>Jd (c::r) 0 w hs hT);have eb:=Jr (c::r);have sb:=Js (c::r);obtain⟨E,hE⟩:=exQ<|mA (c::r) 0;obtain⟨k1,e1⟩:=E;obtain⟨Q,hQ⟩:=exQ<|lB (c::r) 0;obtain⟨q1,k2,e2⟩:=Q;rw[hE] at CE eb hR;rw[hQ] at CS sb hR;unfold lL at CS;simp only[] at CE CS eb sb hR;obtain⟨x,hx⟩: ∃x:Int,(((bs (c::r))[0]'h0).toNat:Int)=x:=⟨_,rfl⟩;rw[hx] at T34 T39;clear hE hQ hL;by_cases g1:c=34
  ·rw[if_pos (by rw[g1])] at hR;rw[show (some c==some 34)=true from by rw[g1];rfl] at T34;clear T39 g1;by_cases ge:e1=0
   ·rw[if_pos ge] at hR;obtain⟨n,rfl⟩: ∃n:Nat,k1=n:=⟨k1.toNat,by omega⟩;rw[fC] at hR;subst hR ge;go_enter Tryz.func150,Tryz.ntmps150;go_wp2_with fail;(with_reducible refine(CE.out _ HV.out HT.out).mono ?_);rintro e w1 ⟨rfl,hb1⟩;go_wp2_with fail;go_ret;exact⟨rfl,hb1⟩
   ·rw[if_neg ge] at hR;subst hR;have te:(e1 !=0)=true:=fH.2 ge;clear ge;go_enter Tryz.func150,Tryz.ntmps150;go_wp2_with fail;(with_reducible refine(CE.out _ HV.out HT.out).mono ?_);rintro e w1 ⟨rfl,hb1⟩;go_wp2_with fail;go_ret;exact⟨rfl,hb1⟩
  rw[if_neg (by simpa using g1)] at hR;rw[show (some c==some 34)=false from by rw[aG];simpa using g1] at T34;by_cases g2:c=39
  ·rw[if_pos (by rw[g2])] at hR;rw[show (some c==some 39)=true from by rw[g2];rfl] at T39;clear g1 g2;by_cases ge:e2=0
   ·rw[if_pos ge] at hR;obtain⟨n,rfl⟩: ∃n:Nat,k2=n:=⟨k2.toNat,by omega⟩;rw[fC] at hR;subst hR ge;go_enter Tryz.func150,Tryz.ntmps150;go_wp2_with fail;(with_reducible refine(CS.out _ HT.out).mono ?_);rintro e w1 ⟨rfl,hb1⟩;go_wp2_with fail;go_ret;exact⟨rfl,hb1⟩
   ·rw[if_neg ge] at hR;subst hR;have te:(e2 !=0)=true:=fH.2 ge;clear ge;go_enter Tryz.func150,Tryz.ntmps150;go_wp2_with fail;(with_reducible refine(CS.out _ HT.out).mono ?_);rintro e w1 ⟨rfl,hb1⟩;go_wp2_with fail;go_ret;exact⟨rfl,hb1⟩
  ·rw[if_neg (by simpa using g2)] at hR;rw[show (some c==some 39)=false from by rw[aG];simpa using g2] at T39;subst hR;clear g1 g2;go_enter Tryz.func150,Tryz.ntmps150;go_wp2_with fail;go_ret;exact⟨rfl,aB _ _⟩
theorem Vw (s:List UInt8) (j:Nat):Lib.occAt s [32,35] j=true↔s[j]?=some 32/\s[j+1]?=some 35:=by
 unfold Lib.occAt;have h1:s[j]?=(s.drop j)[0]?:=by rw[iI,Nat.add_zero]
 have h2:s[j+1]?=(s.drop j)[1]?:=by rw[iI]
 rw[h1,h2]
 match s.drop j with
 | []=>simp[List.isPrefixOf]
 | [a]=>simp[List.isPrefixOf]
 | a::b::r=>
  simp[List.isPrefixOf];constructor
  ·rintro⟨rfl,rfl⟩;exact⟨rfl,rfl⟩
  ·rintro⟨rfl,rfl⟩;exact⟨rfl,rfl⟩
theorem Vx (l:List UInt8) (a m:Nat) (ha:a<=l.length) (hm:m+1=max a 1) (hl:m<=l.length):
  (Lib.index (l.drop m) [32,35]= -1->dX l a=l.length)/\(∀i:Nat,Lib.index (l.drop m) [32,35]=i->dX l a=m+i+1/\m+i+1<=l.length):=by
 have hocc: ∀j,Lib.occAt (l.drop m) [32,35] j=true↔l[m+j]?=some 32/\l[m+j+1]?=some 35:=λj=>by
  rw[Vw,iI,iI];rfl
 have hnot: ∀i,(∀j,j<i->Lib.occAt (l.drop m) [32,35] j=false)-> ∀j,max a 1<=j->j<m+i+1-> ¬(l[j]?=some 35/\l[j-1]?=some 32):=by
  rintro i h j h1 h2 ⟨e1,e2⟩;have:=h (j-1-m) (by omega);have h3:=(hocc (j-1-m)).2 ⟨by rw[show m+(j-1-m)=j-1 by omega];exact e2,by rw[show m+(j-1-m)+1=j by omega];exact e1⟩;rw[this] at h3;cases h3
 rcases Lib.index_spec (l.drop m) [32,35] with⟨h1,h2⟩ | ⟨i,h1,h2,h3,h4⟩
 ·refine⟨λ_=>xZ l a l.length (aE _) (λh=>absurd h (Nat.lt_irrefl _)) (λj g1 g2=>?_),λi hi=>by rw[h1] at hi;omega⟩;refine hnot (l.length-m) (λj hj=>h2 j (by rw[aV];omega)) j g1 (by omega)
 ·refine⟨λh=>by rw[h1] at h;omega,λi' hi=>?_⟩;obtain rfl:i=i':=by rw[h1] at hi;omega
  have ho:=(hocc i).1 h3;have hlt:=(aQ.1 ho.2).1;refine⟨xZ l a (m+i+1) (by omega) (λ_=>⟨by omega,ho.2,by rw[Nat.add_sub_cancel];exact ho.1⟩) (hnot i (λj hj=>?_)),by omega⟩;exact h4 j hj
theorem Ju (l:List UInt8) (a:Nat) (w:World) (hs:l.length<=1073741824) (ha:a<=l.length) (hM:lD w):
  Calls Tryz.prog 181 #[.string (bs l), .int .i64 a] w λe w'=>e= .returned (.int .i64 (dX l a))/\w=w':=by
 have sl:=aR l;obtain⟨M,hM⟩:=hM;obtain⟨m,hm⟩: ∃m,m+1=max a 1:=⟨max a 1-1,by omega⟩;have hml:m<=l.length:=by omega
 have hni:=Vx l a m ha hm hml;obtain⟨X,hX⟩:=exQ<|Lib.index (l.drop m) [32,35];have hge:=Lib.index_ge (l.drop m) [32,35];have CI:Hid (Calls Tryz.prog 169 #[.string ((bs l).extract m l.length), .string ⟨#[32,35]⟩] w λe w'=>e= .returned (.int .i64 X)/\w=w'):=hid (by have h:=Tryz.strings_Index ((bs l).extract m l.length) ⟨#[32,35]⟩ M w (by rw[lK _ _ _ rfl,aR,aV];omega) hM;rw[lK _ _ _ rfl,aU,show (⟨#[32,35]⟩:ByteArray).data.toList= [32,35] from rfl,hX] at h;rw[lK _ _ _ rfl];exact h.mono λ_ _ ⟨a,b⟩=>⟨a,b.symm⟩);rw[hX] at hni hge;obtain⟨N,hN⟩:=exQ<|dX l a;rw[hN] at hni ⊢;have hmax:max ((a:Int)-1) 0=(m:Int):=by omega
 clear hX hN hM;have ha0:(a:Int)<=(l.length:Int):=by omega
 have hm0:(0:Int)<=(m:Int):=by omega
 have hm1:(m:Int)<=(l.length:Int):=by omega
 have HM:=hid hm;clear hm;by_cases hx:X<0
 ·have HF:=hid (hni.1 (by omega));clear hni;go_enter Tryz.func181,Tryz.ntmps181;go_wp2_with (go_at_call 169;refine CI.out.mono ?_;rintro e w' ⟨rfl,rfl⟩);go_ret;exact⟨tG (by rw[HF.out]),rfl⟩
 ·obtain⟨i,rfl⟩: ∃i:Nat,X=i:=⟨X.toNat,by omega⟩;obtain⟨n1,n2⟩:=hni.2 i rfl;have HF:=hid n1;have dx:decide ((i:Int)<0)=false:=aJ (by omega);clear hni hx n1;go_enter Tryz.func181,Tryz.ntmps181;go_wp2_with (go_at_call 169;refine CI.out.mono ?_;rintro e w' ⟨rfl,rfl⟩);go_ret;exact⟨tG (by rw[HF.out];omega),rfl⟩
theorem Jv (l:List UInt8) (k:Nat) (h:k<l.length) (h2:k<(bs l).size):(bs l)[k]'h2=l[k]'h:=by
 have:=nO l k h2;rw[bJ h] at this;exact(bD this).symm
theorem Vy (l:List UInt8) (k:Nat) (c:UInt8) (w:World) (hs:l.length<=1073741824) (hk:k<=1073741824):
  Calls Tryz.prog 180 #[.string (bs l), .int .i64 k, .int .u8 (c.toNat:Int)] w λe w'=>e= .returned (.bool (jU l k c))/\w=w':=by
 have sl:=aR l;obtain⟨R,hR⟩:=exQ<|jU l k c;rw[hR];unfold jU at hR;by_cases hlt:k<l.length
 ·have hlt':k<(bs l).size:=by omega
  have hb:=Jv l k hlt hlt';have T1:=zP ((bs l)[k]'hlt') c _ rfl;rw[bJ hlt,<-hb] at hR;have d1:decide (k<l.length)=true:=aN hlt;obtain⟨n,hn⟩: ∃n:Int,(c.toNat:Int)=n:=⟨_,rfl⟩;rw[hn] at T1 ⊢;obtain⟨x,hx⟩:=exQ<|(bs l)[k]'hlt';rw[hx] at T1 hR;have hx2:(((bs l)[k]'hlt').toNat:Int)=(x.toNat:Int):=by rw[hx]
  obtain⟨y,hy⟩: ∃y:Int,(x.toNat:Int)=y:=⟨_,rfl⟩;rw[hy] at T1 hx2;by_cases he:x=c
  ·rw[show (x==c)=true from beq_iff_eq.2 he] at T1;rw[show (some x==some c)=true from by rw[he];exact beq_self_eq_true _,Bool.true_and] at hR;by_cases hl1:k+1=l.length
   ·have t2:((k:Int)+1==(l.length:Int))=true:=beq_iff_eq.2 (by omega);rw[List.getElem?_eq_none (by omega)] at hR;have hRt:R=true:=by rw[<-hR];rfl
    subst hRt;clear hR hb he hx hy hn hl1;go_enter Tryz.func180,Tryz.ntmps180;go_wp2_with fail;go_ret;exact⟨rfl,rfl⟩
   ·have t2:((k:Int)+1==(l.length:Int))=false:=aG.2 (by omega);have hk1:k+1<l.length:=(by omega);have hk1':k+1<(bs l).size:=(by omega);have hb1:=Jv l (k+1) hk1 hk1';have T2:=zP ((bs l)[k+1]'hk1') 32 32 rfl;rw[bJ hk1,<-hb1] at hR;have hRt:((bs l)[k+1]'hk1'==32)=R:=by rw[<-hR];simp
    rw[hRt] at T2;clear hR hb hb1 he hx hy hn hl1 hRt;go_enter Tryz.func180,Tryz.ntmps180;go_wp2_with fail;go_ret;exact⟨rfl,rfl⟩
  ·rw[show (x==c)=false from aG.2 he] at T1;rw[show (some x==some c)=false from aG.2 (λh=>he (bD h)),Bool.false_and] at hR;subst hR;clear hb he hx hy hn;go_enter Tryz.func180,Tryz.ntmps180;go_wp2_with fail;go_ret;exact⟨rfl,rfl⟩
 ·have d1:decide (k<l.length)=false:=aJ hlt;rw[List.getElem?_eq_none (by omega)] at hR;have hRf:R=false:=by rw[<-hR];rfl
  subst hRf;clear hR;go_enter Tryz.func180,Tryz.ntmps180;go_wp2_with fail;go_ret;exact⟨rfl,rfl⟩
def Jw (h:Nat×Nat):Ending:= .returned (.tuple #[.int .i64 h.1, .int .i64 h.2])
theorem uI (l:List UInt8) (k:Nat) (c:UInt8) (ki ci:Int) (B:Bool) (hki:(k:Int)=ki) (hci:(c.toNat:Int)=ci) (hB:jU l k c=B) (hs:l.length<=1073741824) (hk:k<=1073741824) (w:World):
  Calls Tryz.prog 180 #[.string (bs l), .int .i64 ki, .int .u8 ci] w λe w'=>e= .returned (.bool B)/\w=w':=by
 subst hki hci hB;exact Vy l k c w hs hk
theorem Jy (t:List UInt8) (c f k:Nat):qZ t c (f+1) k=if c<=k then(5,0) else if jU t k 58 then(4,k) else qZ t c f (k+1):=rfl
theorem Vz (l:List UInt8) (w:World) (hne:l≠ []) (hs:l.length<=1073741824) (hV:cO w) (hT:cC w) (hM:lD w):
  Calls Tryz.prog 151 #[.string (bs l)] w λe w'=>e=Jw (iP l)/\Below w.heap.size w w':=by
 have sl:=aR l;obtain⟨R,hR⟩:=exQ<|iP l;rw[hR];unfold iP at hR;have h0:0<(bs l).size:=by rw[aR];exact tJ.2 hne
 have hl0:0<l.length:=by omega
 have T34:=nN l 34 34 rfl h0;have T39:=nN l 39 39 rfl h0;have T91:=nN l 91 91 rfl h0;have T123:=nN l 123 123 rfl h0;obtain⟨x,hx⟩: ∃x:Int,(((bs l)[0]'h0).toNat:Int)=x:=⟨_,rfl⟩;rw[hx] at T34 T39 T91 T123;have HV:=hid hV;have HT:=hid hT;have HM:=hid hM;clear hV hT hM hne;cases hb0:jU l 0 45 with
 | true=>
  have CS:=hid (λw=>uI l 0 45 0 45 true rfl rfl hb0 hs (by omega) w);rw[if_pos hb0] at hR;subst hR;clear hb0 T34 T39 T91 T123;go_enter Tryz.func151,Tryz.ntmps151;go_wp2_with (go_at_call 180;refine(CS.out _).mono ?_;rintro e w' ⟨rfl,rfl⟩);go_ret2;exact⟨rfl,aB _ _⟩
 | false=>
  have CS:=hid (λw=>uI l 0 45 0 45 false rfl rfl hb0 hs (by omega) w);rw[if_neg (by rw[hb0];simp)] at hR;clear hb0;by_cases hq:l.head?=some 34\/l.head?=some 39
  ·rw[if_pos hq] at hR;have CQ:=hid (λw hV hT=>Cd l w hs hV hT);obtain⟨q,hqd⟩:=exQ<|dY l;have hql:=Jt l;rw[hqd] at CQ hR hql;clear T91 T123;have TQ:((x==34)||(x==39))=true:=by
    rw[T34,T39];rcases hq with h | h<;>rw[h]<;>rfl
   cases hb1:jU l q 58 with
   | true=>
    have CS2:=hid (λw=>uI l q 58 q 58 true rfl rfl hb1 hs (by omega) w);rw[if_pos hb1] at hR;subst hR;clear hb1 hqd;by_cases hx34:x=34
    ·subst hx34;clear T34 T39 hq TQ;go_enter Tryz.func151,Tryz.ntmps151;go_wp2_with (go_at_call 180;refine(CS.out _).mono ?_;rintro e w' ⟨rfl,rfl⟩);(with_reducible refine(CQ.out _ HV.out HT.out).mono ?_);rintro e w1 ⟨rfl,hb1⟩;have HB1:=hid hb1;clear hb1;go_wp2_with (go_at_call 180;refine(CS2.out _).mono ?_;rintro e w' ⟨rfl,rfl⟩);go_ret2;exact⟨rfl,HB1.out⟩
    ·have t34:(x==34)=false:=aG.2 hx34;have t39:(x==39)=true:=by rw[t34] at TQ;simpa using TQ
     clear T34 T39 hq TQ hx34;go_enter Tryz.func151,Tryz.ntmps151;go_wp2_with (go_at_call 180;refine(CS.out _).mono ?_;rintro e w' ⟨rfl,rfl⟩);(with_reducible refine(CQ.out _ HV.out HT.out).mono ?_);rintro e w1 ⟨rfl,hb1⟩;have HB1:=hid hb1;clear hb1;go_wp2_with (go_at_call 180;refine(CS2.out _).mono ?_;rintro e w' ⟨rfl,rfl⟩);go_ret2;exact⟨rfl,HB1.out⟩
   | false=>
    have CS2:=hid (λw=>uI l q 58 q 58 false rfl rfl hb1 hs (by omega) w);rw[if_neg (by rw[hb1];simp)] at hR;subst hR;clear hb1 hqd;by_cases hx34:x=34
    ·subst hx34;clear T34 T39 hq TQ;go_enter Tryz.func151,Tryz.ntmps151;go_wp2_with (go_at_call 180;refine(CS.out _).mono ?_;rintro e w' ⟨rfl,rfl⟩);(with_reducible refine(CQ.out _ HV.out HT.out).mono ?_);rintro e w1 ⟨rfl,hb1⟩;have HB1:=hid hb1;clear hb1;go_wp2_with (go_at_call 180;refine(CS2.out _).mono ?_;rintro e w' ⟨rfl,rfl⟩);go_ret2;exact⟨rfl,HB1.out⟩
    ·have t34:(x==34)=false:=aG.2 hx34;have t39:(x==39)=true:=by rw[t34] at TQ;simpa using TQ
     clear T34 T39 hq TQ hx34;go_enter Tryz.func151,Tryz.ntmps151;go_wp2_with (go_at_call 180;refine(CS.out _).mono ?_;rintro e w' ⟨rfl,rfl⟩);(with_reducible refine(CQ.out _ HV.out HT.out).mono ?_);rintro e w1 ⟨rfl,hb1⟩;have HB1:=hid hb1;clear hb1;go_wp2_with (go_at_call 180;refine(CS2.out _).mono ?_;rintro e w' ⟨rfl,rfl⟩);go_ret2;exact⟨rfl,HB1.out⟩
  ·rw [if_neg hq] at hR;rw[show (l.head?==some 34)=false from aG.2 (λh=>hq (.inl h))] at T34;rw[show (l.head?==some 39)=false from aG.2 (λh=>hq (.inr h))] at T39;by_cases hbr:l.head?=some 91\/l.head?=some 123
   ·rw[if_pos hbr] at hR;subst hR;by_cases hx91:x=91
    ·subst hx91;clear T34 T39 T91 T123 hq hbr;go_enter Tryz.func151,Tryz.ntmps151;go_wp2_with (go_at_call 180;refine(CS.out _).mono ?_;rintro e w' ⟨rfl,rfl⟩);go_ret2;exact⟨rfl,aB _ _⟩
    ·have t91:(x==91)=false:=aG.2 hx91;have t123:(x==123)=true:=by
      rw[T123];rcases hbr with h | h
      ·rw[t91,h] at T91;cases T91
      ·rw[h];rfl
     clear T91 T123 hq hbr hx91;go_enter Tryz.func151,Tryz.ntmps151;go_wp2_with (go_at_call 180;refine(CS.out _).mono ?_;rintro e w' ⟨rfl,rfl⟩);go_ret2;exact⟨rfl,aB _ _⟩
   ·rw [if_neg hbr] at hR;rw[show (l.head?==some 91)=false from aG.2 (λh=>hbr (.inl h))] at T91;rw[show (l.head?==some 123)=false from aG.2 (λh=>hbr (.inr h))] at T123;have CN:=hid (λw hM=>Ju l 0 w hs (by omega) hM);obtain⟨N,hN⟩:=exQ<|dX l 0;have hNl:=(wA l 0).1;rw[hN] at CN hR hNl;have HR:=hid hR;clear hq hbr hR hN;go_enter Tryz.func151,Tryz.ntmps151;go_wp2_with (go_at_call 180;refine(CS.out _).mono ?_;rintro e w' ⟨rfl,rfl⟩);go_loop [6] (λs6=> ∃k f:Nat,s6= .int .i64 k/\1<=k/\k<=l.length+1/\l.length<k+f/\Hid (qZ l N f k=R)) (λs6=>l.length+1-(RowKit.intOf s6).toNat)
    case atStart=>exact⟨1,l.length,rfl,by omega,by omega,by omega,HR.out⟩
    case round=>
     obtain⟨k,f,rfl,hk1,hk2,hf,HG⟩:=hrel;by_cases hkN:N<=k
     ·have HF:Hid (R=(5,0)):=by
       have h1:=HG.out;cases f with
       | zero=>exact hid h1.symm
       | succ f=>rw[Jy,if_pos hkN] at h1;exact hid h1.symm
      have dk:decide (k<N)=false:=aJ (by omega);go_wp2_with (go_at_call 181;refine(CN.out _ HM.out).mono ?_;rintro e w' ⟨rfl,rfl⟩);go_ret2;exact⟨by rw[HF.out];rfl,aB _ _⟩
     ·have dk:decide (k<N)=true:=aN (by omega);obtain⟨g,rfl⟩: ∃g,f=g+1:=⟨f-1,by omega⟩;have h1:=HG.out;rw[Jy,if_neg hkN] at h1;cases hb1:jU l k 58 with
      | true=>
       have CS2:=hid (λw=>uI l k 58 k 58 true rfl rfl hb1 hs (by omega) w);rw[if_pos hb1] at h1;have HF:=hid h1;clear h1 hb1 HG;go_wp2_with (first | (go_at_call 181;refine(CN.out _ HM.out).mono ?_;rintro e w' ⟨rfl,rfl⟩) | (go_at_call 180;(with_reducible refine(CS2.out _).mono ?_);rintro e w' ⟨rfl,rfl⟩));go_ret2;exact⟨by rw[<-HF.out];rfl,aB _ _⟩
      | false=>
       have CS2:=hid (λw=>uI l k 58 k 58 false rfl rfl hb1 hs (by omega) w);rw[if_neg (by rw[hb1];simp)] at h1;have HG2:=hid h1;clear h1 hb1 HG;go_wp2_with (first | (go_at_call 181;refine(CN.out _ HM.out).mono ?_;rintro e w' ⟨rfl,rfl⟩) | (go_at_call 180;(with_reducible refine(CS2.out _).mono ?_);rintro e w' ⟨rfl,rfl⟩));go_round
       case rel=>exact⟨k+1,g,by go_num,by omega,by omega,by omega,HG2.out⟩
       case measure=>simp[RowKit.intOf];omega
theorem mJ {w:World}{g:Nat}{t:TypeId}{cs:Array Value} (h:w.heap[g]?=some (.cells cs t (0,0))) (i:Nat):w.cell? ⟨g,i,none⟩=cs[i]?:=cell_of_row w g i cs t (0,0) h
theorem oR {w:World}{g:Nat}{t:TypeId}{cs:Array Value} (h:w.heap[g]?=some (.cells cs t (0,0))) (i:Nat):w.frozen? ⟨g,i,none⟩=false:=by
 simp[World.frozen?,h]
theorem jK {w:World}{g:Nat}{t:TypeId}{cs:Array Value} (h:w.heap[g]?=some (.cells cs t (0,0))) (i:Nat) (u:Value):(w.setCell ⟨g,i,none⟩ u).heap[g]?=some (.cells (cs.setIfInBounds i u) t (0,0)):=by
 simp[World.setCell,Array.getElem?_modify,h]
def cB (w:World) (X:Nat) (r:aP):Prop:=w.heap[X]?=some (.cells #[.int .i64 r.kind, .int .i64 r.sf, .int .i64 r.st, .int .i64 r.ind, .int .i64 r.kf, .int .i64 r.kt, .int .i64 r.rf, .int .i64 r.rt, .int .i64 r.nf, .int .i64 r.nt] 121 (0,0))
abbrev Wb (w:World) (X:Nat) (r:aP):Prop:=
 w.cell? ⟨X,0,none⟩=some (.int .i64 r.kind)/\w.cell? ⟨X,1,none⟩=some (.int .i64 r.sf)/\w.cell? ⟨X,2,none⟩=some (.int .i64 r.st)/\w.cell? ⟨X,3,none⟩=some (.int .i64 r.ind)/\
 w.cell? ⟨X,4,none⟩=some (.int .i64 r.kf)/\w.cell? ⟨X,5,none⟩=some (.int .i64 r.kt)/\w.cell? ⟨X,6,none⟩=some (.int .i64 r.rf)/\w.cell? ⟨X,7,none⟩=some (.int .i64 r.rt)/\
 w.cell? ⟨X,8,none⟩=some (.int .i64 r.nf)/\w.cell? ⟨X,9,none⟩=some (.int .i64 r.nt)/\
 w.frozen? ⟨X,0,none⟩=false/\w.frozen? ⟨X,1,none⟩=false/\w.frozen? ⟨X,2,none⟩=false/\w.frozen? ⟨X,3,none⟩=false/\w.frozen? ⟨X,4,none⟩=false/\
 w.frozen? ⟨X,5,none⟩=false/\w.frozen? ⟨X,6,none⟩=false/\w.frozen? ⟨X,7,none⟩=false/\w.frozen? ⟨X,8,none⟩=false/\w.frozen? ⟨X,9,none⟩=false
theorem cB.cells {w:World}{X:Nat}{r:aP} (h:cB w X r):Wb w X r:=
  ⟨mJ h 0,mJ h 1,mJ h 2,mJ h 3,mJ h 4,mJ h 5,mJ h 6,mJ h 7,mJ h 8,mJ h 9,
   oR h 0,oR h 1,oR h 2,oR h 3,oR h 4,oR h 5,oR h 6,oR h 7,oR h 8,oR h 9⟩
theorem cB.lt {w:World}{X:Nat}{r:aP} (h:cB w X r):X<w.heap.size:=aF h
theorem cB.keep {w w':World}{X:Nat}{r:aP} (h:cB w X r) (hb:Below w.heap.size w w'):cB w' X r:=(hb.block X h.lt).trans h
theorem cB.drew {w:World}{X:Nat}{r:aP} (h:cB w X r):cB w.drew X r:=h
def kO (X:Nat) (a b:World):Prop:=a.grownBy b (some X)
theorem kO.of_below {X:Nat}{a b:World} (h:Below a.heap.size a b):kO X a b:=⟨h.os,h.tape,h.output,h.size,λi hi _=>h.block i hi⟩
theorem kO.set {X:Nat}{a b:World} (h:kO X a b) (i:Nat) (u:Value):kO X a (b.setCell ⟨X,i,none⟩ u):=
 ⟨h.os,h.tape,h.output,by have:=h.size;simpa [World.setCell] using this,λj hj hne=>(dC b ⟨X,i,none⟩ u j (by rintro rfl;exact hne rfl)).trans (h.block j hj hne)⟩
theorem kO.drew {X:Nat}{a b:World} (h:kO X a b):kO X a b.drew:=⟨h.os,h.tape,h.output,h.size,h.block⟩
def oS (l:List UInt8) (a b:Int):Bool:=if a<0\/b<a\/(l.length:Int)<b then false else !((l.drop a.toNat).take (b-a).toNat).contains 10
theorem Wc (l:List UInt8) (c:UInt8):decide (0<=Lib.indexByte l c)=l.contains c:=(Lib.contains_iff_indexByte l c).symm
theorem Ce (l:List UInt8) (a b:Int) (w:World) (hs:l.length<=1073741824):
  Calls Tryz.prog 148 #[.string (bs l), .agg #[.int .i64 a, .int .i64 b]] w λe w'=>e= .returned (.bool (oS l a b))/\Below w.heap.size w w':=by
 have sl:=aR l;obtain⟨R,hR⟩:=exQ<|oS l a b;rw[hR];unfold oS at hR;by_cases h1:a<0
 ·rw[if_pos (.inl h1)] at hR;subst hR;go_enter Tryz.func148,Tryz.ntmps148;go_wp2_with fail;go_ret;exact⟨rfl,aH _ _⟩
 by_cases h2:b<a
 ·rw[if_pos (.inr (.inl h2))] at hR;subst hR;go_enter Tryz.func148,Tryz.ntmps148;go_wp2_with fail;go_ret;exact⟨rfl,aH _ _⟩
 by_cases h3:(l.length:Int)<b
 ·rw[if_pos (.inr (.inr h3))] at hR;subst hR;go_enter Tryz.func148,Tryz.ntmps148;go_wp2_with fail;go_ret;exact⟨rfl,aH _ _⟩
 rw[if_neg (by omega)] at hR;obtain⟨x,rfl⟩: ∃x:Nat,a=x:=⟨a.toNat,by omega⟩;obtain⟨y,rfl⟩: ∃y:Nat,b=y:=⟨b.toNat,by omega⟩;rw[fC,show ((y:Int)-(x:Int)).toNat=y-x by omega] at hR;obtain⟨B,hB⟩:=exQ<|((l.drop x).take (y-x)).contains 10;have CC:Hid (∀w,Calls Tryz.prog 123 #[.string ((bs l).extract x y), .string ⟨#[10]⟩] w λe w'=>e= .returned (.bool B)/\w=w'):=hid (λw=>by have h:=Tryz.strings_Contains_one ((bs l).extract x y) 10 w;rw[kV,aU,aU,Wc,hB] at h;rw[kV,aU];exact h.mono λ_ _ ⟨a,b⟩=>⟨a,b.symm⟩);rw[hB] at hR;have d2:decide (y<x)=false:=aJ (by omega);have d3:decide (l.length<y)=false:=aJ (by omega);have hxy:(x:Int)<=(y:Int):=by omega
 have hyl:(y:Int)<=(l.length:Int):=by omega
 clear hB h1 h2 h3;subst hR;go_enter Tryz.func148,Tryz.ntmps148;go_wp2_with (go_at_call 123;refine(CC.out _).mono ?_;rintro e w' ⟨rfl,rfl⟩);go_ret;exact⟨rfl,aH _ _⟩
theorem Jz (l:List UInt8) (w:World):Calls Tryz.prog 94 #[.string (bs l), .string ⟨#[32]⟩] w λe w'=>e= .returned (.string (bs (l.drop (bQ l))))/\w=w':=by
 have h:=Tryz.strings_TrimLeft_one (bs l) 32 (by decide) w;have e:Lib.trimLeftB (bs l).data.toList 32=l.drop (bQ l):=by
  rw[aU];unfold Lib.trimLeftB bQ;have h:=List.takeWhile_append_dropWhile (p:=(· ==32)) (l:=l)
  conv=>rhs;arg 2;rw[<-h]
  exact(uW).symm
 rw[e] at h;exact h.mono λ_ _ ⟨a,b⟩=>⟨a,b.symm⟩
theorem We (l:List UInt8) (w:World) (hs:l.length<=1073741824):Calls Tryz.prog 101 #[.string (bs l), .string ⟨#[32]⟩] w λe w'=>e= .returned (.string (bs (l.take (fE l))))/\w=w':=by
 have h:=Tryz.strings_TrimRight_one (bs l) 32 (by decide) w (by rw[aR];omega);have e:Lib.trimRightB (bs l).data.toList 32=l.take (fE l):=by
  rw[aU];unfold Lib.trimRightB fE bQ;have h:=List.takeWhile_append_dropWhile (p:=(· ==32)) (l:=l.reverse);have h2:l.reverse.dropWhile (· ==32)=l.reverse.drop (l.reverse.takeWhile (· ==32)).length:=by
   conv=>rhs;arg 2;rw[<-h]
   exact(uW).symm
  rw[h2,List.drop_reverse,List.reverse_reverse]
 rw[e] at h;exact h.mono λ_ _ ⟨a,b⟩=>⟨a,b.symm⟩
def Cf (t:List UInt8) (f2 tw:Nat) (r:aP):aP:=
 ⟨r.kind,r.sf,r.st,r.ind,r.kf,r.kt,r.sf+f2,r.sf+(f2+fE ((t.take tw).drop f2)),if tw<t.length then r.sf+tw else r.nf,if tw<t.length then r.st else r.nt⟩
def qD (t:List UInt8) (f:Nat) (r:aP):aP:=Cf t (cL t f) (dX t (cL t f+dY (t.drop (cL t f)))) r
theorem cB.note {w:World}{X:Nat}{r:aP} (h:cB w X r) (a b:Int):cB ((w.setCell ⟨X,8,none⟩ (.int .i64 a)).setCell ⟨X,9,none⟩ (.int .i64 b)) X { r with nf:=a,nt:=b }:=jK (jK h 8 _) 9 _
theorem cB.rest {w:World}{X:Nat}{r:aP} (h:cB w X r) (a b:Int):cB ((w.setCell ⟨X,6,none⟩ (.int .i64 a)).setCell ⟨X,7,none⟩ (.int .i64 b)) X { r with rf:=a,rt:=b }:=jK (jK h 6 _) 7 _
def Cg (X:Nat) (r:aP) (w w':World):Prop:=cB w' X r/\kO X w w'
theorem Ch (t:List UInt8) (f X:Nat) (r:aP) (w:World) (hs:t.length<=1073741824) (hf:f<=t.length) (hX:cB w X r) (h0:0<=r.sf) (h1:r.sf<=1073741824) (hV:cO w) (hT:cC w) (hM:lD w):
  Calls Tryz.prog 152 #[.pointer (some ⟨X,0,none⟩), .string (bs t), .int .i64 f] w λe w'=>(∃v,e= .returned v)/\cB w' X (qD t f r)/\kO X w w':=by
 have sl:=aR t;obtain⟨b1,b2,_,_⟩:=Iz t f hf;have hbe:cL t f=f+bQ (t.drop f):=rfl;obtain⟨R,hR⟩:=exQ<|qD t f r;rw[hR];unfold qD at hR;obtain⟨f2,hf2⟩:=exQ<|cL t f;rw[hf2] at hR b1 b2 hbe;have CL:Hid (∀w,Calls Tryz.prog 94 #[.string ((bs t).extract f t.length), .string ⟨#[32]⟩] w λe w'=>e= .returned (.string (bs (t.drop f2)))/\w=w'):=hid (λw=>by have:=Jz (t.drop f) w;rw[kB,<-hbe] at this;rw[lK _ _ _ rfl];exact this);have CQ:Hid (∀w,cO w->cC w->Calls Tryz.prog 150 #[.string ((bs t).extract f2 t.length)] w λe w'=>e= .returned (.int .i64 (dY (t.drop f2)))/\Below w.heap.size w w'):=hid (λw hV hT=>by have:=Cd (t.drop f2) w (by rw[aV];omega) hV hT;rw[lK _ _ _ rfl];exact this);have hqd:=Jt (t.drop f2);rw[aV] at hqd;obtain⟨q,hq⟩:=exQ<|dY (t.drop f2);rw[hq] at CQ hR hqd;have CN:=hid (λw hM=>Ju t (f2+q) w hs (by omega) hM);have hns:=wA t (f2+q);obtain⟨tw,htw⟩:=exQ<|dX t (f2+q);rw[htw] at CN hR hns;unfold Cf at hR;obtain⟨n1,n2,_⟩:=hns;have hft:f2<=tw:=by
  by_cases hl:tw<t.length
  ·have:=(n2 hl).1;omega
  ·omega
 have CR:Hid (∀w,Calls Tryz.prog 101 #[.string ((bs t).extract f2 tw), .string ⟨#[32]⟩] w λe w'=>e= .returned (.string (bs (((t.take tw).drop f2).take (fE ((t.take tw).drop f2)))))/\w=w'):=hid (λw=>by have:=We ((t.take tw).drop f2) w (by rw[aV,cF];omega);rw[kV,aU,<-List.drop_take];exact this);have hcast:((f2+q:Nat):Int)=(f2:Int)+(q:Int):=by omega
 rw[hcast] at CN;obtain⟨Y,hY⟩:=exQ<|((t.take tw).drop f2).take (fE ((t.take tw).drop f2));have hYl:Y.length=fE ((t.take tw).drop f2):=by rw[<-hY,cF,Nat.min_eq_left (vZ _)]
 have htr:=vZ ((t.take tw).drop f2);rw[aV,cF,Nat.min_eq_left n1] at htr;obtain⟨z,hz⟩:=exQ<|fE ((t.take tw).drop f2);rw[hY] at CR;rw[hz] at hR hYl htr;have sY:=aR Y;rw[hYl] at sY;have sD:=aR (t.drop f2);rw[aV] at sD;have hsub:(t.length:Int)-((t.length-f2:Nat):Int)=(f2:Int):=by omega
 have HX:=hid hX;have HV:=hid hV;have HT:=hid hT;have HM:=hid hM;have HR:=hid hR;have hfi:(f:Int)<=(t.length:Int):=by omega
 have hf2i:(f2:Int)<=(t.length:Int):=by omega
 have htwi:(tw:Int)<=(t.length:Int):=by omega
 have hfti:(f2:Int)<=(tw:Int):=by omega
 clear hX hV hT hM hR hf2 hq htw n1 n2 hY hYl hz hcast hbe;go_enter Tryz.func152,Tryz.ntmps152;go_wp2_with (go_at_call 94;refine(CL.out _).mono ?_;rintro e w' ⟨rfl,rfl⟩);(with_reducible refine(CQ.out _ HV.out HT.out).mono ?_);rintro e w1 ⟨rfl,hb1⟩;have HX1:=hid (HX.out.keep hb1);have HM1:=hid (HM.out.keep hb1);have HO1:=hid (kO.of_below (X:=X) hb1);clear hb1;go_upto_if 27 with(go_at_call 181;(with_reducible refine(CN.out _ HM1.out).mono ?_);rintro e w' ⟨rfl,rfl⟩);obtain⟨r2,hr2⟩: ∃r2:aP,r2= { r with nf:=if tw<t.length then r.sf+tw else r.nf,nt:=if tw<t.length then r.st else r.nt }:=⟨_,rfl⟩;have HR2:=hid hr2;go_cut [] (λwx=>Hid (Cg X r2 w wx))
 case first=>
  have hH:Cg X r w w1:=⟨HX1.out,HO1.out⟩;by_cases hl:tw<t.length
  ·have dl:decide (tw<t.length)=true:=aN hl;clear hr2;go_wp2_with fail;obtain⟨a0,a1,a2,a3,a4,a5,a6,a7,a8,a9,g0,g1,g2,g3,g4,g5,g6,g7,g8,g9⟩:=hH.1.cells;have hw1:IntKind.i64.wrap (r.sf+(tw:Int))=r.sf+(tw:Int):=by rw[IntKind.wrap_i64];omega
   have HE:Hid (r2= { r with nf:=r.sf+tw,nt:=r.st }):=by rw[HR2.out,if_pos hl,if_pos hl];exact hid rfl
   clear hl;go_region
   all_goals go_wp2_with fail
   all_goals go_meet
   all_goals (rw[HE.out];exact⟨(cB.note hH.1 _ _).drew,((hH.2.set 8 _).set 9 _).drew⟩)
  ·have dl:decide (tw<t.length)=false:=aJ hl;have:r2=r:=(by rw[hr2,if_neg hl,if_neg hl]);subst this;clear hr2;go_wp2_with fail;go_meet;exact hH
 have H2:=hcut;clear hr2;have h20:r2.sf=r.sf:=by rw[HR2.out]
 have HE:Hid (R= { r2 with rf:=r.sf+f2,rt:=r.sf+(f2+z) }):=by rw[<-HR.out,HR2.out];exact hid rfl
 rw[<-h20] at h0 h1;have HH20:=hid h20;clear h20;go_upto_if 47 with fail;go_cut [7] (λs7 wx=>s7= .int .i64 (((f2+z:Nat)):Int)/\Hid (Cg X r2 w wx))
 case first=>
  by_cases hgt:f2<tw
  ·have dg:decide (f2<tw)=true:=aN hgt;go_wp2_with (go_at_call 101;refine(CR.out _).mono ?_;rintro e w' ⟨rfl,rfl⟩);go_meet;exact⟨by go_num,H2.out⟩
  ·have dg:decide (f2<tw)=false:=aJ hgt;obtain rfl:z=0:=(by omega);go_wp2_with fail;go_meet;exact⟨by go_num,H2.out⟩
 obtain⟨rfl,H3⟩:=hcut;obtain⟨a0,a1,a2,a3,a4,a5,a6,a7,a8,a9,g0,g1,g2,g3,g4,g5,g6,g7,g8,g9⟩:=H3.out.1.cells;have hw1:IntKind.i64.wrap (r2.sf+(f2:Int))=r2.sf+(f2:Int):=by rw[IntKind.wrap_i64];omega
 have hw2:IntKind.i64.wrap (r2.sf+((f2:Int)+(z:Int)))=r2.sf+((f2:Int)+(z:Int)):=by rw[IntKind.wrap_i64];omega
 go_wp2_with fail;go_region
 all_goals go_end0
 all_goals (refine⟨⟨_,rfl⟩,?_,(((H3.out.2).set 6 _).set 7 _).drew⟩)
 all_goals (rw[HE.out,<-HH20.out];exact(cB.rest H3.out.1 _ _).drew)
def sH (w:World) (S:Nat) (a b:Int):Prop:=w.heap[S]?=some (.cells #[.int .i64 a, .int .i64 b] 59 (0,0))
abbrev Wf (w:World) (S:Nat) (a b:Int):Prop:=w.cell? ⟨S,0,none⟩=some (.int .i64 a)/\w.cell? ⟨S,1,none⟩=some (.int .i64 b)
theorem sH.cells {w:World}{S:Nat}{a b:Int} (h:sH w S a b):Wf w S a b:=⟨mJ h 0,mJ h 1⟩
theorem sH.keep {w w':World}{S:Nat}{a b:Int} (h:sH w S a b) (hb:Below w.heap.size w w'):sH w' S a b:=(hb.block S (aF h)).trans h
def fQ (r:aP):Value:= .agg #[.int .i64 r.kind, .int .i64 r.sf, .int .i64 r.st, .int .i64 r.ind, .int .i64 r.kf, .int .i64 r.kt, .int .i64 r.rf, .int .i64 r.rt, .int .i64 r.nf, .int .i64 r.nt]
def rD (x:aP×Int×Int):Ending:= .returned (.tuple #[fQ x.1, .int .i64 x.2.1, .int .i64 x.2.2])
structure dP (w:World) (a b:Int) (r:aP) (w':World):Prop where
 s:sH w' w.heap.size a b
 l:cB w' (w.heap.size+1) r
 b:Below w.heap.size w w'
 z:w.heap.size+2<=w'.heap.size
theorem dP.start (w:World) (a b:Int):dP w a b cT ((w.alloc (.cells #[.int .i64 a, .int .i64 b] 59)).alloc (.cells #[.int .i64 0, .int .i64 0, .int .i64 0, .int .i64 0, .int .i64 0, .int .i64 0, .int .i64 0, .int .i64 0, .int .i64 0, .int .i64 0] 121)):=by
 refine⟨?_,?_,?_,by simp⟩
 ·exact(Below.heap_alloc _ _ w.heap.size (by simp)).trans (heap_alloc_new w _)
 ·have:=heap_alloc_new (w.alloc (.cells #[.int .i64 a, .int .i64 b] 59)) (.cells #[.int .i64 0, .int .i64 0, .int .i64 0, .int .i64 0, .int .i64 0, .int .i64 0, .int .i64 0, .int .i64 0, .int .i64 0, .int .i64 0] 121);rw[kK] at this;exact this
 ·exact(aH w _).trans ((aH (w.alloc (.cells #[.int .i64 a, .int .i64 b] 59)) _).mono (by simp))
theorem dP.keep {w w1 w2:World}{a b:Int}{r:aP} (h:dP w a b r w1) (hb:Below w1.heap.size w1 w2):dP w a b r w2:=
 ⟨h.s.keep hb,h.l.keep hb,h.b.trans (hb.mono h.b.size),aW h.z hb.size⟩
theorem Ka {w:World}{p:Addr}{u:Value}{g:Nat} (h:g≠p.block):(w.setCell p u).heap[g]?=w.heap[g]?:=dC w p u g h
theorem dP.set {w w1:World}{a b:Int}{r:aP} (h:dP w a b r w1) {X:Nat} (hX:w.heap.size+2<=X) (i:Nat) (u:Value):dP w a b r (w1.setCell ⟨X,i,none⟩ u):=
 ⟨(Ka (show w.heap.size≠X by omega)).trans h.s,(Ka (show w.heap.size+1≠X by omega)).trans h.l,h.b.setCell (p:=⟨X,i,none⟩) (by show w.heap.size<=X;omega) u,by have:=h.z;simpa [World.setCell] using this⟩
theorem dP.drew {w w1:World}{a b:Int}{r:aP} (h:dP w a b r w1):dP w a b r w1.drew:=⟨h.s,h.l,h.b.drew,h.z⟩
def dQ (w:World) (X:Nat) (r:aP):World:=
 (((((((((w.setCell ⟨X,0,none⟩ (.int .i64 r.kind)).setCell ⟨X,1,none⟩ (.int .i64 r.sf)).setCell ⟨X,2,none⟩ (.int .i64 r.st)).setCell ⟨X,3,none⟩ (.int .i64 r.ind)).setCell ⟨X,4,none⟩ (.int .i64 r.kf)).setCell ⟨X,5,none⟩ (.int .i64 r.kt)).setCell ⟨X,6,none⟩ (.int .i64 r.rf)).setCell ⟨X,7,none⟩ (.int .i64 r.rt)).setCell ⟨X,8,none⟩ (.int .i64 r.nf)).setCell ⟨X,9,none⟩ (.int .i64 r.nt)
theorem cB.put {w:World}{X:Nat}{r r2:aP} (h:cB w X r):cB (dQ w X r2) X r2:=by
 unfold cB at h ⊢;unfold dQ;simp[World.setCell,Array.getElem?_modify,h]
theorem Kb {w:World}{X g:Nat}{r:aP} (h:g≠X):(dQ w X r).heap[g]?=w.heap[g]?:=by
 have h2: ¬X=g:=λe=>h e.symm;unfold dQ;simp[World.setCell,Array.getElem?_modify,h2]
theorem Kc (w:World) (X:Nat) (r:aP):(dQ w X r).heap.size=w.heap.size:=by unfold dQ;simp[World.setCell]
theorem Wg (w:World) (X:Nat) (r:aP):(dQ w X r).os=w.os:=by unfold dQ;simp[World.setCell]
theorem Wi (w:World) (X:Nat) (r:aP):(dQ w X r).tape=w.tape:=by unfold dQ;simp[World.setCell]
theorem Wj (w:World) (X:Nat) (r:aP):(dQ w X r).output=w.output:=by unfold dQ;simp[World.setCell]
theorem dP.put {w w1:World}{a b:Int}{r r2:aP} (h:dP w a b r w1):dP w a b r2 (dQ w1 (w.heap.size+1) r2):=by
 refine⟨?_,cB.put h.l,⟨?_,?_,?_,?_,?_⟩,?_⟩
 ·have h1:=Kb (w:=w1) (X:=w.heap.size+1) (g:=w.heap.size) (r:=r2) (by omega);unfold sH;rw[h1];exact h.s
 ·rw[Wg];exact h.b.os
 ·rw[Wi];exact h.b.tape
 ·rw[Wj];exact h.b.output
 ·rw[Kc];exact h.b.size
 ·intro i hi;rw[Kb (by omega)];exact h.b.block i hi
 ·rw[Kc];exact h.z
theorem Wk (T:List UInt8):T=List.replicate (bQ T) 32++T.drop (bQ T):=by
 have h:T.take (bQ T)=List.replicate (bQ T) 32:=by
  apply List.ext_getElem?;intro i;by_cases hi:i<bQ T
  ·rw[List.getElem?_take,if_pos hi,vX T i hi,List.getElem?_replicate,if_pos hi]
  ·rw[List.getElem?_take,if_neg hi,List.getElem?_replicate,if_neg hi]
 rw[<-h,rO]
theorem Ci (n k:Nat) (U:List UInt8):(List.replicate n (32:UInt8)++U).drop (n+k)=U.drop k:=by
 rw[List.drop_append,List.length_replicate,List.drop_of_length_le (by rw[List.length_replicate];omega),iL];congr 1;omega
theorem Wl (U:List UInt8) (n f:Nat) (h35:U.head?≠some 35) (r:aP):
  qD (List.replicate n 32++U) (n+f) r=⟨r.kind,r.sf,r.st,r.ind,r.kf,r.kt,r.sf+(n+cL U f),r.sf+(n+(cL U f+fE ((U.take (dX U (cL U f+dY (U.drop (cL U f))))).drop (cL U f)))),
   if dX U (cL U f+dY (U.drop (cL U f)))<U.length then r.sf+(n+dX U (cL U f+dY (U.drop (cL U f)))) else r.nf,if dX U (cL U f+dY (U.drop (cL U f)))<U.length then r.st else r.nt⟩:=by
 have hb:cL (List.replicate n 32++U) (n+f)=n+cL U f:=by
  unfold cL;rw[Ci];omega
 unfold qD;rw[hb,Ci,show n+cL U f+dY (U.drop (cL U f))=n+(cL U f+dY (U.drop (cL U f))) by omega,Ux n _ U h35];unfold Cf;have hlen:(List.replicate n (32:UInt8)++U).length=n+U.length:=by rw[aS,List.length_replicate]
 obtain⟨tw,htw⟩:=exQ<|dX U (cL U f+dY (U.drop (cL U f)));obtain⟨f2,hf2⟩:=exQ<|cL U f;rw[htw,hf2,hlen];have htk:((List.replicate n (32:UInt8)++U).take (n+tw)).drop (n+f2)=(U.take tw).drop f2:=by
  rw[List.take_append,List.length_replicate,rZ (by rw[List.length_replicate];omega),show n+tw-n=tw by omega,Ci]
 rw[htk];by_cases ht:tw<U.length
 ·rw[if_pos ht,if_pos ht,if_pos (by omega),if_pos (by omega)];simp only[aP.mk.injEq,true_and,and_true];omega
 ·rw[if_neg ht,if_neg ht,if_neg (by omega),if_neg (by omega)];simp only[aP.mk.injEq,true_and,and_true];omega
theorem dP.only {w w1 w2:World}{a b:Int}{r:aP} (h:dP w a b r w1) {X:Nat} (hX:w.heap.size+2<=X) (ho:kO X w1 w2):dP w a b r w2:=
  ⟨(ho.block w.heap.size (aF h.s) (by intro e;injection e;omega)).trans h.s,(ho.block (w.heap.size+1) (aF h.l) (by intro e;injection e;omega)).trans h.l,
   ⟨ho.os.trans h.b.os,ho.tape.trans h.b.tape,ho.output.trans h.b.output,aW h.b.size ho.size,λi hi=>(ho.block i (iN hi h.b.size) (by intro e;injection e;omega)).trans (h.b.block i hi)⟩,aW h.z ho.size⟩
def yJ (x y:Int) (n:Nat) (o:Option sE):aP×Int×Int:=match o with | none=>(cT,x+n,2) | some c=>(oI x y n c,y,0)
theorem wG {x y:Int}{n:Nat}{c:sE}{r:aP} (h:oI x y n c=r):Ending.returned (.tuple #[fQ r, .int .i64 y, .int .i64 0])=rD (yJ x y n (some c)):=by unfold rD yJ;simp only[];rw[h]
theorem Cj (U T:List UInt8) (n:Nat) (x y:Int) (H:Nat×Nat) (h35:U.head?≠some 35) (hT:T=List.replicate n 32++U) (r:aP) (hr:r=⟨H.1,x,y,n,if H.1=4 then x+n else 0,if H.1=4 then x+n+H.2 else 0,x+n,x+n,0,0⟩):
  oI x y n (uA U H (cL U (gF H)) (dX U (cL U (gF H)+dY (U.drop (cL U (gF H))))))=qD T (n+gF H) r:=by
 rw[hT,Wl U n (gF H) h35 r,hr];unfold oI uA;obtain⟨tw,htw⟩:=exQ<|dX U (cL U (gF H)+dY (U.drop (cL U (gF H))));obtain⟨f2,hf2⟩:=exQ<|cL U (gF H);rw[htw,hf2];by_cases ht:tw<U.length
 ·simp only[if_pos ht,aP.mk.injEq,true_and,and_true];omega
 ·simp only[if_neg ht,aP.mk.injEq,true_and,and_true];omega
theorem Wm (l:List UInt8) (x y:Nat) (w:World) (hs:l.length<=1073741824) (hxy:x<=y) (hyl:y<=l.length) (T:List UInt8) (hTd:(l.drop x).take (y-x)=T) (h10:T.contains 10=false) (hV:cO w) (hT:cC w) (hM:lD w) (hw:lC true T=T.length):
  Calls Tryz.prog 106 #[.string (bs l), .agg #[.int .i64 x, .int .i64 y]] w λe w'=>e=rD (yJ x y (bQ T) (mS (T.drop (bQ T))))/\Below w.heap.size w w':=by
 have sl:=aR l;have hTl:T.length=y-x:=by rw[<-hTd,cF,aV];omega
 have CW:Hid (∀w,Calls Tryz.prog 148 #[.string (bs l), .agg #[.int .i64 x, .int .i64 y]] w λe w'=>e= .returned (.bool true)/\Below w.heap.size w w'):=hid (λw=>by
  have:=Ce l x y w hs;have e:oS l x y=true:=by
   unfold oS;rw[if_neg (by omega),fC,show ((y:Int)-(x:Int)).toNat=y-x by omega,hTd,h10];rfl
  rw[e] at this;exact this)
 have hex:(bs l).extract x y=bs T:=by rw[kV,aU,hTd]
 have CG:Hid (∀w,cC w->Calls Tryz.prog 149 #[.string (bs T)] w λe w'=>e= .returned (.tuple #[.int .i64 0, .bool false])/\Below w.heap.size w w'):=hid (λw hT=>by have:=Jc T w (by have:=hTl;omega) hT;rw[Jb hw] at this;exact this);obtain⟨n,hn⟩:=exQ<|bQ T;have hnl:=mR T;rw[hn] at hnl;have CL:Hid (∀w,Calls Tryz.prog 94 #[.string (bs T), .string ⟨#[32]⟩] w λe w'=>e= .returned (.string (bs (T.drop n)))/\w=w'):=hid (λw=>by rw[<-hn];exact Jz T w);have sU:=aR (T.drop n);rw[aV] at sU;have hsub:(T.length:Int)-((T.length-n:Nat):Int)=(n:Int):=by omega
 obtain⟨U,hU⟩:=exQ<|T.drop n;rw[hU] at CL sU;rw[hn,hU];have hUb:U.length<=1073741824:=by rw[<-aR U,sU];omega
 have sT:=aR T;have HTl:=hid hTl;have hTb:T.length<=1073741824:=by omega
 clear hTl;have HV:=hid hV;have HT:=hid hT;have HM:=hid hM;clear hV hT hM hw;have hxyi:(x:Int)<=(y:Int):=by omega
 have hyli:(y:Int)<=(l.length:Int):=by omega
 go_enter Tryz.func106,Tryz.ntmps106;go_wp2_with fail;have HL0:=hid (dP.start w x y);(with_reducible refine(CW.out _).mono ?_);rintro e w1 ⟨rfl,hb1⟩;have HL1:=hid (HL0.out.keep hb1);clear hb1;obtain⟨s0,s1⟩:=HL1.out.s.cells;go_wp2_with fail;have HT1:=hid (HT.out.keep HL1.out.b);(with_reducible refine(CG.out _ HT1.out).mono ?_);rintro e w2 ⟨rfl,hb2⟩;have HL2:=hid (HL1.out.keep hb2);clear hb2 s0 s1;obtain⟨s0,s1⟩:=HL2.out.s.cells;go_upto_region 8 with(go_at_call 94;refine(CL.out _).mono ?_;rintro e w' ⟨rfl,rfl⟩);go_cut [4,5,6,7,10,11] (λs4 s5 s6 s7 s10 s11 wx=> ∃X:Nat,s4= .pointer (some ⟨w.heap.size+1,0,none⟩)/\s5= .int .i64 0/\s6= .int .i64 0/\s7= .string (bs T)/\s10= .string (bs U)/\s11= .pointer (some ⟨X,0,none⟩)/\w.heap.size+2<=X/\Hid (dP w x y cT wx/\cB wx X ⟨1,x,y,n,0,0,0,0,0,0⟩))
 case first=>
  go_wp2_with fail;go_meet;exact⟨w2.heap.size,rfl,rfl,rfl,rfl,rfl,rfl,HL2.out.z,HL2.out.keep (aH _ _),heap_alloc_new w2 _⟩
 obtain⟨X,rfl,rfl,rfl,rfl,rfl,rfl,hX,HS⟩:=hcut;obtain⟨s0,s1⟩:=HS.out.1.s.cells;obtain⟨a0,a1,a2,a3,a4,a5,a6,a7,a8,a9,g0,g1,g2,g3,g4,g5,g6,g7,g8,g9⟩:=HS.out.2.cells;go_upto_region 10 with fail;go_cut [12] (λs12 wx=>s12= .int .i64 ((x:Int)+(n:Int))/\Hid (dP w x y cT wx/\cB wx X ⟨1,x,y,n,0,0,x+n,x+n,0,0⟩))
 case first=>
  go_wp2_with fail;go_meet;exact⟨rfl,(HS.out.1.set hX 6 _).set hX 7 _,jK (jK HS.out.2 6 _) 7 _⟩
 clear s0 s1 a0 a1 a2 a3 a4 a5 a6 a7 a8 a9 g0 g1 g2 g3 g4 g5 g6 g7 g8 g9;obtain⟨rfl,HS2⟩:=hcut;obtain⟨s0,s1⟩:=HS2.out.1.s.cells;obtain⟨a0,a1,a2,a3,a4,a5,a6,a7,a8,a9,g0,g1,g2,g3,g4,g5,g6,g7,g8,g9⟩:=HS2.out.2.cells;obtain⟨b0,b1,b2,b3,b4,b5,b6,b7,b8,b9,h0,h1,h2,h3,h4,h5,h6,h7,h8,h9⟩:=HS2.out.1.l.cells;by_cases hUe:U= []
 ·have he:(bs U).toList= []:=by rw[Lib.toList_data,aU,hUe]
  have he2:(bs U).toList.isEmpty=true:=by rw[he];rfl
  have HC:Hid (mS U=some ⟨1,0,0,0,none⟩):=hid (by rw[hUe];rfl);clear hU hUe;go_wp2_with fail;go_region;obtain⟨W,hW⟩:=exQ<|(dQ wc (w.heap.size+1) ⟨1,x,y,n,0,0,x+n,x+n,0,0⟩).drew;have HF:=(dP.put (r2:=⟨1,x,y,n,0,0,x+n,x+n,0,0⟩) HS2.out.1).drew;rw[hW] at HF;have HF2:=hid HF;clear HF;dsimp only[dQ] at hW;rw[hW];clear hW;clear s0 s1 a0 a1 a2 a3 a4 a5 a6 a7 a8 a9 g0 g1 g2 g3 g4 g5 g6 g7 g8 g9 b0 b1 b2 b3 b4 b5 b6 b7 b8 b9 h0 h1 h2 h3 h4 h5 h6 h7 h8 h9;obtain⟨c0,c1,c2,c3,c4,c5,c6,c7,c8,c9,_⟩:=HF2.out.l.cells;go_wp2_with fail;refine bodyPost_ret (v:= .tuple #[fQ ⟨1,x,y,n,0,0,x+n,x+n,0,0⟩, .int .i64 y, .int .i64 0]) ?_ rfl ⟨?_,HF2.out.b⟩
  ·simp[results,Tryz.results106,go_sem,fQ,cT,c0,c1,c2,c3,c4,c5,c6,c7,c8,c9]
  ·rw[HC.out];exact wG (by unfold oI;simp)
 ·have hu0:0<(bs U).size:=by rw[aR];exact tJ.2 hUe
  have hne:(bs U).toList.isEmpty=false:=by rw[Lib.toList_data,aU];cases U with | nil=>exact absurd rfl hUe | cons _ _=>rfl
  have hne2: ¬(bs U).toList= []:=by rw[Lib.toList_data,aU];exact hUe
  have T35:=nN U 35 35 rfl hu0;have T34:=nN U 34 34 rfl hu0;have T39:=nN U 39 39 rfl hu0;obtain⟨cc,hcc⟩: ∃cc:Int,(((bs U)[0]'hu0).toNat:Int)=cc:=⟨_,rfl⟩;rw[hcc] at T35 T34 T39;have hcore:mS U=if U.head?=some 35 then some ⟨2,0,0,0,some 0⟩ else if(U.head?=some 34\/U.head?=some 39)/\dY U=0 then none else some (uA U (iP U) (cL U (gF (iP U))) (dX U (cL U (gF (iP U))+dY (U.drop (cL U (gF (iP U))))))):=by unfold mS;rw[if_neg hUe]
  by_cases h35:U.head?=some 35
  ·rw[if_pos h35] at hcore;have HC:=hid hcore;have t35:(cc==35)=true:=by rw[T35,h35];rfl
   clear hcore T35 T34 T39 h35 hU hUe;go_upto_region 14 with fail;go_cut [] (λwx=>Hid (dP w x y cT wx/\cB wx X ⟨2,x,y,n,0,0,x+n,x+n,x+n,y⟩))
   case first=>
    go_region
    all_goals go_wp2_with fail
    all_goals go_meet
    all_goals first
     | exact⟨(((HS2.out.1.set hX 0 _).set hX 8 _).set hX 9 _).drew,jK (jK (jK HS2.out.2 0 _) 8 _) 9 _⟩
     | exact⟨(((HS2.out.1.set hX 8 _).set hX 9 _).set hX 0 _).drew,jK (jK (jK HS2.out.2 8 _) 9 _) 0 _⟩
   have HS3:=hcut;clear s0 s1 a0 a1 a2 a3 a4 a5 a6 a7 a8 a9 g0 g1 g2 g3 g4 g5 g6 g7 g8 g9 b0 b1 b2 b3 b4 b5 b6 b7 b8 b9 h0 h1 h2 h3 h4 h5 h6 h7 h8 h9;obtain⟨s0,s1⟩:=HS3.out.1.s.cells;obtain⟨a0,a1,a2,a3,a4,a5,a6,a7,a8,a9,g0,g1,g2,g3,g4,g5,g6,g7,g8,g9⟩:=HS3.out.2.cells;obtain⟨b0,b1,b2,b3,b4,b5,b6,b7,b8,b9,h0,h1,h2,h3,h4,h5,h6,h7,h8,h9⟩:=HS3.out.1.l.cells;go_wp2_with fail;go_region;obtain⟨W,hW⟩:=exQ<|(dQ wc (w.heap.size+1) ⟨2,x,y,n,0,0,x+n,x+n,x+n,y⟩).drew;have HF:=(dP.put (r2:=⟨2,x,y,n,0,0,x+n,x+n,x+n,y⟩) HS3.out.1).drew;rw[hW] at HF;have HF2:=hid HF;clear HF;dsimp only[dQ] at hW;rw[hW];clear hW;clear s0 s1 a0 a1 a2 a3 a4 a5 a6 a7 a8 a9 g0 g1 g2 g3 g4 g5 g6 g7 g8 g9 b0 b1 b2 b3 b4 b5 b6 b7 b8 b9 h0 h1 h2 h3 h4 h5 h6 h7 h8 h9;obtain⟨c0,c1,c2,c3,c4,c5,c6,c7,c8,c9,_⟩:=HF2.out.l.cells;go_wp2_with fail;refine bodyPost_ret (v:= .tuple #[fQ ⟨2,x,y,n,0,0,x+n,x+n,x+n,y⟩, .int .i64 y, .int .i64 0]) ?_ rfl ⟨?_,HF2.out.b⟩
   ·simp[results,Tryz.results106,go_sem,fQ,cT,c0,c1,c2,c3,c4,c5,c6,c7,c8,c9]
   ·rw[HC.out];exact wG (by unfold oI;simp)
  rw[if_neg h35] at hcore;rw[show (U.head?==some 35)=false from aG.2 h35] at T35;have CQ:=hid (λw hV hT=>Cd U w (by omega) hV hT);by_cases hbq:(U.head?=some 34\/U.head?=some 39)/\dY U=0
  ·rw[if_pos hbq] at hcore;have HC:=hid hcore;rw[hbq.2] at CQ;have TQ:((cc==34)||(cc==39))=true:=by
    rw[T34,T39];rcases hbq.1 with h | h<;>rw[h]<;>rfl
   clear hcore h35 hU hUe hbq;by_cases hc34:cc=34
   ·subst hc34;clear T34 T39 TQ T35;go_wp2_with fail;(with_reducible refine(CQ.out _ (HV.out.keep HS2.out.1.b) (HT.out.keep HS2.out.1.b)).mono ?_);rintro e w3 ⟨rfl,hb3⟩;have HS3:=hid (aI (HS2.out.1.keep hb3) (HS2.out.2.keep hb3));clear hb3;clear s0 s1 a0 a1 a2 a3 a4 a5 a6 a7 a8 a9 g0 g1 g2 g3 g4 g5 g6 g7 g8 g9 b0 b1 b2 b3 b4 b5 b6 b7 b8 b9 h0 h1 h2 h3 h4 h5 h6 h7 h8 h9;obtain⟨s0,s1⟩:=HS3.out.1.s.cells;obtain⟨a0,a1,a2,a3,a4,a5,a6,a7,a8,a9,g0,g1,g2,g3,g4,g5,g6,g7,g8,g9⟩:=HS3.out.2.cells;obtain⟨b0,b1,b2,b3,b4,b5,b6,b7,b8,b9,h0,h1,h2,h3,h4,h5,h6,h7,h8,h9⟩:=HS3.out.1.l.cells;go_wp2_with fail;obtain⟨W,hW⟩:=exQ (dQ w3 (w.heap.size+1) cT);have HF:=(dP.put (r2:=cT) HS3.out.1);rw[hW] at HF;have HF2:=hid HF;clear HF;dsimp only[dQ,cT] at hW;rw[hW];clear hW;clear s0 s1 a0 a1 a2 a3 a4 a5 a6 a7 a8 a9 g0 g1 g2 g3 g4 g5 g6 g7 g8 g9 b0 b1 b2 b3 b4 b5 b6 b7 b8 b9 h0 h1 h2 h3 h4 h5 h6 h7 h8 h9;obtain⟨c0,c1,c2,c3,c4,c5,c6,c7,c8,c9,_⟩:=HF2.out.l.cells;go_wp2_with fail;refine bodyPost_ret (v:= .tuple #[fQ cT, .int .i64 ((x:Int)+(n:Int)), .int .i64 2]) ?_ rfl ⟨?_,HF2.out.b⟩
    ·simp[results,Tryz.results106,go_sem,fQ,cT,c0,c1,c2,c3,c4,c5,c6,c7,c8,c9]
    ·rw[HC.out];rfl
   ·have t34:(cc==34)=false:=aG.2 hc34;have t39:(cc==39)=true:=by rw[t34] at TQ;simpa using TQ
    clear T34 T39 TQ hc34;go_wp2_with fail;(with_reducible refine(CQ.out _ (HV.out.keep HS2.out.1.b) (HT.out.keep HS2.out.1.b)).mono ?_);rintro e w3 ⟨rfl,hb3⟩;have HS3:=hid (aI (HS2.out.1.keep hb3) (HS2.out.2.keep hb3));clear hb3;clear s0 s1 a0 a1 a2 a3 a4 a5 a6 a7 a8 a9 g0 g1 g2 g3 g4 g5 g6 g7 g8 g9 b0 b1 b2 b3 b4 b5 b6 b7 b8 b9 h0 h1 h2 h3 h4 h5 h6 h7 h8 h9;obtain⟨s0,s1⟩:=HS3.out.1.s.cells;obtain⟨a0,a1,a2,a3,a4,a5,a6,a7,a8,a9,g0,g1,g2,g3,g4,g5,g6,g7,g8,g9⟩:=HS3.out.2.cells;obtain⟨b0,b1,b2,b3,b4,b5,b6,b7,b8,b9,h0,h1,h2,h3,h4,h5,h6,h7,h8,h9⟩:=HS3.out.1.l.cells;go_wp2_with fail;obtain⟨W,hW⟩:=exQ (dQ w3 (w.heap.size+1) cT);have HF:=(dP.put (r2:=cT) HS3.out.1);rw[hW] at HF;have HF2:=hid HF;clear HF;dsimp only[dQ,cT] at hW;rw[hW];clear hW;clear s0 s1 a0 a1 a2 a3 a4 a5 a6 a7 a8 a9 g0 g1 g2 g3 g4 g5 g6 g7 g8 g9 b0 b1 b2 b3 b4 b5 b6 b7 b8 b9 h0 h1 h2 h3 h4 h5 h6 h7 h8 h9;obtain⟨c0,c1,c2,c3,c4,c5,c6,c7,c8,c9,_⟩:=HF2.out.l.cells;go_wp2_with fail;refine bodyPost_ret (v:= .tuple #[fQ cT, .int .i64 ((x:Int)+(n:Int)), .int .i64 2]) ?_ rfl ⟨?_,HF2.out.b⟩
    ·simp[results,Tryz.results106,go_sem,fQ,cT,c0,c1,c2,c3,c4,c5,c6,c7,c8,c9]
    ·rw[HC.out];rfl
  ·rw [if_neg hbq] at hcore;have HC:=hid hcore;have hsp:=Iy U hbq;have CH:=hid (λw hV hT hM=>Vz U w hUe hUb hV hT hM);have HU35:=hid h35;have HTU:Hid (T=List.replicate n 32++U):=hid (by have:=Wk T;rw[hn,hU] at this;exact this);obtain⟨H,hH⟩:=exQ<|iP U;rw[hH] at HC hsp CH;obtain⟨q,hqq⟩:=exQ<|dY U;rw[hqq] at hbq CQ;clear hcore h35 hU hH hqq;go_upto_region 16 with fail;go_cut [75] (λs75 wx=>s75= .bool false/\Hid (dP w x y cT wx/\cB wx X ⟨1,x,y,n,0,0,x+n,x+n,0,0⟩))
   case first=>
    by_cases hc34:cc=34
    ·have hq0:((q:Int)==0)=false:=aG.2 (λe=>hbq ⟨.inl (by rw[hc34] at T34;exact beq_iff_eq.1 T34.symm),by omega⟩);subst hc34;clear hbq T34 T39 T35;go_wp2_with fail;(with_reducible refine(CQ.out _ (HV.out.keep HS2.out.1.b) (HT.out.keep HS2.out.1.b)).mono ?_);rintro e w3 ⟨rfl,hb3⟩;go_wp2_with fail;go_meet;exact⟨rfl,HS2.out.1.keep hb3,HS2.out.2.keep hb3⟩
    ·have t34:(cc==34)=false:=aG.2 hc34;by_cases hc39:cc=39
     ·have hq0:((q:Int)==0)=false:=aG.2 (λe=>hbq ⟨.inr (by rw[hc39] at T39;exact beq_iff_eq.1 T39.symm),by omega⟩);subst hc39;clear hbq T34 T39 T35;go_wp2_with fail;(with_reducible refine(CQ.out _ (HV.out.keep HS2.out.1.b) (HT.out.keep HS2.out.1.b)).mono ?_);rintro e w3 ⟨rfl,hb3⟩;go_wp2_with fail;go_meet;exact⟨rfl,HS2.out.1.keep hb3,HS2.out.2.keep hb3⟩
     ·have t39:(cc==39)=false:=aG.2 hc39;clear hbq T34 T39 T35;go_wp2_with fail;go_meet;exact⟨rfl,HS2.out⟩
   obtain⟨rfl,HS3⟩:=hcut;clear s0 s1 a0 a1 a2 a3 a4 a5 a6 a7 a8 a9 g0 g1 g2 g3 g4 g5 g6 g7 g8 g9 b0 b1 b2 b3 b4 b5 b6 b7 b8 b9 h0 h1 h2 h3 h4 h5 h6 h7 h8 h9;clear hbq T34 T39 T35 hcc;obtain⟨s0,s1⟩:=HS3.out.1.s.cells;obtain⟨a0,a1,a2,a3,a4,a5,a6,a7,a8,a9,g0,g1,g2,g3,g4,g5,g6,g7,g8,g9⟩:=HS3.out.2.cells;obtain⟨b0,b1,b2,b3,b4,b5,b6,b7,b8,b9,h0,h1,h2,h3,h4,h5,h6,h7,h8,h9⟩:=HS3.out.1.l.cells;go_wp2_with fail;(with_reducible refine(CH.out _ (HV.out.keep HS3.out.1.b) (HT.out.keep HS3.out.1.b) (HM.out.keep HS3.out.1.b)).mono ?_);unfold Jw;rintro e w4 ⟨rfl,hb4⟩;have HS4:=hid (aI (HS3.out.1.keep hb4) (HS3.out.2.keep hb4));clear hb4;clear s0 s1 a0 a1 a2 a3 a4 a5 a6 a7 a8 a9 g0 g1 g2 g3 g4 g5 g6 g7 g8 g9 b0 b1 b2 b3 b4 b5 b6 b7 b8 b9 h0 h1 h2 h3 h4 h5 h6 h7 h8 h9;obtain⟨s0,s1⟩:=HS4.out.1.s.cells;obtain⟨a0,a1,a2,a3,a4,a5,a6,a7,a8,a9,g0,g1,g2,g3,g4,g5,g6,g7,g8,g9⟩:=HS4.out.2.cells;obtain⟨b0,b1,b2,b3,b4,b5,b6,b7,b8,b9,h0,h1,h2,h3,h4,h5,h6,h7,h8,h9⟩:=HS4.out.1.l.cells;have hxb:(x:Int)<=1073741824:=(by omega);rcases hsp with⟨rfl,_⟩ | rfl | ⟨k,rfl,hk1,hk,hk3⟩
   ·obtain⟨R,hR⟩:=exQ<|qD T (n+1) ⟨3,x,y,n,0,0,x+n,x+n,0,0⟩;have CR:Hid (∀W,cB W X ⟨3,x,y,n,0,0,x+n,x+n,0,0⟩->cO W->cC W->lD W->Calls Tryz.prog 152 #[.pointer (some ⟨X,0,none⟩), .string (bs T), .int .i64 ((n:Int)+1)] W λe w'=>(∃v,e= .returned v)/\cB w' X R/\kO X W w'):=hid (λW h1 h2 h3 h4=>by have:=Ch T (n+1) X ⟨3,x,y,n,0,0,x+n,x+n,0,0⟩ W hTb (by have:=aR U;omega) h1 (by show (0:Int)<=(x:Int);omega) hxb h2 h3 h4;rw[hR] at this;rw[show ((n:Int)+1)=((n+1:Nat):Int) by omega];exact this);have HR:=hid hR;clear hR;go_wp2_with fail;have HS5:=hid (aI (HS4.out.1.set hX 0 (.int .i64 (3))) (show cB (w4.setCell ⟨X,0,none⟩ (.int .i64 (3))) X ⟨3,x,y,n,0,0,x+n,x+n,0,0⟩ from (jK HS4.out.2 0 (.int .i64 (3)))));clear s0 s1 a0 a1 a2 a3 a4 a5 a6 a7 a8 a9 g0 g1 g2 g3 g4 g5 g6 g7 g8 g9 b0 b1 b2 b3 b4 b5 b6 b7 b8 b9 h0 h1 h2 h3 h4 h5 h6 h7 h8 h9;refine(CR.out _ HS5.out.2 (HV.out.keep HS5.out.1.b) (HT.out.keep HS5.out.1.b) (HM.out.keep HS5.out.1.b)).mono ?_;rintro e w5 ⟨⟨v,rfl⟩,hL6,hO6⟩;have HS6:=hid (aI (HS5.out.1.only hX hO6) hL6);clear hL6 hO6;obtain⟨s0,s1⟩:=HS6.out.1.s.cells;obtain⟨a0,a1,a2,a3,a4,a5,a6,a7,a8,a9,g0,g1,g2,g3,g4,g5,g6,g7,g8,g9⟩:=HS6.out.2.cells;obtain⟨b0,b1,b2,b3,b4,b5,b6,b7,b8,b9,h0,h1,h2,h3,h4,h5,h6,h7,h8,h9⟩:=HS6.out.1.l.cells;go_wp2_with fail;go_region;obtain⟨W,hW⟩:=exQ<|(dQ w5 (w.heap.size+1) R).drew;have HF:=(dP.put (r2:=R) HS6.out.1).drew;rw[hW] at HF;have HF2:=hid HF;clear HF;dsimp only[dQ] at hW;rw[hW];clear hW;clear s0 s1 a0 a1 a2 a3 a4 a5 a6 a7 a8 a9 g0 g1 g2 g3 g4 g5 g6 g7 g8 g9 b0 b1 b2 b3 b4 b5 b6 b7 b8 b9 h0 h1 h2 h3 h4 h5 h6 h7 h8 h9;obtain⟨c0,c1,c2,c3,c4,c5,c6,c7,c8,c9,_⟩:=HF2.out.l.cells;go_wp2_with fail;refine bodyPost_ret (v:= .tuple #[fQ R, .int .i64 y, .int .i64 0]) ?_ rfl ⟨?_,HF2.out.b⟩
    ·simp[results,Tryz.results106,go_sem,fQ,cT,c0,c1,c2,c3,c4,c5,c6,c7,c8,c9]
    ·rw[HC.out];exact wG ((Cj U T n x y (3,0) HU35.out HTU.out ⟨3,x,y,n,0,0,x+n,x+n,0,0⟩ rfl).trans HR.out)
   ·obtain⟨R,hR⟩:=exQ<|qD T (n+0) ⟨5,x,y,n,0,0,x+n,x+n,0,0⟩;have CR:Hid (∀W,cB W X ⟨5,x,y,n,0,0,x+n,x+n,0,0⟩->cO W->cC W->lD W->Calls Tryz.prog 152 #[.pointer (some ⟨X,0,none⟩), .string (bs T), .int .i64 (n:Int)] W λe w'=>(∃v,e= .returned v)/\cB w' X R/\kO X W w'):=hid (λW h1 h2 h3 h4=>by have:=Ch T (n+0) X ⟨5,x,y,n,0,0,x+n,x+n,0,0⟩ W hTb (by have:=aR U;omega) h1 (by show (0:Int)<=(x:Int);omega) hxb h2 h3 h4;rw[hR] at this;rw[show (n:Int)=((n+0:Nat):Int) by omega];exact this);have HR:=hid hR;clear hR;go_wp2_with fail;have HS5:=hid (aI (HS4.out.1.set hX 0 (.int .i64 (5))) (show cB (w4.setCell ⟨X,0,none⟩ (.int .i64 (5))) X ⟨5,x,y,n,0,0,x+n,x+n,0,0⟩ from (jK HS4.out.2 0 (.int .i64 (5)))));clear s0 s1 a0 a1 a2 a3 a4 a5 a6 a7 a8 a9 g0 g1 g2 g3 g4 g5 g6 g7 g8 g9 b0 b1 b2 b3 b4 b5 b6 b7 b8 b9 h0 h1 h2 h3 h4 h5 h6 h7 h8 h9;refine(CR.out _ HS5.out.2 (HV.out.keep HS5.out.1.b) (HT.out.keep HS5.out.1.b) (HM.out.keep HS5.out.1.b)).mono ?_;rintro e w5 ⟨⟨v,rfl⟩,hL6,hO6⟩;have HS6:=hid (aI (HS5.out.1.only hX hO6) hL6);clear hL6 hO6;obtain⟨s0,s1⟩:=HS6.out.1.s.cells;obtain⟨a0,a1,a2,a3,a4,a5,a6,a7,a8,a9,g0,g1,g2,g3,g4,g5,g6,g7,g8,g9⟩:=HS6.out.2.cells;obtain⟨b0,b1,b2,b3,b4,b5,b6,b7,b8,b9,h0,h1,h2,h3,h4,h5,h6,h7,h8,h9⟩:=HS6.out.1.l.cells;go_wp2_with fail;go_region;obtain⟨W,hW⟩:=exQ<|(dQ w5 (w.heap.size+1) R).drew;have HF:=(dP.put (r2:=R) HS6.out.1).drew;rw[hW] at HF;have HF2:=hid HF;clear HF;dsimp only[dQ] at hW;rw[hW];clear hW;clear s0 s1 a0 a1 a2 a3 a4 a5 a6 a7 a8 a9 g0 g1 g2 g3 g4 g5 g6 g7 g8 g9 b0 b1 b2 b3 b4 b5 b6 b7 b8 b9 h0 h1 h2 h3 h4 h5 h6 h7 h8 h9;obtain⟨c0,c1,c2,c3,c4,c5,c6,c7,c8,c9,_⟩:=HF2.out.l.cells;go_wp2_with fail;refine bodyPost_ret (v:= .tuple #[fQ R, .int .i64 y, .int .i64 0]) ?_ rfl ⟨?_,HF2.out.b⟩
    ·simp[results,Tryz.results106,go_sem,fQ,cT,c0,c1,c2,c3,c4,c5,c6,c7,c8,c9]
    ·rw[HC.out];exact wG ((Cj U T n x y (5,0) HU35.out HTU.out ⟨5,x,y,n,0,0,x+n,x+n,0,0⟩ rfl).trans HR.out)
   ·obtain⟨R,hR⟩:=exQ<|qD T (n+(k+1)) ⟨4,x,y,n,x+n,x+n+k,x+n,x+n,0,0⟩;have CR:Hid (∀W,cB W X ⟨4,x,y,n,x+n,x+n+k,x+n,x+n,0,0⟩->cO W->cC W->lD W->Calls Tryz.prog 152 #[.pointer (some ⟨X,0,none⟩), .string (bs T), .int .i64 ((n:Int)+((k:Int)+1))] W λe w'=>(∃v,e= .returned v)/\cB w' X R/\kO X W w'):=hid (λW h1 h2 h3 h4=>by have:=Ch T (n+(k+1)) X ⟨4,x,y,n,x+n,x+n+k,x+n,x+n,0,0⟩ W hTb (by have:=aR U;omega) h1 (by show (0:Int)<=(x:Int);omega) hxb h2 h3 h4;rw[hR] at this;rw[show ((n:Int)+((k:Int)+1))=((n+(k+1):Nat):Int) by omega];exact this);have HR:=hid hR;clear hR;go_wp2_with fail;have HS5:=hid (aI (((HS4.out.1.set hX 0 (.int .i64 (4))).set hX 4 (.int .i64 ((x:Int)+(n:Int)))).set hX 5 (.int .i64 ((x:Int)+(n:Int)+(k:Int)))) (show cB (((w4.setCell ⟨X,0,none⟩ (.int .i64 (4))).setCell ⟨X,4,none⟩ (.int .i64 ((x:Int)+(n:Int)))).setCell ⟨X,5,none⟩ (.int .i64 ((x:Int)+(n:Int)+(k:Int)))) X ⟨4,x,y,n,x+n,x+n+k,x+n,x+n,0,0⟩ from (jK (jK (jK HS4.out.2 0 (.int .i64 (4))) 4 (.int .i64 ((x:Int)+(n:Int)))) 5 (.int .i64 ((x:Int)+(n:Int)+(k:Int))))));clear s0 s1 a0 a1 a2 a3 a4 a5 a6 a7 a8 a9 g0 g1 g2 g3 g4 g5 g6 g7 g8 g9 b0 b1 b2 b3 b4 b5 b6 b7 b8 b9 h0 h1 h2 h3 h4 h5 h6 h7 h8 h9;refine(CR.out _ HS5.out.2 (HV.out.keep HS5.out.1.b) (HT.out.keep HS5.out.1.b) (HM.out.keep HS5.out.1.b)).mono ?_;rintro e w5 ⟨⟨v,rfl⟩,hL6,hO6⟩;have HS6:=hid (aI (HS5.out.1.only hX hO6) hL6);clear hL6 hO6;obtain⟨s0,s1⟩:=HS6.out.1.s.cells;obtain⟨a0,a1,a2,a3,a4,a5,a6,a7,a8,a9,g0,g1,g2,g3,g4,g5,g6,g7,g8,g9⟩:=HS6.out.2.cells;obtain⟨b0,b1,b2,b3,b4,b5,b6,b7,b8,b9,h0,h1,h2,h3,h4,h5,h6,h7,h8,h9⟩:=HS6.out.1.l.cells;go_wp2_with fail;go_region;obtain⟨W,hW⟩:=exQ<|(dQ w5 (w.heap.size+1) R).drew;have HF:=(dP.put (r2:=R) HS6.out.1).drew;rw[hW] at HF;have HF2:=hid HF;clear HF;dsimp only[dQ] at hW;rw[hW];clear hW;clear s0 s1 a0 a1 a2 a3 a4 a5 a6 a7 a8 a9 g0 g1 g2 g3 g4 g5 g6 g7 g8 g9 b0 b1 b2 b3 b4 b5 b6 b7 b8 b9 h0 h1 h2 h3 h4 h5 h6 h7 h8 h9;obtain⟨c0,c1,c2,c3,c4,c5,c6,c7,c8,c9,_⟩:=HF2.out.l.cells;go_wp2_with fail;refine bodyPost_ret (v:= .tuple #[fQ R, .int .i64 y, .int .i64 0]) ?_ rfl ⟨?_,HF2.out.b⟩
    ·simp[results,Tryz.results106,go_sem,fQ,cT,c0,c1,c2,c3,c4,c5,c6,c7,c8,c9]
    ·rw[HC.out];exact wG ((Cj U T n x y (4,k) HU35.out HTU.out ⟨4,x,y,n,x+n,x+n+k,x+n,x+n,0,0⟩ rfl).trans HR.out)
theorem Kd (l:List UInt8) (a b:Int) (w:World) (hs:l.length<=1073741824) (h:oS l a b=false):
  Calls Tryz.prog 106 #[.string (bs l), .agg #[.int .i64 a, .int .i64 b]] w λe w'=>e=rD (cT,0,1)/\Below w.heap.size w w':=by
 have sl:=aR l;have CW:=hid (λw=>Ce l a b w hs);rw[h] at CW;clear h;go_enter Tryz.func106,Tryz.ntmps106;go_wp2_with fail;have HL0:=hid (dP.start w a b);(with_reducible refine(CW.out _).mono ?_);rintro e w1 ⟨rfl,hb1⟩;have HL1:=hid (HL0.out.keep hb1);clear hb1;obtain⟨s0,s1⟩:=HL1.out.s.cells;obtain⟨b0,b1,b2,b3,b4,b5,b6,b7,b8,b9,h0,h1,h2,h3,h4,h5,h6,h7,h8,h9⟩:=HL1.out.l.cells;go_wp2_with fail;have HF2:=hid (dP.put (r2:=cT) HL1.out);obtain⟨W,hW⟩:=exQ<|dQ w1 (w.heap.size+1) cT;rw[hW] at HF2;dsimp only[dQ,cT] at hW;rw[hW];clear hW s0 s1 b0 b1 b2 b3 b4 b5 b6 b7 b8 b9 h0 h1 h2 h3 h4 h5 h6 h7 h8 h9;obtain⟨c0,c1,c2,c3,c4,c5,c6,c7,c8,c9,_⟩:=HF2.out.l.cells;refine bodyPost_ret (v:= .tuple #[fQ cT, .int .i64 0, .int .i64 1]) ?_ rfl ⟨rfl,HF2.out.b⟩;simp[results,Tryz.results106,go_sem,fQ,cT,c0,c1,c2,c3,c4,c5,c6,c7,c8,c9]
theorem Wn (l:List UInt8) (x y:Nat) (w:World) (hs:l.length<=1073741824) (hxy:x<=y) (hyl:y<=l.length) (T:List UInt8) (hTd:(l.drop x).take (y-x)=T) (h10:T.contains 10=false) (hT:cC w) (k:Nat) (hw:lC true T=k) (hk:k<T.length):
  Calls Tryz.prog 106 #[.string (bs l), .agg #[.int .i64 x, .int .i64 y]] w λe w'=>e=rD (cT,(x:Int)+k,2)/\Below w.heap.size w w':=by
 have sl:=aR l;have hTl:T.length=y-x:=by rw[<-hTd,cF,aV];omega
 have CW:Hid (∀w,Calls Tryz.prog 148 #[.string (bs l), .agg #[.int .i64 x, .int .i64 y]] w λe w'=>e= .returned (.bool true)/\Below w.heap.size w w'):=hid (λw=>by
  have:=Ce l x y w hs;have e:oS l x y=true:=by
   unfold oS;rw[if_neg (by omega),fC,show ((y:Int)-(x:Int)).toNat=y-x by omega,hTd,h10];rfl
  rw[e] at this;exact this)
 have hex:(bs l).extract x y=bs T:=by rw[kV,aU,hTd]
 have CG:Hid (∀w,cC w->Calls Tryz.prog 149 #[.string (bs T)] w λe w'=>e= .returned (.tuple #[.int .i64 k, .bool true])/\Below w.heap.size w w'):=hid (λw hT=>by have:=Jc T w (by omega) hT;rw[yC hw hk] at this;exact this);have sT:=aR T;have HT:=hid hT;have hxk:IntKind.i64.wrap ((x:Int)+(k:Int))=(x:Int)+(k:Int):=by rw[IntKind.wrap_i64];omega
 have hkb:(x:Int)+(k:Int)<=1073741824:=by omega
 clear hT hw hTl;have hxyi:(x:Int)<=(y:Int):=by omega
 have hyli:(y:Int)<=(l.length:Int):=by omega
 go_enter Tryz.func106,Tryz.ntmps106;go_wp2_with fail;have HL0:=hid (dP.start w x y);(with_reducible refine(CW.out _).mono ?_);rintro e w1 ⟨rfl,hb1⟩;have HL1:=hid (HL0.out.keep hb1);clear hb1;obtain⟨s0,s1⟩:=HL1.out.s.cells;go_wp2_with fail;have HT1:=hid (HT.out.keep HL1.out.b);(with_reducible refine(CG.out _ HT1.out).mono ?_);rintro e w2 ⟨rfl,hb2⟩;have HL2:=hid (HL1.out.keep hb2);clear hb2 s0 s1;obtain⟨s0,s1⟩:=HL2.out.s.cells;obtain⟨b0,b1,b2,b3,b4,b5,b6,b7,b8,b9,h0,h1,h2,h3,h4,h5,h6,h7,h8,h9⟩:=HL2.out.l.cells;go_wp2_with fail;go_region;obtain⟨W,hW⟩:=exQ<|(dQ w2 (w.heap.size+1) cT).drew;have HF:=(dP.put (r2:=cT) HL2.out).drew;rw[hW] at HF;have HF2:=hid HF;clear HF;dsimp only[dQ,cT] at hW;rw[hW];clear hW s0 s1 b0 b1 b2 b3 b4 b5 b6 b7 b8 b9 h0 h1 h2 h3 h4 h5 h6 h7 h8 h9;obtain⟨c0,c1,c2,c3,c4,c5,c6,c7,c8,c9,_⟩:=HF2.out.l.cells;go_wp2_with fail;refine bodyPost_ret (v:= .tuple #[fQ cT, .int .i64 ((x:Int)+k), .int .i64 2]) ?_ rfl ⟨rfl,HF2.out.b⟩;simp[results,Tryz.results106,go_sem,fQ,cT,c0,c1,c2,c3,c4,c5,c6,c7,c8,c9]
theorem Wo (l:List UInt8) (a b:Int) (w:World) (hs:l.length<=1073741824) (hV:cO w) (hT:cC w) (hM:lD w):
  Calls Tryz.prog 106 #[.string (bs l), .agg #[.int .i64 a, .int .i64 b]] w λe w'=>e=rD (eL l a b)/\Below w.heap.size w w':=by
 obtain⟨R,hR⟩:=exQ<|eL l a b;rw[hR];unfold eL at hR;by_cases hout:a<0\/b<a\/(l.length:Int)<b
 ·rw[if_pos hout] at hR;subst hR;exact Kd l a b w hs (by unfold oS;rw[if_pos hout])
 rw[if_neg hout] at hR;obtain⟨x,rfl⟩: ∃x:Nat,a=x:=⟨a.toNat,by omega⟩;obtain⟨y,rfl⟩: ∃y:Nat,b=y:=⟨b.toNat,by omega⟩;simp only[fC,show ((y:Int)-(x:Int)).toNat=y-x by omega] at hR;obtain⟨T,hTd⟩:=exQ<|(l.drop x).take (y-x);rw[hTd] at hR;cases h10:T.contains 10 with
 | true=>
  rw[h10,if_pos rfl] at hR;subst hR;exact Kd l x y w hs (by unfold oS;rw[if_neg hout,fC,show ((y:Int)-(x:Int)).toNat=y-x by omega,hTd,h10];rfl)
 | false=>
  rw[h10,if_neg (by simp)] at hR;by_cases hk:lC true T<T.length
  ·rw[if_pos hk] at hR;subst hR;exact Wn l x y w hs (by omega) (by omega) T hTd h10 hT _ rfl hk
  ·rw[if_neg hk] at hR;have hw:lC true T=T.length:=by
    have:=(Is true T.length T 0).2;unfold lC at hk ⊢;omega
   have:=Wm l x y w hs (by omega) (by omega) T hTd h10 hV hT hM hw;have e:yJ x y (bQ T) (mS (T.drop (bQ T)))=R:=by rw[<-hR];rfl
   rw[e] at this;exact this
end Go.Proofs.YtaifnmjjpddikaaGreatDoor
