import Derived.Test.YtaifnmjjpddikaaGreatDoorRl11
import Derived.Test.YtaifnmjjpddikaaGreatDoorRl3
import Derived.Lib.IndexMore
import Derived.Deep.RegionHeld3
set_option maxRecDepth 100000
set_option maxHeartbeats 4000000
namespace Go.Proofs.YtaifnmjjpddikaaGreatDoor
set_option linter.unusedSimpArgs false
set_option linter.unusedVariables false
open Go.RowKit
open Go.Lib hiding intOf
theorem Kt (l:List UInt8):0<=(mU l 0).1/\(mU l 0).1<=l.length:=by
 unfold mU;rw[if_neg (by omega)];unfold bT;by_cases h1:0<=(0:Int)/\l[(0:Int).toNat]?=some 34
 ·rw[if_pos h1];have:=(Ar (l.length+1) (l.drop ((0:Int).toNat+1)) ((0:Int).toNat+1) []).1;rw[bB] at this;have a:=(aR.1 h1.2).1;simp only[Int.toNat_zero] at this a ⊢;omega
 ·rw[if_neg h1];simp
theorem Cu: ∀(f:Nat) (l:List UInt8) (i:Nat) (acc:List UInt8),(i:Int)<=(kW f l i acc).2.1/\(kW f l i acc).2.1<=i+l.length
 | 0,_,_,_=>by simp[kW];omega
 | _+1,[],_,_=>by simp[kW]
 | f+1,c::r,i,acc=>by
  rw[yQ];split
  ·split
   ·rename_i h;have:=Cu f (r.drop 1) (i+2) (acc++ [39]);rw[bB] at this;have h0:0<r.length:=(by cases r with | nil=>simp at h | cons _ _=>simp);simp only[aV];omega
   ·simp only[aV];omega
  ·split
   ·simp only[aV];omega
   ·have hle:=decodeL_le (c::r) (List.cons_ne_nil _ _);have:=Cu f ((c::r).drop (decodeL (c::r)).2) (i+(decodeL (c::r)).2) (acc++(c::r).take (decodeL (c::r)).2);rw[bB] at this;omega
theorem Ku (l:List UInt8):0<=(kD l 0).2.1/\(kD l 0).2.1<=l.length:=by
 unfold kD;rw[if_neg (by omega)];by_cases h1:l[(0:Int).toNat]?=some 39
 ·rw[if_pos h1];have:=Cu (l.length+1) (l.drop ((0:Int).toNat+1)) ((0:Int).toNat+1) [];rw[bB] at this;have a:=(aR.1 h1).1;simp only[Int.toNat_zero] at this a ⊢;omega
 ·rw[if_neg h1];simp
theorem Kv (l:List UInt8):eS l<=l.length:=by
 have h1:=Kt l;have h2:=Ku l;unfold eS
 repeat' split
 all_goals omega
theorem Cv (l:List UInt8) (w:World) (hs:l.length<=1073741824) (hV:cM w) (hT:bZ w):
  Calls Tryz.prog 150 #[.string (bs l)] w λe w'=>e= .returned (.int .i64 (eS l))/\Below w.heap.size w w':=by
 have sl:=aT l;obtain⟨R,a⟩:=exQ<|eS l;rw[a];unfold eS at a;have h:=hid hV;have d:=hid hT;clear hV hT;cases l with
 | nil=>
  simp at a;subst a;have he:(bs ([]:List UInt8)).toList= []:=by rw[Lib.toList_data,aZ]
  have he2:(bs ([]:List UInt8)).toList.isEmpty=true:=by rw[Lib.toList_data,aZ];rfl
  go_enter Tryz.func150,Tryz.ntmps150;go_wp2_with fail;go_ret;exact⟨rfl,aB _ _⟩
 | cons c r=>
  have f:0<(bs (c::r)).size:=by rw[aT];simp
  have hne:(bs (c::r)).toList.isEmpty=false:=by rw[Lib.toList_data,aZ];rfl
  have hne2: ¬(bs (c::r)).toList= []:=by rw[Lib.toList_data,aZ];simp
  have T34:=oO (c::r) 34 34 rfl f;have T39:=oO (c::r) 39 39 rfl f;rw[List.head?_cons] at T34 T39 a;have hlen:(c::r).length=r.length+1:=rfl;obtain⟨L,k⟩:=exQ<|c::r;have CE:=hid (λw hV hT=>Gn (c::r) 0 w hs hV hT);have CS:=hid (λw hT=>Kf (c::r) 0 w hs hT);have eb:=Kt (c::r);have sb:=Ku (c::r);obtain⟨E,g⟩:=exQ<|mU (c::r) 0;obtain⟨k1,e1⟩:=E;obtain⟨Q,i⟩:=exQ<|kD (c::r) 0;obtain⟨q1,k2,e2⟩:=Q;rw[g] at CE eb a;rw[i] at CS sb a;unfold lZ at CS;simp only[] at CE CS eb sb a;obtain⟨x,j⟩: ∃x:Int,(((bs (c::r))[0]'f).toNat:Int)=x:=⟨_,rfl⟩;rw[j] at T34 T39;clear g i k;by_cases g1:c=34
  ·rw[if_pos (by rw[g1])] at a;rw[show (some c==some 34)=true from by rw[g1];rfl] at T34;clear T39 g1;by_cases ge:e1=0
   ·rw[if_pos ge] at a;obtain⟨n,rfl⟩: ∃n:Nat,k1=n:=⟨k1.toNat,by omega⟩;rw[fT] at a;subst a ge;go_enter Tryz.func150,Tryz.ntmps150;go_wp2_with fail;(with_reducible refine(CE.out _ h.out d.out).mono ?_);rintro e w1 ⟨rfl,b⟩;go_wp2_with fail;go_ret;exact⟨rfl,b⟩
   ·rw[if_neg ge] at a;subst a;have te:(e1 !=0)=true:=gD.2 ge;clear ge;go_enter Tryz.func150,Tryz.ntmps150;go_wp2_with fail;(with_reducible refine(CE.out _ h.out d.out).mono ?_);rintro e w1 ⟨rfl,b⟩;go_wp2_with fail;go_ret;exact⟨rfl,b⟩
  rw[if_neg (by simpa using g1)] at a;rw[show (some c==some 34)=false from by rw[aK];simpa using g1] at T34;by_cases g2:c=39
  ·rw[if_pos (by rw[g2])] at a;rw[show (some c==some 39)=true from by rw[g2];rfl] at T39;clear g1 g2;by_cases ge:e2=0
   ·rw[if_pos ge] at a;obtain⟨n,rfl⟩: ∃n:Nat,k2=n:=⟨k2.toNat,by omega⟩;rw[fT] at a;subst a ge;go_enter Tryz.func150,Tryz.ntmps150;go_wp2_with fail;(with_reducible refine(CS.out _ d.out).mono ?_);rintro e w1 ⟨rfl,b⟩;go_wp2_with fail;go_ret;exact⟨rfl,b⟩
   ·rw[if_neg ge] at a;subst a;have te:(e2 !=0)=true:=gD.2 ge;clear ge;go_enter Tryz.func150,Tryz.ntmps150;go_wp2_with fail;(with_reducible refine(CS.out _ d.out).mono ?_);rintro e w1 ⟨rfl,b⟩;go_wp2_with fail;go_ret;exact⟨rfl,b⟩
  ·rw[if_neg (by simpa using g2)] at a;rw[show (some c==some 39)=false from by rw[aK];simpa using g2] at T39;subst a;clear g1 g2;go_enter Tryz.func150,Tryz.ntmps150;go_wp2_with fail;go_ret;exact⟨rfl,aB _ _⟩
theorem Xc (s:List UInt8) (j:Nat):Lib.occAt s [32,35] j=true↔s[j]?=some 32/\s[j+1]?=some 35:=by
 unfold Lib.occAt;have c:s[j]?=(s.drop j)[0]?:=by rw[mP,Nat.add_zero]
 have d:s[j+1]?=(s.drop j)[1]?:=by rw[mP]
 rw[c,d]
 match s.drop j with
 | []=>simp[List.isPrefixOf]
 | [a]=>simp[List.isPrefixOf]
 | a::b::r=>
  simp[List.isPrefixOf];constructor
  ·rintro⟨rfl,rfl⟩;exact⟨rfl,rfl⟩
  ·rintro⟨rfl,rfl⟩;exact⟨rfl,rfl⟩
theorem Xd (l:List UInt8) (a m:Nat) (ha:a<=l.length) (hm:m+1=max a 1) (hl:m<=l.length):
  (Lib.index (l.drop m) [32,35]= -1->eO l a=l.length)/\(∀i:Nat,Lib.index (l.drop m) [32,35]=i->eO l a=m+i+1/\m+i+1<=l.length):=by
 have c: ∀j,Lib.occAt (l.drop m) [32,35] j=true↔l[m+j]?=some 32/\l[m+j+1]?=some 35:=λj=>by
  rw[Xc,mP,mP];rfl
 have b: ∀i,(∀j,j<i->Lib.occAt (l.drop m) [32,35] j=false)-> ∀j,max a 1<=j->j<m+i+1-> ¬(l[j]?=some 35/\l[j-1]?=some 32):=by
  rintro i h j d k ⟨e1,e2⟩;have:=h (j-1-m) (by omega);have e:=(c (j-1-m)).2 ⟨by rw[show m+(j-1-m)=j-1 by omega];exact e2,by rw[show m+(j-1-m)+1=j by omega];exact e1⟩;rw[this] at e;cases e
 rcases Lib.index_spec (l.drop m) [32,35] with⟨d,k⟩ | ⟨i,d,k,e,o⟩
 ·refine⟨λ_=>Ck l a l.length (aE _) (λh=>absurd h (Nat.lt_irrefl _)) (λj g1 g2=>?_),λi f=>by rw[d] at f;omega⟩;refine b (l.length-m) (λj n=>k j (by rw[bB];omega)) j g1 (by omega)
 ·refine⟨λh=>by rw[d] at h;omega,λi' f=>?_⟩;obtain rfl:i=i':=by rw[d] at f;omega
  have g:=(c i).1 e;have hlt:=(aR.1 g.2).1;refine⟨Ck l a (m+i+1) (by omega) (λ_=>⟨by omega,g.2,by rw[Nat.add_sub_cancel];exact g.1⟩) (b i (λj n=>?_)),by omega⟩;exact o j n
theorem Kw (l:List UInt8) (a:Nat) (w:World) (hs:l.length<=1073741824) (ha:a<=l.length) (hM:lL w):
  Calls Tryz.prog 181 #[.string (bs l), .int .i64 a] w λe w'=>e= .returned (.int .i64 (eO l a))/\w=w':=by
 have sl:=aT l;obtain⟨M,hM⟩:=hM;obtain⟨m,f⟩: ∃m,m+1=max a 1:=⟨max a 1-1,by omega⟩;have k:m<=l.length:=by omega
 have c:=Xd l a m ha f k;obtain⟨X,g⟩:=exQ<|Lib.index (l.drop m) [32,35];have j:=Lib.index_ge (l.drop m) [32,35];have CI:Hid (Calls Tryz.prog 169 #[.string ((bs l).extract m l.length), .string ⟨#[32,35]⟩] w λe w'=>e= .returned (.int .i64 X)/\w=w'):=hid (by have h:=Tryz.strings_Index ((bs l).extract m l.length) ⟨#[32,35]⟩ M w (by rw[lX _ _ _ rfl,aT,bB];omega) hM;rw[lX _ _ _ rfl,aZ,show (⟨#[32,35]⟩:ByteArray).data.toList= [32,35] from rfl,g] at h;rw[lX _ _ _ rfl];exact h.mono λ_ _ ⟨a,b⟩=>⟨a,b.symm⟩);rw[g] at c j;obtain⟨N,n⟩:=exQ<|eO l a;rw[n] at c ⊢;have hmax:max ((a:Int)-1) 0=(m:Int):=by omega
 clear g n hM;have ha0:(a:Int)<=(l.length:Int):=by omega
 have hm0:(0:Int)<=(m:Int):=by omega
 have hm1:(m:Int)<=(l.length:Int):=by omega
 have HM:=hid f;clear f;by_cases hx:X<0
 ·have d:=hid (c.1 (by omega));clear c;go_enter Tryz.func181,Tryz.ntmps181;go_wp2_with (go_at_call 169;refine CI.out.mono ?_;rintro e w' ⟨rfl,rfl⟩);go_ret;exact⟨tT (by rw[d.out]),rfl⟩
 ·obtain⟨i,rfl⟩: ∃i:Nat,X=i:=⟨X.toNat,by omega⟩;obtain⟨n1,n2⟩:=c.2 i rfl;have d:=hid n1;have dx:decide ((i:Int)<0)=false:=aH (by omega);clear c hx n1;go_enter Tryz.func181,Tryz.ntmps181;go_wp2_with (go_at_call 169;refine CI.out.mono ?_;rintro e w' ⟨rfl,rfl⟩);go_ret;exact⟨tT (by rw[d.out];omega),rfl⟩
theorem Kx (l:List UInt8) (k:Nat) (h:k<l.length) (h2:k<(bs l).size):(bs l)[k]'h2=l[k]'h:=by
 have:=rB l k h2;rw[bE h] at this;exact(bD this).symm
theorem Xe (l:List UInt8) (k:Nat) (c:UInt8) (w:World) (hs:l.length<=1073741824) (hk:k<=1073741824):
  Calls Tryz.prog 180 #[.string (bs l), .int .i64 k, .int .u8 (c.toNat:Int)] w λe w'=>e= .returned (.bool (lK l k c))/\w=w':=by
 have sl:=aT l;obtain⟨R,a⟩:=exQ<|lK l k c;rw[a];unfold lK at a;by_cases hlt:k<l.length
 ·have b:k<(bs l).size:=by omega
  have p:=Kx l k hlt b;have T1:=Am ((bs l)[k]'b) c _ rfl;rw[bE hlt,<-p] at a;have d1:decide (k<l.length)=true:=aM hlt;obtain⟨n,o⟩: ∃n:Int,(c.toNat:Int)=n:=⟨_,rfl⟩;rw[o] at T1 ⊢;obtain⟨x,i⟩:=exQ<|(bs l)[k]'b;rw[i] at T1 a;have r:(((bs l)[k]'b).toNat:Int)=(x.toNat:Int):=by rw[i]
  obtain⟨y,m⟩: ∃y:Int,(x.toNat:Int)=y:=⟨_,rfl⟩;rw[m] at T1 r;by_cases he:x=c
  ·rw[show (x==c)=true from beq_iff_eq.2 he] at T1;rw[show (some x==some c)=true from by rw[he];exact beq_self_eq_true _,Bool.true_and] at a;by_cases hl1:k+1=l.length
   ·have t2:((k:Int)+1==(l.length:Int))=true:=beq_iff_eq.2 (by omega);rw[List.getElem?_eq_none (by omega)] at a;have f:R=true:=by rw[<-a];rfl
    subst f;clear a p he i m o hl1;go_enter Tryz.func180,Tryz.ntmps180;go_wp2_with fail;go_ret;exact⟨rfl,rfl⟩
   ·have t2:((k:Int)+1==(l.length:Int))=false:=aK.2 (by omega);have g:k+1<l.length:=(by omega);have d:k+1<(bs l).size:=(by omega);have j:=Kx l (k+1) g d;have T2:=Am ((bs l)[k+1]'d) 32 32 rfl;rw[bE g,<-j] at a;have f:((bs l)[k+1]'d==32)=R:=by rw[<-a];simp
    rw[f] at T2;clear a p j he i m o hl1 f;go_enter Tryz.func180,Tryz.ntmps180;go_wp2_with fail;go_ret;exact⟨rfl,rfl⟩
  ·rw[show (x==c)=false from aK.2 he] at T1;rw[show (some x==some c)=false from aK.2 (λh=>he (bD h)),Bool.false_and] at a;subst a;clear p he i m o;go_enter Tryz.func180,Tryz.ntmps180;go_wp2_with fail;go_ret;exact⟨rfl,rfl⟩
 ·have d1:decide (k<l.length)=false:=aH hlt;rw[List.getElem?_eq_none (by omega)] at a;have q:R=false:=by rw[<-a];rfl
  subst q;clear a;go_enter Tryz.func180,Tryz.ntmps180;go_wp2_with fail;go_ret;exact⟨rfl,rfl⟩
def Ky (h:Nat×Nat):Ending:= .returned (.tuple #[.int .i64 h.1, .int .i64 h.2])
theorem uX (l:List UInt8) (k:Nat) (c:UInt8) (ki ci:Int) (B:Bool) (hki:(k:Int)=ki) (hci:(c.toNat:Int)=ci) (hB:lK l k c=B) (hs:l.length<=1073741824) (hk:k<=1073741824) (w:World):
  Calls Tryz.prog 180 #[.string (bs l), .int .i64 ki, .int .u8 ci] w λe w'=>e= .returned (.bool B)/\w=w':=by
 subst hki hci hB;exact Xe l k c w hs hk
theorem Kz (t:List UInt8) (c f k:Nat):rN t c (f+1) k=if c<=k then(5,0) else if lK t k 58 then(4,k) else rN t c f (k+1):=rfl
theorem Xf (l:List UInt8) (w:World) (hne:l≠ []) (hs:l.length<=1073741824) (hV:cM w) (hT:bZ w) (hM:lL w):
  Calls Tryz.prog 151 #[.string (bs l)] w λe w'=>e=Ky (jL l)/\Below w.heap.size w w':=by
 have sl:=aT l;obtain⟨R,b⟩:=exQ<|jL l;rw[b];unfold jL at b;have j:0<(bs l).size:=by rw[aT];exact sE.2 hne
 have hl0:0<l.length:=by omega
 have T34:=oO l 34 34 rfl j;have T39:=oO l 39 39 rfl j;have T91:=oO l 91 91 rfl j;have T123:=oO l 123 123 rfl j;obtain⟨x,z⟩: ∃x:Int,(((bs l)[0]'j).toNat:Int)=x:=⟨_,rfl⟩;rw[z] at T34 T39 T91 T123;have o:=hid hV;have n:=hid hT;have u:=hid hM;clear hV hT hM hne;cases hb0:lK l 0 45 with
 | true=>
  have CS:=hid (λw=>uX l 0 45 0 45 true rfl rfl hb0 hs (by omega) w);rw[if_pos hb0] at b;subst b;clear hb0 T34 T39 T91 T123;go_enter Tryz.func151,Tryz.ntmps151;go_wp2_with (go_at_call 180;refine(CS.out _).mono ?_;rintro e w' ⟨rfl,rfl⟩);go_ret2;exact⟨rfl,aB _ _⟩
 | false=>
  have CS:=hid (λw=>uX l 0 45 0 45 false rfl rfl hb0 hs (by omega) w);rw[if_neg (by rw[hb0];simp)] at b;clear hb0;by_cases hq:l.head?=some 34\/l.head?=some 39
  ·rw[if_pos hq] at b;have CQ:=hid (λw hV hT=>Cv l w hs hV hT);obtain⟨q,i⟩:=exQ<|eS l;have r:=Kv l;rw[i] at CQ b r;clear T91 T123;have TQ:((x==34)||(x==39))=true:=by
    rw[T34,T39];rcases hq with h | h<;>rw[h]<;>rfl
   cases a:lK l q 58 with
   | true=>
    have CS2:=hid (λw=>uX l q 58 q 58 true rfl rfl a hs (by omega) w);rw[if_pos a] at b;subst b;clear a i;by_cases hx34:x=34
    ·subst hx34;clear T34 T39 hq TQ;go_enter Tryz.func151,Tryz.ntmps151;go_wp2_with (go_at_call 180;refine(CS.out _).mono ?_;rintro e w' ⟨rfl,rfl⟩);(with_reducible refine(CQ.out _ o.out n.out).mono ?_);rintro e w1 ⟨rfl,a⟩;have c:=hid a;clear a;go_wp2_with (go_at_call 180;refine(CS2.out _).mono ?_;rintro e w' ⟨rfl,rfl⟩);go_ret2;exact⟨rfl,c.out⟩
    ·have t34:(x==34)=false:=aK.2 hx34;have t39:(x==39)=true:=by rw[t34] at TQ;simpa using TQ
     clear T34 T39 hq TQ hx34;go_enter Tryz.func151,Tryz.ntmps151;go_wp2_with (go_at_call 180;refine(CS.out _).mono ?_;rintro e w' ⟨rfl,rfl⟩);(with_reducible refine(CQ.out _ o.out n.out).mono ?_);rintro e w1 ⟨rfl,a⟩;have c:=hid a;clear a;go_wp2_with (go_at_call 180;refine(CS2.out _).mono ?_;rintro e w' ⟨rfl,rfl⟩);go_ret2;exact⟨rfl,c.out⟩
   | false=>
    have CS2:=hid (λw=>uX l q 58 q 58 false rfl rfl a hs (by omega) w);rw[if_neg (by rw[a];simp)] at b;subst b;clear a i;by_cases hx34:x=34
    ·subst hx34;clear T34 T39 hq TQ;go_enter Tryz.func151,Tryz.ntmps151;go_wp2_with (go_at_call 180;refine(CS.out _).mono ?_;rintro e w' ⟨rfl,rfl⟩);(with_reducible refine(CQ.out _ o.out n.out).mono ?_);rintro e w1 ⟨rfl,a⟩;have c:=hid a;clear a;go_wp2_with (go_at_call 180;refine(CS2.out _).mono ?_;rintro e w' ⟨rfl,rfl⟩);go_ret2;exact⟨rfl,c.out⟩
    ·have t34:(x==34)=false:=aK.2 hx34;have t39:(x==39)=true:=by rw[t34] at TQ;simpa using TQ
     clear T34 T39 hq TQ hx34;go_enter Tryz.func151,Tryz.ntmps151;go_wp2_with (go_at_call 180;refine(CS.out _).mono ?_;rintro e w' ⟨rfl,rfl⟩);(with_reducible refine(CQ.out _ o.out n.out).mono ?_);rintro e w1 ⟨rfl,a⟩;have c:=hid a;clear a;go_wp2_with (go_at_call 180;refine(CS2.out _).mono ?_;rintro e w' ⟨rfl,rfl⟩);go_ret2;exact⟨rfl,c.out⟩
  ·rw [if_neg hq] at b;rw[show (l.head?==some 34)=false from aK.2 (λh=>hq (.inl h))] at T34;rw[show (l.head?==some 39)=false from aK.2 (λh=>hq (.inr h))] at T39;by_cases hbr:l.head?=some 91\/l.head?=some 123
   ·rw[if_pos hbr] at b;subst b;by_cases hx91:x=91
    ·subst hx91;clear T34 T39 T91 T123 hq hbr;go_enter Tryz.func151,Tryz.ntmps151;go_wp2_with (go_at_call 180;refine(CS.out _).mono ?_;rintro e w' ⟨rfl,rfl⟩);go_ret2;exact⟨rfl,aB _ _⟩
    ·have t91:(x==91)=false:=aK.2 hx91;have t123:(x==123)=true:=by
      rw[T123];rcases hbr with h | h
      ·rw[t91,h] at T91;cases T91
      ·rw[h];rfl
     clear T91 T123 hq hbr hx91;go_enter Tryz.func151,Tryz.ntmps151;go_wp2_with (go_at_call 180;refine(CS.out _).mono ?_;rintro e w' ⟨rfl,rfl⟩);go_ret2;exact⟨rfl,aB _ _⟩
   ·rw [if_neg hbr] at b;rw[show (l.head?==some 91)=false from aK.2 (λh=>hbr (.inl h))] at T91;rw[show (l.head?==some 123)=false from aK.2 (λh=>hbr (.inr h))] at T123;have CN:=hid (λw hM=>Kw l 0 w hs (by omega) hM);obtain⟨N,v⟩:=exQ<|eO l 0;have t:=(wO l 0).1;rw[v] at CN b t;have y:=hid b;clear hq hbr b v;go_enter Tryz.func151,Tryz.ntmps151;go_wp2_with (go_at_call 180;refine(CS.out _).mono ?_;rintro e w' ⟨rfl,rfl⟩);go_loop [6] (λs6=> ∃k f:Nat,s6= .int .i64 k/\1<=k/\k<=l.length+1/\l.length<k+f/\Hid (rN l N f k=R)) (λs6=>l.length+1-(RowKit.intOf s6).toNat)
    case atStart=>exact⟨1,l.length,rfl,by omega,by omega,by omega,y.out⟩
    case round=>
     obtain⟨k,f,rfl,hk1,hk2,hf,m⟩:=hrel;by_cases hkN:N<=k
     ·have s:Hid (R=(5,0)):=by
       have d:=m.out;cases f with
       | zero=>exact hid d.symm
       | succ f=>rw[Kz,if_pos hkN] at d;exact hid d.symm
      have dk:decide (k<N)=false:=aH (by omega);go_wp2_with (go_at_call 181;refine(CN.out _ u.out).mono ?_;rintro e w' ⟨rfl,rfl⟩);go_ret2;exact⟨by rw[s.out];rfl,aB _ _⟩
     ·have dk:decide (k<N)=true:=aM (by omega);obtain⟨g,rfl⟩: ∃g,f=g+1:=⟨f-1,by omega⟩;have d:=m.out;rw[Kz,if_neg hkN] at d;cases a:lK l k 58 with
      | true=>
       have CS2:=hid (λw=>uX l k 58 k 58 true rfl rfl a hs (by omega) w);rw[if_pos a] at d;have s:=hid d;clear d a m;go_wp2_with (first | (go_at_call 181;refine(CN.out _ u.out).mono ?_;rintro e w' ⟨rfl,rfl⟩) | (go_at_call 180;(with_reducible refine(CS2.out _).mono ?_);rintro e w' ⟨rfl,rfl⟩));go_ret2;exact⟨by rw[<-s.out];rfl,aB _ _⟩
      | false=>
       have CS2:=hid (λw=>uX l k 58 k 58 false rfl rfl a hs (by omega) w);rw[if_neg (by rw[a];simp)] at d;have p:=hid d;clear d a m;go_wp2_with (first | (go_at_call 181;refine(CN.out _ u.out).mono ?_;rintro e w' ⟨rfl,rfl⟩) | (go_at_call 180;(with_reducible refine(CS2.out _).mono ?_);rintro e w' ⟨rfl,rfl⟩));go_round
       case rel=>exact⟨k+1,g,by go_num,by omega,by omega,by omega,p.out⟩
       case measure=>simp[RowKit.intOf];omega
theorem nB {w:World}{g:Nat}{t:TypeId}{cs:Array Value} (h:w.heap[g]?=some (.cells cs t (0,0))) (i:Nat):w.cell? ⟨g,i,none⟩=cs[i]?:=cell_of_row w g i cs t (0,0) h
theorem pM {w:World}{g:Nat}{t:TypeId}{cs:Array Value} (h:w.heap[g]?=some (.cells cs t (0,0))) (i:Nat):w.frozen? ⟨g,i,none⟩=false:=by
 simp[World.frozen?,h]
theorem jP {w:World}{g:Nat}{t:TypeId}{cs:Array Value} (h:w.heap[g]?=some (.cells cs t (0,0))) (i:Nat) (u:Value):(w.setCell ⟨g,i,none⟩ u).heap[g]?=some (.cells (cs.setIfInBounds i u) t (0,0)):=by
 simp[World.setCell,Array.getElem?_modify,h]
def bY (w:World) (X:Nat) (r:aP):Prop:=w.heap[X]?=some (.cells #[.int .i64 r.kind, .int .i64 r.sf, .int .i64 r.st, .int .i64 r.ind, .int .i64 r.kf, .int .i64 r.kt, .int .i64 r.rf, .int .i64 r.rt, .int .i64 r.nf, .int .i64 r.nt] 121 (0,0))
abbrev Xg (w:World) (X:Nat) (r:aP):Prop:=
 w.cell? ⟨X,0,none⟩=some (.int .i64 r.kind)/\w.cell? ⟨X,1,none⟩=some (.int .i64 r.sf)/\w.cell? ⟨X,2,none⟩=some (.int .i64 r.st)/\w.cell? ⟨X,3,none⟩=some (.int .i64 r.ind)/\
 w.cell? ⟨X,4,none⟩=some (.int .i64 r.kf)/\w.cell? ⟨X,5,none⟩=some (.int .i64 r.kt)/\w.cell? ⟨X,6,none⟩=some (.int .i64 r.rf)/\w.cell? ⟨X,7,none⟩=some (.int .i64 r.rt)/\
 w.cell? ⟨X,8,none⟩=some (.int .i64 r.nf)/\w.cell? ⟨X,9,none⟩=some (.int .i64 r.nt)/\
 w.frozen? ⟨X,0,none⟩=false/\w.frozen? ⟨X,1,none⟩=false/\w.frozen? ⟨X,2,none⟩=false/\w.frozen? ⟨X,3,none⟩=false/\w.frozen? ⟨X,4,none⟩=false/\
 w.frozen? ⟨X,5,none⟩=false/\w.frozen? ⟨X,6,none⟩=false/\w.frozen? ⟨X,7,none⟩=false/\w.frozen? ⟨X,8,none⟩=false/\w.frozen? ⟨X,9,none⟩=false
theorem bY.cells {w:World}{X:Nat}{r:aP} (h:bY w X r):Xg w X r:=
  ⟨nB h 0,nB h 1,nB h 2,nB h 3,nB h 4,nB h 5,nB h 6,nB h 7,nB h 8,nB h 9,
   pM h 0,pM h 1,pM h 2,pM h 3,pM h 4,pM h 5,pM h 6,pM h 7,pM h 8,pM h 9⟩
theorem bY.lt {w:World}{X:Nat}{r:aP} (h:bY w X r):X<w.heap.size:=aF h
theorem bY.keep {w w':World}{X:Nat}{r:aP} (h:bY w X r) (hb:Below w.heap.size w w'):bY w' X r:=(hb.block X h.lt).trans h
theorem bY.drew {w:World}{X:Nat}{r:aP} (h:bY w X r):bY w.drew X r:=h
def lA (X:Nat) (a b:World):Prop:=a.grownBy b (some X)
theorem lA.of_below {X:Nat}{a b:World} (h:Below a.heap.size a b):lA X a b:=⟨h.os,h.tape,h.output,h.size,λi c _=>h.block i c⟩
theorem lA.set {X:Nat}{a b:World} (h:lA X a b) (i:Nat) (u:Value):lA X a (b.setCell ⟨X,i,none⟩ u):=
 ⟨h.os,h.tape,h.output,by have:=h.size;simpa [World.setCell] using this,λj d c=>(cP b ⟨X,i,none⟩ u j (by rintro rfl;exact c rfl)).trans (h.block j d c)⟩
theorem lA.drew {X:Nat}{a b:World} (h:lA X a b):lA X a b.drew:=⟨h.os,h.tape,h.output,h.size,h.block⟩
def pN (l:List UInt8) (a b:Int):Bool:=if a<0\/b<a\/(l.length:Int)<b then false else !((l.drop a.toNat).take (b-a).toNat).contains 10
theorem Xh (l:List UInt8) (c:UInt8):decide (0<=Lib.indexByte l c)=l.contains c:=(Lib.contains_iff_indexByte l c).symm
theorem Cw (l:List UInt8) (a b:Int) (w:World) (hs:l.length<=1073741824):
  Calls Tryz.prog 148 #[.string (bs l), .agg #[.int .i64 a, .int .i64 b]] w λe w'=>e= .returned (.bool (pN l a b))/\Below w.heap.size w w':=by
 have sl:=aT l;obtain⟨R,c⟩:=exQ<|pN l a b;rw[c];unfold pN at c;by_cases h1:a<0
 ·rw[if_pos (.inl h1)] at c;subst c;go_enter Tryz.func148,Tryz.ntmps148;go_wp2_with fail;go_ret;exact⟨rfl,aI _ _⟩
 by_cases h2:b<a
 ·rw[if_pos (.inr (.inl h2))] at c;subst c;go_enter Tryz.func148,Tryz.ntmps148;go_wp2_with fail;go_ret;exact⟨rfl,aI _ _⟩
 by_cases h3:(l.length:Int)<b
 ·rw[if_pos (.inr (.inr h3))] at c;subst c;go_enter Tryz.func148,Tryz.ntmps148;go_wp2_with fail;go_ret;exact⟨rfl,aI _ _⟩
 rw[if_neg (by omega)] at c;obtain⟨x,rfl⟩: ∃x:Nat,a=x:=⟨a.toNat,by omega⟩;obtain⟨y,rfl⟩: ∃y:Nat,b=y:=⟨b.toNat,by omega⟩;rw[fT,show ((y:Int)-(x:Int)).toNat=y-x by omega] at c;obtain⟨B,d⟩:=exQ<|((l.drop x).take (y-x)).contains 10;have CC:Hid (∀w,Calls Tryz.prog 123 #[.string ((bs l).extract x y), .string ⟨#[10]⟩] w λe w'=>e= .returned (.bool B)/\w=w'):=hid (λw=>by have h:=Tryz.strings_Contains_one ((bs l).extract x y) 10 w;rw[lG,aZ,aZ,Xh,d] at h;rw[lG,aZ];exact h.mono λ_ _ ⟨a,b⟩=>⟨a,b.symm⟩);rw[d] at c;have d2:decide (y<x)=false:=aH (by omega);have d3:decide (l.length<y)=false:=aH (by omega);have hxy:(x:Int)<=(y:Int):=by omega
 have hyl:(y:Int)<=(l.length:Int):=by omega
 clear d h1 h2 h3;subst c;go_enter Tryz.func148,Tryz.ntmps148;go_wp2_with (go_at_call 123;refine(CC.out _).mono ?_;rintro e w' ⟨rfl,rfl⟩);go_ret;exact⟨rfl,aI _ _⟩
theorem La (l:List UInt8) (w:World):Calls Tryz.prog 94 #[.string (bs l), .string ⟨#[32]⟩] w λe w'=>e= .returned (.string (bs (l.drop (bI l))))/\w=w':=by
 have h:=Tryz.strings_TrimLeft_one (bs l) 32 (by decide) w;have e:Lib.trimLeftB (bs l).data.toList 32=l.drop (bI l):=by
  rw[aZ];unfold Lib.trimLeftB bI;have h:=List.takeWhile_append_dropWhile (p:=(· ==32)) (l:=l)
  conv=>rhs;arg 2;rw[<-h]
  exact(List.drop_left).symm
 rw[e] at h;exact h.mono λ_ _ ⟨a,b⟩=>⟨a,b.symm⟩
theorem Xi (l:List UInt8) (w:World) (hs:l.length<=1073741824):Calls Tryz.prog 101 #[.string (bs l), .string ⟨#[32]⟩] w λe w'=>e= .returned (.string (bs (l.take (iS l))))/\w=w':=by
 have h:=Tryz.strings_TrimRight_one (bs l) 32 (by decide) w (by rw[aT];omega);have e:Lib.trimRightB (bs l).data.toList 32=l.take (iS l):=by
  rw[aZ];unfold Lib.trimRightB iS bI;have h:=List.takeWhile_append_dropWhile (p:=(· ==32)) (l:=l.reverse);have c:l.reverse.dropWhile (· ==32)=l.reverse.drop (l.reverse.takeWhile (· ==32)).length:=by
   conv=>rhs;arg 2;rw[<-h]
   exact(List.drop_left).symm
  rw[c,List.drop_reverse,List.reverse_reverse]
 rw[e] at h;exact h.mono λ_ _ ⟨a,b⟩=>⟨a,b.symm⟩
def Cx (t:List UInt8) (f2 tw:Nat) (r:aP):aP:=
 ⟨r.kind,r.sf,r.st,r.ind,r.kf,r.kt,r.sf+f2,r.sf+(f2+iS ((t.take tw).drop f2)),if tw<t.length then r.sf+tw else r.nf,if tw<t.length then r.st else r.nt⟩
def qO (t:List UInt8) (f:Nat) (r:aP):aP:=Cx t (cR t f) (eO t (cR t f+eS (t.drop (cR t f)))) r
theorem bY.note {w:World}{X:Nat}{r:aP} (h:bY w X r) (a b:Int):bY ((w.setCell ⟨X,8,none⟩ (.int .i64 a)).setCell ⟨X,9,none⟩ (.int .i64 b)) X { r with nf:=a,nt:=b }:=jP (jP h 8 _) 9 _
theorem bY.rest {w:World}{X:Nat}{r:aP} (h:bY w X r) (a b:Int):bY ((w.setCell ⟨X,6,none⟩ (.int .i64 a)).setCell ⟨X,7,none⟩ (.int .i64 b)) X { r with rf:=a,rt:=b }:=jP (jP h 6 _) 7 _
def Cy (X:Nat) (r:aP) (w w':World):Prop:=bY w' X r/\lA X w w'
theorem Cz (t:List UInt8) (f X:Nat) (r:aP) (w:World) (hs:t.length<=1073741824) (hf:f<=t.length) (hX:bY w X r) (h0:0<=r.sf) (h1:r.sf<=1073741824) (hV:cM w) (hT:bZ w) (hM:lL w):
  Calls Tryz.prog 152 #[.pointer (some ⟨X,0,none⟩), .string (bs t), .int .i64 f] w λe w'=>(∃v,e= .returned v)/\bY w' X (qO t f r)/\lA X w w':=by
 have sl:=aT t;obtain⟨b1,b2,_,_⟩:=Kb t f hf;have h:cR t f=f+bI (t.drop f):=rfl;obtain⟨R,g⟩:=exQ<|qO t f r;rw[g];unfold qO at g;obtain⟨f2,p⟩:=exQ<|cR t f;rw[p] at g b1 b2 h;have CL:Hid (∀w,Calls Tryz.prog 94 #[.string ((bs t).extract f t.length), .string ⟨#[32]⟩] w λe w'=>e= .returned (.string (bs (t.drop f2)))/\w=w'):=hid (λw=>by have:=La (t.drop f) w;rw[jH,<-h] at this;rw[lX _ _ _ rfl];exact this);have CQ:Hid (∀w,cM w->bZ w->Calls Tryz.prog 150 #[.string ((bs t).extract f2 t.length)] w λe w'=>e= .returned (.int .i64 (eS (t.drop f2)))/\Below w.heap.size w w'):=hid (λw hV hT=>by have:=Cv (t.drop f2) w (by rw[bB];omega) hV hT;rw[lX _ _ _ rfl];exact this);have s:=Kv (t.drop f2);rw[bB] at s;obtain⟨q,H⟩:=exQ<|eS (t.drop f2);rw[H] at CQ g s;have CN:=hid (λw hM=>Kw t (f2+q) w hs (by omega) hM);have o:=wO t (f2+q);obtain⟨tw,l⟩:=exQ<|eO t (f2+q);rw[l] at CN g o;unfold Cx at g;obtain⟨n1,n2,_⟩:=o;have hft:f2<=tw:=by
  by_cases d:tw<t.length
  ·have:=(n2 d).1;omega
  ·omega
 have CR:Hid (∀w,Calls Tryz.prog 101 #[.string ((bs t).extract f2 tw), .string ⟨#[32]⟩] w λe w'=>e= .returned (.string (bs (((t.take tw).drop f2).take (iS ((t.take tw).drop f2)))))/\w=w'):=hid (λw=>by have:=Xi ((t.take tw).drop f2) w (by rw[bB,cD];omega);rw[lG,aZ,<-List.drop_take];exact this);have a:((f2+q:Nat):Int)=(f2:Int)+(q:Int):=by omega
 rw[a] at CN;obtain⟨Y,E⟩:=exQ<|((t.take tw).drop f2).take (iS ((t.take tw).drop f2));have k:Y.length=iS ((t.take tw).drop f2):=by rw[<-E,cD,Nat.min_eq_left (Cj _)]
 have n:=Cj ((t.take tw).drop f2);rw[bB,cD,Nat.min_eq_left n1] at n;obtain⟨z,G⟩:=exQ<|iS ((t.take tw).drop f2);rw[E] at CR;rw[G] at g k n;have sY:=aT Y;rw[k] at sY;have sD:=aT (t.drop f2);rw[bB] at sD;have hsub:(t.length:Int)-((t.length-f2:Nat):Int)=(f2:Int):=by omega
 have K:=hid hX;have M:=hid hV;have L:=hid hT;have J:=hid hM;have I:=hid g;have hfi:(f:Int)<=(t.length:Int):=by omega
 have hf2i:(f2:Int)<=(t.length:Int):=by omega
 have htwi:(tw:Int)<=(t.length:Int):=by omega
 have hfti:(f2:Int)<=(tw:Int):=by omega
 clear hX hV hT hM g p H l n1 n2 E k G a h;go_enter Tryz.func152,Tryz.ntmps152;go_wp2_with (go_at_call 94;refine(CL.out _).mono ?_;rintro e w' ⟨rfl,rfl⟩);(with_reducible refine(CQ.out _ M.out L.out).mono ?_);rintro e w1 ⟨rfl,c⟩;have D:=hid (K.out.keep c);have x:=hid (J.out.keep c);have C:=hid (lA.of_below (X:=X) c);clear c;go_upto_if 27 with(go_at_call 181;(with_reducible refine(CN.out _ x.out).mono ?_);rintro e w' ⟨rfl,rfl⟩);obtain⟨r2,b⟩: ∃r2:aP,r2= { r with nf:=if tw<t.length then r.sf+tw else r.nf,nt:=if tw<t.length then r.st else r.nt }:=⟨_,rfl⟩;have i:=hid b;go_cut [] (λwx=>Hid (Cy X r2 w wx))
 case first=>
  have u:Cy X r w w1:=⟨D.out,C.out⟩;by_cases d:tw<t.length
  ·have dl:decide (tw<t.length)=true:=aM d;clear b;go_wp2_with fail;obtain⟨a0,a1,a2,a3,a4,a5,a6,a7,a8,a9,g0,g1,g2,g3,g4,g5,g6,g7,g8,g9⟩:=u.1.cells;have A:IntKind.i64.wrap (r.sf+(tw:Int))=r.sf+(tw:Int):=by rw[IntKind.wrap_i64];omega
   have y:Hid (r2= { r with nf:=r.sf+tw,nt:=r.st }):=by rw[i.out,if_pos d,if_pos d];exact hid rfl
   clear d;go_region
   all_goals go_wp2_with fail
   all_goals go_meet
   all_goals (rw[y.out];exact⟨(bY.note u.1 _ _).drew,((u.2.set 8 _).set 9 _).drew⟩)
  ·have dl:decide (tw<t.length)=false:=aH d;have:r2=r:=(by rw[b,if_neg d,if_neg d]);subst this;clear b;go_wp2_with fail;go_meet;exact u
 have F:=hcut;clear b;have j:r2.sf=r.sf:=by rw[i.out]
 have y:Hid (R= { r2 with rf:=r.sf+f2,rt:=r.sf+(f2+z) }):=by rw[<-I.out,i.out];exact hid rfl
 rw[<-j] at h0 h1;have m:=hid j;clear j;go_upto_if 47 with fail;go_cut [7] (λs7 wx=>s7= .int .i64 (((f2+z:Nat)):Int)/\Hid (Cy X r2 w wx))
 case first=>
  by_cases hgt:f2<tw
  ·have dg:decide (f2<tw)=true:=aM hgt;go_wp2_with (go_at_call 101;refine(CR.out _).mono ?_;rintro e w' ⟨rfl,rfl⟩);go_meet;exact⟨by go_num,F.out⟩
  ·have dg:decide (f2<tw)=false:=aH hgt;obtain rfl:z=0:=(by omega);go_wp2_with fail;go_meet;exact⟨by go_num,F.out⟩
 obtain⟨rfl,B⟩:=hcut;obtain⟨a0,a1,a2,a3,a4,a5,a6,a7,a8,a9,g0,g1,g2,g3,g4,g5,g6,g7,g8,g9⟩:=B.out.1.cells;have A:IntKind.i64.wrap (r2.sf+(f2:Int))=r2.sf+(f2:Int):=by rw[IntKind.wrap_i64];omega
 have hw2:IntKind.i64.wrap (r2.sf+((f2:Int)+(z:Int)))=r2.sf+((f2:Int)+(z:Int)):=by rw[IntKind.wrap_i64];omega
 go_wp2_with fail;go_region
 all_goals go_end0
 all_goals (refine⟨⟨_,rfl⟩,?_,(((B.out.2).set 6 _).set 7 _).drew⟩)
 all_goals (rw[y.out,<-m.out];exact(bY.rest B.out.1 _ _).drew)
def tB (w:World) (S:Nat) (a b:Int):Prop:=w.heap[S]?=some (.cells #[.int .i64 a, .int .i64 b] 59 (0,0))
abbrev Xj (w:World) (S:Nat) (a b:Int):Prop:=w.cell? ⟨S,0,none⟩=some (.int .i64 a)/\w.cell? ⟨S,1,none⟩=some (.int .i64 b)
theorem tB.cells {w:World}{S:Nat}{a b:Int} (h:tB w S a b):Xj w S a b:=⟨nB h 0,nB h 1⟩
theorem tB.keep {w w':World}{S:Nat}{a b:Int} (h:tB w S a b) (hb:Below w.heap.size w w'):tB w' S a b:=(hb.block S (aF h)).trans h
def fZ (r:aP):Value:= .agg #[.int .i64 r.kind, .int .i64 r.sf, .int .i64 r.st, .int .i64 r.ind, .int .i64 r.kf, .int .i64 r.kt, .int .i64 r.rf, .int .i64 r.rt, .int .i64 r.nf, .int .i64 r.nt]
def rR (x:aP×Int×Int):Ending:= .returned (.tuple #[fZ x.1, .int .i64 x.2.1, .int .i64 x.2.2])
structure eD (w:World) (a b:Int) (r:aP) (w':World):Prop where
 s:tB w' w.heap.size a b
 l:bY w' (w.heap.size+1) r
 b:Below w.heap.size w w'
 z:w.heap.size+2<=w'.heap.size
theorem eD.start (w:World) (a b:Int):eD w a b dA ((w.alloc (.cells #[.int .i64 a, .int .i64 b] 59)).alloc (.cells #[.int .i64 0, .int .i64 0, .int .i64 0, .int .i64 0, .int .i64 0, .int .i64 0, .int .i64 0, .int .i64 0, .int .i64 0, .int .i64 0] 121)):=by
 refine⟨?_,?_,?_,by simp⟩
 ·exact(Below.heap_alloc _ _ w.heap.size (by simp)).trans (heap_alloc_new w _)
 ·have:=heap_alloc_new (w.alloc (.cells #[.int .i64 a, .int .i64 b] 59)) (.cells #[.int .i64 0, .int .i64 0, .int .i64 0, .int .i64 0, .int .i64 0, .int .i64 0, .int .i64 0, .int .i64 0, .int .i64 0, .int .i64 0] 121);rw[kT] at this;exact this
 ·exact(aI w _).trans ((aI (w.alloc (.cells #[.int .i64 a, .int .i64 b] 59)) _).mono (by simp))
theorem eD.keep {w w1 w2:World}{a b:Int}{r:aP} (h:eD w a b r w1) (hb:Below w1.heap.size w1 w2):eD w a b r w2:=
 ⟨h.s.keep hb,h.l.keep hb,h.b.trans (hb.mono h.b.size),aY h.z hb.size⟩
theorem Lb {w:World}{p:Addr}{u:Value}{g:Nat} (h:g≠p.block):(w.setCell p u).heap[g]?=w.heap[g]?:=cP w p u g h
theorem eD.set {w w1:World}{a b:Int}{r:aP} (h:eD w a b r w1) {X:Nat} (hX:w.heap.size+2<=X) (i:Nat) (u:Value):eD w a b r (w1.setCell ⟨X,i,none⟩ u):=
 ⟨(Lb (show w.heap.size≠X by omega)).trans h.s,(Lb (show w.heap.size+1≠X by omega)).trans h.l,h.b.setCell (p:=⟨X,i,none⟩) (by show w.heap.size<=X;omega) u,by have:=h.z;simpa [World.setCell] using this⟩
theorem eD.drew {w w1:World}{a b:Int}{r:aP} (h:eD w a b r w1):eD w a b r w1.drew:=⟨h.s,h.l,h.b.drew,h.z⟩
def eE (w:World) (X:Nat) (r:aP):World:=
 (((((((((w.setCell ⟨X,0,none⟩ (.int .i64 r.kind)).setCell ⟨X,1,none⟩ (.int .i64 r.sf)).setCell ⟨X,2,none⟩ (.int .i64 r.st)).setCell ⟨X,3,none⟩ (.int .i64 r.ind)).setCell ⟨X,4,none⟩ (.int .i64 r.kf)).setCell ⟨X,5,none⟩ (.int .i64 r.kt)).setCell ⟨X,6,none⟩ (.int .i64 r.rf)).setCell ⟨X,7,none⟩ (.int .i64 r.rt)).setCell ⟨X,8,none⟩ (.int .i64 r.nf)).setCell ⟨X,9,none⟩ (.int .i64 r.nt)
theorem bY.put {w:World}{X:Nat}{r r2:aP} (h:bY w X r):bY (eE w X r2) X r2:=by
 unfold bY at h ⊢;unfold eE;simp[World.setCell,Array.getElem?_modify,h]
theorem Lc {w:World}{X g:Nat}{r:aP} (h:g≠X):(eE w X r).heap[g]?=w.heap[g]?:=by
 have a: ¬X=g:=λe=>h e.symm;unfold eE;simp[World.setCell,Array.getElem?_modify,a]
theorem Ld (w:World) (X:Nat) (r:aP):(eE w X r).heap.size=w.heap.size:=by unfold eE;simp[World.setCell]
theorem Xk (w:World) (X:Nat) (r:aP):(eE w X r).os=w.os:=by unfold eE;simp[World.setCell]
theorem Xl (w:World) (X:Nat) (r:aP):(eE w X r).tape=w.tape:=by unfold eE;simp[World.setCell]
theorem Xm (w:World) (X:Nat) (r:aP):(eE w X r).output=w.output:=by unfold eE;simp[World.setCell]
theorem eD.put {w w1:World}{a b:Int}{r r2:aP} (h:eD w a b r w1):eD w a b r2 (eE w1 (w.heap.size+1) r2):=by
 refine⟨?_,bY.put h.l,⟨?_,?_,?_,?_,?_⟩,?_⟩
 ·have d:=Lc (w:=w1) (X:=w.heap.size+1) (g:=w.heap.size) (r:=r2) (by omega);unfold tB;rw[d];exact h.s
 ·rw[Xk];exact h.b.os
 ·rw[Xl];exact h.b.tape
 ·rw[Xm];exact h.b.output
 ·rw[Ld];exact h.b.size
 ·intro i c;rw[Lc (by omega)];exact h.b.block i c
 ·rw[Ld];exact h.z
theorem Xn (T:List UInt8):T=List.replicate (bI T) 32++T.drop (bI T):=by
 have h:T.take (bI T)=List.replicate (bI T) 32:=by
  apply List.ext_getElem?;intro i;by_cases hi:i<bI T
  ·rw[List.getElem?_take,if_pos hi,wN T i hi,List.getElem?_replicate,if_pos hi]
  ·rw[List.getElem?_take,if_neg hi,List.getElem?_replicate,if_neg hi]
 rw[<-h,oR]
theorem Da (n k:Nat) (U:List UInt8):(List.replicate n (32:UInt8)++U).drop (n+k)=U.drop k:=by
 rw[List.drop_append,List.length_replicate,List.drop_of_length_le (by rw[List.length_replicate];omega),jJ];congr 1;omega
theorem Xo (U:List UInt8) (n f:Nat) (h35:U.head?≠some 35) (r:aP):
  qO (List.replicate n 32++U) (n+f) r=⟨r.kind,r.sf,r.st,r.ind,r.kf,r.kt,r.sf+(n+cR U f),r.sf+(n+(cR U f+iS ((U.take (eO U (cR U f+eS (U.drop (cR U f))))).drop (cR U f)))),
   if eO U (cR U f+eS (U.drop (cR U f)))<U.length then r.sf+(n+eO U (cR U f+eS (U.drop (cR U f)))) else r.nf,if eO U (cR U f+eS (U.drop (cR U f)))<U.length then r.st else r.nt⟩:=by
 have e:cR (List.replicate n 32++U) (n+f)=n+cR U f:=by
  unfold cR;rw[Da];omega
 unfold qO;rw[e,Da,show n+cR U f+eS (U.drop (cR U f))=n+(cR U f+eS (U.drop (cR U f))) by omega,Vz n _ U h35];unfold Cx;have a:(List.replicate n (32:UInt8)++U).length=n+U.length:=by rw[aW,List.length_replicate]
 obtain⟨tw,b⟩:=exQ<|eO U (cR U f+eS (U.drop (cR U f)));obtain⟨f2,d⟩:=exQ<|cR U f;rw[b,d,a];have c:((List.replicate n (32:UInt8)++U).take (n+tw)).drop (n+f2)=(U.take tw).drop f2:=by
  rw[List.take_append,List.length_replicate,uL (by rw[List.length_replicate];omega),show n+tw-n=tw by omega,Da]
 rw[c];by_cases ht:tw<U.length
 ·rw[if_pos ht,if_pos ht,if_pos (by omega),if_pos (by omega)];simp only[aP.mk.injEq,true_and,and_true];omega
 ·rw[if_neg ht,if_neg ht,if_neg (by omega),if_neg (by omega)];simp only[aP.mk.injEq,true_and,and_true];omega
theorem eD.only {w w1 w2:World}{a b:Int}{r:aP} (h:eD w a b r w1) {X:Nat} (hX:w.heap.size+2<=X) (ho:lA X w1 w2):eD w a b r w2:=
  ⟨(ho.block w.heap.size (aF h.s) (by intro e;injection e;omega)).trans h.s,(ho.block (w.heap.size+1) (aF h.l) (by intro e;injection e;omega)).trans h.l,
   ⟨ho.os.trans h.b.os,ho.tape.trans h.b.tape,ho.output.trans h.b.output,aY h.b.size ho.size,λi c=>(ho.block i (fV c h.b.size) (by intro e;injection e;omega)).trans (h.b.block i c)⟩,aY h.z ho.size⟩
def yY (x y:Int) (n:Nat) (o:Option sW):aP×Int×Int:=match o with | none=>(dA,x+n,2) | some c=>(qJ x y n c,y,0)
theorem wT {x y:Int}{n:Nat}{c:sW}{r:aP} (h:qJ x y n c=r):Ending.returned (.tuple #[fZ r, .int .i64 y, .int .i64 0])=rR (yY x y n (some c)):=by unfold rR yY;simp only[];rw[h]
theorem Db (U T:List UInt8) (n:Nat) (x y:Int) (H:Nat×Nat) (h35:U.head?≠some 35) (hT:T=List.replicate n 32++U) (r:aP) (hr:r=⟨H.1,x,y,n,if H.1=4 then x+n else 0,if H.1=4 then x+n+H.2 else 0,x+n,x+n,0,0⟩):
  qJ x y n (wP U H (cR U (gU H)) (eO U (cR U (gU H)+eS (U.drop (cR U (gU H))))))=qO T (n+gU H) r:=by
 rw[hT,Xo U n (gU H) h35 r,hr];unfold qJ wP;obtain⟨tw,a⟩:=exQ<|eO U (cR U (gU H)+eS (U.drop (cR U (gU H))));obtain⟨f2,b⟩:=exQ<|cR U (gU H);rw[a,b];by_cases ht:tw<U.length
 ·simp only[if_pos ht,aP.mk.injEq,true_and,and_true];omega
 ·simp only[if_neg ht,aP.mk.injEq,true_and,and_true];omega
theorem Xp (l:List UInt8) (x y:Nat) (w:World) (hs:l.length<=1073741824) (hxy:x<=y) (hyl:y<=l.length) (T:List UInt8) (hTd:(l.drop x).take (y-x)=T) (h10:T.contains 10=false) (hV:cM w) (hT:bZ w) (hM:lL w) (hw:mI true T=T.length):
  Calls Tryz.prog 106 #[.string (bs l), .agg #[.int .i64 x, .int .i64 y]] w λe w'=>e=rR (yY x y (bI T) (qI (T.drop (bI T))))/\Below w.heap.size w w':=by
 have sl:=aT l;have V:T.length=y-x:=by rw[<-hTd,cD,bB];omega
 have CW:Hid (∀w,Calls Tryz.prog 148 #[.string (bs l), .agg #[.int .i64 x, .int .i64 y]] w λe w'=>e= .returned (.bool true)/\Below w.heap.size w w'):=hid (λw=>by
  have:=Cw l x y w hs;have e:pN l x y=true:=by
   unfold pN;rw[if_neg (by omega),fT,show ((y:Int)-(x:Int)).toNat=y-x by omega,hTd,h10];rfl
  rw[e] at this;exact this)
 have hex:(bs l).extract x y=bs T:=by rw[lG,aZ,hTd]
 have CG:Hid (∀w,bZ w->Calls Tryz.prog 149 #[.string (bs T)] w λe w'=>e= .returned (.tuple #[.int .i64 0, .bool false])/\Below w.heap.size w w'):=hid (λw hT=>by have:=Ke T w (by have:=V;omega) hT;rw[Kd hw] at this;exact this);obtain⟨n,hn⟩:=exQ<|bI T;have ak:=nV T;rw[hn] at ak;have CL:Hid (∀w,Calls Tryz.prog 94 #[.string (bs T), .string ⟨#[32]⟩] w λe w'=>e= .returned (.string (bs (T.drop n)))/\w=w'):=hid (λw=>by rw[<-hn];exact La T w);have sU:=aT (T.drop n);rw[bB] at sU;have hsub:(T.length:Int)-((T.length-n:Nat):Int)=(n:Int):=by omega
 obtain⟨U,hU⟩:=exQ<|T.drop n;rw[hU] at CL sU;rw[hn,hU];have am:U.length<=1073741824:=by rw[<-aT U,sU];omega
 have sT:=aT T;have HTl:=hid V;have ad:T.length<=1073741824:=by omega
 clear V;have Q:=hid hV;have O:=hid hT;have HM:=hid hM;clear hV hT hM hw;have hxyi:(x:Int)<=(y:Int):=by omega
 have hyli:(y:Int)<=(l.length:Int):=by omega
 go_enter Tryz.func106,Tryz.ntmps106;go_wp2_with fail;have an:=hid (eD.start w x y);(with_reducible refine(CW.out _).mono ?_);rintro e w1 ⟨rfl,af⟩;have aa:=hid (an.out.keep af);clear af;obtain⟨s0,s1⟩:=aa.out.s.cells;go_wp2_with fail;have aj:=hid (O.out.keep aa.out.b);(with_reducible refine(CG.out _ aj.out).mono ?_);rintro e w2 ⟨rfl,ai⟩;have Z:=hid (aa.out.keep ai);clear ai s0 s1;obtain⟨s0,s1⟩:=Z.out.s.cells;go_upto_region 8 with(go_at_call 94;refine(CL.out _).mono ?_;rintro e w' ⟨rfl,rfl⟩);go_cut [4,5,6,7,10,11] (λs4 s5 s6 s7 s10 s11 wx=> ∃X:Nat,s4= .pointer (some ⟨w.heap.size+1,0,none⟩)/\s5= .int .i64 0/\s6= .int .i64 0/\s7= .string (bs T)/\s10= .string (bs U)/\s11= .pointer (some ⟨X,0,none⟩)/\w.heap.size+2<=X/\Hid (eD w x y dA wx/\bY wx X ⟨1,x,y,n,0,0,0,0,0,0⟩))
 case first=>
  go_wp2_with fail;go_meet;exact⟨w2.heap.size,rfl,rfl,rfl,rfl,rfl,rfl,Z.out.z,Z.out.keep (aI _ _),heap_alloc_new w2 _⟩
 obtain⟨X,rfl,rfl,rfl,rfl,rfl,rfl,K,HS⟩:=hcut;obtain⟨s0,s1⟩:=HS.out.1.s.cells;obtain⟨a0,a1,a2,a3,a4,a5,a6,a7,a8,a9,g0,g1,g2,g3,g4,g5,g6,g7,g8,g9⟩:=HS.out.2.cells;go_upto_region 10 with fail;go_cut [12] (λs12 wx=>s12= .int .i64 ((x:Int)+(n:Int))/\Hid (eD w x y dA wx/\bY wx X ⟨1,x,y,n,0,0,x+n,x+n,0,0⟩))
 case first=>
  go_wp2_with fail;go_meet;exact⟨rfl,(HS.out.1.set K 6 _).set K 7 _,jP (jP HS.out.2 6 _) 7 _⟩
 clear s0 s1 a0 a1 a2 a3 a4 a5 a6 a7 a8 a9 g0 g1 g2 g3 g4 g5 g6 g7 g8 g9;obtain⟨rfl,a⟩:=hcut;obtain⟨s0,s1⟩:=a.out.1.s.cells;obtain⟨a0,a1,a2,a3,a4,a5,a6,a7,a8,a9,g0,g1,g2,g3,g4,g5,g6,g7,g8,g9⟩:=a.out.2.cells;obtain⟨b0,b1,b2,b3,b4,b5,b6,b7,b8,b9,F,r,p,m,j,A,B,C,E,D⟩:=a.out.1.l.cells;by_cases hUe:U= []
 ·have he:(bs U).toList= []:=by rw[Lib.toList_data,aZ,hUe]
  have he2:(bs U).toList.isEmpty=true:=by rw[he];rfl
  have M:Hid (qI U=some ⟨1,0,0,0,none⟩):=hid (by rw[hUe];rfl);clear hU hUe;go_wp2_with fail;go_region;obtain⟨W,i⟩:=exQ<|(eE wc (w.heap.size+1) ⟨1,x,y,n,0,0,x+n,x+n,0,0⟩).drew;have u:=(eD.put (r2:=⟨1,x,y,n,0,0,x+n,x+n,0,0⟩) a.out.1).drew;rw[i] at u;have f:=hid u;clear u;dsimp only[eE] at i;rw[i];clear i;clear s0 s1 a0 a1 a2 a3 a4 a5 a6 a7 a8 a9 g0 g1 g2 g3 g4 g5 g6 g7 g8 g9 b0 b1 b2 b3 b4 b5 b6 b7 b8 b9 F r p m j A B C E D;obtain⟨c0,c1,c2,c3,c4,c5,c6,c7,c8,c9,_⟩:=f.out.l.cells;go_wp2_with fail;refine bodyPost_ret (v:= .tuple #[fZ ⟨1,x,y,n,0,0,x+n,x+n,0,0⟩, .int .i64 y, .int .i64 0]) ?_ rfl ⟨?_,f.out.b⟩
  ·simp[results,Tryz.results106,go_sem,fZ,dA,c0,c1,c2,c3,c4,c5,c6,c7,c8,c9]
  ·rw[M.out];exact wT (by unfold qJ;simp)
 ·have P:0<(bs U).size:=by rw[aT];exact sE.2 hUe
  have hne:(bs U).toList.isEmpty=false:=by rw[Lib.toList_data,aZ];cases U with | nil=>exact absurd rfl hUe | cons _ _=>rfl
  have hne2: ¬(bs U).toList= []:=by rw[Lib.toList_data,aZ];exact hUe
  have T35:=oO U 35 35 rfl P;have T34:=oO U 34 34 rfl P;have T39:=oO U 39 39 rfl P;obtain⟨cc,ag⟩: ∃cc:Int,(((bs U)[0]'P).toNat:Int)=cc:=⟨_,rfl⟩;rw[ag] at T35 T34 T39;have d:qI U=if U.head?=some 35 then some ⟨2,0,0,0,some 0⟩ else if(U.head?=some 34\/U.head?=some 39)/\eS U=0 then none else some (wP U (jL U) (cR U (gU (jL U))) (eO U (cR U (gU (jL U))+eS (U.drop (cR U (gU (jL U))))))):=by unfold qI;rw[if_neg hUe]
  by_cases h35:U.head?=some 35
  ·rw[if_pos h35] at d;have M:=hid d;have t35:(cc==35)=true:=by rw[T35,h35];rfl
   clear d T35 T34 T39 h35 hU hUe;go_upto_region 14 with fail;go_cut [] (λwx=>Hid (eD w x y dA wx/\bY wx X ⟨2,x,y,n,0,0,x+n,x+n,x+n,y⟩))
   case first=>
    go_region
    all_goals go_wp2_with fail
    all_goals go_meet
    all_goals first
     | exact⟨(((a.out.1.set K 0 _).set K 8 _).set K 9 _).drew,jP (jP (jP a.out.2 0 _) 8 _) 9 _⟩
     | exact⟨(((a.out.1.set K 8 _).set K 9 _).set K 0 _).drew,jP (jP (jP a.out.2 8 _) 9 _) 0 _⟩
   have c:=hcut;clear s0 s1 a0 a1 a2 a3 a4 a5 a6 a7 a8 a9 g0 g1 g2 g3 g4 g5 g6 g7 g8 g9 b0 b1 b2 b3 b4 b5 b6 b7 b8 b9 F r p m j A B C E D;obtain⟨s0,s1⟩:=c.out.1.s.cells;obtain⟨a0,a1,a2,a3,a4,a5,a6,a7,a8,a9,g0,g1,g2,g3,g4,g5,g6,g7,g8,g9⟩:=c.out.2.cells;obtain⟨b0,b1,b2,b3,b4,b5,b6,b7,b8,b9,F,r,p,m,j,A,B,C,E,D⟩:=c.out.1.l.cells;go_wp2_with fail;go_region;obtain⟨W,i⟩:=exQ<|(eE wc (w.heap.size+1) ⟨2,x,y,n,0,0,x+n,x+n,x+n,y⟩).drew;have u:=(eD.put (r2:=⟨2,x,y,n,0,0,x+n,x+n,x+n,y⟩) c.out.1).drew;rw[i] at u;have f:=hid u;clear u;dsimp only[eE] at i;rw[i];clear i;clear s0 s1 a0 a1 a2 a3 a4 a5 a6 a7 a8 a9 g0 g1 g2 g3 g4 g5 g6 g7 g8 g9 b0 b1 b2 b3 b4 b5 b6 b7 b8 b9 F r p m j A B C E D;obtain⟨c0,c1,c2,c3,c4,c5,c6,c7,c8,c9,_⟩:=f.out.l.cells;go_wp2_with fail;refine bodyPost_ret (v:= .tuple #[fZ ⟨2,x,y,n,0,0,x+n,x+n,x+n,y⟩, .int .i64 y, .int .i64 0]) ?_ rfl ⟨?_,f.out.b⟩
   ·simp[results,Tryz.results106,go_sem,fZ,dA,c0,c1,c2,c3,c4,c5,c6,c7,c8,c9]
   ·rw[M.out];exact wT (by unfold qJ;simp)
  rw[if_neg h35] at d;rw[show (U.head?==some 35)=false from aK.2 h35] at T35;have CQ:=hid (λw hV hT=>Cv U w (by omega) hV hT);by_cases hbq:(U.head?=some 34\/U.head?=some 39)/\eS U=0
  ·rw[if_pos hbq] at d;have M:=hid d;rw[hbq.2] at CQ;have TQ:((cc==34)||(cc==39))=true:=by
    rw[T34,T39];rcases hbq.1 with h | h<;>rw[h]<;>rfl
   clear d h35 hU hUe hbq;by_cases hc34:cc=34
   ·subst hc34;clear T34 T39 TQ T35;go_wp2_with fail;(with_reducible refine(CQ.out _ (Q.out.keep a.out.1.b) (O.out.keep a.out.1.b)).mono ?_);rintro e w3 ⟨rfl,t⟩;have c:=hid (aJ (a.out.1.keep t) (a.out.2.keep t));clear t;clear s0 s1 a0 a1 a2 a3 a4 a5 a6 a7 a8 a9 g0 g1 g2 g3 g4 g5 g6 g7 g8 g9 b0 b1 b2 b3 b4 b5 b6 b7 b8 b9 F r p m j A B C E D;obtain⟨s0,s1⟩:=c.out.1.s.cells;obtain⟨a0,a1,a2,a3,a4,a5,a6,a7,a8,a9,g0,g1,g2,g3,g4,g5,g6,g7,g8,g9⟩:=c.out.2.cells;obtain⟨b0,b1,b2,b3,b4,b5,b6,b7,b8,b9,F,r,p,m,j,A,B,C,E,D⟩:=c.out.1.l.cells;go_wp2_with fail;obtain⟨W,i⟩:=exQ (eE w3 (w.heap.size+1) dA);have u:=(eD.put (r2:=dA) c.out.1);rw[i] at u;have f:=hid u;clear u;dsimp only[eE,dA] at i;rw[i];clear i;clear s0 s1 a0 a1 a2 a3 a4 a5 a6 a7 a8 a9 g0 g1 g2 g3 g4 g5 g6 g7 g8 g9 b0 b1 b2 b3 b4 b5 b6 b7 b8 b9 F r p m j A B C E D;obtain⟨c0,c1,c2,c3,c4,c5,c6,c7,c8,c9,_⟩:=f.out.l.cells;go_wp2_with fail;refine bodyPost_ret (v:= .tuple #[fZ dA, .int .i64 ((x:Int)+(n:Int)), .int .i64 2]) ?_ rfl ⟨?_,f.out.b⟩
    ·simp[results,Tryz.results106,go_sem,fZ,dA,c0,c1,c2,c3,c4,c5,c6,c7,c8,c9]
    ·rw[M.out];rfl
   ·have t34:(cc==34)=false:=aK.2 hc34;have t39:(cc==39)=true:=by rw[t34] at TQ;simpa using TQ
    clear T34 T39 TQ hc34;go_wp2_with fail;(with_reducible refine(CQ.out _ (Q.out.keep a.out.1.b) (O.out.keep a.out.1.b)).mono ?_);rintro e w3 ⟨rfl,t⟩;have c:=hid (aJ (a.out.1.keep t) (a.out.2.keep t));clear t;clear s0 s1 a0 a1 a2 a3 a4 a5 a6 a7 a8 a9 g0 g1 g2 g3 g4 g5 g6 g7 g8 g9 b0 b1 b2 b3 b4 b5 b6 b7 b8 b9 F r p m j A B C E D;obtain⟨s0,s1⟩:=c.out.1.s.cells;obtain⟨a0,a1,a2,a3,a4,a5,a6,a7,a8,a9,g0,g1,g2,g3,g4,g5,g6,g7,g8,g9⟩:=c.out.2.cells;obtain⟨b0,b1,b2,b3,b4,b5,b6,b7,b8,b9,F,r,p,m,j,A,B,C,E,D⟩:=c.out.1.l.cells;go_wp2_with fail;obtain⟨W,i⟩:=exQ (eE w3 (w.heap.size+1) dA);have u:=(eD.put (r2:=dA) c.out.1);rw[i] at u;have f:=hid u;clear u;dsimp only[eE,dA] at i;rw[i];clear i;clear s0 s1 a0 a1 a2 a3 a4 a5 a6 a7 a8 a9 g0 g1 g2 g3 g4 g5 g6 g7 g8 g9 b0 b1 b2 b3 b4 b5 b6 b7 b8 b9 F r p m j A B C E D;obtain⟨c0,c1,c2,c3,c4,c5,c6,c7,c8,c9,_⟩:=f.out.l.cells;go_wp2_with fail;refine bodyPost_ret (v:= .tuple #[fZ dA, .int .i64 ((x:Int)+(n:Int)), .int .i64 2]) ?_ rfl ⟨?_,f.out.b⟩
    ·simp[results,Tryz.results106,go_sem,fZ,dA,c0,c1,c2,c3,c4,c5,c6,c7,c8,c9]
    ·rw[M.out];rfl
  ·rw [if_neg hbq] at d;have M:=hid d;have ae:=Ka U hbq;have CH:=hid (λw hV hT hM=>Xf U w hUe am hV hT hM);have L:=hid h35;have S:Hid (T=List.replicate n 32++U):=hid (by have:=Xn T;rw[hn,hU] at this;exact this);obtain⟨H,hH⟩:=exQ<|jL U;rw[hH] at M ae CH;obtain⟨q,ah⟩:=exQ<|eS U;rw[ah] at hbq CQ;clear d h35 hU hH ah;go_upto_region 16 with fail;go_cut [75] (λs75 wx=>s75= .bool false/\Hid (eD w x y dA wx/\bY wx X ⟨1,x,y,n,0,0,x+n,x+n,0,0⟩))
   case first=>
    by_cases hc34:cc=34
    ·have al:((q:Int)==0)=false:=aK.2 (λe=>hbq ⟨.inl (by rw[hc34] at T34;exact beq_iff_eq.1 T34.symm),by omega⟩);subst hc34;clear hbq T34 T39 T35;go_wp2_with fail;(with_reducible refine(CQ.out _ (Q.out.keep a.out.1.b) (O.out.keep a.out.1.b)).mono ?_);rintro e w3 ⟨rfl,t⟩;go_wp2_with fail;go_meet;exact⟨rfl,a.out.1.keep t,a.out.2.keep t⟩
    ·have t34:(cc==34)=false:=aK.2 hc34;by_cases hc39:cc=39
     ·have al:((q:Int)==0)=false:=aK.2 (λe=>hbq ⟨.inr (by rw[hc39] at T39;exact beq_iff_eq.1 T39.symm),by omega⟩);subst hc39;clear hbq T34 T39 T35;go_wp2_with fail;(with_reducible refine(CQ.out _ (Q.out.keep a.out.1.b) (O.out.keep a.out.1.b)).mono ?_);rintro e w3 ⟨rfl,t⟩;go_wp2_with fail;go_meet;exact⟨rfl,a.out.1.keep t,a.out.2.keep t⟩
     ·have t39:(cc==39)=false:=aK.2 hc39;clear hbq T34 T39 T35;go_wp2_with fail;go_meet;exact⟨rfl,a.out⟩
   obtain⟨rfl,c⟩:=hcut;clear s0 s1 a0 a1 a2 a3 a4 a5 a6 a7 a8 a9 g0 g1 g2 g3 g4 g5 g6 g7 g8 g9 b0 b1 b2 b3 b4 b5 b6 b7 b8 b9 F r p m j A B C E D;clear hbq T34 T39 T35 ag;obtain⟨s0,s1⟩:=c.out.1.s.cells;obtain⟨a0,a1,a2,a3,a4,a5,a6,a7,a8,a9,g0,g1,g2,g3,g4,g5,g6,g7,g8,g9⟩:=c.out.2.cells;obtain⟨b0,b1,b2,b3,b4,b5,b6,b7,b8,b9,F,r,p,m,j,A,B,C,E,D⟩:=c.out.1.l.cells;go_wp2_with fail;(with_reducible refine(CH.out _ (Q.out.keep c.out.1.b) (O.out.keep c.out.1.b) (HM.out.keep c.out.1.b)).mono ?_);unfold Ky;rintro e w4 ⟨rfl,ab⟩;have G:=hid (aJ (c.out.1.keep ab) (c.out.2.keep ab));clear ab;clear s0 s1 a0 a1 a2 a3 a4 a5 a6 a7 a8 a9 g0 g1 g2 g3 g4 g5 g6 g7 g8 g9 b0 b1 b2 b3 b4 b5 b6 b7 b8 b9 F r p m j A B C E D;obtain⟨s0,s1⟩:=G.out.1.s.cells;obtain⟨a0,a1,a2,a3,a4,a5,a6,a7,a8,a9,g0,g1,g2,g3,g4,g5,g6,g7,g8,g9⟩:=G.out.2.cells;obtain⟨b0,b1,b2,b3,b4,b5,b6,b7,b8,b9,F,r,p,m,j,A,B,C,E,D⟩:=G.out.1.l.cells;have Y:(x:Int)<=1073741824:=(by omega);rcases ae with⟨rfl,_⟩ | rfl | ⟨k,rfl,hk1,hk,hk3⟩
   ·obtain⟨R,N⟩:=exQ<|qO T (n+1) ⟨3,x,y,n,0,0,x+n,x+n,0,0⟩;have CR:Hid (∀W,bY W X ⟨3,x,y,n,0,0,x+n,x+n,0,0⟩->cM W->bZ W->lL W->Calls Tryz.prog 152 #[.pointer (some ⟨X,0,none⟩), .string (bs T), .int .i64 ((n:Int)+1)] W λe w'=>(∃v,e= .returned v)/\bY w' X R/\lA X W w'):=hid (λW r p m j=>by have:=Cz T (n+1) X ⟨3,x,y,n,0,0,x+n,x+n,0,0⟩ W ad (by have:=aT U;omega) r (by show (0:Int)<=(x:Int);omega) Y p m j;rw[N] at this;rw[show ((n:Int)+1)=((n+1:Nat):Int) by omega];exact this);have HR:=hid N;clear N;go_wp2_with fail;have g:=hid (aJ (G.out.1.set K 0 (.int .i64 (3))) (show bY (w4.setCell ⟨X,0,none⟩ (.int .i64 (3))) X ⟨3,x,y,n,0,0,x+n,x+n,0,0⟩ from (jP G.out.2 0 (.int .i64 (3)))));clear s0 s1 a0 a1 a2 a3 a4 a5 a6 a7 a8 a9 g0 g1 g2 g3 g4 g5 g6 g7 g8 g9 b0 b1 b2 b3 b4 b5 b6 b7 b8 b9 F r p m j A B C E D;refine(CR.out _ g.out.2 (Q.out.keep g.out.1.b) (O.out.keep g.out.1.b) (HM.out.keep g.out.1.b)).mono ?_;rintro e w5 ⟨⟨v,rfl⟩,J,I⟩;have o:=hid (aJ (g.out.1.only K I) J);clear J I;obtain⟨s0,s1⟩:=o.out.1.s.cells;obtain⟨a0,a1,a2,a3,a4,a5,a6,a7,a8,a9,g0,g1,g2,g3,g4,g5,g6,g7,g8,g9⟩:=o.out.2.cells;obtain⟨b0,b1,b2,b3,b4,b5,b6,b7,b8,b9,F,r,p,m,j,A,B,C,E,D⟩:=o.out.1.l.cells;go_wp2_with fail;go_region;obtain⟨W,i⟩:=exQ<|(eE w5 (w.heap.size+1) R).drew;have u:=(eD.put (r2:=R) o.out.1).drew;rw[i] at u;have f:=hid u;clear u;dsimp only[eE] at i;rw[i];clear i;clear s0 s1 a0 a1 a2 a3 a4 a5 a6 a7 a8 a9 g0 g1 g2 g3 g4 g5 g6 g7 g8 g9 b0 b1 b2 b3 b4 b5 b6 b7 b8 b9 F r p m j A B C E D;obtain⟨c0,c1,c2,c3,c4,c5,c6,c7,c8,c9,_⟩:=f.out.l.cells;go_wp2_with fail;refine bodyPost_ret (v:= .tuple #[fZ R, .int .i64 y, .int .i64 0]) ?_ rfl ⟨?_,f.out.b⟩
    ·simp[results,Tryz.results106,go_sem,fZ,dA,c0,c1,c2,c3,c4,c5,c6,c7,c8,c9]
    ·rw[M.out];exact wT ((Db U T n x y (3,0) L.out S.out ⟨3,x,y,n,0,0,x+n,x+n,0,0⟩ rfl).trans HR.out)
   ·obtain⟨R,N⟩:=exQ<|qO T (n+0) ⟨5,x,y,n,0,0,x+n,x+n,0,0⟩;have CR:Hid (∀W,bY W X ⟨5,x,y,n,0,0,x+n,x+n,0,0⟩->cM W->bZ W->lL W->Calls Tryz.prog 152 #[.pointer (some ⟨X,0,none⟩), .string (bs T), .int .i64 (n:Int)] W λe w'=>(∃v,e= .returned v)/\bY w' X R/\lA X W w'):=hid (λW r p m j=>by have:=Cz T (n+0) X ⟨5,x,y,n,0,0,x+n,x+n,0,0⟩ W ad (by have:=aT U;omega) r (by show (0:Int)<=(x:Int);omega) Y p m j;rw[N] at this;rw[show (n:Int)=((n+0:Nat):Int) by omega];exact this);have HR:=hid N;clear N;go_wp2_with fail;have g:=hid (aJ (G.out.1.set K 0 (.int .i64 (5))) (show bY (w4.setCell ⟨X,0,none⟩ (.int .i64 (5))) X ⟨5,x,y,n,0,0,x+n,x+n,0,0⟩ from (jP G.out.2 0 (.int .i64 (5)))));clear s0 s1 a0 a1 a2 a3 a4 a5 a6 a7 a8 a9 g0 g1 g2 g3 g4 g5 g6 g7 g8 g9 b0 b1 b2 b3 b4 b5 b6 b7 b8 b9 F r p m j A B C E D;refine(CR.out _ g.out.2 (Q.out.keep g.out.1.b) (O.out.keep g.out.1.b) (HM.out.keep g.out.1.b)).mono ?_;rintro e w5 ⟨⟨v,rfl⟩,J,I⟩;have o:=hid (aJ (g.out.1.only K I) J);clear J I;obtain⟨s0,s1⟩:=o.out.1.s.cells;obtain⟨a0,a1,a2,a3,a4,a5,a6,a7,a8,a9,g0,g1,g2,g3,g4,g5,g6,g7,g8,g9⟩:=o.out.2.cells;obtain⟨b0,b1,b2,b3,b4,b5,b6,b7,b8,b9,F,r,p,m,j,A,B,C,E,D⟩:=o.out.1.l.cells;go_wp2_with fail;go_region;obtain⟨W,i⟩:=exQ<|(eE w5 (w.heap.size+1) R).drew;have u:=(eD.put (r2:=R) o.out.1).drew;rw[i] at u;have f:=hid u;clear u;dsimp only[eE] at i;rw[i];clear i;clear s0 s1 a0 a1 a2 a3 a4 a5 a6 a7 a8 a9 g0 g1 g2 g3 g4 g5 g6 g7 g8 g9 b0 b1 b2 b3 b4 b5 b6 b7 b8 b9 F r p m j A B C E D;obtain⟨c0,c1,c2,c3,c4,c5,c6,c7,c8,c9,_⟩:=f.out.l.cells;go_wp2_with fail;refine bodyPost_ret (v:= .tuple #[fZ R, .int .i64 y, .int .i64 0]) ?_ rfl ⟨?_,f.out.b⟩
    ·simp[results,Tryz.results106,go_sem,fZ,dA,c0,c1,c2,c3,c4,c5,c6,c7,c8,c9]
    ·rw[M.out];exact wT ((Db U T n x y (5,0) L.out S.out ⟨5,x,y,n,0,0,x+n,x+n,0,0⟩ rfl).trans HR.out)
   ·obtain⟨R,N⟩:=exQ<|qO T (n+(k+1)) ⟨4,x,y,n,x+n,x+n+k,x+n,x+n,0,0⟩;have CR:Hid (∀W,bY W X ⟨4,x,y,n,x+n,x+n+k,x+n,x+n,0,0⟩->cM W->bZ W->lL W->Calls Tryz.prog 152 #[.pointer (some ⟨X,0,none⟩), .string (bs T), .int .i64 ((n:Int)+((k:Int)+1))] W λe w'=>(∃v,e= .returned v)/\bY w' X R/\lA X W w'):=hid (λW r p m j=>by have:=Cz T (n+(k+1)) X ⟨4,x,y,n,x+n,x+n+k,x+n,x+n,0,0⟩ W ad (by have:=aT U;omega) r (by show (0:Int)<=(x:Int);omega) Y p m j;rw[N] at this;rw[show ((n:Int)+((k:Int)+1))=((n+(k+1):Nat):Int) by omega];exact this);have HR:=hid N;clear N;go_wp2_with fail;have g:=hid (aJ (((G.out.1.set K 0 (.int .i64 (4))).set K 4 (.int .i64 ((x:Int)+(n:Int)))).set K 5 (.int .i64 ((x:Int)+(n:Int)+(k:Int)))) (show bY (((w4.setCell ⟨X,0,none⟩ (.int .i64 (4))).setCell ⟨X,4,none⟩ (.int .i64 ((x:Int)+(n:Int)))).setCell ⟨X,5,none⟩ (.int .i64 ((x:Int)+(n:Int)+(k:Int)))) X ⟨4,x,y,n,x+n,x+n+k,x+n,x+n,0,0⟩ from (jP (jP (jP G.out.2 0 (.int .i64 (4))) 4 (.int .i64 ((x:Int)+(n:Int)))) 5 (.int .i64 ((x:Int)+(n:Int)+(k:Int))))));clear s0 s1 a0 a1 a2 a3 a4 a5 a6 a7 a8 a9 g0 g1 g2 g3 g4 g5 g6 g7 g8 g9 b0 b1 b2 b3 b4 b5 b6 b7 b8 b9 F r p m j A B C E D;refine(CR.out _ g.out.2 (Q.out.keep g.out.1.b) (O.out.keep g.out.1.b) (HM.out.keep g.out.1.b)).mono ?_;rintro e w5 ⟨⟨v,rfl⟩,J,I⟩;have o:=hid (aJ (g.out.1.only K I) J);clear J I;obtain⟨s0,s1⟩:=o.out.1.s.cells;obtain⟨a0,a1,a2,a3,a4,a5,a6,a7,a8,a9,g0,g1,g2,g3,g4,g5,g6,g7,g8,g9⟩:=o.out.2.cells;obtain⟨b0,b1,b2,b3,b4,b5,b6,b7,b8,b9,F,r,p,m,j,A,B,C,E,D⟩:=o.out.1.l.cells;go_wp2_with fail;go_region;obtain⟨W,i⟩:=exQ<|(eE w5 (w.heap.size+1) R).drew;have u:=(eD.put (r2:=R) o.out.1).drew;rw[i] at u;have f:=hid u;clear u;dsimp only[eE] at i;rw[i];clear i;clear s0 s1 a0 a1 a2 a3 a4 a5 a6 a7 a8 a9 g0 g1 g2 g3 g4 g5 g6 g7 g8 g9 b0 b1 b2 b3 b4 b5 b6 b7 b8 b9 F r p m j A B C E D;obtain⟨c0,c1,c2,c3,c4,c5,c6,c7,c8,c9,_⟩:=f.out.l.cells;go_wp2_with fail;refine bodyPost_ret (v:= .tuple #[fZ R, .int .i64 y, .int .i64 0]) ?_ rfl ⟨?_,f.out.b⟩
    ·simp[results,Tryz.results106,go_sem,fZ,dA,c0,c1,c2,c3,c4,c5,c6,c7,c8,c9]
    ·rw[M.out];exact wT ((Db U T n x y (4,k) L.out S.out ⟨4,x,y,n,x+n,x+n+k,x+n,x+n,0,0⟩ rfl).trans HR.out)
theorem Le (l:List UInt8) (a b:Int) (w:World) (hs:l.length<=1073741824) (h:pN l a b=false):
  Calls Tryz.prog 106 #[.string (bs l), .agg #[.int .i64 a, .int .i64 b]] w λe w'=>e=rR (dA,0,1)/\Below w.heap.size w w':=by
 have sl:=aT l;have CW:=hid (λw=>Cw l a b w hs);rw[h] at CW;clear h;go_enter Tryz.func106,Tryz.ntmps106;go_wp2_with fail;have i:=hid (eD.start w a b);(with_reducible refine(CW.out _).mono ?_);rintro e w1 ⟨rfl,f⟩;have d:=hid (i.out.keep f);clear f;obtain⟨s0,s1⟩:=d.out.s.cells;obtain⟨b0,b1,b2,b3,b4,b5,b6,b7,b8,b9,m,t,n,r,q,k,p,j,u,o⟩:=d.out.l.cells;go_wp2_with fail;have c:=hid (eD.put (r2:=dA) d.out);obtain⟨W,g⟩:=exQ<|eE w1 (w.heap.size+1) dA;rw[g] at c;dsimp only[eE,dA] at g;rw[g];clear g s0 s1 b0 b1 b2 b3 b4 b5 b6 b7 b8 b9 m t n r q k p j u o;obtain⟨c0,c1,c2,c3,c4,c5,c6,c7,c8,c9,_⟩:=c.out.l.cells;refine bodyPost_ret (v:= .tuple #[fZ dA, .int .i64 0, .int .i64 1]) ?_ rfl ⟨rfl,c.out.b⟩;simp[results,Tryz.results106,go_sem,fZ,dA,c0,c1,c2,c3,c4,c5,c6,c7,c8,c9]
theorem Xq (l:List UInt8) (x y:Nat) (w:World) (hs:l.length<=1073741824) (hxy:x<=y) (hyl:y<=l.length) (T:List UInt8) (hTd:(l.drop x).take (y-x)=T) (h10:T.contains 10=false) (hT:bZ w) (k:Nat) (hw:mI true T=k) (hk:k<T.length):
  Calls Tryz.prog 106 #[.string (bs l), .agg #[.int .i64 x, .int .i64 y]] w λe w'=>e=rR (dA,(x:Int)+k,2)/\Below w.heap.size w w':=by
 have sl:=aT l;have j:T.length=y-x:=by rw[<-hTd,cD,bB];omega
 have CW:Hid (∀w,Calls Tryz.prog 148 #[.string (bs l), .agg #[.int .i64 x, .int .i64 y]] w λe w'=>e= .returned (.bool true)/\Below w.heap.size w w'):=hid (λw=>by
  have:=Cw l x y w hs;have e:pN l x y=true:=by
   unfold pN;rw[if_neg (by omega),fT,show ((y:Int)-(x:Int)).toNat=y-x by omega,hTd,h10];rfl
  rw[e] at this;exact this)
 have hex:(bs l).extract x y=bs T:=by rw[lG,aZ,hTd]
 have CG:Hid (∀w,bZ w->Calls Tryz.prog 149 #[.string (bs T)] w λe w'=>e= .returned (.tuple #[.int .i64 k, .bool true])/\Below w.heap.size w w'):=hid (λw hT=>by have:=Ke T w (by omega) hT;rw[yT hw hk] at this;exact this);have sT:=aT T;have t:=hid hT;have hxk:IntKind.i64.wrap ((x:Int)+(k:Int))=(x:Int)+(k:Int):=by rw[IntKind.wrap_i64];omega
 have hkb:(x:Int)+(k:Int)<=1073741824:=by omega
 clear hT hw j;have hxyi:(x:Int)<=(y:Int):=by omega
 have hyli:(y:Int)<=(l.length:Int):=by omega
 go_enter Tryz.func106,Tryz.ntmps106;go_wp2_with fail;have n:=hid (eD.start w x y);(with_reducible refine(CW.out _).mono ?_);rintro e w1 ⟨rfl,g⟩;have c:=hid (n.out.keep g);clear g;obtain⟨s0,s1⟩:=c.out.s.cells;go_wp2_with fail;have i:=hid (t.out.keep c.out.b);(with_reducible refine(CG.out _ i.out).mono ?_);rintro e w2 ⟨rfl,f⟩;have a:=hid (c.out.keep f);clear f s0 s1;obtain⟨s0,s1⟩:=a.out.s.cells;obtain⟨b0,b1,b2,b3,b4,b5,b6,b7,b8,b9,q,C,r,B,A,p,z,o,D,u⟩:=a.out.l.cells;go_wp2_with fail;go_region;obtain⟨W,h⟩:=exQ<|(eE w2 (w.heap.size+1) dA).drew;have m:=(eD.put (r2:=dA) a.out).drew;rw[h] at m;have d:=hid m;clear m;dsimp only[eE,dA] at h;rw[h];clear h s0 s1 b0 b1 b2 b3 b4 b5 b6 b7 b8 b9 q C r B A p z o D u;obtain⟨c0,c1,c2,c3,c4,c5,c6,c7,c8,c9,_⟩:=d.out.l.cells;go_wp2_with fail;refine bodyPost_ret (v:= .tuple #[fZ dA, .int .i64 ((x:Int)+k), .int .i64 2]) ?_ rfl ⟨rfl,d.out.b⟩;simp[results,Tryz.results106,go_sem,fZ,dA,c0,c1,c2,c3,c4,c5,c6,c7,c8,c9]
theorem Xr (l:List UInt8) (a b:Int) (w:World) (hs:l.length<=1073741824) (hV:cM w) (hT:bZ w) (hM:lL w):
  Calls Tryz.prog 106 #[.string (bs l), .agg #[.int .i64 a, .int .i64 b]] w λe w'=>e=rR (fD l a b)/\Below w.heap.size w w':=by
 obtain⟨R,c⟩:=exQ<|fD l a b;rw[c];unfold fD at c;by_cases hout:a<0\/b<a\/(l.length:Int)<b
 ·rw[if_pos hout] at c;subst c;exact Le l a b w hs (by unfold pN;rw[if_pos hout])
 rw[if_neg hout] at c;obtain⟨x,rfl⟩: ∃x:Nat,a=x:=⟨a.toNat,by omega⟩;obtain⟨y,rfl⟩: ∃y:Nat,b=y:=⟨b.toNat,by omega⟩;simp only[fT,show ((y:Int)-(x:Int)).toNat=y-x by omega] at c;obtain⟨T,d⟩:=exQ<|(l.drop x).take (y-x);rw[d] at c;cases h10:T.contains 10 with
 | true=>
  rw[h10,if_pos rfl] at c;subst c;exact Le l x y w hs (by unfold pN;rw[if_neg hout,fT,show ((y:Int)-(x:Int)).toNat=y-x by omega,d,h10];rfl)
 | false=>
  rw[h10,if_neg (by simp)] at c;by_cases hk:mI true T<T.length
  ·rw[if_pos hk] at c;subst c;exact Xq l x y w hs (by omega) (by omega) T d h10 hT _ rfl hk
  ·rw[if_neg hk] at c;have f:mI true T=T.length:=by
    have:=(Jv true T.length T 0).2;unfold mI at hk ⊢;omega
   have:=Xp l x y w hs (by omega) (by omega) T d h10 hV hT hM f;have e:yY x y (bI T) (qI (T.drop (bI T)))=R:=by rw[<-c];rfl
   rw[e] at this;exact this
end Go.Proofs.YtaifnmjjpddikaaGreatDoor
