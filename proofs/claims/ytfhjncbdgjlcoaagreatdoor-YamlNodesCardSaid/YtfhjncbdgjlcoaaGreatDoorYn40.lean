import Derived.Test.YtfhjncbdgjlcoaaGreatDoorYn9
import Derived.Test.YtfhjncbdgjlcoaaGreatDoorYn26
import Derived.Test.YtfhjncbdgjlcoaaGreatDoorYn12
set_option linter.unusedVariables false
set_option linter.unusedSimpArgs false
set_option maxRecDepth 100000
set_option maxHeartbeats 8000000
namespace Go.Proofs.YtfhjncbdgjlcoaaGreatDoor
open Tryz
open Go.RowKit
open Go.Lib hiding intOf
theorem Hj (c:UInt8) (A:aC) (w:World) (hA:A.length<=1024):
  Calls prog 196 #[.int .u8 (c.toNat:Int),bs A] w λe w'=>e= .returned (.bool (A.contains c))/\w=w':=by
 have sA:=aP A;obtain⟨R,hR⟩:=exQ<|A.contains c;rw[hR];have HR:=hid hR;clear hR;obtain⟨n,hn⟩: ∃n:Int,(c.toNat:Int)=n:=⟨_,rfl⟩;have HN:=hid hn;rw[hn];clear hn;go_in;go_wp2;go_loop [5] (λs5=> ∃k:Nat,s5= .int .i64 k/\k<=A.length/\Hid (∀j,j<k->A[j]?≠some c)) (λs5=>A.length-(RowKit.intOf s5).toNat)
 case atStart=>exact⟨0,rfl,a_,hid (λj hj=>by omega)⟩
 case round=>
  obtain⟨k,rfl,hk,HK⟩:=hrel;by_cases ab:k<A.length
  .have au:k<(bs A).size:=a_;have hb:=cT A k au;have T1:=gJ ((bs A)[k]'au) c _ rfl;rw[HN.out] at T1;by_cases he:(bs A)[k]'au=c
   .have HF:Hid (R=true):=hid (by rw[<-HR.out];exact List.contains_iff_mem.2 (bH (by rw[hb,he])));rw[show ((bs A)[k]'au==c)=true from beq_iff_eq.2 he] at T1;clear he hb HK;go_wp2;go_ret;exact⟨qH HF.out.symm,rfl⟩
   .have ip:Hid (∀j,j<k+1->A[j]?≠some c):=hid (λj hj=>by
     by_cases h:j<k
     .exact HK.out j h
     .obtain rfl:j=k:=a_;rw[hb];exact λh=>he (bA h))
    rw[show ((bs A)[k]'au==c)=false from aI.2 he] at T1;clear he hb HK;exact mf
  .have HF:Hid (R=false):=hid (by
    rw[<-HR.out];cases hc:A.contains c with
    | false=>rfl
    | true=>
     obtain⟨j,hj⟩:=List.getElem?_of_mem (List.contains_iff_mem.1 hc);exact absurd hj (HK.out j (by have:=(aW.1 hj).1;omega)))
   go_wp2;go_ret;exact⟨qH HF.out.symm,rfl⟩
theorem Hk (l:aC) (a:Nat) (A:aC) (p:UInt8->Bool) (hp: ∀b,A.contains b=p b) (w:World) (hs:l.length<=1073741824) (ha:a<=l.length) (hA:A.length<=1024):
  Calls prog 197 #[bs l,a,bs A] w λe w'=>e= .returned (.int .i64 ((a+cX p (l.drop a):Nat):Int))/\w=w':=IS
def Hl (u:aC):Int:=if(bT u).2.2=0 then(bT u).1 else if u.head?=some 34 then 8 else 0
def zC (u:aC) (a:Nat):Ending:= .returned (.tuple #[(Hl u),((a+(bT u).2.1:Nat):Int), .int .i64 (bT u).2.2])
theorem nD {u:aC}{a k n:Nat}{kd er:Int} (h:bT u=(k,n,er)) (hk:er=0->kd=k) (hk2:er≠0->kd=if u.head?=some 34 then 8 else 0) {p:Int} (hp:p=((a+n:Nat):Int)):Ending.returned (.tuple #[kd,p,er])=zC u a:=by
 unfold zC Hl;rw[h,hp];simp only[];by_cases he:er=0
 .rw[if_pos he,hk he]
 .rw[if_neg he,hk2 he]
theorem Py (c:UInt8):([32,9,10,13]:aC).contains c=kJ c:=by
 have: ∀n:Fin 256,([32,9,10,13]:aC).contains (UInt8.ofNat n.val)=kJ (UInt8.ofNat n.val):=DQ
 exact bd
theorem aCS (c:UInt8):([45,48,49,50,51,52,53,54,55,56,57]:aC).contains c=(c==45||eC c):=by
 have: ∀n:Fin 256,([45,48,49,50,51,52,53,54,55,56,57]:aC).contains (UInt8.ofNat n.val)=((UInt8.ofNat n.val)==45||eC (UInt8.ofNat n.val)):=DQ
 exact bd
theorem aCT (c:UInt8):([45,43,46,48,49,50,51,52,53,54,55,56,57,101,69]:aC).contains c=iO c:=by
 have: ∀n:Fin 256,([45,43,46,48,49,50,51,52,53,54,55,56,57,101,69]:aC).contains (UInt8.ofNat n.val)=iO (UInt8.ofNat n.val):=DQ
 exact bd
theorem aCU (c:UInt8):([97,98,99,100,101,102,103,104,105,106,107,108,109,110,111,112,113,114,115,116,117,118,119,120,121,122]:aC).contains c=gT c:=by
 have: ∀n:Fin 256,([97,98,99,100,101,102,103,104,105,106,107,108,109,110,111,112,113,114,115,116,117,118,119,120,121,122]:aC).contains (UInt8.ofNat n.val)=gT (UInt8.ofNat n.val):=DQ
 exact bd
theorem aCV (c:UInt8):(lG c=some 0/\(c.toNat:Int)=123)\/(lG c=some 1/\(c.toNat:Int)=125)\/(lG c=some 2/\(c.toNat:Int)=91)\/(lG c=some 3/\(c.toNat:Int)=93)\/(lG c=some 4/\(c.toNat:Int)=44)\/(lG c=some 5/\(c.toNat:Int)=58)\/
  (lG c=none/\(c.toNat:Int)≠123/\(c.toNat:Int)≠125/\(c.toNat:Int)≠91/\(c.toNat:Int)≠93/\(c.toNat:Int)≠44/\(c.toNat:Int)≠58):=by
 unfold lG;have a: ∀d:UInt8,c≠d->(c.toNat:Int)≠(d.toNat:Int):=λd h e=>h (UInt8.toNat_inj.1 a_);by_cases h0:c=123
 .left;subst h0;exact⟨rfl,rfl⟩
 by_cases h1:c=125
 .right;left;subst h1;exact⟨rfl,rfl⟩
 by_cases h2:c=91
 .right;right;left;subst h2;exact⟨rfl,rfl⟩
 by_cases h3:c=93
 .right;right;right;left;subst h3;exact⟨rfl,rfl⟩
 by_cases h4:c=44
 .right;right;right;right;left;subst h4;exact⟨rfl,rfl⟩
 by_cases h5:c=58
 .right;right;right;right;right;left;subst h5;exact⟨rfl,rfl⟩
 .right;right;right;right;right;right;rw[if_neg h0,if_neg h1,if_neg h2,if_neg h3,if_neg h4,if_neg h5];exact⟨rfl,a 123 h0,a 125 h1,a 91 h2,a 93 h3,a 44 h4,a 58 h5⟩
theorem aCW (l:aC) (a:Nat) (w:World) (hs:l.length<=1048576) (ha:a<l.length):
  Calls prog 166 #[bs l,a] w λe w'=>e=zC (l.drop a) a/\aA w w':=by
 have sl:=aP l;have j:=Lb l a ha;have p:=λw=>Mb l a w a_;obtain⟨EE,E⟩:=exQ<|lF l a;rw[E] at p j;obtain⟨ek,ee⟩:=EE;simp only[] at p j;have CE:=hid p;clear p;have s: ∀n,(bs l).extract a (a+n)=bs ((l.drop a).take n):=λn=>by rw[gO,aY,Nat.add_sub_cancel_left]
 have R1:=hid (λw=>Hk l a [32,9,10,13] kJ Py w a_ a_ b_);have R2:=hid (λw=>Hk l a [45,43,46,48,49,50,51,52,53,54,55,56,57,101,69] iO aCT w a_ a_ b_);have R3:=hid (λw=>Hk l a [97,98,99,100,101,102,103,104,105,106,107,108,109,110,111,112,113,114,115,116,117,118,119,120,121,122] gT aCU w a_ a_ b_);have B:a<(bs l).size:=a_
 have x:=cT l a B;obtain⟨u,D⟩:=exQ<|l.drop a;have O:u.length=l.length-a:=by rw[<-D,bC]
 obtain⟨c,I⟩: ∃c,u.head?=some c:=by cases u with | nil=>simp at O;omega | cons c r=>exact⟨c,rfl⟩
 have K:(((bs l)[a]'B).toNat:Int)=(c.toNat:Int):=by
  have V:l[a]?=some c:=by rw[<-I,<-D,List.head?_eq_getElem?,kG,Nat.add_zero]
  rw[V] at x;rw[<-bA x]
 rw[D] at j R1 R2 R3 ⊢;simp only[D] at s;have C:=Di u;have Q:=rH kJ u;have J:=rH iO u;have P:=rH gT u;have d:=hid (Lc I);have A1:=hid (λw=>Hj c [32,9,10,13] w b_);have A2:=hid (λw=>Hj c [45,48,49,50,51,52,53,54,55,56,57] w b_);rw[Py] at A1;rw[aCS] at A2;have F:=aCV c;have k:c=34↔(c.toNat:Int)=34:=⟨λh=>by rw[h];rfl,λh=>UInt8.toNat_inj.1 (by show c.toNat=34;omega)⟩;obtain⟨PR,q⟩:=exQ<|eF (u.take (cX iO u));have CP:=hid (λw=>Gl (u.take (cX iO u)) w (by rw[bR];omega));rw[q] at CP;have e1:=s (cX iO u);have e2:=s (cX gT u);obtain⟨nb,A⟩:=exQ<|cX kJ u;obtain⟨nn,z⟩:=exQ<|cX iO u;obtain⟨ns,y⟩:=exQ<|cX gT u;rw[A] at R1 Q;rw[z] at R2 J CP e1 q;rw[y] at R3 P e2;have m:=hid (aK q (aK A (aK z (aK y (aK j C)))));obtain⟨n,T⟩: ∃n:Int,(c.toNat:Int)=n:=⟨_,rfl⟩;rw[show bs [32,9,10,13]=(⟨#[32,9,10,13]⟩:ByteArray) from rfl] at A1 R1;rw[show bs [45,48,49,50,51,52,53,54,55,56,57]=(⟨#[45,48,49,50,51,52,53,54,55,56,57]⟩:ByteArray) from rfl] at A2;rw[show bs [45,43,46,48,49,50,51,52,53,54,55,56,57,101,69]=(⟨#[45,43,46,48,49,50,51,52,53,54,55,56,57,101,69]⟩:ByteArray) from rfl] at R2;rw[show bs [97,98,99,100,101,102,103,104,105,106,107,108,109,110,111,112,113,114,115,116,117,118,119,120,121,122]=(⟨#[97,98,99,100,101,102,103,104,105,106,107,108,109,110,111,112,113,114,115,116,117,118,119,120,121,122]⟩:ByteArray) from rfl] at R3;rw[T] at A1 A2 F k K;have t:u.head?=some 34↔n=34:=by rw[I];exact⟨λh=>k.1 (bA h),λh=>by rw[k.2 h]⟩
 have f:=hid (aK k t);have hal:(a:Int)+1<=(l.length:Int):=a_
 clear x D I q A z y j C T k t E s;rcases F with⟨g,rfl⟩ | ⟨g,rfl⟩ | ⟨g,rfl⟩ | ⟨g,rfl⟩ | ⟨g,rfl⟩ | ⟨g,rfl⟩ | ⟨g,q0,q1,q2,q3,q4,q5⟩
 .have i:Hid (bT u=(2,1,0)):=hid IF;clear g d m f CE CP R1 R2 R3 A1 A2;go_in;go_wp2_with fail;refine wp_loop_rounds 1 ?_;rw[rounds_succ];go_wp2;exact ER
 .have i:Hid (bT u=(3,1,0)):=hid IF;clear g d m f CE CP R1 R2 R3 A1 A2;go_in;go_wp2_with fail;refine wp_loop_rounds 2 ?_;exact cb
 .have i:Hid (bT u=(4,1,0)):=hid IF;clear g d m f CE CP R1 R2 R3 A1 A2;go_in;go_wp2_with fail;refine wp_loop_rounds 3 ?_;rw[rounds_succ];go_wp2_with fail;exact cb
 .have i:Hid (bT u=(5,1,0)):=hid IF;clear g d m f CE CP R1 R2 R3 A1 A2;go_in;go_wp2_with fail;refine wp_loop_rounds 4 ?_;exact iy
 .have i:Hid (bT u=(6,1,0)):=hid IF;clear g d m f CE CP R1 R2 R3 A1 A2;go_in;go_wp2_with fail;refine wp_loop_rounds 5 ?_;rw[rounds_succ];go_wp2_with fail;exact iy
 .have i:Hid (bT u=(7,1,0)):=hid IF;clear g d m f CE CP R1 R2 R3 A1 A2;go_in;go_wp2_with fail;refine wp_loop_rounds 6 ?_;rw[rounds_succ];go_wp2_with fail;rw[rounds_succ];go_wp2_with fail;exact iy
 .have b:=d.out;rw[g] at b;have d:=hid b;clear g b;cases hbl:kJ c with
  | true=>exact IN
  | false=>
   have b:=d.out;rw[hbl] at b;simp only[if_false,Bool.false_eq_true] at b;have d:=hid b;clear b;rw[hbl] at A1;clear hbl;by_cases h34:n=34
   .have i:Hid (Ending.returned (.tuple #[(8:Int),ek,ee])=zC u a):=hid (by
     have h:=d.out;rw[if_pos (f.out.1.2 h34)] at h;obtain⟨e1,e2⟩:=Prod.mk.inj m.out.2.2.2.2.1;have h0:=m.out.2.2.2.2.2;rw[e2];by_cases hz:(cD u 0).2.2=0
     .rw[if_pos hz] at h;rw[hz];exact nD h (λ_=>rfl) (λG=>absurd rfl G) a_
     .rw[if_neg hz] at h;exact nD h (λG=>absurd G hz) (λ_=>by rw[if_pos (f.out.2.2 h34)]) a_)
    subst h34;clear d m f CP R1 R2 R3 A2;go_in;go_wp2_with fail;refine wp_loop_rounds 7 ?_;rw[rounds_succ];go_wp2_with fail;rw[rounds_succ];go_wp2_with fail;rw[rounds_succ];go_wp2_with fail;rw[rounds_succ];go_wp2_with fail;rw[rounds_succ];go_wp2_with fail;rw[rounds_succ];go_wp2_with fail;rw[rounds_succ];go_wp2_with (first | (go_at_call 196;(with_reducible refine(A1.out _).mono ?_);rintro e w' ⟨rfl,rfl⟩) | (go_at_call 100;(with_reducible refine(CE.out _).mono ?_);rintro e w' ⟨rfl,W⟩));go_ret3;exact⟨i.out,m_⟩
   have v:c≠34:=λh=>h34 (f.out.1.1 h);have q34:(n==34)=false:=aI.2 h34;have S:=hid (show ¬u.head?=some 34 from λh=>h34 (f.out.2.1 h));have b:=d.out;rw[if_neg v] at b;have d:=hid b;clear b v f CE h34;cases hd:(c==45||eC c) with
   | true=>
    rw[hd] at A2;have o:c=45\/eC c=true:=(by simpa using hd);have b:=d.out;rw[if_pos o,m.out.2.2.1,m.out.1] at b;obtain⟨N,pe⟩:=PR;simp only[pR,eK] at CP;simp only[] at b;have d:=hid b;clear m b hd o R1 R3;have M:a+nn<=l.length:=a_;have L:(a:Int)+(nn:Int)<=(l.length:Int):=a_;by_cases hz:pe=0
    .have MS:=trivial;exact IM
    .exact IM
   | false=>
    rw[hd] at A2;have o: ¬(c=45\/eC c=true):=(by simpa using hd);have b:=d.out;rw[if_neg o,m.out.2.2.2.1] at b;have d:=hid b;clear m b hd o R1 R2 CP e1;have M:a+ns<=l.length:=a_;have L:(a:Int)+(ns:Int)<=(l.length:Int):=a_;obtain⟨U,R⟩:=exQ<|u.take ns;rw[R] at e2;have b:=d.out;rw[R] at b;have d:=hid b;clear b R;have H:(bs U).toList=U:=DN;have t1:((bs U).toList== [116,114,117,101])=(U== [116,114,117,101]):=(by rw[H]);have t2:((bs U).toList== [102,97,108,115,101])=(U== [102,97,108,115,101]):=(by rw[H]);have t3:((bs U).toList== [110,117,108,108])=(U== [110,117,108,108]):=(by rw[H]);clear H;have b:=d.out;unfold nG at b;clear d;by_cases u1:U= [116,114,117,101]
    .have MT:=trivial;exact IN
    rw[if_neg u1] at b;rw[show (U== [116,114,117,101])=false from aI.2 u1] at t1;clear u1;by_cases u2:U= [102,97,108,115,101]
    .have MU:=trivial;exact IN
    rw[if_neg u2] at b;rw[show (U== [102,97,108,115,101])=false from aI.2 u2] at t2;clear u2;by_cases u3:U= [110,117,108,108]
    .have MV:=trivial;exact IN
    rw[if_neg u3] at b;rw[show (U== [110,117,108,108])=false from aI.2 u3] at t3;clear u3;have i:Hid (bT u=(0,0,2)):=hid (by rw[b];rfl);clear b;go_in;go_wp2_with fail;refine wp_loop_rounds 7 ?_;rw[rounds_succ];go_wp2_with fail
    .next h=>exact(q0 (eq_of_beq h)).elim
    rw[rounds_succ];go_wp2_with fail
    .next h=>exact(q1 (eq_of_beq h)).elim
    rw[rounds_succ];go_wp2_with fail
    .next h=>exact(q2 (eq_of_beq h)).elim
    rw[rounds_succ];go_wp2_with fail
    .next h=>exact(q3 (eq_of_beq h)).elim
    rw[rounds_succ];go_wp2_with fail
    .next h=>exact(q4 (eq_of_beq h)).elim
    rw[rounds_succ];go_wp2_with fail
    .next h=>exact(q5 (eq_of_beq h)).elim
    rw[rounds_succ];go_wp2_with (first | (go_at_call 196;(first | (with_reducible refine(A1.out _).mono ?_) | (with_reducible refine(A2.out _).mono ?_));rintro e w' ⟨rfl,rfl⟩) | (go_at_call 197;(with_reducible refine(R3.out _).mono ?_);rintro e w' ⟨rfl,rfl⟩));go_ret3;exact⟨nD i.out (λh=>absurd h b_) (λ_=>by rw[if_neg S.out]) a_,aD _ _⟩
theorem fV.snoc {B:Nat}{w:World}{v:Value}{ts:List aR}{t:aR} (h:w.ownsRow B 163 3 v (ts.length+1) (mS ts++ [.int .i64 t.kind, .int .i64 t.sf, .int .i64 t.st])):fV B w v (ts++ [t]):=by
 unfold fV;have e:mS (ts++ [t])=mS ts++ [.int .i64 t.kind, .int .i64 t.sf, .int .i64 t.st]:=by unfold mS;simp
 rw[e,aZ];exact h
theorem Pz (l:aC) (h:l.length<=65536):dX l=match (eR l.length l 0).2 with
  | none=>((eR l.length l 0).1,(l.length:Int),0)
  | some (p,e)=>([],(p:Int),e):=by unfold dX;rw[if_neg a_];rfl
theorem Qa (f:Nat) (l:aC) (a:Nat) (ha:a<l.length):eR (f+1) (l.drop a) a=if(bT (l.drop a)).2.2=0 then(⟨(bT (l.drop a)).1,a,a+(bT (l.drop a)).2.1⟩::(eR f (l.drop (a+(bT (l.drop a)).2.1)) (a+(bT (l.drop a)).2.1)).1,(eR f (l.drop (a+(bT (l.drop a)).2.1)) (a+(bT (l.drop a)).2.1)).2) else([],some (a+(bT (l.drop a)).2.1,(bT (l.drop a)).2.2)):=by
 obtain⟨c,r,d⟩: ∃c r,l.drop a=c::r:=ma;have e:l.drop (a+(bT (l.drop a)).2.1)=(l.drop a).drop (bT (l.drop a)).2.1:=by rw[jO]
 rw[e,d,uG]
def qG (l:aC) (ts:List aR) (a:Nat):Prop:=ts.length<=a/\a<=l.length/\ ∃f,l.length<=a+f/\eR l.length l 0=(ts++(eR f (l.drop a) a).1,(eR f (l.drop a) a).2)
theorem qG.zero (l:aC):qG l [] 0:=⟨aF _,cI _,l.length,a_,by rw[List.drop_zero,rJ]⟩
theorem qG.step {l:aC}{ts:List aR}{a k n:Nat} (h:qG l ts a) (ha:a<l.length) (hT:bT (l.drop a)=(k,n,0)):a<a+n/\qG l (ts++ [⟨k,a,a+n⟩]) (a+n):=by
 obtain⟨h1,h2,f,h3,d⟩:=h;obtain⟨g,rfl⟩: ∃g,f=g+1:=⟨f-1,a_⟩;have c:l.drop a≠ []:=λe=>by have:=congrArg List.length e;simp at this;omega
 have b:=vT (l.drop a) c;rw[hT,bC] at b;simp only[] at b;have h0:=b.2 trivial;rw[Qa g l a ha,hT] at d;simp only[if_true] at d;refine⟨a_,by rw[aZ];simp;omega,a_,g,a_,?_⟩;rw[d,nX,List.singleton_append]
theorem qG.err {l:aC}{ts:List aR}{a k n:Nat}{er:Int} (h:qG l ts a) (ha:a<l.length) (hT:bT (l.drop a)=(k,n,er)) (he:er≠0):eR l.length l 0=(ts,some (a+n,er))/\a+n<=l.length:=by
 obtain⟨h1,h2,f,h3,d⟩:=h;obtain⟨g,rfl⟩: ∃g,f=g+1:=⟨f-1,a_⟩;have c:l.drop a≠ []:=λe=>by have:=congrArg List.length e;simp at this;omega
 have b:=(vT (l.drop a) c).1;rw[hT,bC] at b;simp only[] at b;rw[Qa g l a ha,hT] at d;simp only[if_neg he,List.append_nil] at d;exact⟨d,a_⟩
theorem qG.fin {l:aC}{ts:List aR} (h:qG l ts l.length):eR l.length l 0=(ts,none):=by
 obtain⟨h1,h2,f,h3,a⟩:=h;rw[List.drop_of_length_le (aF _),uH] at a;simpa using a
theorem aCX (l:aC) (w:World) (hs:l.length<=140737488351232):
  Calls prog 130 #[bs l] w (Ld (dX l) w):=by
 have sl:=aP l;by_cases hlong:65536<l.length
 .have G:dX l=([],0,3):=by unfold dX;rw[if_pos hlong]
  rw[G];have d1:decide (65536<l.length)=true:=aQ hlong;go_in;go_wp2;go_ret3;exact⟨_,rfl,World.ownsRow_nil _ _ _ _,λ_=>rfl,aD _ _⟩
 have d1:decide (65536<l.length)=false:=aJ hlong;have d: ∀ts,eR l.length l 0=(ts,none)->dX l=(ts,(l.length:Int),0):=λts h=>by rw[Pz l a_,h]
 have c: ∀ts p e,eR l.length l 0=(ts,some (p,e))->dX l=([],(p:Int),e):=λts p e h=>by rw[Pz l a_,h]
 have hl':l.length<=65536:=a_
 obtain⟨i0,C,u,A,B⟩:=info_parts infoTok;have CO:=hid (λa w E=>aCW l a w a_ E);have q:=hid d;have s:=hid c;clear d c hlong;go_in;go_wp2;go_loopw [5,6] (λs5 s6 wr=> ∃(a:Nat) (ts:List aR),s6= .int .i64 a/\a<=l.length/\ts.length<=a/\Hid (fV w.heap.size wr s5 ts/\(ts= []->s5= .slice none 0 0))/\Hid (aA w wr)/\Hid (qG l ts a)) (λ_ s6 _=>l.length-(RowKit.intOf s6).toNat)
 case atStart=>exact⟨0,[],rfl,a_,e_,⟨World.ownsRow_nil _ _ _ _,λ_=>rfl⟩,aD _ _,qG.zero l⟩
 case round=>
  obtain⟨a,ts,rfl,E,hts,t,z,y⟩:=hrel;by_cases hlt:a<l.length
  .have C1:=hid (λw=>CO.out a w hlt);obtain⟨T,j⟩:=exQ<|bT (l.drop a);obtain⟨k,n,er⟩:=T;unfold zC Hl at C1;rw[j] at C1;simp only[] at C1;by_cases he:er=0
   .subst he;simp only[if_true] at C1;obtain⟨hn,x⟩:=y.out.step hlt j;have v:=x.2.1;have m:=hid x;clear j x;go_wp2_with (first | (go_at_call 166;(with_reducible refine(C1.out _).mono ?_);rintro e w1 ⟨rfl,f⟩;have r:=hid (iP t.out.1 f);have b:=hid (aE z.out f);clear f) | (at_builtin;go_must (refine sN rfl _ _ 156 rfl w.heap.size 163 i0 _ 3 24 underlying156 C u A B rfl b_ w1 u5 ts.length (mS ts) rfl r.out #[k,a,((a+n:Nat):Int)] rfl rfl B_ a_ b_ b.out.size ?_);intro v1 w2 i hsz1 g hkeep1 hne1));go_roundw
    case rel=>exact⟨a+n,ts++ [⟨k,a,a+n⟩],t_,v,m.out.1,⟨fV.snoc i,λh=>absurd h e_⟩,b.out.trans g,m⟩
    case measure=>simp[RowKit.intOf];omega
   .have teb:(er==0)=false:=aI.2 he;have tnb:(er !=0)=true:=eN.2 he;obtain⟨D,h2⟩:=y.out.err hlt j he;have H:=hid D;obtain⟨kd,o⟩: ∃kd:Int,(if(l.drop a).head?=some 34 then(8:Int) else 0)=kd:=⟨_,rfl⟩;simp only[if_neg he,o] at C1;clear j D o;go_wp2_with (go_at_call 166;(with_reducible refine(C1.out _).mono ?_);rintro e w1 ⟨rfl,f⟩;have r:=hid (iP t.out.1 f);have b:=hid (aE z.out f);clear f);go_ret3;rw[s.out _ _ _ H.out];exact⟨_,rfl,World.ownsRow_nil _ _ _ _,λ_=>rfl,b.out⟩
  .obtain rfl:a=l.length:=a_;have F:=hid (y.out.fin);go_wp2;go_ret3;rw[q.out _ F.out];exact⟨_,rfl,t.out.1,t.out.2,z.out⟩
end Go.Proofs.YtfhjncbdgjlcoaaGreatDoor
