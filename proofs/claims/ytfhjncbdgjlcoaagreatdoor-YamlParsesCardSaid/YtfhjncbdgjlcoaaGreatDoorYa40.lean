import Derived.Test.YtfhjncbdgjlcoaaGreatDoorYa9
import Derived.Test.YtfhjncbdgjlcoaaGreatDoorYa26
import Derived.Test.YtfhjncbdgjlcoaaGreatDoorYa12
set_option maxRecDepth 100000
set_option maxHeartbeats 8000000
set_option linter.unusedVariables false
set_option linter.unusedSimpArgs false
namespace Go.Proofs.YtfhjncbdgjlcoaaGreatDoor
open Go.RowKit
open Go.Lib hiding intOf
theorem Gq (c:UInt8) (A:List UInt8) (w:World) (hA:A.length<=1024):
  Calls Tryz.prog 196 #[.int .u8 (c.toNat:Int),bs A] w λe w'=>e= .returned (.bool (A.contains c))/\w=w':=by
 have sA:=aM A;obtain⟨R,hR⟩:=exQ<|A.contains c;rw[hR];have HR:=hid hR;clear hR;obtain⟨n,hn⟩: ∃n:Int,(c.toNat:Int)=n:=⟨_,rfl⟩;have HN:=hid hn;rw[hn];clear hn;go_enter Tryz.func196,Tryz.ntmps196;go_wp2_with fail;go_loop [5] (λs5=> ∃k:Nat,s5= .int .i64 k/\k<=A.length/\Hid (∀j,j<k->A[j]?≠some c)) (λs5=>A.length-(RowKit.intOf s5).toNat)
 case atStart=>exact⟨0,rfl,a_,hid (λj hj=>by omega)⟩
 case round=>
  obtain⟨k,rfl,hk,HK⟩:=hrel;by_cases hlt:k<A.length
  ·have t:k<(bs A).size:=a_;have hb:=cK A k t;have T1:=fU ((bs A)[k]'t) c _ rfl;rw[HN.out] at T1;by_cases he:(bs A)[k]'t=c
   ·have o:Hid (R=true):=hid (by rw[<-HR.out];exact List.contains_iff_mem.2 (bD (by rw[hb,he])));rw[show ((bs A)[k]'t==c)=true from beq_iff_eq.2 he] at T1;clear he hb HK;go_wp2_with fail;go_ret;exact⟨pL o.out.symm,rfl⟩
   ·have bN:Hid (∀j,j<k+1->A[j]?≠some c):=hid (λj hj=>by
     by_cases h:j<k
     ·exact HK.out j h
     ·obtain rfl:j=k:=a_;rw[hb];exact λh=>he (aV h))
    rw[show ((bs A)[k]'t==c)=false from aE.2 he] at T1;clear he hb HK;exact kz
  ·have o:Hid (R=false):=hid (by
    rw[<-HR.out];cases hc:A.contains c with
    | false=>rfl
    | true=>
     obtain⟨j,hj⟩:=List.getElem?_of_mem (List.contains_iff_mem.1 hc);exact absurd hj (HK.out j (by have:=(aR.1 hj).1;omega)))
   go_wp2_with fail;go_ret;exact⟨pL o.out.symm,rfl⟩
theorem Gr (l:List UInt8) (a:Nat) (A:List UInt8) (p:UInt8->Bool) (hp: ∀b,A.contains b=p b) (w:World) (hs:l.length<=1073741824) (ha:a<=l.length) (hA:A.length<=1024):
  Calls Tryz.prog 197 #[bs l,a,bs A] w λe w'=>e= .returned (.int .i64 ((a+cO p (l.drop a):Nat):Int))/\w=w':=r6
def Gs (u:List UInt8):Int:=if(bK u).2.2=0 then(bK u).1 else if u.head?=some 34 then 8 else 0
def yL (u:List UInt8) (a:Nat):Ending:= .returned (.tuple #[(Gs u),((a+(bK u).2.1:Nat):Int), .int .i64 (bK u).2.2])
theorem lZ {u:List UInt8}{a k n:Nat}{kd er:Int} (h:bK u=(k,n,er)) (hk:er=0->kd=k) (hk2:er≠0->kd=if u.head?=some 34 then 8 else 0) {p:Int} (hp:p=((a+n:Nat):Int)):Ending.returned (.tuple #[kd,p,er])=yL u a:=by
 unfold yL Gs;rw[h,hp];simp only[];by_cases he:er=0
 ·rw[if_pos he,hk he]
 ·rw[if_neg he,hk2 he]
theorem Oz (c:UInt8):([32,9,10,13]:List UInt8).contains c=jQ c:=by
 have: ∀n:Fin 256,([32,9,10,13]:List UInt8).contains (UInt8.ofNat n.val)=jQ (UInt8.ofNat n.val):=DQ
 exact bf
theorem aCe (c:UInt8):([45,48,49,50,51,52,53,54,55,56,57]:List UInt8).contains c=(c==45||dM c):=by
 have: ∀n:Fin 256,([45,48,49,50,51,52,53,54,55,56,57]:List UInt8).contains (UInt8.ofNat n.val)=((UInt8.ofNat n.val)==45||dM (UInt8.ofNat n.val)):=DQ
 exact bf
theorem aCf (c:UInt8):([45,43,46,48,49,50,51,52,53,54,55,56,57,101,69]:List UInt8).contains c=gX c:=by
 have: ∀n:Fin 256,([45,43,46,48,49,50,51,52,53,54,55,56,57,101,69]:List UInt8).contains (UInt8.ofNat n.val)=gX (UInt8.ofNat n.val):=DQ
 exact bf
theorem aCg (c:UInt8):([97,98,99,100,101,102,103,104,105,106,107,108,109,110,111,112,113,114,115,116,117,118,119,120,121,122]:List UInt8).contains c=gE c:=by
 have: ∀n:Fin 256,([97,98,99,100,101,102,103,104,105,106,107,108,109,110,111,112,113,114,115,116,117,118,119,120,121,122]:List UInt8).contains (UInt8.ofNat n.val)=gE (UInt8.ofNat n.val):=DQ
 exact bf
theorem aCh (c:UInt8):(kM c=some 0/\(c.toNat:Int)=123)\/(kM c=some 1/\(c.toNat:Int)=125)\/(kM c=some 2/\(c.toNat:Int)=91)\/(kM c=some 3/\(c.toNat:Int)=93)\/(kM c=some 4/\(c.toNat:Int)=44)\/(kM c=some 5/\(c.toNat:Int)=58)\/
  (kM c=none/\(c.toNat:Int)≠123/\(c.toNat:Int)≠125/\(c.toNat:Int)≠91/\(c.toNat:Int)≠93/\(c.toNat:Int)≠44/\(c.toNat:Int)≠58):=by
 unfold kM;have a: ∀d:UInt8,c≠d->(c.toNat:Int)≠(d.toNat:Int):=λd h e=>h (UInt8.toNat_inj.1 a_);by_cases h0:c=123
 ·left;subst h0;exact⟨rfl,rfl⟩
 by_cases h1:c=125
 ·right;left;subst h1;exact⟨rfl,rfl⟩
 by_cases h2:c=91
 ·right;right;left;subst h2;exact⟨rfl,rfl⟩
 by_cases h3:c=93
 ·right;right;right;left;subst h3;exact⟨rfl,rfl⟩
 by_cases h4:c=44
 ·right;right;right;right;left;subst h4;exact⟨rfl,rfl⟩
 by_cases h5:c=58
 ·right;right;right;right;right;left;subst h5;exact⟨rfl,rfl⟩
 ·right;right;right;right;right;right;rw[if_neg h0,if_neg h1,if_neg h2,if_neg h3,if_neg h4,if_neg h5];exact⟨rfl,a 123 h0,a 125 h1,a 91 h2,a 93 h3,a 44 h4,a 58 h5⟩
theorem aCi (l:List UInt8) (a:Nat) (w:World) (hs:l.length<=1048576) (ha:a<l.length):
  Calls Tryz.prog 166 #[bs l,a] w λe w'=>e=yL (l.drop a) a/\Below w.heap.size w w':=by
 have sl:=aM l;have j:=Jz l a ha;have p:=λw=>Kz l a w a_;obtain⟨EE,C⟩:=exQ<|kL l a;rw[C] at p j;obtain⟨ek,ee⟩:=EE;simp only[] at p j;have CE:=hid p;clear p;have q: ∀n,(bs l).extract a (a+n)=bs ((l.drop a).take n):=λn=>by rw[gL,aQ,Nat.add_sub_cancel_left]
 have R1:=hid (λw=>Gr l a [32,9,10,13] jQ Oz w a_ a_ b_);have R2:=hid (λw=>Gr l a [45,43,46,48,49,50,51,52,53,54,55,56,57,101,69] gX aCf w a_ a_ b_);have R3:=hid (λw=>Gr l a [97,98,99,100,101,102,103,104,105,106,107,108,109,110,111,112,113,114,115,116,117,118,119,120,121,122] gE aCg w a_ a_ b_);have G:a<(bs l).size:=a_
 have z:=cK l a G;obtain⟨u,E⟩:=exQ<|l.drop a;have L:u.length=l.length-a:=by rw[<-E,aU]
 obtain⟨c,I⟩: ∃c,u.head?=some c:=by cases u with | nil=>simp at L;omega | cons c r=>exact⟨c,rfl⟩
 have K:(((bs l)[a]'G).toNat:Int)=(c.toNat:Int):=by
  have W:l[a]?=some c:=by rw[<-I,<-E,List.head?_eq_getElem?,kR,Nat.add_zero]
  rw[W] at z;rw[<-aV z]
 rw[E] at j R1 R2 R3 ⊢;simp only[E] at q;have F:=Cj u;have P:=qJ jQ u;have J:=qJ gX u;have M:=qJ gE u;have d:=hid (Ka I);have A1:=hid (λw=>Gq c [32,9,10,13] w b_);have A2:=hid (λw=>Gq c [45,48,49,50,51,52,53,54,55,56,57] w b_);rw[Oz] at A1;rw[aCe] at A2;have D:=aCh c;have i:c=34↔(c.toNat:Int)=34:=⟨λh=>by rw[h];rfl,λh=>UInt8.toNat_inj.1 (by show c.toNat=34;omega)⟩;obtain⟨PR,s⟩:=exQ<|dP (u.take (cO gX u));have CP:=hid (λw=>Fs (u.take (cO gX u)) w (by rw[bT];omega));rw[s] at CP;have e1:=q (cO gX u);have e2:=q (cO gE u);obtain⟨nb,A⟩:=exQ<|cO jQ u;obtain⟨nn,x⟩:=exQ<|cO gX u;obtain⟨ns,y⟩:=exQ<|cO gE u;rw[A] at R1 P;rw[x] at R2 J CP e1 s;rw[y] at R3 M e2;have m:=hid (aK s (aK A (aK x (aK y (aK j F)))));obtain⟨n,T⟩: ∃n:Int,(c.toNat:Int)=n:=⟨_,rfl⟩;rw[show bs [32,9,10,13]=(⟨#[32,9,10,13]⟩:ByteArray) from rfl] at A1 R1;rw[show bs [45,48,49,50,51,52,53,54,55,56,57]=(⟨#[45,48,49,50,51,52,53,54,55,56,57]⟩:ByteArray) from rfl] at A2;rw[show bs [45,43,46,48,49,50,51,52,53,54,55,56,57,101,69]=(⟨#[45,43,46,48,49,50,51,52,53,54,55,56,57,101,69]⟩:ByteArray) from rfl] at R2;rw[show bs [97,98,99,100,101,102,103,104,105,106,107,108,109,110,111,112,113,114,115,116,117,118,119,120,121,122]=(⟨#[97,98,99,100,101,102,103,104,105,106,107,108,109,110,111,112,113,114,115,116,117,118,119,120,121,122]⟩:ByteArray) from rfl] at R3;rw[T] at A1 A2 D i K;have v:u.head?=some 34↔n=34:=by rw[I];exact⟨λh=>i.1 (aV h),λh=>by rw[i.2 h]⟩
 have f:=hid (aK i v);have hal:(a:Int)+1<=(l.length:Int):=a_
 clear z E I s A x y j F T i v C q;rcases D with⟨k,rfl⟩ | ⟨k,rfl⟩ | ⟨k,rfl⟩ | ⟨k,rfl⟩ | ⟨k,rfl⟩ | ⟨k,rfl⟩ | ⟨k,q0,q1,q2,q3,q4,q5⟩
 ·have g:Hid (bK u=(2,1,0)):=hid ET;clear k d m f CE CP R1 R2 R3 A1 A2;go_enter Tryz.func166,Tryz.ntmps166;go_wp2_with fail;refine wp_loop_rounds 1 ?_;exact ir
 ·have g:Hid (bK u=(3,1,0)):=hid ET;clear k d m f CE CP R1 R2 R3 A1 A2;go_enter Tryz.func166,Tryz.ntmps166;go_wp2_with fail;refine wp_loop_rounds 2 ?_;rw[rounds_succ];go_wp2_with fail;exact ir
 ·have B9:=trivial;exact u4
 ·have CZ:=trivial;exact u4
 ·have C9:=trivial;exact u4
 ·have DA:=trivial;exact u4
 ·have b:=d.out;rw[k] at b;have d:=hid b;clear k b;cases hbl:jQ c with
  | true=>exact r5
  | false=>
   have b:=d.out;rw[hbl] at b;simp only[if_false,Bool.false_eq_true] at b;have d:=hid b;clear b;rw[hbl] at A1;clear hbl;by_cases h34:n=34
   ·have g:Hid (Ending.returned (.tuple #[(8:Int),ek,ee])=yL u a):=hid (by
     have h:=d.out;rw[if_pos (f.out.1.2 h34)] at h;obtain⟨e1,e2⟩:=Prod.mk.inj m.out.2.2.2.2.1;have h0:=m.out.2.2.2.2.2;rw[e2];by_cases hz:(bV u 0).2.2=0
     ·rw[if_pos hz] at h;rw[hz];exact lZ h (λ_=>rfl) (λB=>absurd rfl B) a_
     ·rw[if_neg hz] at h;exact lZ h (λB=>absurd B hz) (λ_=>by rw[if_pos (f.out.2.2 h34)]) a_)
    subst h34;clear d m f CP R1 R2 R3 A2;go_enter Tryz.func166,Tryz.ntmps166;go_wp2_with fail;refine wp_loop_rounds 7 ?_;rw[rounds_succ];go_wp2_with fail;rw[rounds_succ];go_wp2_with fail;rw[rounds_succ];go_wp2_with fail;rw[rounds_succ];go_wp2_with fail;rw[rounds_succ];go_wp2_with fail;rw[rounds_succ];go_wp2_with fail;rw[rounds_succ];go_wp2_with (first | (go_at_call 196;(with_reducible refine(A1.out _).mono ?_);rintro e w' ⟨rfl,rfl⟩) | (go_at_call 100;(with_reducible refine(CE.out _).mono ?_);rintro e w' ⟨rfl,X⟩));go_ret3;exact⟨g.out,l_⟩
   have t:c≠34:=λh=>h34 (f.out.1.1 h);have q34:(n==34)=false:=aE.2 h34;have S:=hid (show ¬u.head?=some 34 from λh=>h34 (f.out.2.1 h));have b:=d.out;rw[if_neg t] at b;have d:=hid b;clear b t f CE h34;cases hd:(c==45||dM c) with
   | true=>
    rw[hd] at A2;have o:c=45\/dM c=true:=(by simpa using hd);have b:=d.out;rw[if_pos o,m.out.2.2.1,m.out.1] at b;obtain⟨N,pe⟩:=PR;simp only[oU,dV] at CP;simp only[] at b;have d:=hid b;clear m b hd o R1 R3;have O:a+nn<=l.length:=a_;have R:(a:Int)+(nn:Int)<=(l.length:Int):=a_;by_cases hz:pe=0
    ·have AA:=trivial;exact rz
    ·exact rz
   | false=>
    rw[hd] at A2;have o: ¬(c=45\/dM c=true):=(by simpa using hd);have b:=d.out;rw[if_neg o,m.out.2.2.2.1] at b;have d:=hid b;clear m b hd o R1 R2 CP e1;have O:a+ns<=l.length:=a_;have R:(a:Int)+(ns:Int)<=(l.length:Int):=a_;obtain⟨U,Q⟩:=exQ<|u.take ns;rw[Q] at e2;have b:=d.out;rw[Q] at b;have d:=hid b;clear b Q;have H:(bs U).toList=U:=C';have t1:((bs U).toList== [116,114,117,101])=(U== [116,114,117,101]):=(by rw[H]);have t2:((bs U).toList== [102,97,108,115,101])=(U== [102,97,108,115,101]):=(by rw[H]);have t3:((bs U).toList== [110,117,108,108])=(U== [110,117,108,108]):=(by rw[H]);clear H;have b:=d.out;unfold mC at b;clear d;by_cases u1:U= [116,114,117,101]
    ·have AB:=trivial;exact r5
    rw[if_neg u1] at b;rw[show (U== [116,114,117,101])=false from aE.2 u1] at t1;clear u1;by_cases u2:U= [102,97,108,115,101]
    ·have AC:=trivial;exact r5
    rw[if_neg u2] at b;rw[show (U== [102,97,108,115,101])=false from aE.2 u2] at t2;clear u2;by_cases u3:U= [110,117,108,108]
    ·have AD:=trivial;exact r5
    rw[if_neg u3] at b;rw[show (U== [110,117,108,108])=false from aE.2 u3] at t3;clear u3;have g:Hid (bK u=(0,0,2)):=hid (by rw[b];rfl);clear b;go_enter Tryz.func166,Tryz.ntmps166;go_wp2_with fail;refine wp_loop_rounds 7 ?_;rw[rounds_succ];go_wp2_with fail
    ·next h=>exact(q0 (eq_of_beq h)).elim
    rw[rounds_succ];go_wp2_with fail
    ·next h=>exact(q1 (eq_of_beq h)).elim
    rw[rounds_succ];go_wp2_with fail
    ·next h=>exact(q2 (eq_of_beq h)).elim
    rw[rounds_succ];go_wp2_with fail
    ·next h=>exact(q3 (eq_of_beq h)).elim
    rw[rounds_succ];go_wp2_with fail
    ·next h=>exact(q4 (eq_of_beq h)).elim
    rw[rounds_succ];go_wp2_with fail
    ·next h=>exact(q5 (eq_of_beq h)).elim
    rw[rounds_succ];go_wp2_with (first | (go_at_call 196;(first | (with_reducible refine(A1.out _).mono ?_) | (with_reducible refine(A2.out _).mono ?_));rintro e w' ⟨rfl,rfl⟩) | (go_at_call 197;(with_reducible refine(R3.out _).mono ?_);rintro e w' ⟨rfl,rfl⟩));go_ret3;exact⟨lZ g.out (λh=>absurd h b_) (λ_=>by rw[if_neg S.out]) a_,aB _ _⟩
theorem fG.snoc {B:Nat}{w:World}{v:Value}{ts:List aN}{t:aN} (h:w.ownsRow B 163 3 v (ts.length+1) (lS ts++ [.int .i64 t.kind, .int .i64 t.sf, .int .i64 t.st])):fG B w v (ts++ [t]):=by
 unfold fG;have e:lS (ts++ [t])=lS ts++ [.int .i64 t.kind, .int .i64 t.sf, .int .i64 t.st]:=by unfold lS;simp
 rw[e,aT];exact h
theorem Pa (l:List UInt8) (h:l.length<=65536):dH l=match (eG l.length l 0).2 with
  | none=>((eG l.length l 0).1,(l.length:Int),0)
  | some (p,e)=>([],(p:Int),e):=by unfold dH;rw[if_neg a_];rfl
theorem Pb (f:Nat) (l:List UInt8) (a:Nat) (ha:a<l.length):eG (f+1) (l.drop a) a=if(bK (l.drop a)).2.2=0 then(⟨(bK (l.drop a)).1,a,a+(bK (l.drop a)).2.1⟩::(eG f (l.drop (a+(bK (l.drop a)).2.1)) (a+(bK (l.drop a)).2.1)).1,(eG f (l.drop (a+(bK (l.drop a)).2.1)) (a+(bK (l.drop a)).2.1)).2) else([],some (a+(bK (l.drop a)).2.1,(bK (l.drop a)).2.2)):=by
 obtain⟨c,r,d⟩: ∃c r,l.drop a=c::r:=lh;have e:l.drop (a+(bK (l.drop a)).2.1)=(l.drop a).drop (bK (l.drop a)).2.1:=by rw[jJ]
 rw[e,d,tM]
def pK (l:List UInt8) (ts:List aN) (a:Nat):Prop:=ts.length<=a/\a<=l.length/\ ∃f,l.length<=a+f/\eG l.length l 0=(ts++(eG f (l.drop a) a).1,(eG f (l.drop a) a).2)
theorem pK.zero (l:List UInt8):pK l [] 0:=⟨aD _,dY _,l.length,a_,by rw[List.drop_zero,qM]⟩
theorem pK.step {l:List UInt8}{ts:List aN}{a k n:Nat} (h:pK l ts a) (ha:a<l.length) (hT:bK (l.drop a)=(k,n,0)):a<a+n/\pK l (ts++ [⟨k,a,a+n⟩]) (a+n):=by
 obtain⟨h1,h2,f,h3,d⟩:=h;obtain⟨g,rfl⟩: ∃g,f=g+1:=⟨f-1,a_⟩;have c:l.drop a≠ []:=λe=>by have:=congrArg List.length e;simp at this;omega
 have b:=vJ (l.drop a) c;rw[hT,aU] at b;simp only[] at b;have h0:=b.2 trivial;rw[Pb g l a ha,hT] at d;simp only[if_true] at d;refine⟨a_,by rw[aT];simp;omega,a_,g,a_,?_⟩;rw[d,mU,List.singleton_append]
theorem pK.err {l:List UInt8}{ts:List aN}{a k n:Nat}{er:Int} (h:pK l ts a) (ha:a<l.length) (hT:bK (l.drop a)=(k,n,er)) (he:er≠0):eG l.length l 0=(ts,some (a+n,er))/\a+n<=l.length:=by
 obtain⟨h1,h2,f,h3,d⟩:=h;obtain⟨g,rfl⟩: ∃g,f=g+1:=⟨f-1,a_⟩;have c:l.drop a≠ []:=λe=>by have:=congrArg List.length e;simp at this;omega
 have b:=(vJ (l.drop a) c).1;rw[hT,aU] at b;simp only[] at b;rw[Pb g l a ha,hT] at d;simp only[if_neg he,List.append_nil] at d;exact⟨d,a_⟩
theorem pK.fin {l:List UInt8}{ts:List aN} (h:pK l ts l.length):eG l.length l 0=(ts,none):=by
 obtain⟨h1,h2,f,h3,a⟩:=h;rw[List.drop_of_length_le (aD _),tN] at a;simpa using a
theorem aCj (l:List UInt8) (w:World) (hs:l.length<=140737488351232):
  Calls Tryz.prog 130 #[bs l] w (Kb (dH l) w):=by
 have sl:=aM l;by_cases hlong:65536<l.length
 ·have F:dH l=([],0,3):=by unfold dH;rw[if_pos hlong]
  rw[F];have d1:decide (65536<l.length)=true:=aO hlong;go_enter Tryz.func130,Tryz.ntmps130;go_wp2_with fail;go_ret3;exact⟨_,rfl,World.ownsRow_nil _ _ _ _,λ_=>rfl,aB _ _⟩
 have d1:decide (65536<l.length)=false:=aG hlong;have d: ∀ts,eG l.length l 0=(ts,none)->dH l=(ts,(l.length:Int),0):=λts h=>by rw[Pa l a_,h]
 have c: ∀ts p e,eG l.length l 0=(ts,some (p,e))->dH l=([],(p:Int),e):=λts p e h=>by rw[Pa l a_,h]
 have hl':l.length<=65536:=a_
 obtain⟨i0,u,B,v,x⟩:=info_parts Tryz.infoTok;have CO:=hid (λa w D=>aCi l a w a_ D);have q:=hid d;have m:=hid c;clear d c hlong;go_enter Tryz.func130,Tryz.ntmps130;go_wp2_with fail;go_loopw [5,6] (λs5 s6 wr=> ∃(a:Nat) (ts:List aN),s6= .int .i64 a/\a<=l.length/\ts.length<=a/\Hid (fG w.heap.size wr s5 ts/\(ts= []->s5= .slice none 0 0))/\Hid (Below w.heap.size w wr)/\Hid (pK l ts a)) (λ_ s6 _=>l.length-(RowKit.intOf s6).toNat)
 case atStart=>exact⟨0,[],rfl,a_,e_,⟨World.ownsRow_nil _ _ _ _,λ_=>rfl⟩,aB _ _,pK.zero l⟩
 case round=>
  obtain⟨a,ts,rfl,D,hts,t,A,z⟩:=hrel;by_cases hlt:a<l.length
  ·have C1:=hid (λw=>CO.out a w hlt);obtain⟨T,r⟩:=exQ<|bK (l.drop a);obtain⟨k,n,er⟩:=T;unfold yL Gs at C1;rw[r] at C1;simp only[] at C1;by_cases he:er=0
   ·subst he;simp only[if_true] at C1;obtain⟨hn,C⟩:=z.out.step hlt r;have y:=C.2.1;have j:=hid C;clear r C;go_wp2_with (first | (go_at_call 166;(with_reducible refine(C1.out _).mono ?_);rintro e w1 ⟨rfl,g⟩;have o:=hid (gH t.out.1 g);have b:=hid (aC A.out g);clear g) | (at_builtin;go_must (refine rM rfl _ _ 156 rfl w.heap.size 163 i0 _ 3 24 Tryz.underlying156 u B v x rfl b_ w1 u5 ts.length (lS ts) rfl o.out #[k,a,((a+n:Nat):Int)] rfl rfl A_ a_ b_ b.out.size ?_);intro v1 w2 i hsz1 f hkeep1 hne1));go_roundw
    case rel=>exact⟨a+n,ts++ [⟨k,a,a+n⟩],q_,y,j.out.1,⟨fG.snoc i,λh=>absurd h e_⟩,b.out.trans f,j⟩
    case measure=>simp[RowKit.intOf];omega
   ·have teb:(er==0)=false:=aE.2 he;have tnb:(er !=0)=true:=eF.2 he;obtain⟨E,h2⟩:=z.out.err hlt r he;have G:=hid E;obtain⟨kd,s⟩: ∃kd:Int,(if(l.drop a).head?=some 34 then(8:Int) else 0)=kd:=⟨_,rfl⟩;simp only[if_neg he,s] at C1;clear r E s;go_wp2_with (go_at_call 166;(with_reducible refine(C1.out _).mono ?_);rintro e w1 ⟨rfl,g⟩;have o:=hid (gH t.out.1 g);have b:=hid (aC A.out g);clear g);go_ret3;rw[m.out _ _ _ G.out];exact⟨_,rfl,World.ownsRow_nil _ _ _ _,λ_=>rfl,b.out⟩
  ·obtain rfl:a=l.length:=a_;have H:=hid (z.out.fin);go_wp2_with fail;go_ret3;rw[q.out _ H.out];exact⟨_,rfl,t.out.1,t.out.2,A.out⟩
end Go.Proofs.YtfhjncbdgjlcoaaGreatDoor
