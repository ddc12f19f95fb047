import Derived.Test.YtaifnmjjpddikaaGreatDoorRl18
import Derived.Test.YtaifnmjjpddikaaGreatDoorRl11
import Derived.Test.YtaifnmjjpddikaaGreatDoorRl13
import Derived.Test.YtaifnmjjpddikaaGreatDoorRl1
import Derived.Lib.Builder
import Derived.Lib.AppendStr
import Derived.Lib.UnsafeStr
import Derived.Lib.FrozenHead
import Derived.Lib.FrozenHead2
import Derived.Lib.OthersKept
import Derived.Laws.Externs
import Derived.Shelf.RegionOpenPlain
import Derived.RegionTactic
import Derived.KernelRfl
import Derived.Test.YtaifnmjjpddikaaGreatDoorRl12
import Derived.Test.YtaifnmjjpddikaaGreatDoorRl4
import Derived.Test.YtaifnmjjpddikaaGreatDoorRl14
set_option maxRecDepth 100000
set_option maxHeartbeats 4000000
namespace Go.Proofs.YtaifnmjjpddikaaGreatDoor
set_option linter.unusedVariables false
set_option linter.unusedSimpArgs false
section
open Go.RowKit
open Go.Lib hiding intOf
theorem Yq (s:aA) (x:Nat×Nat):dG s (x.1:Int) (x.2:Int)=bV s x:=rfl
theorem Md (t:aA):(Lib.trimLeftB t 32).length=t.length-bI t:=by
 have h:Lib.trimLeftB t 32=t.drop (bI t):=by
  refine Lib.trimLeftB_drop t 32 (bI t) (nV t) (λj b c a=>?_) (λb a=>?_)
  ·have:=wN t j c;rw[a] at this;exact bD this
  ·intro e;subst e;exact yR t a
 rw[h,bB]
theorem Yr (t:aA) (w:World): ∃r:aA,r.length=t.length-bI t/\Calls Tryz.prog 94 #[.string (bs t), .string ⟨#[32]⟩] w λe w'=>e= .returned (.string (bs r))/\w=w':=by
 refine⟨Lib.trimLeftB t 32,Md t,?_⟩;have h:=Tryz.strings_TrimLeft_one (bs t) 32 (by decide) w;rw[aZ] at h;exact h.mono λ_ _ ⟨a,b⟩=>⟨a,b.symm⟩
section
variable {Pr:aL}{w0:World}{P:Nat}{txt:aA}{sp:List (Nat×Nat)}{st:YS}{a0 e0:Int}
theorem Me (k:Nat) (x:Nat×Nat) (w:World) (h:YJ YP Pr w0 P txt sp st a0 e0 w) (hx:sp[k]?=some x) (hsp:dH txt sp) (hs:txt.length<=65536):
  Calls Tryz.prog 203 #[.pointer (some ⟨P,0,none⟩), .int .i64 (k:Int)] w λe w'=>e= .returned (.tuple #[.int .i64 (bI (bV txt x):Int), .bool (decide (bI (bV txt x)=(bV txt x).length))])/\Below w.heap.size w w':=by
 obtain⟨x1,x2⟩:=hsp x (aX hx);have hk:=(aR.1 hx).1;obtain⟨t,j⟩:=exQ<|bV txt x;have d:=Dj x1 x2;have i:=nV t;rw[j] at d ⊢;have CB:Hid (∀w',Below w.heap.size w w'->Calls Tryz.prog 108 #[.pointer (some ⟨P,0,none⟩), .agg #[.int .i64 (x.1:Int), .int .i64 (x.2:Int)]] w' λe w2=>e= .returned (.string (bs t))/\Below w'.heap.size w' w2):=hid (λw' n=>by have:=zJ (x.1:Int) (x.2:Int) w' (h.keep n) (by omega) (by omega) (by omega) (by omega);rw[Yq,j] at this;exact this);obtain⟨z,sv,lv,nv,_,f⟩:=h;obtain⟨gs,cs,rfl,l,s0,s1⟩:=f.spanAt hx;obtain⟨⟨_,c1,_⟩,_⟩:=f.cells;have hPl:=f.lt;have st:=aT t;have hk0:(0:Int)<=(k:Int):=by omega
 have hk1:(k:Int)<(sp.length:Int):=by omega
 have htl2:t.length<=65536:=by omega
 obtain⟨nb,a⟩:=exQ<|bI t;rw[a] at i ⊢;have CT:Hid (∀w,∃r:aA,r.length=t.length-nb/\Calls Tryz.prog 94 #[.string (bs t), .string ⟨#[32]⟩] w λe w'=>e= .returned (.string (bs r))/\w=w'):=hid (λw=>by rw[<-a];exact Yr t w);clear f hx hsp j d a x1 x2 hs l;go_enter Tryz.func203,Tryz.ntmps203;go_wp2_with fail;refine(CB.out _ (by first | exact aB _ _ | exact(aB _ _).drew)).mono ?_;rintro e w2 ⟨rfl,b⟩;have g:=hid (show Below w.heap.size w w2 from by first | exact b | exact aC (aB _ _).drew b);clear b;obtain⟨r,m,c⟩:=CT.out w2;have sr:=aT r;have CR:=hid c;clear c;go_wp2_with fail;refine CR.out.mono ?_;rintro e w3 ⟨rfl,rfl⟩;have e1:(t.length:Int)-(r.length:Int)=(nb:Int):=by omega
 have hwr:IntKind.i64.wrap ((t.length:Int)-(r.length:Int))=(nb:Int):=by rw[e1,IntKind.wrap_i64];omega
 clear m;go_wp2_with fail;go_ret2;refine⟨?_,g.out⟩;simp[e1];rw[Bool.eq_iff_iff,beq_iff_eq,kQ];omega
end
def wW (r n:Int):Bool:=!(r==65533&&n==1)&&(r==9||(decide (32<=r)&&r !=127))
theorem Ys (d:Nat×Nat):zB d=!wW (d.1:Int) (d.2:Int):=by
 unfold zB wW;have a:((d.1:Int)==65533)=(d.1==65533):=by rw[Bool.eq_iff_iff,beq_iff_eq,beq_iff_eq];omega
 have c:((d.2:Int)==1)=(d.2==1):=by rw[Bool.eq_iff_iff,beq_iff_eq,beq_iff_eq];omega
 have f:((d.1:Int)==9)=(d.1==9):=by rw[Bool.eq_iff_iff,beq_iff_eq,beq_iff_eq];omega
 have b:decide ((32:Int)<=(d.1:Int))=decide (32<=d.1):=by rw[Bool.eq_iff_iff,kQ,kQ];omega
 have e:((d.1:Int) !=127)=(d.1 !=127):=by rw[Bool.eq_iff_iff,gD,gD];omega
 rw[a,c,f,b,e];cases (d.1==65533&&d.2==1)<;>cases (d.1==9||decide (32<=d.1)&&d.1 !=127)<;>rfl
theorem Yt (r n:Int) (w:World):Calls Tryz.prog 205 #[.int .i32 r, .int .i64 n] w λe w'=>e= .returned (.bool (wW r n))/\w=w':=by
 unfold wW;by_cases h1:r=65533
 ·subst h1;by_cases h2:n=1
  ·subst h2;go_enter Tryz.func205,Tryz.ntmps205;go_wp2_with fail;go_ret;exact⟨rfl,rfl⟩
  ·have d2:(n==1)=false:=aK.2 h2;rw[d2];clear h2;go_enter Tryz.func205,Tryz.ntmps205;go_wp2_with fail;go_ret;exact⟨rfl,rfl⟩
 ·have d1:(r==65533)=false:=aK.2 h1;rw[d1];clear h1;by_cases h3:r=9
  ·subst h3;go_enter Tryz.func205,Tryz.ntmps205;go_wp2_with fail;go_ret;exact⟨rfl,rfl⟩
  ·have d3:(r==9)=false:=aK.2 h3;rw[d3];clear h3;by_cases h4:32<=r
   ·have d4:decide (32<=r)=true:=aM h4;rw[d4];clear h4;by_cases h5:r=127
    ·subst h5;go_enter Tryz.func205,Tryz.ntmps205;go_wp2_with fail;go_ret;exact⟨rfl,rfl⟩
    ·have d5:(r !=127)=true:=gD.2 h5;rw[d5];clear h5;go_enter Tryz.func205,Tryz.ntmps205;go_wp2_with fail;go_ret;exact⟨rfl,rfl⟩
   ·have d4:decide (32<=r)=false:=aH h4;rw[d4];clear h4;go_enter Tryz.func205,Tryz.ntmps205;go_wp2_with fail;go_ret;exact⟨rfl,rfl⟩
theorem Yu (l:aA) (i:Nat):decodeL (l.drop i)=((Utf8.decode (bs l) i).1,(Utf8.decode (bs l) i).2):=by
 have a:=oN (bs l) i;rw[aZ] at a;exact a
theorem Yv (l:aA) (i:Nat) (w:World) (hi:i<l.length) (hs:l.length<=1073741824) (hT:bZ w):
  Calls Tryz.prog 204 #[.string (bs l), .int .i64 (i:Int)] w λe w'=>e= .returned (.tuple #[.int .i32 ((decodeL (l.drop i)).1:Int), .int .i64 ((decodeL (l.drop i)).2:Int)])/\Below w.heap.size w w':=by
 rw[Yu];have sl:=aT l;have CD:=hid (λw=>Cn l i w hi);have b:=hid hT;have hi1:(i:Int)<(l.length:Int):=by omega
 clear hT;go_enter Tryz.func204,Tryz.ntmps204;go_wp2_with (go_at_call 111;refine(CD.out _ b.out).mono ?_;rintro e w' ⟨rfl,a⟩);go_ret2;exact⟨rfl,a⟩
def tK (x:Nat×Nat) (nb:Nat):aP:=⟨6,x.1,x.2,nb,0,0,0,0,0,0⟩
theorem Yw (s:aA) (x:Nat×Nat):tK x (bI (bV s x))=lP s x:=rfl
def Ds (Pr:aL) (w0:World) (P:Nat) (txt:aA) (sp:List (Nat×Nat)) (st:YS) (x:Nat×Nat) (e:Ending) (w':World):Prop:=
 (nC txt x<x.2/\e= .returned (.bool false)/\gB YP Pr w0 P txt sp (nC txt x:Int) 2 w')\/(¬nC txt x<x.2/\e= .returned (.bool true)/\YJ YP Pr w0 P txt sp ⟨st.lines++ [lP txt x],st.nodes,st.total⟩ 0 0 w')
theorem Yx (s:aA) (e:Nat) (f i:Nat) (h:e<=i):qP s e f i=i:=by
 cases f with
 | zero=>rfl
 | succ f=>unfold qP;rw[if_pos h]
theorem Yy {Pr:aL}{w0:World}{P:Nat}{txt:aA}{sp:List (Nat×Nat)}{st:YS} (q:Nat) (x:Nat×Nat) (w:World) (h:YJ YP Pr w0 P txt sp st 0 0 w) (hx:sp[q]?=some x) (hsp:dH txt sp) (hl:st.lines.length<=sp.length) (hs:txt.length<=65536) (hn:sp.length<=131072) (hV:bU w0):
  Calls Tryz.prog 183 #[.pointer (some ⟨P,0,none⟩), .int .i64 (q:Int)] w (Ds Pr w0 P txt sp st x):=by
 obtain⟨x1,x2⟩:=hsp x (aX hx);have hq:=(aR.1 hx).1;obtain⟨i0,aS,aW,aP,aG⟩:=info_parts Tryz.infoLine;have aY:=hid hsp;have HX:=hid hx;obtain⟨k,hk⟩:=exQ<|st.lines.length;rw[hk] at hl;have ag:=hid hk;have HJ:=hid h;have HV:Hid (∀w',Below w.heap.size w w'->bZ w'):=hid (λw' hb=>((hV.keep h.bel).keep hb).tabs);have b0:=aI w (.cells #[.int .i64 (x.1:Int), .int .i64 (x.2:Int)] 59);obtain⟨M,p⟩:=exQ<|nC txt x;unfold Ds;rw[p];have HM:Hid (qP txt x.2 (x.2-x.1) x.1=M):=hid p;obtain⟨z,sv,lv,nv,J,K⟩:=h;obtain⟨gs,cs,rfl,ai,s0,s1⟩:=K.spanAt hx;obtain⟨⟨_,c1,_⟩,_⟩:=K.cells;have aZ:=K.lt;have hq0:(0:Int)<=(q:Int):=by omega
 have hq1:(q:Int)<(sp.length:Int):=by omega
 have sl:=aT txt;have B:=heap_alloc_new w (.cells #[.int .i64 (x.1:Int), .int .i64 (x.2:Int)] 59);obtain⟨X,ah⟩:=exQ<|w.heap.size;have HXe:=hid ah;clear K J hx hsp hk hV p ai;go_enter Tryz.func183,Tryz.ntmps183;go_upto_region 2 with fail;have A:=HJ.out.put b0 (aE _) B;have u: ∀k o,Pr k=some o->(Pr.put w.heap.size (.cells #[.int .i64 (x.1:Int), .int .i64 (x.2:Int)] 59)) k=some o:=aL.put_less (λk o hk=>HJ.out.frLt k o hk) (aE _);obtain⟨W1,af⟩:=exQ<|w.alloc (.cells #[.int .i64 (x.1:Int), .int .i64 (x.2:Int)] 59);rw[af] at A b0 B;rw[ah] at A u B;rw[af];have aQ:=hid A;have HX1:=hid B;have E:=hid u;have av:=hid b0;obtain⟨y0,y1⟩:=rI B;clear A u B b0 af ah s0 s1 c1 HJ;go_wp2_with fail;go_loopw [6] (λs6 wr=> ∃(i f:Nat),s6= .int .i64 (i:Int)/\i<=65536/\Hid (x.2<=i+f/\qP txt x.2 f i=M)/\Hid (Below W1.heap.size W1 wr)) (λs6 _=>x.2-(RowKit.intOf s6).toNat)
 case atStart=>exact⟨x.1,x.2-x.1,rfl,by omega,hid ⟨by omega,HM.out⟩,hid (aB _ _)⟩
 case round=>
  obtain⟨i,f,rfl,Q,HF,ad⟩:=hrel;have C:=hid (aQ.out.keep ad.out);have ao:=hid (C.out.at_ (aL.put_eq _ _ _));obtain⟨y0,y1⟩:=rI ao.out;obtain⟨z,sv,lvv,nv,J,K⟩:=C.out;obtain⟨⟨c0,c1,c2,_⟩,_⟩:=K.cells;have aZ:=K.lt;have hXl:=aF ao.out;have hii:(0:Int)<=(i:Int):=by omega
  by_cases hix:i<x.2
  ·have d1:decide ((i:Int)<(x.2:Int))=true:=aM (by omega);have d1n:decide (i<x.2)=true:=aM hix;have az:i<txt.length:=(by omega);have CN:Hid (∀w',Below wr.heap.size wr w'->Calls Tryz.prog 204 #[.string (bs txt), .int .i64 (i:Int)] w' λe w2=>e= .returned (.tuple #[.int .i32 ((decodeL (txt.drop i)).1:Int), .int .i64 ((decodeL (txt.drop i)).2:Int)])/\Below w'.heap.size w' w2):=hid (λw' hb=>Yv txt i w' az (by omega) (HV.out w' (av.out.trans ((aC ad.out hb).mono av.out.size))));have ab:txt.drop i≠ []:=λe=>by have:=congrArg List.length e;rw[bB] at this;simp at this;omega
   have V:=decodeL_le (txt.drop i) ab;have Z:1<=(decodeL (txt.drop i)).2:=by
    cases hd:txt.drop i with
    | nil=>exact absurd hd ab
    | cons c t=>exact decodeL_width (c::t)
   rw[bB] at V;obtain⟨g,hg⟩: ∃g,f=g+1:=⟨f-1,by have:=HF.out.1;omega⟩;subst hg;have p:=HF.out.2;have aJ:=HF.out.1;unfold qP at p;rw[if_neg (by omega)] at p;obtain⟨d,hd⟩:=exQ<|decodeL (txt.drop i);rw[hd] at CN V Z p;obtain⟨r,n⟩:=d;rw[Ys] at p;simp only[] at CN V Z p;have CM:=hid (λw=>Yt (r:Int) (n:Int) w);obtain⟨m,hm⟩:=exQ<|wW (r:Int) (n:Int);rw[hm] at CM p;clear hd hm ab HF K J;cases m with
   | false=>
    rw[if_pos (by rfl)] at p;have L:=hid p;have aD:=hid hix;have CF:=hid (λw' Y=>pQ (Pr:=Pr.put X (.cells #[.int .i64 (x.1:Int), .int .i64 (x.2:Int)] 59)) (w0:=w0) (P:=P) (txt:=txt) (sp:=sp) (st:=st) (a0:=0) (e0:=0) (i:Int) 2 w' Y);clear p hix;go_wp2_with fail;refine(CN.out _ (by first | exact aB _ _ | exact(aB _ _).drew)).mono ?_;rintro e w2 ⟨rfl,l⟩;have U:=hid (C.out.keep (by first | exact l | exact aC (aB _ _).drew l));clear l;go_wp2_with fail;refine(CM.out _).mono ?_;rintro e w3 ⟨rfl,rfl⟩;go_wp2_with fail;refine(CF.out _ (by first | exact U.out | exact U.out.keep (aB _ _).drew)).mono ?_;rintro e w4 ⟨rfl,Y⟩;have aj:=hid (Y.less E.out).bad;clear Y;go_wp2_with fail;go_ret;exact .inl ⟨by rw[<-L.out];exact aD.out,rfl,by rw[<-L.out];exact aj.out⟩
   | true=>
    rw[if_neg (by simp)] at p;have L:=hid p;obtain⟨i1,am⟩:=exQ<|i+n;have aN:=hid am;have an:(i:Int)+(n:Int)=(i1:Int):=(by omega);have hlt1:i<i1:=(by omega);have ap:i1<=65536:=(by omega);have aq:x.2<=i1+g:=(by omega);have HG:=hid aq;clear p am aq aJ V;go_wp2_with fail;refine(CN.out _ (by first | exact aB _ _ | exact(aB _ _).drew)).mono ?_;rintro e w2 ⟨rfl,l⟩;have aV:=hid (aC ad.out (by first | exact l | exact aC (aB _ _).drew l));clear l;go_wp2_with fail;refine(CM.out _).mono ?_;rintro e w3 ⟨rfl,rfl⟩;go_wp2_with fail;go_roundw
    ·exact⟨i1,g,by first | rfl | rw[<-an],ap,hid ⟨HG.out,by rw[<-aN.out];exact L.out⟩,aV⟩
    ·(try simp only[RowKit.intOf]);omega
  ·have d1:decide ((i:Int)<(x.2:Int))=false:=aH (by omega);have d1n:decide (i<x.2)=false:=aH hix;have p:=HF.out.2;rw[Yx _ _ _ _ (by omega)] at p;have a2:=hid (show ¬M<x.2 by omega);have CB:=hid (λw' Y=>Me (Pr:=Pr.put X (.cells #[.int .i64 (x.1:Int), .int .i64 (x.2:Int)] 59)) (w0:=w0) (P:=P) (txt:=txt) (sp:=sp) (st:=st) (a0:=0) (e0:=0) q x w' Y HX.out aY.out hs);obtain⟨nb,ae⟩:=exQ<|bI (bV txt x);obtain⟨bb,ar⟩:=exQ<|decide (bI (bV txt x)=(bV txt x).length);rw[ar,ae] at CB;have a3:=hid ae;clear p hix ae ar HF K J;go_wp2_with fail;refine(CB.out _ (by first | exact C.out | exact C.out.keep (aB _ _).drew)).mono ?_;rintro e w2 ⟨rfl,l⟩;have U:=hid (C.out.keep (by first | exact l | exact aC (aB _ _).drew l));clear l y0 y1 c0 c1 c2;go_upto_region 9 with fail;obtain⟨W2,O⟩:=exQ<|w2.drew;obtain⟨z,sv,lvv,nv,J,s⟩:=U.out.keep (aB _ w2).drew;rw[O] at s;obtain⟨pl,cl,rfl⟩:=s.lnSlice;rw[ag.out] at s;have HZ:=hid J;have ak:=hid s;have I:=s.lnr;rw[ag.out] at I;have W:=hid I;have a1:=hid s.bel.size;obtain⟨SB,T⟩: ∃S:World->Prop,(λw'=>(w'.cell? ⟨P,2,none⟩=some (.slice pl k cl)/\w'.frozen? ⟨P,2,none⟩=false)/\w'.cell? ⟨X,0,none⟩=some (.int .i64 (x.1:Int))/\w'.cell? ⟨X,1,none⟩=some (.int .i64 (x.2:Int)))=S:=⟨_,rfl⟩;have R:Hid (∀q c w',q<3->cS 121 w0.heap.size (.slice pl k cl) k (jB st.lines) (lineA (tK x nb)) P 2 W2 q c w'->SB w'):=hid (λq c w' hq hp=>by rw[<-T];have hs:=ak.out.seenA W.out (by decide) (λj o Y=>(ak.out.fr j o Y).2.2.1) hq hp;obtain⟨c2,f2⟩:=hs.c2;obtain⟨b0,b1⟩:=rI (hs.fr X _ (aL.put_eq _ _ _));exact⟨⟨c2,f2⟩,b0,b1⟩);clear s I J;have au:Tryz.prog.follows .mixedOrders=true:=(by kernel_rfl);refine lD au [some 49,some 50,some 51,some 52,some 53,some 54,some 55,some 56,some 57,some 58,some 59,some 60,none] [49,50,51,52,53,54,55,56,57,58,59,60] [8,9,12] 1000000 (λ_ _=>True) 61 rfl (by kernel_rfl) (by kernel_rfl) (by kernel_rfl) (λiz=>match iz with | 0=> .pointer (some ⟨P,0,none⟩) | 1=> .pointer (some ⟨P,0,none⟩) | 2=> .pointer (some ⟨P,0,none⟩) | 3=> .pointer (some ⟨P,2,none⟩) | 4=> .slice pl k cl | 5=> .agg #[.int .i64 (x.1:Int), .int .i64 (x.2:Int)] | 6=> .int .i64 (nb:Int) | 7=> .agg #[.int .i64 6, .int .i64 (x.1:Int), .int .i64 (x.2:Int), .int .i64 (nb:Int), .int .i64 0, .int .i64 0, .int .i64 0, .int .i64 0, .int .i64 0, .int .i64 0] | 10=> .pointer (some ⟨P,0,none⟩) | 11=> .pointer (some ⟨P,2,none⟩) | _=>undef) SB (cS 121 w0.heap.size (.slice pl k cl) k (jB st.lines) (lineA (tK x nb)) P 2 W2) (by rw[O];exact R.out 0 undef _ (by decide) (aB _ _)) (by rw[O];exact aB _ _) ?_ ?_
   ·intro d a w' iq o' ho Q b N y R' hR;have aK:iq<13:=(cJ.1 ho).1;have q0:a.tmps[0]?.getD undef= .pointer (some ⟨P,0,none⟩):=bA N 0 (by decide);have q5:a.tmps[5]?.getD undef= .pointer (some ⟨X,0,none⟩):=bA N 5 (by decide);have q9:a.tmps[9]?.getD undef= .int .i64 (nb:Int):=bA N 9 (by decide);have hc:=y.all [(0,49),(1,50),(2,51),(3,52),(4,53),(5,54),(6,55),(7,56),(10,59),(11,60)] (by decide);dsimp only[fC] at hc;clear N;have ha:=b;have D:=ho;have ai:iq=8\/iq=9\/iq=12\/iq=0\/iq=1\/iq=2\/iq=3\/iq=6\/iq=7\/iq=10\/iq=11\/iq=4\/iq=5:=(by omega);clear aK;rcases ai with rfl|rfl|rfl|rfl|rfl|rfl|rfl|rfl|rfl|rfl|rfl|rfl|rfl<;>simp only[eC,dV,cH,cN] at ho<;>subst ho<;>(try simp[Region.binds] at b)
    ·have c56:=y.g 7 56 rfl (by decide) (by decide) (by decide) (by simp[b]);have F:=y.at2 (j:=0) rfl Q (.inl rfl);have hA:Below W2.heap.size W2 w':=F;go_simp;exact hR _ _ (y.eff2 (by kernel_rfl) (by decide) 0 D ha rfl Q (.inl rfl) rfl (by decide) (λ_ _ _=>trivial) (λ_=>R.out 1 _ _ (by decide) ⟨w',hA,rfl,rfl⟩) ⟨w',hA,rfl,rfl⟩)
    ·have c53:=y.g 4 53 rfl (by decide) (by decide) (by decide) (by simp[b]);have H:d 8=true:=(by simp[b]);have F:=y.at2 (j:=1) rfl Q (.inr ⟨8,rfl,H⟩);have ca':a.tmps.getD 53 undef= .slice pl k cl:=by rw[aO];exact c53
     exact cS.app rfl (.tmp 53) (.tmp 57) 33 rfl Tryz.underlying33 aS aW aP aG rfl (by decide) rfl (Lw (tK x nb)) W.out (by omega) (by decide) a1.out F ca' rfl (λv' w2 hp=>hR _ _ (y.eff2 (by kernel_rfl) (by decide) 1 D ha rfl Q (.inr ⟨8,rfl,H⟩) rfl (by decide) (λ_ _ _=>trivial) (λ_=>R.out 2 _ _ (by decide) hp) hp))
    ·have c60:=y.g 11 60 rfl (by decide) (by decide) (by decide) (by simp[b]);have H:d 9=true:=(by simp[b]);have F:=y.at2 (j:=2) rfl Q (.inr ⟨9,rfl,H⟩);have G:=y.st Q;rw[<-T] at G;obtain⟨⟨p2,p2f⟩,b0,b1⟩:=G;have aa:cS 121 w0.heap.size (.slice pl k cl) k (jB st.lines) (lineA (tK x nb)) P 2 W2 2 (a.tmps.getD 58 undef) w':=F;obtain⟨gz,cz,J⟩:=aa.form;rw[J] at aa;have c58:a.tmps[58]?.getD undef= .slice (some ⟨gz,0,none⟩) (k+1) cz:=by rw[<-aO];exact J
     go_simp;exact hR undef _ (y.eff2 (by kernel_rfl) (by decide) 2 D ha rfl Q (.inr ⟨9,rfl,H⟩) rfl (by decide) (λ_ _ _=>trivial) (λh=>absurd rfl h) ⟨_,_,aa,rfl⟩)
    iterate 8 (go_simp;exact hR _ _ (y.pure (by kernel_rfl) D ha rfl (by decide) (by decide) (by decide) rfl))
    all_goals
     have G:=y.early (f:=13) (by kernel_rfl) Q;rw[<-T] at G;obtain⟨⟨p2,p2f⟩,b0,b1⟩:=G;go_simp;exact hR _ _ (y.pure (by kernel_rfl) D ha rfl (by decide) (by decide) (by decide) rfl)
   intro v wy aU ax;obtain⟨cz,ay⟩: ∃c,cS 121 w0.heap.size (.slice pl k cl) st.lines.length (jB st.lines) (lineA (tK x nb)) P 2 W2 3 c wy:=⟨_,by rw[ag.out];exact ax⟩;obtain⟨lv',aw⟩:=ak.out.lineA ay;have al:=aw.less E.out;rw[show tK x nb=lP txt x by rw[<-Yw txt x,a3.out]] at al;have aj:=hid al;clear ax aw al ay aU R T O;simp only[cC,eJ,dO,eK];go_wp2_with fail;go_ret;exact .inr ⟨a2.out,rfl,z,_,_,_,HZ.out,aj.out⟩
theorem Yz {Pr:aL}{w0:World}{P:Nat}{txt:aA}{sp:List (Nat×Nat)}{st:YS} (k:Nat) (ind:Int) (w:World) (h:YJ YP Pr w0 P txt sp st 0 0 w) (hk:k<st.lines.length) (hl:st.lines.length<=sp.length) (hi:(aU st.lines k).ind=ind) (hsp:dH txt sp) (hs:txt.length<=65536) (hn:sp.length<=131072):
  Calls Tryz.prog 182 #[.pointer (some ⟨P,0,none⟩), .int .i64 (k:Int)] w λe w'=>e= .returned (.int .i64 (gL txt sp ind k:Int))/\Below w.heap.size w w':=by
 obtain⟨R,N⟩:=exQ<|gL txt sp ind k;rw[N];unfold gL at N;have T:=hid N;have Y:=hid h;have F:=hid hsp;have J:k+1<=sp.length:=by omega
 have B:=pP hk;obtain⟨r,U⟩:=exQ<|aU st.lines k;rw[U] at B hi;have D:=hid B;have Q:r.ind=ind:=hi;obtain⟨n,A⟩:=exQ<|st.lines.length;rw[A] at hk hl;have X:=hid A;obtain⟨k1,L⟩:=exQ<|k+1;rw[L] at T J;have s:(k:Int)+1=(k1:Int):=by omega
 have hk0:(0:Int)<=(k:Int):=by omega
 have hkn:(k:Int)<(n:Int):=by omega
 clear h N hsp B U hi A L hk;go_enter Tryz.func182,Tryz.ntmps182;go_wp2_with fail;go_loopw [5,6,7] (λs5 s6 s7 wr=> ∃(til first i:Nat),s5= .int .i64 (til:Int)/\s6= .int .i64 (first:Int)/\s7= .int .i64 (i:Int)/\i<=sp.length/\Hid (lO txt ind (sp.drop i) i til first=R)/\Hid (Below w.heap.size w wr)) (λ_ _ s7 _=>sp.length+1-(RowKit.intOf s7).toNat)
 case atStart=>exact⟨k1,0,k1,by first | rfl | rw[<-s],rfl,by first | rfl | rw[<-s],J,T,hid (aB _ _)⟩
 case round=>
  obtain⟨til,first,i,rfl,rfl,rfl,hi,V,v⟩:=hrel;have t:=hid (Y.out.keep v.out);have CT:Hid (∀w',Below wr.heap.size wr w'->Calls Tryz.prog 34 #[.pointer (some ⟨P,0,none⟩), .int .i64 (i:Int)] w' λe w2=>e= .returned (.bool (decide (i<sp.length)))/\Below w'.heap.size w' w2):=hid (λw' H=>vA i w' (t.out.keep H));have hii:(0:Int)<=(i:Int):=by omega
  by_cases hil:i<sp.length
  ·rw[aM hil] at CT;obtain⟨x,G⟩: ∃x,sp[i]?=some x:=⟨_,bE hil⟩;have I:sp.drop i=x::sp.drop (i+1):=by
    rw[iH hil];rw[bE hil] at G;rw[bD G]
   have f:=V.out;rw[I] at f;unfold lO at f;obtain⟨x1,x2⟩:=F.out x (aX G);have S:=Dj x1 x2;have CB:Hid (∀w',Below wr.heap.size wr w'->Calls Tryz.prog 203 #[.pointer (some ⟨P,0,none⟩), .int .i64 (i:Int)] w' λe w2=>e= .returned (.tuple #[.int .i64 (bI (bV txt x):Int), .bool (decide (bI (bV txt x)=(bV txt x).length))])/\Below w'.heap.size w' w2):=hid (λw' H=>Me i x w' (t.out.keep H) G F.out hs);obtain⟨nb,y⟩:=exQ<|bI (bV txt x);have hnbl:nb<=65536:=by have:=nV (bV txt x);omega
   rw[y] at CB f;obtain⟨i1,E⟩:=exQ<|i+1;have l:(i:Int)+1=(i1:Int):=(by omega);have m:i1<=sp.length:=(by omega);rw[E] at f;obtain⟨z,sv,lv,nv,W,M⟩:=t.out;obtain⟨gl,cl,e9,_,u⟩:=M.lineAt D.out;rw[X.out] at e9;subst e9;have C: ∀w',Below wr.heap.size wr w'->w'.cell? ⟨P,2,none⟩=some (.slice (some ⟨gl,0,none⟩) n cl)/\w'.cell? ⟨gl,k*10+2+1,none⟩=some (.int .i64 ind):=λw' H=>by
    have K:=M.keep H;obtain⟨⟨_,_,c2,_⟩,_⟩:=K.cells;obtain⟨g2,c2',e2,_,q⟩:=K.lineAt D.out;have e3:=(Value.slice.inj e2).1;injection e3 with e3;injection e3 with e3;subst e3;have:=q 3 _ (by omega) rfl;rw[Q] at this;exact⟨c2,this⟩
   have p:=hid C;have hPl:=M.lt;clear C M W u I x1 x2 S E G;by_cases hbl:nb=(bV txt x).length
   ·rw[if_pos hbl] at f;rw[aM hbl] at CB;have g:=hid f;clear hbl f y;go_wp2_with fail;refine(CT.out _ (by first | exact aB _ _ | exact(aB _ _).drew)).mono ?_;rintro e w2 ⟨rfl,a⟩;have b:=hid a;clear a;go_wp2_with fail;refine(CB.out _ b.out).mono ?_;rintro e w3 ⟨rfl,d⟩;have j:=hid (aC v.out (aC b.out d));clear d;go_wp2_with fail;go_roundw
    ·exact⟨til,first,i1,rfl,rfl,by first | rfl | rw[<-l],m,g,j⟩
    ·(try simp only[RowKit.intOf]);omega
   rw[if_neg hbl] at f;rw[aH hbl] at CB;clear hbl y;by_cases h1:(nb:Int)<=ind
   ·rw[if_pos (.inl h1)] at f;have d1:decide ((nb:Int)<=ind)=true:=aM h1;have g:=hid f;clear h1 f;go_wp2_with fail;refine(CT.out _ (by first | exact aB _ _ | exact(aB _ _).drew)).mono ?_;rintro e w2 ⟨rfl,a⟩;have b:=hid a;clear a;go_wp2_with fail;refine(CB.out _ b.out).mono ?_;rintro e w3 ⟨rfl,d⟩;have c:=aC b.out d;obtain⟨c2,b3⟩:=p.out w3 c;have j:=hid (aC v.out c);clear d c;go_wp2_with fail;go_ret;rw[<-g.out];exact⟨rfl,j.out⟩
   have d1:decide ((nb:Int)<=ind)=false:=aH h1;by_cases h2:nb<first
   ·rw[if_pos (.inr h2)] at f;have d2:decide ((nb:Int)<(first:Int))=true:=aM (by omega);have d2n:decide (nb<first)=true:=aM h2;have g:=hid f;clear h1 h2 f;go_wp2_with fail;refine(CT.out _ (by first | exact aB _ _ | exact(aB _ _).drew)).mono ?_;rintro e w2 ⟨rfl,a⟩;have b:=hid a;clear a;go_wp2_with fail;refine(CB.out _ b.out).mono ?_;rintro e w3 ⟨rfl,d⟩;have c:=aC b.out d;obtain⟨c2,b3⟩:=p.out w3 c;have j:=hid (aC v.out c);clear d c;go_wp2_with fail;go_ret;rw[<-g.out];exact⟨rfl,j.out⟩
   rw[if_neg (by rintro(h | h);exact h1 h;exact h2 h)] at f;have d2:decide ((nb:Int)<(first:Int))=false:=aH (by omega);have d2n:decide (nb<first)=false:=aH h2;obtain⟨f2,o⟩:=exQ (if first=0 then nb else first);rw[o] at f;have g:=hid f;clear h1 h2 f;by_cases h3:first=0
   ·rw[if_pos h3] at o;subst o h3;go_wp2_with fail;refine(CT.out _ (by first | exact aB _ _ | exact(aB _ _).drew)).mono ?_;rintro e w2 ⟨rfl,a⟩;have b:=hid a;clear a;go_wp2_with fail;refine(CB.out _ b.out).mono ?_;rintro e w3 ⟨rfl,d⟩;have c:=aC b.out d;obtain⟨c2,b3⟩:=p.out w3 c;have j:=hid (aC v.out c);clear d c;go_wp2_with fail;go_roundw
    ·exact⟨i1,nb,i1,by first | rfl | rw[<-l],rfl,by first | rfl | rw[<-l],m,g,j⟩
    ·(try simp only[RowKit.intOf]);omega
   ·rw[if_neg h3] at o;subst o;have d3:((first:Int)==0)=false:=aK.2 (by omega);have d3n:(first==0)=false:=aK.2 h3;clear h3;go_wp2_with fail;refine(CT.out _ (by first | exact aB _ _ | exact(aB _ _).drew)).mono ?_;rintro e w2 ⟨rfl,a⟩;have b:=hid a;clear a;go_wp2_with fail;refine(CB.out _ b.out).mono ?_;rintro e w3 ⟨rfl,d⟩;have c:=aC b.out d;obtain⟨c2,b3⟩:=p.out w3 c;have j:=hid (aC v.out c);clear d c;go_wp2_with fail;go_roundw
    ·exact⟨i1,first,i1,by first | rfl | rw[<-l],rfl,by first | rfl | rw[<-l],m,g,j⟩
    ·(try simp only[RowKit.intOf]);omega
  ·have O:i=sp.length:=(by omega);subst O;rw[aH hil] at CT;have f:=V.out;rw[List.drop_length] at f;unfold lO at f;have g:=hid f;clear f hil;go_wp2_with fail;refine(CT.out _ (by first | exact aB _ _ | exact(aB _ _).drew)).mono ?_;rintro e w2 ⟨rfl,a⟩;have b:=hid (aC v.out a);clear a;go_wp2_with fail;go_ret;rw[<-g.out];exact⟨rfl,b.out⟩
def Mf:aG:=⟨0,0,0,0,0,0,0,0,[]⟩
theorem Mg {w:World}{X:Nat}{a0 a1 a2 a3 a4 a5 a6 a7 a8:Value}{t:TypeId} (hb:w.heap[X]?=some (.cells #[a0,a1,a2,a3,a4,a5,a6,a7,a8] t (0,0))):w.cell? ⟨X,0,none⟩=some a0/\w.cell? ⟨X,1,none⟩=some a1/\w.cell? ⟨X,2,none⟩=some a2/\w.cell? ⟨X,3,none⟩=some a3/\w.cell? ⟨X,4,none⟩=some a4/\w.cell? ⟨X,5,none⟩=some a5/\w.cell? ⟨X,6,none⟩=some a6/\w.cell? ⟨X,7,none⟩=some a7/\w.cell? ⟨X,8,none⟩=some a8/\
  w.frozen? ⟨X,0,none⟩=false/\w.frozen? ⟨X,1,none⟩=false/\w.frozen? ⟨X,2,none⟩=false/\w.frozen? ⟨X,3,none⟩=false/\w.frozen? ⟨X,4,none⟩=false/\w.frozen? ⟨X,5,none⟩=false/\w.frozen? ⟨X,6,none⟩=false/\w.frozen? ⟨X,7,none⟩=false/\w.frozen? ⟨X,8,none⟩=false:=by
 refine⟨?_,?_,?_,?_,?_,?_,?_,?_,?_,?_,?_,?_,?_,?_,?_,?_,?_,?_⟩<;>simp[World.cell?,World.frozen?,hb]
def zM (w:World) (X:Nat) (a0 a1 a2 a3 a4 a5 a6 a7 a8:Value):World:=
 ((((((((w.setCell ⟨X,0,none⟩ a0).setCell ⟨X,1,none⟩ a1).setCell ⟨X,2,none⟩ a2).setCell ⟨X,3,none⟩ a3).setCell ⟨X,4,none⟩ a4).setCell ⟨X,5,none⟩ a5).setCell ⟨X,6,none⟩ a6).setCell ⟨X,7,none⟩ a7).setCell ⟨X,8,none⟩ a8
theorem Za {w:World}{X:Nat}{o0 o1 o2 o3 o4 o5 o6 o7 o8 a0 a1 a2 a3 a4 a5 a6 a7 a8:Value}{t:TypeId} (h:w.heap[X]?=some (.cells #[o0,o1,o2,o3,o4,o5,o6,o7,o8] t (0,0))):(zM w X a0 a1 a2 a3 a4 a5 a6 a7 a8).heap[X]?=some (.cells #[a0,a1,a2,a3,a4,a5,a6,a7,a8] t (0,0)):=by
 unfold zM;simp[World.setCell,Array.getElem?_modify,h]
theorem Zb {W0 w':World}{Y:Nat}{a0 a1 a2 a3 a4 a5 a6 a7 a8:Value} (h:Below W0.heap.size W0 w') (hY:W0.heap.size<=Y):Below W0.heap.size W0 (zM w' Y a0 a1 a2 a3 a4 a5 a6 a7 a8):=by
 unfold zM
 (repeat (refine Below.setCell ?_ (by first | exact hY) _))
 exact h
theorem mM {w:World}{X:Nat}{a b:Value}{t:TypeId} (h:w.heap[X]?=some (.cells #[a,b] t)):w.cell? ⟨X,0,none⟩=some a/\w.cell? ⟨X,1,none⟩=some b:=by
 refine⟨?_,?_⟩<;>simp[World.cell?,h]
def Mh (Pr:aL) (w0:World) (P:Nat) (txt:aA) (sp:List (Nat×Nat)) (n til:Nat) (ns:List aG) (tot:Nat) (R:YR) (b:Bool) (i:Nat) (w:World):Prop:=match b with
 | true=>i<=til/\ ∃ls,ls.length=i/\(match lQ txt ((sp.drop i).take (til-i)) ls with | .inr a=>YR.bad a 2 | .inl ls=> .ok n ⟨ls,ns,tot⟩)=R/\YJ YP Pr w0 P txt sp ⟨ls,ns,tot⟩ 0 0 w
 | false=> ∃a e,R= .bad a e/\gB YP Pr w0 P txt sp a e w
theorem Zc {Pr:aL}{w0:World}{P:Nat}{txt:aA}{sp:List (Nat×Nat)}{st:YS} (k:Nat) (kf kt:Int) (lv:Nat) (lev:Int) (w:World) (h:YJ YP Pr w0 P txt sp st 0 0 w) (hk:k+1=st.lines.length) (hw:dI txt sp st) (hl:Hid (lev=33-(lv:Int))) (hlv:lv<=32) (hsp:dH txt sp) (hs:txt.length<=65536) (hn:sp.length<=131072) (hV:bU w0):
  Calls Tryz.prog 153 #[.pointer (some ⟨P,0,none⟩), .int .i64 (k:Int), .int .i64 lev, .agg #[.int .i64 kf, .int .i64 kt]] w (iD YP Pr w0 P txt sp (mK txt sp lv k kf kt st)):=by
 obtain⟨R,y⟩:=exQ<|mK txt sp lv k kf kt st;rw[y];unfold mK at y;have ad:=pP (show k<st.lines.length by omega);obtain⟨r,hr⟩:=exQ<|aU st.lines k;rw[hr] at ad y;have bm:k<sp.length:=by have:=hw.ls.1;omega
 obtain⟨t1,t2⟩:=zG (s:=txt) r.ind bm;have bd:=hw.ls.1;have hnt:=hw.tot;obtain⟨n,aQ⟩:=exQ<|st.lines.length;have b1:=aI w (.cells #[.int .i64 kf, .int .i64 kt] 59);have G:=heap_alloc_new w (.cells #[.int .i64 kf, .int .i64 kt] 59);have O:=h.put b1 (aE _) G;have ax: ∀q o,Pr q=some o->(Pr.put w.heap.size (.cells #[.int .i64 kf, .int .i64 kt] 59)) q=some o:=aL.put_less (λq o V=>h.frLt q o V) (aE _);obtain⟨X1,aj⟩:=exQ<|w.heap.size;obtain⟨W1,aP⟩:=exQ<|w.alloc (.cells #[.int .i64 kf, .int .i64 kt] 59);rw[aP] at G O;rw[aj] at G O ax;have b2:=aI W1 (.cells (lineA r) 121);have U:=heap_alloc_new W1 (.cells (lineA r) 121);have aa:=O.put b2 (aE _) U;have au: ∀q o,(Pr.put X1 (.cells #[.int .i64 kf, .int .i64 kt] 59)) q=some o->((Pr.put X1 (.cells #[.int .i64 kf, .int .i64 kt] 59)).put W1.heap.size (.cells (lineA r) 121)) q=some o:=aL.put_less (λq o V=>O.frLt q o V) (aE _);have Q:(W1.alloc (.cells (lineA r) 121)).heap[X1]?=some (.cells #[.int .i64 kf, .int .i64 kt] 59):=(b2.block _ (aF G)).trans G;obtain⟨z,sv,lvv,nv,hz,hK⟩:=O;obtain⟨gl,cl,e9,_,l⟩:=hK.lineAt ad;subst e9;obtain⟨⟨_,_,c2,_⟩,_⟩:=hK.cells;have bh:=hK.lt;have g0:=l 0 _ (by omega) rfl;have g1:=l 1 _ (by omega) rfl;have g2:=l 2 _ (by omega) rfl;have g3:=l 3 _ (by omega) rfl;have g4:=l 4 _ (by omega) rfl;have g5:=l 5 _ (by omega) rfl;have g6:=l 6 _ (by omega) rfl;have g7:=l 7 _ (by omega) rfl;have g8:=l 8 _ (by omega) rfl;have g9:=l 9 _ (by omega) rfl;simp only[Nat.add_zero] at g0;rw[aQ] at c2;have hk0:(0:Int)<=(k:Int):=by omega
 have hk1:(k:Int)<(n:Int):=by omega
 obtain⟨X2,ak⟩:=exQ<|W1.heap.size;obtain⟨W2,am⟩:=exQ<|W1.alloc (.cells (lineA r) 121);rw[am] at aa U Q;rw[ak] at aa U au;unfold lineA at am;have bk:=hid aa;have aR:=hid (aJ Q U);have aq:=hid (λq o V=>au q o (ax q o V));have HR:=hid y;have HW:=hid hw;have aY:=hid hsp;have HK:=hid (aJ hk (aJ hr ad));have HN2:=hid aQ;have HT:=hid (aJ t1 t2);clear hK hz l aa G Q U b1 b2 ax au y hw hsp hk ad hr t1 t2 h;go_enter Tryz.func153,Tryz.ntmps153;go_upto_region 2 with fail;clear aP aj am ak c2 g0 g1 g2 g3 g4 g5 g6 g7 g8 g9 bh;obtain⟨W0,I⟩:=exQ<|W2.drew;have aw:=bk.out.keep (aB _ W2).drew;rw[I] at aw;have N:=hid aw;obtain⟨til,T⟩:=exQ<|gL txt sp r.ind k;have D:=hid T;have CRe:Hid (∀w',Below W0.heap.size W0 w'->Calls Tryz.prog 182 #[.pointer (some ⟨P,0,none⟩), .int .i64 (k:Int)] w' λe w2=>e= .returned (.int .i64 (til:Int))/\Below w'.heap.size w' w2):=hid (λw' hb=>by have:=Yz k r.ind w' (N.out.keep hb) (by have:=HK.out.1;omega) bd (by rw[HK.out.2.1]) aY.out hs hn;rw[T] at this;exact this);obtain⟨nd,bj⟩: ∃nd:aG,(⟨4,r.ind,k,til,kf,kt,r.rf,r.rt,[]⟩:aG)=nd:=⟨_,rfl⟩;obtain⟨SA,an⟩: ∃S:World->Prop,(λw'=>w'.cell? ⟨X2,3,none⟩=some (.int .i64 r.ind)/\w'.cell? ⟨X2,6,none⟩=some (.int .i64 r.rf)/\w'.cell? ⟨X2,7,none⟩=some (.int .i64 r.rt)/\w'.cell? ⟨X1,0,none⟩=some (.int .i64 kf)/\w'.cell? ⟨X1,1,none⟩=some (.int .i64 kt))=S:=⟨_,rfl⟩;have Z:Hid (∀w',Below W0.heap.size W0 w'->SA w'):=hid (λw' hb=>by
  rw[<-an];have V:=N.out.keep hb;have hl:bY w' X2 r:=V.at_ (aL.put_eq _ _ _);have W:w'.heap[X1]?=some (.cells #[.int .i64 kf, .int .i64 kt] 59):=by
   have e0:W2.heap[X1]?=_:=aR.out.1;have e1:W0.heap[X1]?=W2.heap[X1]?:=by rw[<-I];rfl
   exact(hb.block X1 (by rw[<-I];exact aF e0)).trans (e1.trans e0)
  obtain⟨_,_,_,b3,_,_,b6,b7,_⟩:=hl.cells;exact⟨b3,b6,b7,mM W⟩)
 clear T aw;subst bj;have aX:Tryz.prog.follows .mixedOrders=true:=by kernel_rfl
 refine lD aX [some 22,some 23,some 24,some 25,some 26,some 27,some 28,some 29,some 30,some 31,some 11,none] [22,23,24,25,26,27,28,29,30,31,11] [11] 10 (oI W0 62 (gV Mf)) 58 rfl (by kernel_rfl) (by kernel_rfl) (by kernel_rfl) (λiz=>match iz with | 0=> .pointer (some ⟨X2,3,none⟩) | 1=> .int .i64 r.ind | 2=> .int .i64 (k:Int) | 3=> .pointer (some ⟨P,0,none⟩) | 4=> .int .i64 (k:Int) | 5=> .int .i64 (til:Int) | 6=> .agg #[.int .i64 kf, .int .i64 kt] | 7=> .pointer (some ⟨X2,6,none⟩) | 8=> .agg #[.int .i64 r.rf, .int .i64 r.rt] | 9=> .agg #[.int .i64 4, .int .i64 r.ind, .int .i64 (k:Int), .int .i64 (til:Int), .int .i64 kf, .int .i64 kt, .int .i64 r.rf, .int .i64 r.rt, .slice none 0 0] | _=>undef) SA (vB W0 62 (gV ⟨4,r.ind,k,til,kf,kt,r.rf,r.rt,[]⟩)) (by rw[I];exact Z.out _ (aB _ _)) (by rw[I];exact aB _ _) ?_ ?_
 ·intro d a w' iq o' ho X u J B R' y;have a7:iq<12:=(cJ.1 ho).1;have q0:a.tmps[0]?.getD undef= .pointer (some ⟨P,0,none⟩):=bA J 0 (by decide);have q1:a.tmps[1]?.getD undef= .int .i64 (k:Int):=bA J 1 (by decide);have q7:a.tmps[7]?.getD undef= .pointer (some ⟨X1,0,none⟩):=bA J 7 (by decide);have q10:a.tmps[10]?.getD undef= .pointer (some ⟨X2,0,none⟩):=bA J 10 (by decide);have hc:=B.all [(0,22),(1,23),(2,24),(3,25),(4,26),(5,27),(6,28),(7,29),(8,30),(9,31)] (by decide);dsimp only[fC] at hc;clear J;have ha:=u;have H:=ho;have bn:iq=5\/iq=10\/iq=11\/iq=0\/iq=2\/iq=3\/iq=4\/iq=7\/iq=9\/iq=1\/iq=6\/iq=8:=by omega
  clear a7;rcases bn with rfl|rfl|rfl|rfl|rfl|rfl|rfl|rfl|rfl|rfl|rfl|rfl<;>simp only[eC,dV,cH,cN] at ho<;>subst ho<;>(try simp[Region.binds] at u)
  ·have c25:=B.g 3 25 rfl (by decide) (by decide) (by decide) (by simp[u]);have c26:=B.g 4 26 rfl (by decide) (by decide) (by decide) (by simp[u]);have K:Below W0.heap.size W0 w':=B.at2 (j:=0) rfl (B.lastNot (f:=12) (i:=5) (by kernel_rfl) X) (.inl rfl);go_simp;go_at_call 182;refine(CRe.out _ K).mono ?_;rintro e w5 ⟨rfl,ap⟩;exact y _ _ (B.quiet (by kernel_rfl) H ha rfl (by decide) (by decide) (by decide) rfl (B.lastNot (f:=12) (i:=5) (by kernel_rfl) X) (λ_=>Z.out _ (aC K ap)) (λk c _ hp=>hp.keep ap) (λx hx=>hx.keep ap))
  ·have K:Below W0.heap.size W0 w':=B.at2 (j:=0) rfl (B.lastNot (f:=12) (i:=10) (by kernel_rfl) X) (.inl rfl);have aT:=aI w' (.cells (gV Mf) 62);go_simp;exact y _ _ (B.free (by kernel_rfl) H ha rfl (by decide) rfl (by decide) (by kernel_rfl) (by decide) (B.lastNot (f:=12) (i:=10) (by kernel_rfl) X) (λ_=>Z.out _ (aC K aT)) (λk c hp=>hp.keep aT) (oI.new K.size))
  ·have c31:=B.g 9 31 rfl (by decide) (by decide) (by decide) (by simp[u]);have bb:=B.at2 (j:=0) rfl X (.inl rfl);obtain⟨Y,hY,F,E⟩:=B.fb X (by simp[u]);have hY:a.tmps.getD 11 undef= .pointer (some ⟨Y,0,none⟩):=hY;have c11:a.tmps[11]?.getD undef= .pointer (some ⟨Y,0,none⟩):=by rw[<-aO];exact hY
   obtain⟨z0,z1,z2,z3,z4,z5,z6,z7,z8,h0,W,h2,h3,h4,h5,h6,h7,h8⟩:=Mg E;have K:Below W0.heap.size W0 w':=bb;go_simp;exact y undef _ (B.eff2 (by kernel_rfl) (by decide) 0 H ha rfl X (.inl rfl) rfl (by decide) (λh=>absurd rfl h) (λh=>absurd rfl h) ⟨Y,hY,F,Za E,Zb K F⟩)
  iterate 6 (go_simp;exact y _ _ (B.pure (by kernel_rfl) H ha rfl (by decide) (by decide) (by decide) rfl))
  all_goals
   have a1:=B.early (f:=12) (by kernel_rfl) X;rw[<-an] at a1;obtain⟨b3,b6,b7,y0,y1⟩:=a1;go_simp;exact y _ _ (B.pure (by kernel_rfl) H ha rfl (by decide) (by decide) (by decide) rfl)
 intro v wz bc a6;obtain⟨Y,hY,F,E,ar⟩:=a6;have ai:v 11= .pointer (some ⟨Y,0,none⟩):=hY;simp only[cC,eJ,dO,eK,ai];have av:=N.out.put ar F E;have t:=hid (λq o V=>aL.put_less (Pr:=(Pr.put X1 (.cells #[.int .i64 kf, .int .i64 kt] 59)).put X2 (.cells (lineA r) 121)) (o:= .cells (gV ⟨4,r.ind,k,til,kf,kt,r.rf,r.rt,[]⟩) 62) (λq o' V=>N.out.frLt q o' V) F q o (aq.out q o V));obtain⟨Pr3,ag⟩: ∃Pr3:aL,((Pr.put X1 (.cells #[.int .i64 kf, .int .i64 kt] 59)).put X2 (.cells (lineA r) 121)).put Y (.cells (gV ⟨4,r.ind,k,til,kf,kt,r.rf,r.rt,[]⟩) 62)=Pr3:=⟨_,rfl⟩;have aN:=hid (aL.put_eq ((Pr.put X1 (.cells #[.int .i64 kf, .int .i64 kt] 59)).put X2 (.cells (lineA r) 121)) Y (.cells (gV ⟨4,r.ind,k,til,kf,kt,r.rf,r.rt,[]⟩) 62));rw[ag] at av t aN;have ab:=hid av;have aZ:bY wz X2 r:=(N.out.keep ar).at_ (aL.put_eq _ _ _);obtain⟨_,_,_,_,_,_,b6,_⟩:=aZ.cells;obtain⟨z0,z1,z2,z3,z4,z5,z6,z7,z8⟩:=pS E;obtain⟨A,K⟩:=exQ<|jA ⟨4,r.ind,k,til,kf,kt,r.rf,r.rt,[]⟩ lv r.rf st;have CA:Hid (∀w',YJ YP Pr3 w0 P txt sp st 0 0 w'->Calls Tryz.prog 72 #[.pointer (some ⟨P,0,none⟩), .agg #[.int .i64 4, .int .i64 r.ind, .int .i64 (k:Int), .int .i64 (til:Int), .int .i64 kf, .int .i64 kt, .int .i64 r.rf, .int .i64 r.rt, .slice none 0 0], .int .i64 lev, .int .i64 r.rf] w' (iD YP Pr3 w0 P txt sp A)):=hid (λw' L=>by have:=Mc (Pr:=Pr3) ⟨4,r.ind,k,til,kf,kt,r.rf,r.rt,[]⟩ lv lev r.rf w' L rfl hl hlv (by omega);rw[K] at this;exact this);have HA:=hid K;clear K av ag bc hY F E ar ai Z an CRe aZ;cases A with
 | bad a e=>
  have y:=HR.out;rw[D.out,HA.out] at y;have bf:Hid (YR.bad a e=R):=hid y;clear y;go_wp2_with fail;refine(CA.out _ (by first | exact ab.out | exact ab.out.keep (aB _ _).drew)).mono ?_;rintro e w4 ⟨⟨m,rfl⟩,p⟩;have HF:=hid (p.less t.out);clear p;go_wp2_with fail;go_loopw [13] (λs13 wr=>s13= .bool false/\w4=wr) (λ_ _=>0)
  case atStart=>exact⟨rfl,rfl⟩
  case round=>
   obtain⟨rfl,rfl⟩:=hrel;go_wp2_with fail;go_ret2;rw[<-bf.out];exact⟨⟨_,rfl⟩,HF.out⟩
 | ok nn s1=>
  obtain⟨e1,e2,_,h4t⟩:=mL HA.out;subst e2;have y:=HR.out;rw[D.out,HA.out] at y;simp only[] at y;have a8:=hid e1;clear e1;have bi:=hid y;clear y;obtain⟨k1,ah⟩:=exQ<|k+1;have aD:(k:Int)+1=(k1:Int):=by omega
  have a4:=hid ah;have htl:til<=sp.length:=by have:=HT.out.2;rw[D.out] at this;exact this
  have a5:k1<=til:=by have:=HT.out.1;rw[D.out] at this;omega
  clear ah;go_wp2_with fail;refine(CA.out _ (by first | exact ab.out | exact ab.out.keep (aB _ _).drew)).mono ?_;rintro e w4 ⟨rfl,aK⟩;have bg:Hid (Mh Pr3 w0 P txt sp nn til (st.nodes++ [⟨4,r.ind,k,til,kf,kt,r.rf,r.rt,[]⟩]) (st.total+1) R true k1 w4):=hid ⟨a5,st.lines,by rw[<-a4.out];exact HK.out.1.symm,by rw[<-a4.out];exact bi.out,aK⟩;clear aK z0 z1 z2 z3 z4 z5 z6 z7 z8 b6;go_wp2_with fail;go_loopw [13,14] (λs13 s14 wr=> ∃(b:Bool) (i:Nat),s13= .bool b/\s14= .int .i64 (i:Int)/\i<=sp.length+1/\Hid (Mh Pr3 w0 P txt sp nn til (st.nodes++ [⟨4,r.ind,k,til,kf,kt,r.rf,r.rt,[]⟩]) (st.total+1) R b i wr)) (λ_ s14 _=>sp.length+2-(RowKit.intOf s14).toNat)
  case atStart=>exact⟨true,k1,rfl,by first | rfl | rw[<-aD],by omega,bg⟩
  case round=>
   obtain⟨b,i,rfl,rfl,X,aV⟩:=hrel;have hii:(0:Int)<=(i:Int):=(by omega);cases b with
   | false=>
    obtain⟨a,e,ba,p⟩:=(show ∃a e,R= .bad a e/\gB YP Pr3 w0 P txt sp a e wr from aV.out);have HF:=hid (p.less t.out);clear p;go_wp2_with fail;go_ret2;rw[ba];exact⟨⟨_,rfl⟩,HF.out⟩
   | true=>
    obtain⟨hit,ls,ae,C,L⟩:=(show i<=til/\ ∃ls,ls.length=i/\(match lQ txt ((sp.drop i).take (til-i)) ls with | .inr a=>YR.bad a 2 | .inl ls=> .ok nn ⟨ls,st.nodes++ [⟨4,r.ind,k,til,kf,kt,r.rf,r.rt,[]⟩],st.total+1⟩)=R/\YJ YP Pr3 w0 P txt sp ⟨ls,st.nodes++ [⟨4,r.ind,k,til,kf,kt,r.rf,r.rt,[]⟩],st.total+1⟩ 0 0 wr from aV.out);have az:=L.at_ aN.out;obtain⟨z0,z1,z2,z3,z4,z5,z6,z7,z8⟩:=pS az;have M:=hid L;have a2:=hid ae;clear L az ae;by_cases hilt:i<til
    ·have d1:decide ((i:Int)<(til:Int))=true:=aM (by omega);have d1n:decide (i<til)=true:=aM hilt;obtain⟨x,hx⟩: ∃x,sp[i]?=some x:=⟨_,bE (by omega)⟩;have a3:(sp.drop i).take (til-i)=x::(sp.drop (i+1)).take (til-(i+1)):=by
      rw[iH (by omega)];rw[bE (by omega)] at hx;rw[bD hx,show til-i=(til-(i+1))+1 by omega,List.take_succ_cons]
     rw[a3] at C;unfold lQ at C;have CTk:=hid (λw' L=>Yy (Pr:=Pr3) (P:=P) (st:=⟨ls,st.nodes++ [⟨4,r.ind,k,til,kf,kt,r.rf,r.rt,[]⟩],st.total+1⟩) i x w' L hx aY.out (by simp only[];have:=a2.out;omega) hs hn hV);unfold Ds at CTk;obtain⟨i1,ay⟩:=exQ<|i+1;have af:(i:Int)+1=(i1:Int):=(by omega);have ao:=hid ay;have HDX:=hid hx;clear a3 hx ay;by_cases hm:nC txt x<x.2
     ·rw[if_pos hm] at C;simp only[] at C;have bl:Hid (YR.bad (nC txt x:Int) 2=R):=hid C;have CT2:Hid (∀w',YJ YP Pr3 w0 P txt sp ⟨ls,st.nodes++ [⟨4,r.ind,k,til,kf,kt,r.rf,r.rt,[]⟩],st.total+1⟩ 0 0 w'->Calls Tryz.prog 183 #[.pointer (some ⟨P,0,none⟩), .int .i64 (i:Int)] w' λe w2=>e= .returned (.bool false)/\gB YP Pr3 w0 P txt sp (nC txt x:Int) 2 w2):=hid (λw' L=>(CTk.out w' L).mono (λe w2 hE=>by
       rcases hE with⟨_,W,h2⟩ | ⟨W,_⟩
       ·exact⟨W,h2⟩
       ·exact absurd hm W))
      clear C CTk hm;go_wp2_with fail;refine(CT2.out _ (by first | exact M.out | exact M.out.keep (aB _ _).drew)).mono ?_;rintro e w5 ⟨rfl,p⟩;have bo:=hid p;clear p;go_wp2_with fail;go_roundw
      ·exact⟨false,i1,rfl,by first | rfl | rw[<-af],by omega,hid ⟨_,_,bl.out.symm,bo.out⟩⟩
      ·(try simp only[RowKit.intOf]);omega
     ·rw[if_neg hm] at C;have al:=hid C;have CT2:Hid (∀w',YJ YP Pr3 w0 P txt sp ⟨ls,st.nodes++ [⟨4,r.ind,k,til,kf,kt,r.rf,r.rt,[]⟩],st.total+1⟩ 0 0 w'->Calls Tryz.prog 183 #[.pointer (some ⟨P,0,none⟩), .int .i64 (i:Int)] w' λe w2=>e= .returned (.bool true)/\YJ YP Pr3 w0 P txt sp ⟨ls++ [lP txt x],st.nodes++ [⟨4,r.ind,k,til,kf,kt,r.rf,r.rt,[]⟩],st.total+1⟩ 0 0 w2):=hid (λw' L=>(CTk.out w' L).mono (λe w2 hE=>by
       rcases hE with⟨W,_⟩ | ⟨_,W,h2⟩
       ·exact absurd W hm
       ·exact⟨W,h2⟩))
      clear C CTk hm;go_wp2_with fail;refine(CT2.out _ (by first | exact M.out | exact M.out.keep (aB _ _).drew)).mono ?_;rintro e w5 ⟨rfl,aS⟩;have a9:=hid aS;clear aS;go_wp2_with fail;go_roundw
      ·exact⟨true,i1,rfl,by first | rfl | rw[<-af],by omega,hid ⟨by have:=ao.out;omega,ls++ [lP txt x],by rw[aW,dU,a2.out];exact ao.out,by rw[<-ao.out];exact al.out,a9.out⟩⟩
      ·(try simp only[RowKit.intOf]);omega
    ·have d1:decide ((i:Int)<(til:Int))=false:=aH (by omega);have d1n:decide (i<til)=false:=aH hilt;rw[show til-i=0 by omega,List.take_zero] at C;unfold lQ at C;simp only[] at C;have al:=hid C;have HF:=hid (M.out.less t.out);clear C hilt;go_wp2_with fail;go_ret2;rw[<-al.out,a8.out];exact⟨rfl,HF.out⟩
end
section
open Go.Lib hiding intOf
theorem Mi {txt:aA}{ns:List aD}{A lv:Nat} (hK: ∀k,(cE txt ns k).length<=A) (ih: ∀k m,dT ns lv k m->(bN txt ns lv k).bulk+(A+1)<=(m-k)*(2*A+2)) {hi:Nat}: ∀(l:List Nat) (a:Nat),cO (dT ns lv) l a hi->
  a<=hi/\gE (l.map (cE txt ns))+l.length+dS (l.map (bN txt ns lv))<=(hi-a)*(2*A+2)
 | [],a,h=>by
  have e:a=hi:=h;subst e;exact⟨aE _,by simp[gE,dS]⟩
 | x::l,a,h=>by
  obtain⟨rfl,m,b,c⟩:=h;obtain⟨h4,h5⟩:=Mi hK ih l m c;have h6:=ih x m b;have h7:=b.lt;have h8:=hK x;refine⟨by omega,?_⟩;rw[fU,fU,yC,dS,aV];have e:(hi-x)*(2*A+2)=(m-x)*(2*A+2)+(hi-m)*(2*A+2):=by rw[<-Nat.add_mul];congr 1;omega
  rw[e];omega
theorem Dt (txt:aA) (ns:List aD) (A:Nat) (hA: ∀kd sp,(mD kd (cZ txt sp)).length<=A) (hK: ∀k,(cE txt ns k).length<=A): ∀(lv k hi:Nat),dT ns lv k hi->(bN txt ns lv k).bulk+(A+1)<=(hi-k)*(2*A+2)
 | 0,_,_,h=>h.elim
 | lv+1,k,hi,h=>by
  have hlt:=h.lt;obtain⟨x,b,c⟩:=h;obtain⟨h3,h4⟩:=Mi hK (Dt txt ns A hA hK lv) x.kids (k+1) c;have a:bN txt ns (lv+1) k= .mk (x.kind:Int) (mD x.kind (cZ txt (x.sf,x.st))) (iL txt ns x.kind x.kids) (x.kids.map (bN txt ns lv)):=by rw[bN,b];rfl
  rw[a,VT.bulk];have h5:=hA x.kind (x.sf,x.st);have h6:gE (iL txt ns x.kind x.kids)+(iL txt ns x.kind x.kids).length<=gE (x.kids.map (cE txt ns))+x.kids.length:=by
   unfold iL;split
   ·rw[bK];exact aE _
   ·simp[gE]
  have e:(hi-k)*(2*A+2)=(hi-(k+1))*(2*A+2)+(2*A+2):=by
   rw[show hi-k=(hi-(k+1))+1 by omega,Nat.add_mul,Nat.one_mul]
  rw[e];omega
theorem Zd (n:eG) (h:n.dig.length<=1000) (he: -1000000<=n.exp/\n.exp<=1000000):(eX n).length<=1100:=by
 have hi:=Jd n.exp (by omega);unfold eX;split
 ·simp
 ·split
  ·simp
  ·split<;>split<;>simp<;>omega
theorem Du (s:aA) (h:(cL s).2=0):(eX (cL s).1).length<=1100:=by
 have a:=Bt (Az (l:=s) (n:=(cL s).1) (Prod.ext rfl h));exact Zd _ a.1 a.2
theorem Mj: ∀(f:Nat) (l:List UInt8) (i:Nat) (acc:List UInt8),(cY f l i acc).1.length<=acc.length+4*l.length
 | 0,_,_,_=>by simp[cY]
 | _+1,[],_,_=>by simp[cY]
 | f+1,c::r,i,acc=>by
  unfold cY;split
  ·simp
  ·split
   ·simp
   ·rename_i h;have hp:=sC (c::r) (List.cons_ne_nil _ _);obtain⟨P,hP⟩:=exQ<|eQ (c::r);rw[hP] at hp h ⊢;have:=Mj f ((c::r).drop P.2.toNat) (i+P.2.toNat) (acc++encodeRune P.1);have a:=Lib.runeCells_le P.1;rw[Lib.runeCells_length] at a;rw[bB,aW] at this;omega
theorem wX (l:List UInt8):(dM l).1.length<=4*(l.length-1):=by
 have h:(bT l 0).1.length<=4*(l.length-1):=by
  unfold bT;split
  ·have:=Mj (l.length+1) (l.drop ((0:Int).toNat+1)) ((0:Int).toNat+1) [];rw[bB] at this;simp only[gY] at this;have e0:(0:Int).toNat=0:=rfl;rw[e0] at this;rw[e0];omega
  ·simp
 unfold dM;split
 ·simp
 ·exact h
theorem Dv (s:aA) (he:(cL s).2≠0):(cL s).1=eM:=by
 unfold cL at he ⊢;cases hl:iN s with
 | none=>rfl
 | some x=>
  rw[hl] at he;simp only[] at he ⊢;obtain⟨q,a⟩:=exQ<|nL x;rw[a] at he ⊢;unfold nL at a;simp only[] at a
  (repeat' split at a)<;>subst a<;>first | rfl | exact absurd rfl he
end
section
open Go.Lib
theorem Ze (txt:aA) (ht:txt.length<=65536) (kd:Nat) (sp:Sp):(mD kd (cZ txt sp)).length<=262144:=by
 have hl:=uU txt sp;unfold mD;split
 ·omega
 ·split
  ·by_cases he:(cL (cZ txt sp)).2=0
   ·have:=Du (cZ txt sp) he;omega
   ·have a:(cL (cZ txt sp)).1=eM:=Dv _ he;rw[a];decide+kernel
  ·split
   ·have:=wX (cZ txt sp);omega
   ·simp
theorem Zf (txt:aA) (ns:List aD) (ht:txt.length<=65536) (k:Nat):(cE txt ns k).length<=262144:=by
 unfold cE;split
 ·have:=wX (cZ txt (by assumption:aD).key);have h2:=uU txt (by assumption:aD).key;omega
 ·simp
theorem Zg (t:aA) (ht:t.length<=65536):(fK t).1.bulk<=1099511627776:=by
 unfold fK;by_cases he:(fN t).2.2=0
 ·rw[if_neg (by simp[he])];obtain⟨⟨ns,at_,er⟩,hP⟩:=exQ<|fN t;rw[hP] at he;change er=0 at he;subst he;have b:=vV hP;have a:=Ch t;rw[hP] at a ⊢;simp only[] at a ⊢;have:=Dt t ns 262144 (Ze t ht) (Zf t ns ht) 32 0 ns.length b;have h2:(ns.length-0)*(2*262144+2)<=65536*524290:=Nat.mul_le_mul (by omega) (by omega);omega
 ·rw[if_pos he];show dP.bulk<=_;decide+kernel
theorem Mk (s:aA) (h:s.length<=65536):(kI s).bulk<=1099511627776:=by
 unfold kI;rw[VT.bulk];simp only[dS,gE,List.map_nil,List.sum_nil,gY];unfold pJ;split
 ·simp
 ·split
  ·simp only[];omega
  ·split
   ·rename_i a;have:=Du s a;simp only[];omega
   ·simp only[];omega
theorem Dw: ∀(f:Nat) (l:aA) (i:Nat) (acc:aA),(kW f l i acc).1.length<=acc.length+l.length
 | 0,l,i,acc=>by simp[kW]
 | _+1,[],i,acc=>by simp[kW]
 | f +1,c::r,i,acc=>by
  rw[yQ];have h1:=Dw f (r.drop 1) (i+2) (acc++ [39]);have a:=Dw f ((c::r).drop (decodeL (c::r)).2) (i+(decodeL (c::r)).2) (acc++(c::r).take (decodeL (c::r)).2);have d:=decodeL_le (c::r) (List.cons_ne_nil _ _);rw[aW,bB] at h1 a;rw[cD] at a;simp only[dU,aV,gY] at h1 a d ⊢;split
  ·split
   ·rename_i b;have hr:1<=r.length:=by
     cases r with
     | nil=>simp at b
     | cons _ _=>simp
    omega
   ·simp only[];omega
  ·split
   ·simp
   ·omega
theorem zN (t:aA):(nA t).1.length<=4*t.length:=by
 unfold nA;split
 ·unfold uV;split
  ·simp
  ·simp only[];unfold kD;split
   ·simp
   ·split
    ·have:=Dw (t.length+1) (t.drop ((0:Int).toNat+1)) ((0:Int).toNat+1) [];rw[bB] at this;simp only[gY] at this;omega
    ·simp
 ·have:=wX t;simp only[];omega
theorem Zh (t:aA) (h:t.length<=65536):(fP t).1.bulk<=1099511627776:=by
 have a:dP.bulk<=1099511627776:=by decide+kernel
 unfold fP;split
 ·exact Mk [] (by simp)
 ·rename_i c r;split
  ·split
   ·exact a
   ·have:=zN (c::r);show (kH _).bulk<=_;unfold kH;rw[VT.bulk];simp only[dS,gE,List.map_nil,List.sum_nil,gY];omega
  ·split
   ·exact Zg _ h
   ·split
    ·exact Mk _ h
    ·exact a
end
end Go.Proofs.YtaifnmjjpddikaaGreatDoor
