import Derived.Test.YtjnooaljcgkfpaaGreatDoorBk22
import Derived.Test.YtjnooaljcgkfpaaGreatDoorBk11
import Derived.Test.YtjnooaljcgkfpaaGreatDoorBk14
import Derived.Test.YtjnooaljcgkfpaaGreatDoorBk19
import Derived.Test.YtjnooaljcgkfpaaGreatDoorBk15
set_option maxRecDepth 100000
set_option maxHeartbeats 4000000
namespace Go.Proofs.YtjnooaljcgkfpaaGreatDoor
set_option linter.unusedVariables false
set_option linter.unusedSimpArgs false
section
open Go.RowKit
open Go.Lib hiding intOf
theorem aCY (s:aA) (x:Nat×Nat):fD s (x.1:Int) (x.2:Int)=gH s x:=rfl
theorem Rj (t:aA):(Lib.trimLeftB t 32).length=t.length-bI t:=by
 have h:Lib.trimLeftB t 32=t.drop (bI t):=by
  refine Lib.trimLeftB_drop t 32 (bI t) (oO t) (λj b c a=>?_) (λb a=>?_)
  ·have:=xV t j c;rw[a] at this;exact bC this
  ·intro e;subst e;exact Ao t a
 rw[h,aZ]
theorem aCZ (t:aA) (w:World): ∃r:aA,r.length=t.length-bI t/\Calls Tryz.prog 76 #[.string (bs t), .string ⟨#[32]⟩] w λe w'=>e= .returned (.string (bs r))/\w=w':=by
 refine⟨Lib.trimLeftB t 32,Rj t,?_⟩;have h:=Tryz.strings_TrimLeft_one (bs t) 32 (by decide) w;rw[aW] at h;exact h.mono λ_ _ ⟨a,b⟩=>⟨a,b.symm⟩
section
variable {Pr:aK}{w0:World}{P:Nat}{txt:aA}{sp:List (Nat×Nat)}{st:YS}{a0 e0:Int}
theorem Rk (k:Nat) (x:Nat×Nat) (w:World) (h:YJ YP Pr w0 P txt sp st a0 e0 w) (hx:sp[k]?=some x) (hsp:eS txt sp) (hs:txt.length<=65536):
  Calls Tryz.prog 211 #[.pointer (some ⟨P,0,none⟩), .int .i64 (k:Int)] w λe w'=>e= .returned (.tuple #[.int .i64 (bI (gH txt x):Int), .bool (decide (bI (gH txt x)=(gH txt x).length))])/\Below w.heap.size w w':=by
 obtain⟨x1,x2⟩:=hsp x (bA hx);have hk:=(aP.1 hx).1;obtain⟨t,j⟩:=exQ<|gH txt x;have d:=Fu x1 x2;have m:=oO t;rw[j] at d ⊢;have CB:Hid (∀w',Below w.heap.size w w'->Calls Tryz.prog 140 #[.pointer (some ⟨P,0,none⟩), .agg #[.int .i64 (x.1:Int), .int .i64 (x.2:Int)]] w' λe w2=>e= .returned (.string (bs t))/\Below w'.heap.size w' w2):=hid (λw' n=>by have:=By (x.1:Int) (x.2:Int) w' (h.keep n) (by omega) (by omega) (by omega) (by omega);rw[aCY,j] at this;exact this);obtain⟨z,sv,lv,nv,_,f⟩:=h;obtain⟨gs,cs,rfl,l,s0,s1⟩:=f.spanAt hx;obtain⟨⟨_,c1,_⟩,_⟩:=f.cells;have hPl:=f.lt;have st:=aQ t;have hk0:(0:Int)<=(k:Int):=by omega
 have hk1:(k:Int)<(sp.length:Int):=by omega
 have htl2:t.length<=65536:=by omega
 obtain⟨nb,a⟩:=exQ<|bI t;rw[a] at m ⊢;have CT:Hid (∀w,∃r:aA,r.length=t.length-nb/\Calls Tryz.prog 76 #[.string (bs t), .string ⟨#[32]⟩] w λe w'=>e= .returned (.string (bs r))/\w=w'):=hid (λw=>by rw[<-a];exact aCZ t w);clear f hx hsp j d a x1 x2 hs l;go_enter Tryz.func211,Tryz.ntmps211;go_wp2_with fail;refine(CB.out _ (by first | exact aB _ _ | exact(aB _ _).drew)).mono ?_;rintro e w2 ⟨rfl,b⟩;have g:=hid (show Below w.heap.size w w2 from by first | exact b | exact aC (aB _ _).drew b);clear b;obtain⟨r,i,c⟩:=CT.out w2;have sr:=aQ r;have CR:=hid c;clear c;go_wp2_with fail;refine CR.out.mono ?_;rintro e w3 ⟨rfl,rfl⟩;have e1:(t.length:Int)-(r.length:Int)=(nb:Int):=by omega
 have hwr:IntKind.i64.wrap ((t.length:Int)-(r.length:Int))=(nb:Int):=by rw[e1,IntKind.wrap_i64];omega
 clear i;go_wp2_with fail;go_ret2;refine⟨?_,g.out⟩;simp[e1];rw[Bool.eq_iff_iff,beq_iff_eq,eA];omega
end
def yY (r n:Int):Bool:=!(r==65533&&n==1)&&(r==9||(decide (32<=r)&&r !=127))
theorem aDa (d:Nat×Nat):Fp d=!yY (d.1:Int) (d.2:Int):=by
 unfold Fp yY;have b:((d.1:Int)==65533)=(d.1==65533):=by rw[Bool.eq_iff_iff,beq_iff_eq,beq_iff_eq];omega
 have c:((d.2:Int)==1)=(d.2==1):=by rw[Bool.eq_iff_iff,beq_iff_eq,beq_iff_eq];omega
 have e:((d.1:Int)==9)=(d.1==9):=by rw[Bool.eq_iff_iff,beq_iff_eq,beq_iff_eq];omega
 have a:decide ((32:Int)<=(d.1:Int))=decide (32<=d.1):=by rw[Bool.eq_iff_iff,eA,eA];omega
 have f:((d.1:Int) !=127)=(d.1 !=127):=by rw[Bool.eq_iff_iff,gP,gP];omega
 rw[b,c,e,a,f];cases (d.1==65533&&d.2==1)<;>cases (d.1==9||decide (32<=d.1)&&d.1 !=127)<;>rfl
theorem aDb (r n:Int) (w:World):Calls Tryz.prog 213 #[.int .i32 r, .int .i64 n] w λe w'=>e= .returned (.bool (yY r n))/\w=w':=by
 unfold yY;by_cases h1:r=65533
 ·subst h1;by_cases h2:n=1
  ·subst h2;go_enter Tryz.func213,Tryz.ntmps213;go_wp2_with fail;go_ret;exact⟨rfl,rfl⟩
  ·have d2:(n==1)=false:=aG.2 h2;rw[d2];clear h2;go_enter Tryz.func213,Tryz.ntmps213;go_wp2_with fail;go_ret;exact⟨rfl,rfl⟩
 ·have d1:(r==65533)=false:=aG.2 h1;rw[d1];clear h1;by_cases h3:r=9
  ·subst h3;go_enter Tryz.func213,Tryz.ntmps213;go_wp2_with fail;go_ret;exact⟨rfl,rfl⟩
  ·have d3:(r==9)=false:=aG.2 h3;rw[d3];clear h3;by_cases h4:32<=r
   ·have d4:decide (32<=r)=true:=aN h4;rw[d4];clear h4;by_cases h5:r=127
    ·subst h5;go_enter Tryz.func213,Tryz.ntmps213;go_wp2_with fail;go_ret;exact⟨rfl,rfl⟩
    ·have d5:(r !=127)=true:=gP.2 h5;rw[d5];clear h5;go_enter Tryz.func213,Tryz.ntmps213;go_wp2_with fail;go_ret;exact⟨rfl,rfl⟩
   ·have d4:decide (32<=r)=false:=aJ h4;rw[d4];clear h4;go_enter Tryz.func213,Tryz.ntmps213;go_wp2_with fail;go_ret;exact⟨rfl,rfl⟩
theorem aDc (l:aA) (i:Nat):decodeL (l.drop i)=((Utf8.decode (bs l) i).1,(Utf8.decode (bs l) i).2):=by
 have a:=oH (bs l) i;rw[aW] at a;exact a
theorem aDd (l:aA) (i:Nat) (w:World) (hi:i<l.length) (hs:l.length<=1073741824) (hT:cD w):
  Calls Tryz.prog 212 #[.string (bs l), .int .i64 (i:Int)] w λe w'=>e= .returned (.tuple #[.int .i32 ((decodeL (l.drop i)).1:Int), .int .i64 ((decodeL (l.drop i)).2:Int)])/\Below w.heap.size w w':=by
 rw[aDc];have sl:=aQ l;have CD:=hid (λw=>Eu l i w hi);have b:=hid hT;have hi1:(i:Int)<(l.length:Int):=by omega
 clear hT;go_enter Tryz.func212,Tryz.ntmps212;go_wp2_with (go_at_call 105;refine(CD.out _ b.out).mono ?_;rintro e w' ⟨rfl,a⟩);go_ret2;exact⟨rfl,a⟩
def uR (x:Nat×Nat) (nb:Nat):aO:=⟨6,x.1,x.2,nb,0,0,0,0,0,0⟩
theorem aDe (s:aA) (x:Nat×Nat):uR x (bI (gH s x))=oT s x:=rfl
def Gz (Pr:aK) (w0:World) (P:Nat) (txt:aA) (sp:List (Nat×Nat)) (st:YS) (x:Nat×Nat) (e:Ending) (w':World):Prop:=
 (qJ txt x<x.2/\e= .returned (.bool false)/\gI YP Pr w0 P txt sp (qJ txt x:Int) 2 w')\/(¬qJ txt x<x.2/\e= .returned (.bool true)/\YJ YP Pr w0 P txt sp ⟨st.lines++ [oT txt x],st.nodes,st.total⟩ 0 0 w')
theorem aDf (s:aA) (e:Nat) (f i:Nat) (h:e<=i):uC s e f i=i:=by
 cases f with
 | zero=>rfl
 | succ f=>unfold uC;rw[if_pos h]
theorem aDg {Pr:aK}{w0:World}{P:Nat}{txt:aA}{sp:List (Nat×Nat)}{st:YS} (q:Nat) (x:Nat×Nat) (w:World) (h:YJ YP Pr w0 P txt sp st 0 0 w) (hx:sp[q]?=some x) (hsp:eS txt sp) (hl:st.lines.length<=sp.length) (hs:txt.length<=65536) (hn:sp.length<=131072) (hV:cG w0):
  Calls Tryz.prog 198 #[.pointer (some ⟨P,0,none⟩), .int .i64 (q:Int)] w (Gz Pr w0 P txt sp st x):=by
 obtain⟨x1,x2⟩:=hsp x (bA hx);have hq:=(aP.1 hx).1;obtain⟨i0,aI,aV,a3,aO⟩:=info_parts Tryz.infoLine;have aY:=hid hsp;have HX:=hid hx;obtain⟨k,hk⟩:=exQ<|st.lines.length;rw[hk] at hl;have ab:=hid hk;have HJ:=hid h;have HV:Hid (∀w',Below w.heap.size w w'->cD w'):=hid (λw' hb=>((hV.keep h.bel).keep hb).tabs);have b0:=aH w (.cells #[.int .i64 (x.1:Int), .int .i64 (x.2:Int)] 76);obtain⟨M,p⟩:=exQ<|qJ txt x;unfold Gz;rw[p];have HM:Hid (uC txt x.2 (x.2-x.1) x.1=M):=hid p;obtain⟨z,sv,lv,nv,J,L⟩:=h;obtain⟨gs,cs,rfl,ag,s0,s1⟩:=L.spanAt hx;obtain⟨⟨_,c1,_⟩,_⟩:=L.cells;have a2:=L.lt;have hq0:(0:Int)<=(q:Int):=by omega
 have hq1:(q:Int)<(sp.length:Int):=by omega
 have sl:=aQ txt;have C:=heap_alloc_new w (.cells #[.int .i64 (x.1:Int), .int .i64 (x.2:Int)] 76);obtain⟨X,aa⟩:=exQ<|w.heap.size;have HXe:=hid aa;clear L J hx hsp hk hV p ag;go_enter Tryz.func198,Tryz.ntmps198;go_upto_region 2 with fail;have y:=HJ.out.put b0 (aD _) C;have u: ∀k o,Pr k=some o->(Pr.put w.heap.size (.cells #[.int .i64 (x.1:Int), .int .i64 (x.2:Int)] 76)) k=some o:=aK.put_less (λk o hk=>HJ.out.frLt k o hk) (aD _);obtain⟨W1,ae⟩:=exQ<|w.alloc (.cells #[.int .i64 (x.1:Int), .int .i64 (x.2:Int)] 76);rw[ae] at y b0 C;rw[aa] at y u C;rw[ae];have aL:=hid y;have HX1:=hid C;have F:=hid u;have ao:=hid b0;obtain⟨y0,y1⟩:=sJ C;clear y u C b0 ae aa s0 s1 c1 HJ;go_wp2_with fail;go_loopw [6] (λs6 wr=> ∃(i f:Nat),s6= .int .i64 (i:Int)/\i<=65536/\Hid (x.2<=i+f/\uC txt x.2 f i=M)/\Hid (Below W1.heap.size W1 wr)) (λs6 _=>x.2-(RowKit.intOf s6).toNat)
 case atStart=>exact⟨x.1,x.2-x.1,rfl,by omega,hid ⟨by omega,HM.out⟩,hid (aB _ _)⟩
 case round=>
  obtain⟨i,f,rfl,Q,HF,ak⟩:=hrel;have B:=hid (aL.out.keep ak.out);have an:=hid (B.out.at_ (aK.put_eq _ _ _));obtain⟨y0,y1⟩:=sJ an.out;obtain⟨z,sv,lvv,nv,J,L⟩:=B.out;obtain⟨⟨c0,c1,c2,_⟩,_⟩:=L.cells;have a2:=L.lt;have hXl:=aE an.out;have hii:(0:Int)<=(i:Int):=by omega
  by_cases hix:i<x.2
  ·have d1:decide ((i:Int)<(x.2:Int))=true:=aN (by omega);have d1n:decide (i<x.2)=true:=aN hix;have az:i<txt.length:=(by omega);have CN:Hid (∀w',Below wr.heap.size wr w'->Calls Tryz.prog 212 #[.string (bs txt), .int .i64 (i:Int)] w' λe w2=>e= .returned (.tuple #[.int .i32 ((decodeL (txt.drop i)).1:Int), .int .i64 ((decodeL (txt.drop i)).2:Int)])/\Below w'.heap.size w' w2):=hid (λw' hb=>aDd txt i w' az (by omega) (HV.out w' (ao.out.trans ((aC ak.out hb).mono ao.out.size))));have aj:txt.drop i≠ []:=λe=>by have:=congrArg List.length e;rw[aZ] at this;simp at this;omega
   have K:=decodeL_le (txt.drop i) aj;have W:1<=(decodeL (txt.drop i)).2:=by
    cases hd:txt.drop i with
    | nil=>exact absurd hd aj
    | cons c t=>exact decodeL_width (c::t)
   rw[aZ] at K;obtain⟨g,hg⟩: ∃g,f=g+1:=⟨f-1,by have:=HF.out.1;omega⟩;subst hg;have p:=HF.out.2;have aM:=HF.out.1;unfold uC at p;rw[if_neg (by omega)] at p;obtain⟨d,hd⟩:=exQ<|decodeL (txt.drop i);rw[hd] at CN K W p;obtain⟨r,n⟩:=d;rw[aDa] at p;simp only[] at CN K W p;have CM:=hid (λw=>aDb (r:Int) (n:Int) w);obtain⟨m,hm⟩:=exQ<|yY (r:Int) (n:Int);rw[hm] at CM p;clear hd hm aj HF L J;cases m with
   | false=>
    rw[if_pos (by rfl)] at p;have R:=hid p;have a1:=hid hix;have CF:=hid (λw' Y=>qR (Pr:=Pr.put X (.cells #[.int .i64 (x.1:Int), .int .i64 (x.2:Int)] 76)) (w0:=w0) (P:=P) (txt:=txt) (sp:=sp) (st:=st) (a0:=0) (e0:=0) (i:Int) 2 w' Y);clear p hix;go_wp2_with fail;refine(CN.out _ (by first | exact aB _ _ | exact(aB _ _).drew)).mono ?_;rintro e w2 ⟨rfl,l⟩;have T:=hid (B.out.keep (by first | exact l | exact aC (aB _ _).drew l));clear l;go_wp2_with fail;refine(CM.out _).mono ?_;rintro e w3 ⟨rfl,rfl⟩;go_wp2_with fail;refine(CF.out _ (by first | exact T.out | exact T.out.keep (aB _ _).drew)).mono ?_;rintro e w4 ⟨rfl,Y⟩;have ah:=hid (Y.less F.out).bad;clear Y;go_wp2_with fail;go_ret;exact .inl ⟨by rw[<-R.out];exact a1.out,rfl,by rw[<-R.out];exact ah.out⟩
   | true=>
    rw[if_neg (by simp)] at p;have R:=hid p;obtain⟨i1,aw⟩:=exQ<|i+n;have aT:=hid aw;have aq:(i:Int)+(n:Int)=(i1:Int):=(by omega);have hlt1:i<i1:=(by omega);have av:i1<=65536:=(by omega);have ap:x.2<=i1+g:=(by omega);have HG:=hid ap;clear p aw ap aM K;go_wp2_with fail;refine(CN.out _ (by first | exact aB _ _ | exact(aB _ _).drew)).mono ?_;rintro e w2 ⟨rfl,l⟩;have aX:=hid (aC ak.out (by first | exact l | exact aC (aB _ _).drew l));clear l;go_wp2_with fail;refine(CM.out _).mono ?_;rintro e w3 ⟨rfl,rfl⟩;go_wp2_with fail;go_roundw
    ·exact⟨i1,g,by first | rfl | rw[<-aq],av,hid ⟨HG.out,by rw[<-aT.out];exact R.out⟩,aX⟩
    ·(try simp only[RowKit.intOf]);omega
  ·have d1:decide ((i:Int)<(x.2:Int))=false:=aJ (by omega);have d1n:decide (i<x.2)=false:=aJ hix;have p:=HF.out.2;rw[aDf _ _ _ _ (by omega)] at p;have aG:=hid (show ¬M<x.2 by omega);have CB:=hid (λw' Y=>Rk (Pr:=Pr.put X (.cells #[.int .i64 (x.1:Int), .int .i64 (x.2:Int)] 76)) (w0:=w0) (P:=P) (txt:=txt) (sp:=sp) (st:=st) (a0:=0) (e0:=0) q x w' Y HX.out aY.out hs);obtain⟨nb,af⟩:=exQ<|bI (gH txt x);obtain⟨bb,am⟩:=exQ<|decide (bI (gH txt x)=(gH txt x).length);rw[am,af] at CB;have aS:=hid af;clear p hix af am HF L J;go_wp2_with fail;refine(CB.out _ (by first | exact B.out | exact B.out.keep (aB _ _).drew)).mono ?_;rintro e w2 ⟨rfl,l⟩;have T:=hid (B.out.keep (by first | exact l | exact aC (aB _ _).drew l));clear l y0 y1 c0 c1 c2;go_upto_region 9 with fail;obtain⟨W2,U⟩:=exQ<|w2.drew;obtain⟨z,sv,lvv,nv,J,s⟩:=T.out.keep (aB _ w2).drew;rw[U] at s;obtain⟨pl,cl,rfl⟩:=s.lnSlice;rw[ab.out] at s;have HZ:=hid J;have al:=hid s;have E:=s.lnr;rw[ab.out] at E;have Z:=hid E;have aR:=hid s.bel.size;obtain⟨SB,N⟩: ∃S:World->Prop,(λw'=>(w'.cell? ⟨P,2,none⟩=some (.slice pl k cl)/\w'.frozen? ⟨P,2,none⟩=false)/\w'.cell? ⟨X,0,none⟩=some (.int .i64 (x.1:Int))/\w'.cell? ⟨X,1,none⟩=some (.int .i64 (x.2:Int)))=S:=⟨_,rfl⟩;have O:Hid (∀q c w',q<3->cS 143 w0.heap.size (.slice pl k cl) k (kE st.lines) (lineA (uR x nb)) P 2 W2 q c w'->SB w'):=hid (λq c w' hq hp=>by rw[<-N];have hs:=al.out.seenA Z.out (by decide) (λj o Y=>(al.out.fr j o Y).2.2.1) hq hp;obtain⟨c2,f2⟩:=hs.c2;obtain⟨b0,b1⟩:=sJ (hs.fr X _ (aK.put_eq _ _ _));exact⟨⟨c2,f2⟩,b0,b1⟩);clear s E J;have ax:Tryz.prog.follows .mixedOrders=true:=(by kernel_rfl);refine nL ax [some 49,some 50,some 51,some 52,some 53,some 54,some 55,some 56,some 57,some 58,some 59,some 60,none] [49,50,51,52,53,54,55,56,57,58,59,60] [8,9,12] 1000000 (λ_ _=>True) 61 rfl (by kernel_rfl) (by kernel_rfl) (by kernel_rfl) (λiz=>match iz with | 0=> .pointer (some ⟨P,0,none⟩) | 1=> .pointer (some ⟨P,0,none⟩) | 2=> .pointer (some ⟨P,0,none⟩) | 3=> .pointer (some ⟨P,2,none⟩) | 4=> .slice pl k cl | 5=> .agg #[.int .i64 (x.1:Int), .int .i64 (x.2:Int)] | 6=> .int .i64 (nb:Int) | 7=> .agg #[.int .i64 6, .int .i64 (x.1:Int), .int .i64 (x.2:Int), .int .i64 (nb:Int), .int .i64 0, .int .i64 0, .int .i64 0, .int .i64 0, .int .i64 0, .int .i64 0] | 10=> .pointer (some ⟨P,0,none⟩) | 11=> .pointer (some ⟨P,2,none⟩) | _=>undef) SB (cS 143 w0.heap.size (.slice pl k cl) k (kE st.lines) (lineA (uR x nb)) P 2 W2) (by rw[U];exact O.out 0 undef _ (by decide) (aB _ _)) (by rw[U];exact aB _ _) ?_ ?_
   ·intro d a w' iq o' ho Q b V A R' hR;have aW:iq<13:=(dW.1 ho).1;have q0:a.tmps[0]?.getD undef= .pointer (some ⟨P,0,none⟩):=bD V 0 (by decide);have q5:a.tmps[5]?.getD undef= .pointer (some ⟨X,0,none⟩):=bD V 5 (by decide);have q9:a.tmps[9]?.getD undef= .int .i64 (nb:Int):=bD V 9 (by decide);have hc:=A.all [(0,49),(1,50),(2,51),(3,52),(4,53),(5,54),(6,55),(7,56),(10,59),(11,60)] (by decide);dsimp only[fU] at hc;clear V;have ha:=b;have G:=ho;have ag:iq=8\/iq=9\/iq=12\/iq=0\/iq=1\/iq=2\/iq=3\/iq=6\/iq=7\/iq=10\/iq=11\/iq=4\/iq=5:=(by omega);clear aW;rcases ag with rfl|rfl|rfl|rfl|rfl|rfl|rfl|rfl|rfl|rfl|rfl|rfl|rfl<;>simp only[fN,dG,bM,cP] at ho<;>subst ho<;>(try simp[Region.binds] at b)
    ·have c56:=A.g 7 56 rfl (by decide) (by decide) (by decide) (by simp[b]);have D:=A.at2 (j:=0) rfl Q (.inl rfl);have hA:Below W2.heap.size W2 w':=D;go_simp;exact hR _ _ (A.eff2 (by kernel_rfl) (by decide) 0 G ha rfl Q (.inl rfl) rfl (by decide) (λ_ _ _=>trivial) (λ_=>O.out 1 _ _ (by decide) ⟨w',hA,rfl,rfl⟩) ⟨w',hA,rfl,rfl⟩)
    ·have c53:=A.g 4 53 rfl (by decide) (by decide) (by decide) (by simp[b]);have I:d 8=true:=(by simp[b]);have D:=A.at2 (j:=1) rfl Q (.inr ⟨8,rfl,I⟩);have ca':a.tmps.getD 53 undef= .slice pl k cl:=by rw[aU];exact c53
     exact cS.app rfl (.tmp 53) (.tmp 57) 42 rfl Tryz.underlying42 aI aV a3 aO rfl (by decide) rfl (Rc (uR x nb)) Z.out (by omega) (by decide) aR.out D ca' rfl (λv' w2 hp=>hR _ _ (A.eff2 (by kernel_rfl) (by decide) 1 G ha rfl Q (.inr ⟨8,rfl,I⟩) rfl (by decide) (λ_ _ _=>trivial) (λ_=>O.out 2 _ _ (by decide) hp) hp))
    ·have c60:=A.g 11 60 rfl (by decide) (by decide) (by decide) (by simp[b]);have I:d 9=true:=(by simp[b]);have D:=A.at2 (j:=2) rfl Q (.inr ⟨9,rfl,I⟩);have H:=A.st Q;rw[<-N] at H;obtain⟨⟨p2,p2f⟩,b0,b1⟩:=H;have ad:cS 143 w0.heap.size (.slice pl k cl) k (kE st.lines) (lineA (uR x nb)) P 2 W2 2 (a.tmps.getD 58 undef) w':=D;obtain⟨gz,cz,J⟩:=ad.form;rw[J] at ad;have c58:a.tmps[58]?.getD undef= .slice (some ⟨gz,0,none⟩) (k+1) cz:=by rw[<-aU];exact J
     go_simp;exact hR undef _ (A.eff2 (by kernel_rfl) (by decide) 2 G ha rfl Q (.inr ⟨9,rfl,I⟩) rfl (by decide) (λ_ _ _=>trivial) (λh=>absurd rfl h) ⟨_,_,ad,rfl⟩)
    iterate 8 (go_simp;exact hR _ _ (A.pure (by kernel_rfl) G ha rfl (by decide) (by decide) (by decide) rfl))
    all_goals
     have H:=A.early (f:=13) (by kernel_rfl) Q;rw[<-N] at H;obtain⟨⟨p2,p2f⟩,b0,b1⟩:=H;go_simp;exact hR _ _ (A.pure (by kernel_rfl) G ha rfl (by decide) (by decide) (by decide) rfl)
   intro v wy aF au;obtain⟨cz,ar⟩: ∃c,cS 143 w0.heap.size (.slice pl k cl) st.lines.length (kE st.lines) (lineA (uR x nb)) P 2 W2 3 c wy:=⟨_,by rw[ab.out];exact au⟩;obtain⟨lv',ay⟩:=al.out.lineA ar;have ai:=ay.less F.out;rw[show uR x nb=oT txt x by rw[<-aDe txt x,aS.out]] at ai;have ah:=hid ai;clear au ay ai ar aF O N U;simp only[cV,fO,eP,fP];go_wp2_with fail;go_ret;exact .inr ⟨aG.out,rfl,z,_,_,_,HZ.out,ah.out⟩
theorem aDh {Pr:aK}{w0:World}{P:Nat}{txt:aA}{sp:List (Nat×Nat)}{st:YS} (k:Nat) (ind:Int) (w:World) (h:YJ YP Pr w0 P txt sp st 0 0 w) (hk:k<st.lines.length) (hl:st.lines.length<=sp.length) (hi:(aR st.lines k).ind=ind) (hsp:eS txt sp) (hs:txt.length<=65536) (hn:sp.length<=131072):
  Calls Tryz.prog 197 #[.pointer (some ⟨P,0,none⟩), .int .i64 (k:Int)] w λe w'=>e= .returned (.int .i64 (qI txt sp ind k:Int))/\Below w.heap.size w w':=by
 obtain⟨R,M⟩:=exQ<|qI txt sp ind k;rw[M];unfold qI at M;have U:=hid M;have W:=hid h;have G:=hid hsp;have H:k+1<=sp.length:=by omega
 have A:=qL hk;obtain⟨r,V⟩:=exQ<|aR st.lines k;rw[V] at A hi;have C:=hid A;have O:r.ind=ind:=hi;obtain⟨n,v⟩:=exQ<|st.lines.length;rw[v] at hk hl;have Y:=hid v;obtain⟨k1,J⟩:=exQ<|k+1;rw[J] at U H;have s:(k:Int)+1=(k1:Int):=by omega
 have hk0:(0:Int)<=(k:Int):=by omega
 have hkn:(k:Int)<(n:Int):=by omega
 clear h M hsp A V hi v J hk;go_enter Tryz.func197,Tryz.ntmps197;go_wp2_with fail;go_loopw [5,6,7] (λs5 s6 s7 wr=> ∃(til first i:Nat),s5= .int .i64 (til:Int)/\s6= .int .i64 (first:Int)/\s7= .int .i64 (i:Int)/\i<=sp.length/\Hid (oD txt ind (sp.drop i) i til first=R)/\Hid (Below w.heap.size w wr)) (λ_ _ s7 _=>sp.length+1-(RowKit.intOf s7).toNat)
 case atStart=>exact⟨k1,0,k1,by first | rfl | rw[<-s],rfl,by first | rfl | rw[<-s],H,U,hid (aB _ _)⟩
 case round=>
  obtain⟨til,first,i,rfl,rfl,rfl,hi,T,y⟩:=hrel;have t:=hid (W.out.keep y.out);have CT:Hid (∀w',Below wr.heap.size wr w'->Calls Tryz.prog 65 #[.pointer (some ⟨P,0,none⟩), .int .i64 (i:Int)] w' λe w2=>e= .returned (.bool (decide (i<sp.length)))/\Below w'.heap.size w' w2):=hid (λw' K=>wI i w' (t.out.keep K));have hii:(0:Int)<=(i:Int):=by omega
  by_cases hil:i<sp.length
  ·rw[aN hil] at CT;obtain⟨x,I⟩: ∃x,sp[i]?=some x:=⟨_,bH hil⟩;have E:sp.drop i=x::sp.drop (i+1):=by
    rw[iJ hil];rw[bH hil] at I;rw[bC I]
   have f:=T.out;rw[E] at f;unfold oD at f;obtain⟨x1,x2⟩:=G.out x (bA I);have S:=Fu x1 x2;have CB:Hid (∀w',Below wr.heap.size wr w'->Calls Tryz.prog 211 #[.pointer (some ⟨P,0,none⟩), .int .i64 (i:Int)] w' λe w2=>e= .returned (.tuple #[.int .i64 (bI (gH txt x):Int), .bool (decide (bI (gH txt x)=(gH txt x).length))])/\Below w'.heap.size w' w2):=hid (λw' K=>Rk i x w' (t.out.keep K) I G.out hs);obtain⟨nb,u⟩:=exQ<|bI (gH txt x);have hnbl:nb<=65536:=by have:=oO (gH txt x);omega
   rw[u] at CB f;obtain⟨i1,L⟩:=exQ<|i+1;have l:(i:Int)+1=(i1:Int):=(by omega);have o:i1<=sp.length:=(by omega);rw[L] at f;obtain⟨z,sv,lv,nv,X,N⟩:=t.out;obtain⟨gl,cl,e9,_,B⟩:=N.lineAt C.out;rw[Y.out] at e9;subst e9;have D: ∀w',Below wr.heap.size wr w'->w'.cell? ⟨P,2,none⟩=some (.slice (some ⟨gl,0,none⟩) n cl)/\w'.cell? ⟨gl,k*10+2+1,none⟩=some (.int .i64 ind):=λw' K=>by
    have F:=N.keep K;obtain⟨⟨_,_,c2,_⟩,_⟩:=F.cells;obtain⟨g2,c2',e2,_,p⟩:=F.lineAt C.out;have e3:=(Value.slice.inj e2).1;injection e3 with e3;injection e3 with e3;subst e3;have:=p 3 _ (by omega) rfl;rw[O] at this;exact⟨c2,this⟩
   have q:=hid D;have hPl:=N.lt;clear D N X B E x1 x2 S L I;by_cases hbl:nb=(gH txt x).length
   ·rw[if_pos hbl] at f;rw[aN hbl] at CB;have g:=hid f;clear hbl f u;go_wp2_with fail;refine(CT.out _ (by first | exact aB _ _ | exact(aB _ _).drew)).mono ?_;rintro e w2 ⟨rfl,a⟩;have b:=hid a;clear a;go_wp2_with fail;refine(CB.out _ b.out).mono ?_;rintro e w3 ⟨rfl,d⟩;have j:=hid (aC y.out (aC b.out d));clear d;go_wp2_with fail;go_roundw
    ·exact⟨til,first,i1,rfl,rfl,by first | rfl | rw[<-l],o,g,j⟩
    ·(try simp only[RowKit.intOf]);omega
   rw[if_neg hbl] at f;rw[aJ hbl] at CB;clear hbl u;by_cases h1:(nb:Int)<=ind
   ·rw[if_pos (.inl h1)] at f;have d1:decide ((nb:Int)<=ind)=true:=aN h1;have g:=hid f;clear h1 f;go_wp2_with fail;refine(CT.out _ (by first | exact aB _ _ | exact(aB _ _).drew)).mono ?_;rintro e w2 ⟨rfl,a⟩;have b:=hid a;clear a;go_wp2_with fail;refine(CB.out _ b.out).mono ?_;rintro e w3 ⟨rfl,d⟩;have c:=aC b.out d;obtain⟨c2,b3⟩:=q.out w3 c;have j:=hid (aC y.out c);clear d c;go_wp2_with fail;go_ret;rw[<-g.out];exact⟨rfl,j.out⟩
   have d1:decide ((nb:Int)<=ind)=false:=aJ h1;by_cases h2:nb<first
   ·rw[if_pos (.inr h2)] at f;have d2:decide ((nb:Int)<(first:Int))=true:=aN (by omega);have d2n:decide (nb<first)=true:=aN h2;have g:=hid f;clear h1 h2 f;go_wp2_with fail;refine(CT.out _ (by first | exact aB _ _ | exact(aB _ _).drew)).mono ?_;rintro e w2 ⟨rfl,a⟩;have b:=hid a;clear a;go_wp2_with fail;refine(CB.out _ b.out).mono ?_;rintro e w3 ⟨rfl,d⟩;have c:=aC b.out d;obtain⟨c2,b3⟩:=q.out w3 c;have j:=hid (aC y.out c);clear d c;go_wp2_with fail;go_ret;rw[<-g.out];exact⟨rfl,j.out⟩
   rw[if_neg (by rintro(h | h);exact h1 h;exact h2 h)] at f;have d2:decide ((nb:Int)<(first:Int))=false:=aJ (by omega);have d2n:decide (nb<first)=false:=aJ h2;obtain⟨f2,m⟩:=exQ (if first=0 then nb else first);rw[m] at f;have g:=hid f;clear h1 h2 f;by_cases h3:first=0
   ·rw[if_pos h3] at m;subst m h3;go_wp2_with fail;refine(CT.out _ (by first | exact aB _ _ | exact(aB _ _).drew)).mono ?_;rintro e w2 ⟨rfl,a⟩;have b:=hid a;clear a;go_wp2_with fail;refine(CB.out _ b.out).mono ?_;rintro e w3 ⟨rfl,d⟩;have c:=aC b.out d;obtain⟨c2,b3⟩:=q.out w3 c;have j:=hid (aC y.out c);clear d c;go_wp2_with fail;go_roundw
    ·exact⟨i1,nb,i1,by first | rfl | rw[<-l],rfl,by first | rfl | rw[<-l],o,g,j⟩
    ·(try simp only[RowKit.intOf]);omega
   ·rw[if_neg h3] at m;subst m;have d3:((first:Int)==0)=false:=aG.2 (by omega);have d3n:(first==0)=false:=aG.2 h3;clear h3;go_wp2_with fail;refine(CT.out _ (by first | exact aB _ _ | exact(aB _ _).drew)).mono ?_;rintro e w2 ⟨rfl,a⟩;have b:=hid a;clear a;go_wp2_with fail;refine(CB.out _ b.out).mono ?_;rintro e w3 ⟨rfl,d⟩;have c:=aC b.out d;obtain⟨c2,b3⟩:=q.out w3 c;have j:=hid (aC y.out c);clear d c;go_wp2_with fail;go_roundw
    ·exact⟨i1,first,i1,by first | rfl | rw[<-l],rfl,by first | rfl | rw[<-l],o,g,j⟩
    ·(try simp only[RowKit.intOf]);omega
  ·have Q:i=sp.length:=(by omega);subst Q;rw[aJ hil] at CT;have f:=T.out;rw[List.drop_length] at f;unfold oD at f;have g:=hid f;clear f hil;go_wp2_with fail;refine(CT.out _ (by first | exact aB _ _ | exact(aB _ _).drew)).mono ?_;rintro e w2 ⟨rfl,a⟩;have b:=hid (aC y.out a);clear a;go_wp2_with fail;go_ret;rw[<-g.out];exact⟨rfl,b.out⟩
def Rl:aM:=⟨0,0,0,0,0,0,0,0,[]⟩
theorem Rm {w:World}{X:Nat}{a0 a1 a2 a3 a4 a5 a6 a7 a8:Value}{t:TypeId} (hb:w.heap[X]?=some (.cells #[a0,a1,a2,a3,a4,a5,a6,a7,a8] t (0,0))):w.cell? ⟨X,0,none⟩=some a0/\w.cell? ⟨X,1,none⟩=some a1/\w.cell? ⟨X,2,none⟩=some a2/\w.cell? ⟨X,3,none⟩=some a3/\w.cell? ⟨X,4,none⟩=some a4/\w.cell? ⟨X,5,none⟩=some a5/\w.cell? ⟨X,6,none⟩=some a6/\w.cell? ⟨X,7,none⟩=some a7/\w.cell? ⟨X,8,none⟩=some a8/\
  w.frozen? ⟨X,0,none⟩=false/\w.frozen? ⟨X,1,none⟩=false/\w.frozen? ⟨X,2,none⟩=false/\w.frozen? ⟨X,3,none⟩=false/\w.frozen? ⟨X,4,none⟩=false/\w.frozen? ⟨X,5,none⟩=false/\w.frozen? ⟨X,6,none⟩=false/\w.frozen? ⟨X,7,none⟩=false/\w.frozen? ⟨X,8,none⟩=false:=by
 refine⟨?_,?_,?_,?_,?_,?_,?_,?_,?_,?_,?_,?_,?_,?_,?_,?_,?_,?_⟩<;>simp[World.cell?,World.frozen?,hb]
def Cb (w:World) (X:Nat) (a0 a1 a2 a3 a4 a5 a6 a7 a8:Value):World:=
 ((((((((w.setCell ⟨X,0,none⟩ a0).setCell ⟨X,1,none⟩ a1).setCell ⟨X,2,none⟩ a2).setCell ⟨X,3,none⟩ a3).setCell ⟨X,4,none⟩ a4).setCell ⟨X,5,none⟩ a5).setCell ⟨X,6,none⟩ a6).setCell ⟨X,7,none⟩ a7).setCell ⟨X,8,none⟩ a8
theorem aDi {w:World}{X:Nat}{o0 o1 o2 o3 o4 o5 o6 o7 o8 a0 a1 a2 a3 a4 a5 a6 a7 a8:Value}{t:TypeId} (h:w.heap[X]?=some (.cells #[o0,o1,o2,o3,o4,o5,o6,o7,o8] t (0,0))):(Cb w X a0 a1 a2 a3 a4 a5 a6 a7 a8).heap[X]?=some (.cells #[a0,a1,a2,a3,a4,a5,a6,a7,a8] t (0,0)):=by
 unfold Cb;simp[World.setCell,Array.getElem?_modify,h]
theorem aDj {W0 w':World}{Y:Nat}{a0 a1 a2 a3 a4 a5 a6 a7 a8:Value} (h:Below W0.heap.size W0 w') (hY:W0.heap.size<=Y):Below W0.heap.size W0 (Cb w' Y a0 a1 a2 a3 a4 a5 a6 a7 a8):=by
 unfold Cb
 (repeat (refine Below.setCell ?_ (by first | exact hY) _))
 exact h
theorem nM {w:World}{X:Nat}{a b:Value}{t:TypeId} (h:w.heap[X]?=some (.cells #[a,b] t)):w.cell? ⟨X,0,none⟩=some a/\w.cell? ⟨X,1,none⟩=some b:=by
 refine⟨?_,?_⟩<;>simp[World.cell?,h]
def Rn (Pr:aK) (w0:World) (P:Nat) (txt:aA) (sp:List (Nat×Nat)) (n til:Nat) (ns:List aM) (tot:Nat) (R:YR) (b:Bool) (i:Nat) (w:World):Prop:=match b with
 | true=>i<=til/\ ∃ls,ls.length=i/\(match qK txt ((sp.drop i).take (til-i)) ls with | .inr a=>YR.bad a 2 | .inl ls=> .ok n ⟨ls,ns,tot⟩)=R/\YJ YP Pr w0 P txt sp ⟨ls,ns,tot⟩ 0 0 w
 | false=> ∃a e,R= .bad a e/\gI YP Pr w0 P txt sp a e w
theorem aDk {Pr:aK}{w0:World}{P:Nat}{txt:aA}{sp:List (Nat×Nat)}{st:YS} (k:Nat) (kf kt:Int) (lv:Nat) (lev:Int) (w:World) (h:YJ YP Pr w0 P txt sp st 0 0 w) (hk:k+1=st.lines.length) (hw:eL txt sp st) (hl:Hid (lev=33-(lv:Int))) (hlv:lv<=32) (hsp:eS txt sp) (hs:txt.length<=65536) (hn:sp.length<=131072) (hV:cG w0):
  Calls Tryz.prog 174 #[.pointer (some ⟨P,0,none⟩), .int .i64 (k:Int), .int .i64 lev, .agg #[.int .i64 kf, .int .i64 kt]] w (iW YP Pr w0 P txt sp (oU txt sp lv k kf kt st)):=by
 obtain⟨R,y⟩:=exQ<|oU txt sp lv k kf kt st;rw[y];unfold oU at y;have ab:=qL (show k<st.lines.length by omega);obtain⟨r,hr⟩:=exQ<|aR st.lines k;rw[hr] at ab y;have bk:k<sp.length:=by have:=hw.ls.1;omega
 obtain⟨t1,t2⟩:=Oa (s:=txt) r.ind bk;have bd:=hw.ls.1;have hnt:=hw.tot;obtain⟨n,a3⟩:=exQ<|st.lines.length;have b1:=aH w (.cells #[.int .i64 kf, .int .i64 kt] 76);have G:=heap_alloc_new w (.cells #[.int .i64 kf, .int .i64 kt] 76);have U:=h.put b1 (aD _) G;have ax: ∀q o,Pr q=some o->(Pr.put w.heap.size (.cells #[.int .i64 kf, .int .i64 kt] 76)) q=some o:=aK.put_less (λq o H=>h.frLt q o H) (aD _);obtain⟨X1,ag⟩:=exQ<|w.heap.size;obtain⟨W1,aS⟩:=exQ<|w.alloc (.cells #[.int .i64 kf, .int .i64 kt] 76);rw[aS] at G U;rw[ag] at G U ax;have b2:=aH W1 (.cells (lineA r) 143);have K:=heap_alloc_new W1 (.cells (lineA r) 143);have X:=U.put b2 (aD _) K;have an: ∀q o,(Pr.put X1 (.cells #[.int .i64 kf, .int .i64 kt] 76)) q=some o->((Pr.put X1 (.cells #[.int .i64 kf, .int .i64 kt] 76)).put W1.heap.size (.cells (lineA r) 143)) q=some o:=aK.put_less (λq o H=>U.frLt q o H) (aD _);have V:(W1.alloc (.cells (lineA r) 143)).heap[X1]?=some (.cells #[.int .i64 kf, .int .i64 kt] 76):=(b2.block _ (aE G)).trans G;obtain⟨z,sv,lvv,nv,hz,hK⟩:=U;obtain⟨gl,cl,e9,_,l⟩:=hK.lineAt ab;subst e9;obtain⟨⟨_,_,c2,_⟩,_⟩:=hK.cells;have bo:=hK.lt;have g0:=l 0 _ (by omega) rfl;have g1:=l 1 _ (by omega) rfl;have g2:=l 2 _ (by omega) rfl;have g3:=l 3 _ (by omega) rfl;have g4:=l 4 _ (by omega) rfl;have g5:=l 5 _ (by omega) rfl;have g6:=l 6 _ (by omega) rfl;have g7:=l 7 _ (by omega) rfl;have g8:=l 8 _ (by omega) rfl;have g9:=l 9 _ (by omega) rfl;simp only[Nat.add_zero] at g0;rw[a3] at c2;have hk0:(0:Int)<=(k:Int):=by omega
 have hk1:(k:Int)<(n:Int):=by omega
 obtain⟨X2,aj⟩:=exQ<|W1.heap.size;obtain⟨W2,aw⟩:=exQ<|W1.alloc (.cells (lineA r) 143);rw[aw] at X K V;rw[aj] at X K an;unfold lineA at aw;have bg:=hid X;have az:=hid (aT V K);have av:=hid (λq o H=>an q o (ax q o H));have HR:=hid y;have HW:=hid hw;have aW:=hid hsp;have HK:=hid (aT hk (aT hr ab));have HN2:=hid a3;have HT:=hid (aT t1 t2);clear hK hz l X G V K b1 b2 ax an y hw hsp hk ab hr t1 t2 h;go_enter Tryz.func174,Tryz.ntmps174;go_upto_region 2 with fail;clear aS ag aw aj c2 g0 g1 g2 g3 g4 g5 g6 g7 g8 g9 bo;obtain⟨W0,T⟩:=exQ<|W2.drew;have ao:=bg.out.keep (aB _ W2).drew;rw[T] at ao;have J:=hid ao;obtain⟨til,L⟩:=exQ<|qI txt sp r.ind k;have C:=hid L;have CRe:Hid (∀w',Below W0.heap.size W0 w'->Calls Tryz.prog 197 #[.pointer (some ⟨P,0,none⟩), .int .i64 (k:Int)] w' λe w2=>e= .returned (.int .i64 (til:Int))/\Below w'.heap.size w' w2):=hid (λw' hb=>by have:=aDh k r.ind w' (J.out.keep hb) (by have:=HK.out.1;omega) bd (by rw[HK.out.2.1]) aW.out hs hn;rw[L] at this;exact this);obtain⟨nd,bf⟩: ∃nd:aM,(⟨4,r.ind,k,til,kf,kt,r.rf,r.rt,[]⟩:aM)=nd:=⟨_,rfl⟩;obtain⟨SA,aq⟩: ∃S:World->Prop,(λw'=>w'.cell? ⟨X2,3,none⟩=some (.int .i64 r.ind)/\w'.cell? ⟨X2,6,none⟩=some (.int .i64 r.rf)/\w'.cell? ⟨X2,7,none⟩=some (.int .i64 r.rt)/\w'.cell? ⟨X1,0,none⟩=some (.int .i64 kf)/\w'.cell? ⟨X1,1,none⟩=some (.int .i64 kt))=S:=⟨_,rfl⟩;have ad:Hid (∀w',Below W0.heap.size W0 w'->SA w'):=hid (λw' hb=>by
  rw[<-aq];have H:=J.out.keep hb;have hl:bR w' X2 r:=H.at_ (aK.put_eq _ _ _);have W:w'.heap[X1]?=some (.cells #[.int .i64 kf, .int .i64 kt] 76):=by
   have e0:W2.heap[X1]?=_:=az.out.1;have e1:W0.heap[X1]?=W2.heap[X1]?:=by rw[<-T];rfl
   exact(hb.block X1 (by rw[<-T];exact aE e0)).trans (e1.trans e0)
  obtain⟨_,_,_,b3,_,_,b6,b7,_⟩:=hl.cells;exact⟨b3,b6,b7,nM W⟩)
 clear L ao;subst bf;have a5:Tryz.prog.follows .mixedOrders=true:=by kernel_rfl
 refine nL a5 [some 22,some 23,some 24,some 25,some 26,some 27,some 28,some 29,some 30,some 31,some 11,none] [22,23,24,25,26,27,28,29,30,31,11] [11] 10 (pC W0 100 (iF Rl)) 58 rfl (by kernel_rfl) (by kernel_rfl) (by kernel_rfl) (λiz=>match iz with | 0=> .pointer (some ⟨X2,3,none⟩) | 1=> .int .i64 r.ind | 2=> .int .i64 (k:Int) | 3=> .pointer (some ⟨P,0,none⟩) | 4=> .int .i64 (k:Int) | 5=> .int .i64 (til:Int) | 6=> .agg #[.int .i64 kf, .int .i64 kt] | 7=> .pointer (some ⟨X2,6,none⟩) | 8=> .agg #[.int .i64 r.rf, .int .i64 r.rt] | 9=> .agg #[.int .i64 4, .int .i64 r.ind, .int .i64 (k:Int), .int .i64 (til:Int), .int .i64 kf, .int .i64 kt, .int .i64 r.rf, .int .i64 r.rt, .slice none 0 0] | _=>undef) SA (wJ W0 100 (iF ⟨4,r.ind,k,til,kf,kt,r.rf,r.rt,[]⟩)) (by rw[T];exact ad.out _ (aB _ _)) (by rw[T];exact aB _ _) ?_ ?_
 ·intro d a w' iq o' ho Z u O B R' y;have bi:iq<12:=(dW.1 ho).1;have q0:a.tmps[0]?.getD undef= .pointer (some ⟨P,0,none⟩):=bD O 0 (by decide);have q1:a.tmps[1]?.getD undef= .int .i64 (k:Int):=bD O 1 (by decide);have q7:a.tmps[7]?.getD undef= .pointer (some ⟨X1,0,none⟩):=bD O 7 (by decide);have q10:a.tmps[10]?.getD undef= .pointer (some ⟨X2,0,none⟩):=bD O 10 (by decide);have hc:=B.all [(0,22),(1,23),(2,24),(3,25),(4,26),(5,27),(6,28),(7,29),(8,30),(9,31)] (by decide);dsimp only[fU] at hc;clear O;have ha:=u;have Q:=ho;have bj:iq=5\/iq=10\/iq=11\/iq=0\/iq=2\/iq=3\/iq=4\/iq=7\/iq=9\/iq=1\/iq=6\/iq=8:=by omega
  clear bi;rcases bj with rfl|rfl|rfl|rfl|rfl|rfl|rfl|rfl|rfl|rfl|rfl|rfl<;>simp only[fN,dG,bM,cP] at ho<;>subst ho<;>(try simp[Region.binds] at u)
  ·have c25:=B.g 3 25 rfl (by decide) (by decide) (by decide) (by simp[u]);have c26:=B.g 4 26 rfl (by decide) (by decide) (by decide) (by simp[u]);have I:Below W0.heap.size W0 w':=B.at2 (j:=0) rfl (B.lastNot (f:=12) (i:=5) (by kernel_rfl) Z) (.inl rfl);go_simp;go_at_call 197;refine(CRe.out _ I).mono ?_;rintro e w5 ⟨rfl,al⟩;exact y _ _ (B.quiet (by kernel_rfl) Q ha rfl (by decide) (by decide) (by decide) rfl (B.lastNot (f:=12) (i:=5) (by kernel_rfl) Z) (λ_=>ad.out _ (aC I al)) (λk c _ hp=>hp.keep al) (λx hx=>hx.keep al))
  ·have I:Below W0.heap.size W0 w':=B.at2 (j:=0) rfl (B.lastNot (f:=12) (i:=10) (by kernel_rfl) Z) (.inl rfl);have aV:=aH w' (.cells (iF Rl) 100);go_simp;exact y _ _ (B.free (by kernel_rfl) Q ha rfl (by decide) rfl (by decide) (by kernel_rfl) (by decide) (B.lastNot (f:=12) (i:=10) (by kernel_rfl) Z) (λ_=>ad.out _ (aC I aV)) (λk c hp=>hp.keep aV) (pC.new I.size))
  ·have c31:=B.g 9 31 rfl (by decide) (by decide) (by decide) (by simp[u]);have a8:=B.at2 (j:=0) rfl Z (.inl rfl);obtain⟨Y,hY,F,E⟩:=B.fb Z (by simp[u]);have hY:a.tmps.getD 11 undef= .pointer (some ⟨Y,0,none⟩):=hY;have c11:a.tmps[11]?.getD undef= .pointer (some ⟨Y,0,none⟩):=by rw[<-aU];exact hY
   obtain⟨z0,z1,z2,z3,z4,z5,z6,z7,z8,h0,W,h2,h3,h4,h5,h6,h7,h8⟩:=Rm E;have I:Below W0.heap.size W0 w':=a8;go_simp;exact y undef _ (B.eff2 (by kernel_rfl) (by decide) 0 Q ha rfl Z (.inl rfl) rfl (by decide) (λh=>absurd rfl h) (λh=>absurd rfl h) ⟨Y,hY,F,aDi E,aDj I F⟩)
  iterate 6 (go_simp;exact y _ _ (B.pure (by kernel_rfl) Q ha rfl (by decide) (by decide) (by decide) rfl))
  all_goals
   have a2:=B.early (f:=12) (by kernel_rfl) Z;rw[<-aq] at a2;obtain⟨b3,b6,b7,y0,y1⟩:=a2;go_simp;exact y _ _ (B.pure (by kernel_rfl) Q ha rfl (by decide) (by decide) (by decide) rfl)
 intro v wz a6 ba;obtain⟨Y,hY,F,E,ar⟩:=ba;have af:v 11= .pointer (some ⟨Y,0,none⟩):=hY;simp only[cV,fO,eP,fP,af];have am:=J.out.put ar F E;have t:=hid (λq o H=>aK.put_less (Pr:=(Pr.put X1 (.cells #[.int .i64 kf, .int .i64 kt] 76)).put X2 (.cells (lineA r) 143)) (o:= .cells (iF ⟨4,r.ind,k,til,kf,kt,r.rf,r.rt,[]⟩) 100) (λq o' H=>J.out.frLt q o' H) F q o (av.out q o H));obtain⟨Pr3,ah⟩: ∃Pr3:aK,((Pr.put X1 (.cells #[.int .i64 kf, .int .i64 kt] 76)).put X2 (.cells (lineA r) 143)).put Y (.cells (iF ⟨4,r.ind,k,til,kf,kt,r.rf,r.rt,[]⟩) 100)=Pr3:=⟨_,rfl⟩;have ay:=hid (aK.put_eq ((Pr.put X1 (.cells #[.int .i64 kf, .int .i64 kt] 76)).put X2 (.cells (lineA r) 143)) Y (.cells (iF ⟨4,r.ind,k,til,kf,kt,r.rf,r.rt,[]⟩) 100));rw[ah] at am t ay;have aa:=hid am;have aL:bR wz X2 r:=(J.out.keep ar).at_ (aK.put_eq _ _ _);obtain⟨_,_,_,_,_,_,b6,_⟩:=aL.cells;obtain⟨z0,z1,z2,z3,z4,z5,z6,z7,z8⟩:=qU E;obtain⟨A,I⟩:=exQ<|jE ⟨4,r.ind,k,til,kf,kt,r.rf,r.rt,[]⟩ lv r.rf st;have CA:Hid (∀w',YJ YP Pr3 w0 P txt sp st 0 0 w'->Calls Tryz.prog 112 #[.pointer (some ⟨P,0,none⟩), .agg #[.int .i64 4, .int .i64 r.ind, .int .i64 (k:Int), .int .i64 (til:Int), .int .i64 kf, .int .i64 kt, .int .i64 r.rf, .int .i64 r.rt, .slice none 0 0], .int .i64 lev, .int .i64 r.rf] w' (iW YP Pr3 w0 P txt sp A)):=hid (λw' M=>by have:=Ri (Pr:=Pr3) ⟨4,r.ind,k,til,kf,kt,r.rf,r.rt,[]⟩ lv lev r.rf w' M rfl hl hlv (by omega);rw[I] at this;exact this);have HA:=hid I;clear I am ah a6 hY F E ar af ad aq CRe aL;cases A with
 | bad a e=>
  have y:=HR.out;rw[C.out,HA.out] at y;have bl:Hid (YR.bad a e=R):=hid y;clear y;go_wp2_with fail;refine(CA.out _ (by first | exact aa.out | exact aa.out.keep (aB _ _).drew)).mono ?_;rintro e w4 ⟨⟨m,rfl⟩,p⟩;have HF:=hid (p.less t.out);clear p;go_wp2_with fail;go_loopw [13] (λs13 wr=>s13= .bool false/\w4=wr) (λ_ _=>0)
  case atStart=>exact⟨rfl,rfl⟩
  case round=>
   obtain⟨rfl,rfl⟩:=hrel;go_wp2_with fail;go_ret2;rw[<-bl.out];exact⟨⟨_,rfl⟩,HF.out⟩
 | ok nn s1=>
  obtain⟨e1,e2,_,h4t⟩:=qM HA.out;subst e2;have y:=HR.out;rw[C.out,HA.out] at y;simp only[] at y;have bm:=hid e1;clear e1;have bh:=hid y;clear y;obtain⟨k1,ak⟩:=exQ<|k+1;have aF:(k:Int)+1=(k1:Int):=by omega
  have aZ:=hid ak;have htl:til<=sp.length:=by have:=HT.out.2;rw[C.out] at this;exact this
  have aY:k1<=til:=by have:=HT.out.1;rw[C.out] at this;omega
  clear ak;go_wp2_with fail;refine(CA.out _ (by first | exact aa.out | exact aa.out.keep (aB _ _).drew)).mono ?_;rintro e w4 ⟨rfl,aG⟩;have a9:Hid (Rn Pr3 w0 P txt sp nn til (st.nodes++ [⟨4,r.ind,k,til,kf,kt,r.rf,r.rt,[]⟩]) (st.total+1) R true k1 w4):=hid ⟨aY,st.lines,by rw[<-aZ.out];exact HK.out.1.symm,by rw[<-aZ.out];exact bh.out,aG⟩;clear aG z0 z1 z2 z3 z4 z5 z6 z7 z8 b6;go_wp2_with fail;go_loopw [13,14] (λs13 s14 wr=> ∃(b:Bool) (i:Nat),s13= .bool b/\s14= .int .i64 (i:Int)/\i<=sp.length+1/\Hid (Rn Pr3 w0 P txt sp nn til (st.nodes++ [⟨4,r.ind,k,til,kf,kt,r.rf,r.rt,[]⟩]) (st.total+1) R b i wr)) (λ_ s14 _=>sp.length+2-(RowKit.intOf s14).toNat)
  case atStart=>exact⟨true,k1,rfl,by first | rfl | rw[<-aF],by omega,a9⟩
  case round=>
   obtain⟨b,i,rfl,rfl,Z,a1⟩:=hrel;have hii:(0:Int)<=(i:Int):=(by omega);cases b with
   | false=>
    obtain⟨a,e,bn,p⟩:=(show ∃a e,R= .bad a e/\gI YP Pr3 w0 P txt sp a e wr from a1.out);have HF:=hid (p.less t.out);clear p;go_wp2_with fail;go_ret2;rw[bn];exact⟨⟨_,rfl⟩,HF.out⟩
   | true=>
    obtain⟨hit,ls,ae,D,M⟩:=(show i<=til/\ ∃ls,ls.length=i/\(match qK txt ((sp.drop i).take (til-i)) ls with | .inr a=>YR.bad a 2 | .inl ls=> .ok nn ⟨ls,st.nodes++ [⟨4,r.ind,k,til,kf,kt,r.rf,r.rt,[]⟩],st.total+1⟩)=R/\YJ YP Pr3 w0 P txt sp ⟨ls,st.nodes++ [⟨4,r.ind,k,til,kf,kt,r.rf,r.rt,[]⟩],st.total+1⟩ 0 0 wr from a1.out);have aX:=M.at_ ay.out;obtain⟨z0,z1,z2,z3,z4,z5,z6,z7,z8⟩:=qU aX;have N:=hid M;have aP:=hid ae;clear M aX ae;by_cases hilt:i<til
    ·have d1:decide ((i:Int)<(til:Int))=true:=aN (by omega);have d1n:decide (i<til)=true:=aN hilt;obtain⟨x,hx⟩: ∃x,sp[i]?=some x:=⟨_,bH (by omega)⟩;have aO:(sp.drop i).take (til-i)=x::(sp.drop (i+1)).take (til-(i+1)):=by
      rw[iJ (by omega)];rw[bH (by omega)] at hx;rw[bC hx,show til-i=(til-(i+1))+1 by omega,List.take_succ_cons]
     rw[aO] at D;unfold qK at D;have CTk:=hid (λw' M=>aDg (Pr:=Pr3) (P:=P) (st:=⟨ls,st.nodes++ [⟨4,r.ind,k,til,kf,kt,r.rf,r.rt,[]⟩],st.total+1⟩) i x w' M hx aW.out (by simp only[];have:=aP.out;omega) hs hn hV);unfold Gz at CTk;obtain⟨i1,a4⟩:=exQ<|i+1;have ai:(i:Int)+1=(i1:Int):=(by omega);have au:=hid a4;have HDX:=hid hx;clear aO hx a4;by_cases hm:qJ txt x<x.2
     ·rw[if_pos hm] at D;simp only[] at D;have a7:Hid (YR.bad (qJ txt x:Int) 2=R):=hid D;have CT2:Hid (∀w',YJ YP Pr3 w0 P txt sp ⟨ls,st.nodes++ [⟨4,r.ind,k,til,kf,kt,r.rf,r.rt,[]⟩],st.total+1⟩ 0 0 w'->Calls Tryz.prog 198 #[.pointer (some ⟨P,0,none⟩), .int .i64 (i:Int)] w' λe w2=>e= .returned (.bool false)/\gI YP Pr3 w0 P txt sp (qJ txt x:Int) 2 w2):=hid (λw' M=>(CTk.out w' M).mono (λe w2 hE=>by
       rcases hE with⟨_,W,h2⟩ | ⟨W,_⟩
       ·exact⟨W,h2⟩
       ·exact absurd hm W))
      clear D CTk hm;go_wp2_with fail;refine(CT2.out _ (by first | exact N.out | exact N.out.keep (aB _ _).drew)).mono ?_;rintro e w5 ⟨rfl,p⟩;have bc:=hid p;clear p;go_wp2_with fail;go_roundw
      ·exact⟨false,i1,rfl,by first | rfl | rw[<-ai],by omega,hid ⟨_,_,a7.out.symm,bc.out⟩⟩
      ·(try simp only[RowKit.intOf]);omega
     ·rw[if_neg hm] at D;have ap:=hid D;have CT2:Hid (∀w',YJ YP Pr3 w0 P txt sp ⟨ls,st.nodes++ [⟨4,r.ind,k,til,kf,kt,r.rf,r.rt,[]⟩],st.total+1⟩ 0 0 w'->Calls Tryz.prog 198 #[.pointer (some ⟨P,0,none⟩), .int .i64 (i:Int)] w' λe w2=>e= .returned (.bool true)/\YJ YP Pr3 w0 P txt sp ⟨ls++ [oT txt x],st.nodes++ [⟨4,r.ind,k,til,kf,kt,r.rf,r.rt,[]⟩],st.total+1⟩ 0 0 w2):=hid (λw' M=>(CTk.out w' M).mono (λe w2 hE=>by
       rcases hE with⟨W,_⟩ | ⟨_,W,h2⟩
       ·exact absurd W hm
       ·exact⟨W,h2⟩))
      clear D CTk hm;go_wp2_with fail;refine(CT2.out _ (by first | exact N.out | exact N.out.keep (aB _ _).drew)).mono ?_;rintro e w5 ⟨rfl,aQ⟩;have bb:=hid aQ;clear aQ;go_wp2_with fail;go_roundw
      ·exact⟨true,i1,rfl,by first | rfl | rw[<-ai],by omega,hid ⟨by have:=au.out;omega,ls++ [oT txt x],by rw[aI,dQ,aP.out];exact au.out,by rw[<-au.out];exact ap.out,bb.out⟩⟩
      ·(try simp only[RowKit.intOf]);omega
    ·have d1:decide ((i:Int)<(til:Int))=false:=aJ (by omega);have d1n:decide (i<til)=false:=aJ hilt;rw[show til-i=0 by omega,List.take_zero] at D;unfold qK at D;simp only[] at D;have ap:=hid D;have HF:=hid (N.out.less t.out);clear D hilt;go_wp2_with fail;go_ret2;rw[<-ap.out,bm.out];exact⟨rfl,HF.out⟩
end
section
open Go.Lib hiding intOf
theorem Ro {txt:aA}{ns:List aF}{A lv:Nat} (hK: ∀k,(fY txt ns k).length<=A) (ih: ∀k m,eK ns lv k m->(bQ txt ns lv k).bulk+(A+1)<=(m-k)*(2*A+2)) {hi:Nat}: ∀(l:List Nat) (a:Nat),dP (eK ns lv) l a hi->
  a<=hi/\bN (l.map (fY txt ns))+l.length+aY (l.map (bQ txt ns lv))<=(hi-a)*(2*A+2)
 | [],a,h=>by
  have e:a=hi:=h;subst e;exact⟨aD _,by simp[bN,aY]⟩
 | x::l,a,h=>by
  obtain⟨rfl,m,b,c⟩:=h;obtain⟨h4,h5⟩:=Ro hK ih l m c;have h6:=ih x m b;have h7:=b.lt;have h8:=hK x;refine⟨by omega,?_⟩;rw[lQ,lQ,Cw,aY,aL];have e:(hi-x)*(2*A+2)=(m-x)*(2*A+2)+(hi-m)*(2*A+2):=by rw[<-Nat.add_mul];congr 1;omega
  rw[e];omega
theorem Rp (txt:aA) (ns:List aF) (A:Nat) (hA: ∀kd sp,(pM kd (gZ txt sp)).length<=A) (hK: ∀k,(fY txt ns k).length<=A): ∀(lv k hi:Nat),eK ns lv k hi->(bQ txt ns lv k).bulk+(A+1)<=(hi-k)*(2*A+2)
 | 0,_,_,h=>h.elim
 | lv+1,k,hi,h=>by
  have hlt:=h.lt;obtain⟨x,c,b⟩:=h;obtain⟨h3,h4⟩:=Ro hK (Rp txt ns A hA hK lv) x.kids (k+1) b;have a:bQ txt ns (lv+1) k= .mk (x.kind:Int) (pM x.kind (gZ txt (x.sf,x.st))) (jD txt ns x.kind x.kids) (x.kids.map (bQ txt ns lv)):=by rw[bQ,c];rfl
  rw[a,VT.bulk];have h5:=hA x.kind (x.sf,x.st);have h6:bN (jD txt ns x.kind x.kids)+(jD txt ns x.kind x.kids).length<=bN (x.kids.map (fY txt ns))+x.kids.length:=by
   unfold jD;split
   ·rw[cA];exact aD _
   ·simp[bN]
  have e:(hi-k)*(2*A+2)=(hi-(k+1))*(2*A+2)+(2*A+2):=by
   rw[show hi-k=(hi-(k+1))+1 by omega,Nat.add_mul,Nat.one_mul]
  rw[e];omega
theorem Rq: ∀(f:Nat) (l:List UInt8) (i:Nat) (acc:List UInt8),(cN f l i acc).1.length<=acc.length+4*l.length
 | 0,_,_,_=>by simp[cN]
 | _+1,[],_,_=>by simp[cN]
 | f+1,c::r,i,acc=>by
  unfold cN;split
  ·simp
  ·split
   ·simp
   ·rename_i h;have hp:=tH (c::r) (List.cons_ne_nil _ _);obtain⟨P,hP⟩:=exQ<|dE (c::r);rw[hP] at hp h ⊢;have:=Rq f ((c::r).drop P.2.toNat) (i+P.2.toNat) (acc++encodeRune P.1);have a:=Lib.runeCells_le P.1;rw[Lib.runeCells_length] at a;rw[aZ,aI] at this;omega
theorem Ha (l:List UInt8):(fW l).1.length<=4*(l.length-1):=by
 have h:(bZ l 0).1.length<=4*(l.length-1):=by
  unfold bZ;split
  ·have:=Rq (l.length+1) (l.drop ((0:Int).toNat+1)) ((0:Int).toNat+1) [];rw[aZ] at this;simp only[bY] at this;have e0:(0:Int).toNat=0:=rfl;rw[e0] at this;rw[e0];omega
  ·simp
 unfold fW;split
 ·simp
 ·exact h
theorem aDl (s:aA) (he:(cO s).2≠0):(cO s).1=fB:=by
 unfold cO at he ⊢;cases hl:lM s with
 | none=>rfl
 | some x=>
  rw[hl] at he;simp only[] at he ⊢;obtain⟨q,a⟩:=exQ<|qX x;rw[a] at he ⊢;unfold qX at a;simp only[] at a
  (repeat' split at a)<;>subst a<;>first | rfl | exact absurd rfl he
end
section
open Go.Lib
theorem aDm (txt:aA) (ht:txt.length<=65536) (kd:Nat) (sp:Sp):(pM kd (gZ txt sp)).length<=262144:=by
 have hl:=Ax txt sp;unfold pM;split
 ·omega
 ·split
  ·by_cases he:(cO (gZ txt sp)).2=0
   ·have:=Po (gZ txt sp) he;omega
   ·have a:(cO (gZ txt sp)).1=fB:=aDl _ he;rw[a];decide+kernel
  ·split
   ·have:=Ha (gZ txt sp);omega
   ·simp
theorem aDn (txt:aA) (ns:List aF) (ht:txt.length<=65536) (k:Nat):(fY txt ns k).length<=262144:=by
 unfold fY;split
 ·have:=Ha (gZ txt (by assumption:aF).key);have h2:=Ax txt (by assumption:aF).key;omega
 ·simp
theorem aDo (t:aA) (ht:t.length<=65536):(nH t).1.bulk<=1099511627776:=by
 unfold nH;by_cases he:(gY t).2.2=0
 ·rw[if_neg (by simp[he])];obtain⟨⟨ns,at_,er⟩,hP⟩:=exQ<|gY t;rw[hP] at he;change er=0 at he;subst he;have b:=Di hP;have a:=Em t;rw[hP] at a ⊢;simp only[] at a ⊢;have:=Rp t ns 262144 (aDm t ht) (aDn t ns ht) 32 0 ns.length b;have h2:(ns.length-0)*(2*262144+2)<=65536*524290:=Nat.mul_le_mul (by omega) (by omega);omega
 ·rw[if_pos he];show gQ.bulk<=_;decide+kernel
theorem Rr (s:aA) (h:s.length<=65536):(lG s).bulk<=1099511627776:=by
 unfold lG;rw[VT.bulk];simp only[aY,bN,List.map_nil,List.sum_nil,bY];unfold lX;split
 ·simp
 ·split
  ·simp only[];omega
  ·split
   ·rename_i a;have:=Po s a;simp only[];omega
   ·simp only[];omega
theorem Hb: ∀(f:Nat) (l:aA) (i:Nat) (acc:aA),(fZ f l i acc).1.length<=acc.length+l.length
 | 0,l,i,acc=>by simp[fZ]
 | _+1,[],i,acc=>by simp[fZ]
 | f +1,c::r,i,acc=>by
  rw[sO];have h1:=Hb f (r.drop 1) (i+2) (acc++ [39]);have a:=Hb f ((c::r).drop (decodeL (c::r)).2) (i+(decodeL (c::r)).2) (acc++(c::r).take (decodeL (c::r)).2);have b:=decodeL_le (c::r) (List.cons_ne_nil _ _);rw[aI,aZ] at h1 a;rw[cB] at a;simp only[dQ,aL,bY] at h1 a b ⊢;split
  ·split
   ·rename_i d;have hr:1<=r.length:=by
     cases r with
     | nil=>simp at d
     | cons _ _=>simp
    omega
   ·simp only[];omega
  ·split
   ·simp
   ·omega
theorem Rs (t:aA):(lH t).1.length<=4*t.length:=by
 unfold lH;split
 ·unfold vW;split
  ·simp
  ·simp only[];unfold iP;split
   ·simp
   ·split
    ·have:=Hb (t.length+1) (t.drop ((0:Int).toNat+1)) ((0:Int).toNat+1) [];rw[aZ] at this;simp only[bY] at this;omega
    ·simp
 ·have:=Ha t;simp only[];omega
theorem aDp (t:aA) (h:t.length<=65536):(iU t).1.bulk<=1099511627776:=by
 have a:gQ.bulk<=1099511627776:=by decide+kernel
 unfold iU;split
 ·exact Rr [] (by simp)
 ·rename_i c r;split
  ·split
   ·exact a
   ·have:=Rs (c::r);show (lF _).bulk<=_;unfold lF;rw[VT.bulk];simp only[aY,bN,List.map_nil,List.sum_nil,bY];omega
  ·split
   ·exact aDo _ h
   ·split
    ·exact Rr _ h
    ·exact a
end
end Go.Proofs.YtjnooaljcgkfpaaGreatDoor
