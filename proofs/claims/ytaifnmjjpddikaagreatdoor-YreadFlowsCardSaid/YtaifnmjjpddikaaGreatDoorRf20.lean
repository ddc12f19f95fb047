import Derived.Test.YtaifnmjjpddikaaGreatDoorRf19
import Derived.Test.YtaifnmjjpddikaaGreatDoorRf12
import Derived.Test.YtaifnmjjpddikaaGreatDoorRf14
import Derived.Test.YtaifnmjjpddikaaGreatDoorRf1
import Derived.Lib.Builder
import Derived.Lib.AppendStr
import Derived.Lib.UnsafeStr
import Derived.Lib.FrozenHead
import Derived.Lib.FrozenHead2
import Derived.Lib.OthersKept
import Derived.Laws.Externs
import Derived.Shelf.RegionOpenPlain
import Derived.RegionTactic
import Derived.KernelRfl
import Derived.Test.YtaifnmjjpddikaaGreatDoorRf13
import Derived.Test.YtaifnmjjpddikaaGreatDoorRf4
import Derived.Test.YtaifnmjjpddikaaGreatDoorRf15
set_option maxRecDepth 100000
set_option maxHeartbeats 4000000
namespace Go.Proofs.YtaifnmjjpddikaaGreatDoor
set_option linter.unusedVariables false
set_option linter.unusedSimpArgs false
section
open Go.RowKit
open Go.Lib hiding intOf
theorem Xo (s:aA) (x:Nat×Nat):eH s (x.1:Int) (x.2:Int)=fR s x:=rfl
theorem Lf (t:aA):(Lib.trimLeftB t 32).length=t.length-bQ t:=by
 have h:Lib.trimLeftB t 32=t.drop (bQ t):=by
  refine Lib.trimLeftB_drop t 32 (bQ t) (mR t) (λj b hj hb=>?_) (λb hb=>?_)
  ·have:=vX t j hj;rw[hb] at this;exact bD this
  ·intro e;subst e;exact vY t hb
 rw[h,aV]
theorem Xp (t:aA) (w:World): ∃r:aA,r.length=t.length-bQ t/\Calls Tryz.prog 94 #[.string (bs t), .string ⟨#[32]⟩] w λe w'=>e= .returned (.string (bs r))/\w=w':=by
 refine⟨Lib.trimLeftB t 32,Lf t,?_⟩;have h:=Tryz.strings_TrimLeft_one (bs t) 32 (by decide) w;rw[aU] at h;exact h.mono λ_ _ ⟨a,b⟩=>⟨a,b.symm⟩
section
variable {Pr:aK}{w0:World}{P:Nat}{txt:aA}{sp:List (Nat×Nat)}{st:YS}{a0 e0:Int}
theorem Lg (k:Nat) (x:Nat×Nat) (w:World) (h:YJ YP Pr w0 P txt sp st a0 e0 w) (hx:sp[k]?=some x) (hsp:eJ txt sp) (hs:txt.length<=65536):
  Calls Tryz.prog 203 #[.pointer (some ⟨P,0,none⟩), .int .i64 (k:Int)] w λe w'=>e= .returned (.tuple #[.int .i64 (bQ (fR txt x):Int), .bool (decide (bQ (fR txt x)=(fR txt x).length))])/\Below w.heap.size w w':=by
 obtain⟨x1,x2⟩:=hsp x (aX hx);have hk:=(aQ.1 hx).1;obtain⟨t,ht⟩:=exQ<|fR txt x;have htl:=Ct x1 x2;have hsl:=mR t;rw[ht] at htl ⊢;have CB:Hid (∀w',Below w.heap.size w w'->Calls Tryz.prog 108 #[.pointer (some ⟨P,0,none⟩), .agg #[.int .i64 (x.1:Int), .int .i64 (x.2:Int)]] w' λe w2=>e= .returned (.string (bs t))/\Below w'.heap.size w' w2):=hid (λw' hb=>by have:=yP (x.1:Int) (x.2:Int) w' (h.keep hb) (by omega) (by omega) (by omega) (by omega);rw[Xo,ht] at this;exact this);obtain⟨z,sv,lv,nv,_,hK⟩:=h;obtain⟨gs,cs,rfl,hcs,s0,s1⟩:=hK.spanAt hx;obtain⟨⟨_,c1,_⟩,_⟩:=hK.cells;have hPl:=hK.lt;have st:=aR t;have hk0:(0:Int)<=(k:Int):=by omega
 have hk1:(k:Int)<(sp.length:Int):=by omega
 have htl2:t.length<=65536:=by omega
 obtain⟨nb,hnb⟩:=exQ<|bQ t;rw[hnb] at hsl ⊢;have CT:Hid (∀w,∃r:aA,r.length=t.length-nb/\Calls Tryz.prog 94 #[.string (bs t), .string ⟨#[32]⟩] w λe w'=>e= .returned (.string (bs r))/\w=w'):=hid (λw=>by rw[<-hnb];exact Xp t w);clear hK hx hsp ht htl hnb x1 x2 hs hcs;go_enter Tryz.func203,Tryz.ntmps203;go_wp2_with fail;refine(CB.out _ (by first | exact aB _ _ | exact(aB _ _).drew)).mono ?_;rintro e w2 ⟨rfl,hb2⟩;have HB2:=hid (show Below w.heap.size w w2 from by first | exact hb2 | exact aC (aB _ _).drew hb2);clear hb2;obtain⟨r,hrl,hcr⟩:=CT.out w2;have sr:=aR r;have CR:=hid hcr;clear hcr;go_wp2_with fail;refine CR.out.mono ?_;rintro e w3 ⟨rfl,rfl⟩;have e1:(t.length:Int)-(r.length:Int)=(nb:Int):=by omega
 have hwr:IntKind.i64.wrap ((t.length:Int)-(r.length:Int))=(nb:Int):=by rw[e1,IntKind.wrap_i64];omega
 clear hrl;go_wp2_with fail;go_ret2;refine⟨?_,HB2.out⟩;simp[e1];rw[Bool.eq_iff_iff,beq_iff_eq,kY];omega
end
def wL (r n:Int):Bool:=!(r==65533&&n==1)&&(r==9||(decide (32<=r)&&r !=127))
theorem Xq (d:Nat×Nat):Cm d=!wL (d.1:Int) (d.2:Int):=by
 unfold Cm wL;have h1:((d.1:Int)==65533)=(d.1==65533):=by rw[Bool.eq_iff_iff,beq_iff_eq,beq_iff_eq];omega
 have h2:((d.2:Int)==1)=(d.2==1):=by rw[Bool.eq_iff_iff,beq_iff_eq,beq_iff_eq];omega
 have h3:((d.1:Int)==9)=(d.1==9):=by rw[Bool.eq_iff_iff,beq_iff_eq,beq_iff_eq];omega
 have h4:decide ((32:Int)<=(d.1:Int))=decide (32<=d.1):=by rw[Bool.eq_iff_iff,kY,kY];omega
 have h5:((d.1:Int) !=127)=(d.1 !=127):=by rw[Bool.eq_iff_iff,fH,fH];omega
 rw[h1,h2,h3,h4,h5];cases (d.1==65533&&d.2==1)<;>cases (d.1==9||decide (32<=d.1)&&d.1 !=127)<;>rfl
theorem Xr (r n:Int) (w:World):Calls Tryz.prog 205 #[.int .i32 r, .int .i64 n] w λe w'=>e= .returned (.bool (wL r n))/\w=w':=by
 unfold wL;by_cases h1:r=65533
 ·subst h1;by_cases h2:n=1
  ·subst h2;go_enter Tryz.func205,Tryz.ntmps205;go_wp2_with fail;go_ret;exact⟨rfl,rfl⟩
  ·have d2:(n==1)=false:=aG.2 h2;rw[d2];clear h2;go_enter Tryz.func205,Tryz.ntmps205;go_wp2_with fail;go_ret;exact⟨rfl,rfl⟩
 ·have d1:(r==65533)=false:=aG.2 h1;rw[d1];clear h1;by_cases h3:r=9
  ·subst h3;go_enter Tryz.func205,Tryz.ntmps205;go_wp2_with fail;go_ret;exact⟨rfl,rfl⟩
  ·have d3:(r==9)=false:=aG.2 h3;rw[d3];clear h3;by_cases h4:32<=r
   ·have d4:decide (32<=r)=true:=aN h4;rw[d4];clear h4;by_cases h5:r=127
    ·subst h5;go_enter Tryz.func205,Tryz.ntmps205;go_wp2_with fail;go_ret;exact⟨rfl,rfl⟩
    ·have d5:(r !=127)=true:=fH.2 h5;rw[d5];clear h5;go_enter Tryz.func205,Tryz.ntmps205;go_wp2_with fail;go_ret;exact⟨rfl,rfl⟩
   ·have d4:decide (32<=r)=false:=aJ h4;rw[d4];clear h4;go_enter Tryz.func205,Tryz.ntmps205;go_wp2_with fail;go_ret;exact⟨rfl,rfl⟩
theorem Xs (l:aA) (i:Nat):decodeL (l.drop i)=((Utf8.decode (bs l) i).1,(Utf8.decode (bs l) i).2):=by
 have hd:=nM (bs l) i;rw[aU] at hd;exact hd
theorem Xt (l:aA) (i:Nat) (w:World) (hi:i<l.length) (hs:l.length<=1073741824) (hT:cC w):
  Calls Tryz.prog 204 #[.string (bs l), .int .i64 (i:Int)] w λe w'=>e= .returned (.tuple #[.int .i32 ((decodeL (l.drop i)).1:Int), .int .i64 ((decodeL (l.drop i)).2:Int)])/\Below w.heap.size w w':=by
 rw[Xs];have sl:=aR l;have CD:=hid (λw=>Bs l i w hi);have HT:=hid hT;have hi1:(i:Int)<(l.length:Int):=by omega
 clear hT;go_enter Tryz.func204,Tryz.ntmps204;go_wp2_with (go_at_call 111;refine(CD.out _ HT.out).mono ?_;rintro e w' ⟨rfl,hb⟩);go_ret2;exact⟨rfl,hb⟩
def sZ (x:Nat×Nat) (nb:Nat):aP:=⟨6,x.1,x.2,nb,0,0,0,0,0,0⟩
theorem Xu (s:aA) (x:Nat×Nat):sZ x (bQ (fR s x))=nA s x:=rfl
def Dd (Pr:aK) (w0:World) (P:Nat) (txt:aA) (sp:List (Nat×Nat)) (st:YS) (x:Nat×Nat) (e:Ending) (w':World):Prop:=
 (oV txt x<x.2/\e= .returned (.bool false)/\fU YP Pr w0 P txt sp (oV txt x:Int) 2 w')\/(¬oV txt x<x.2/\e= .returned (.bool true)/\YJ YP Pr w0 P txt sp ⟨st.lines++ [nA txt x],st.nodes,st.total⟩ 0 0 w')
theorem Xv (s:aA) (e:Nat) (f i:Nat) (h:e<=i):sN s e f i=i:=by
 cases f with
 | zero=>rfl
 | succ f=>unfold sN;rw[if_pos h]
theorem Xw {Pr:aK}{w0:World}{P:Nat}{txt:aA}{sp:List (Nat×Nat)}{st:YS} (q:Nat) (x:Nat×Nat) (w:World) (h:YJ YP Pr w0 P txt sp st 0 0 w) (hx:sp[q]?=some x) (hsp:eJ txt sp) (hl:st.lines.length<=sp.length) (hs:txt.length<=65536) (hn:sp.length<=131072) (hV:cA w0):
  Calls Tryz.prog 183 #[.pointer (some ⟨P,0,none⟩), .int .i64 (q:Int)] w (Dd Pr w0 P txt sp st x):=by
 obtain⟨x1,x2⟩:=hsp x (aX hx);have hq:=(aQ.1 hx).1;obtain⟨i0,hi0,hz0,hz1,hz2⟩:=info_parts Tryz.infoLine;have HSP:=hid hsp;have HX:=hid hx;obtain⟨k,hk⟩:=exQ<|st.lines.length;rw[hk] at hl;have HKL:=hid hk;have HJ:=hid h;have HV:Hid (∀w',Below w.heap.size w w'->cC w'):=hid (λw' hb=>((hV.keep h.bel).keep hb).tabs);have b0:=aH w (.cells #[.int .i64 (x.1:Int), .int .i64 (x.2:Int)] 59);obtain⟨M,hM⟩:=exQ<|oV txt x;unfold Dd;rw[hM];have HM:Hid (sN txt x.2 (x.2-x.1) x.1=M):=hid hM;obtain⟨z,sv,lv,nv,hz,hK⟩:=h;obtain⟨gs,cs,rfl,hcs,s0,s1⟩:=hK.spanAt hx;obtain⟨⟨_,c1,_⟩,_⟩:=hK.cells;have hPl:=hK.lt;have hq0:(0:Int)<=(q:Int):=by omega
 have hq1:(q:Int)<(sp.length:Int):=by omega
 have sl:=aR txt;have hX0:=heap_alloc_new w (.cells #[.int .i64 (x.1:Int), .int .i64 (x.2:Int)] 59);obtain⟨X,hXe⟩:=exQ<|w.heap.size;have HXe:=hid hXe;clear hK hz hx hsp hk hV hM hcs;go_enter Tryz.func183,Tryz.ntmps183;go_upto_region 2 with fail;have hput:=HJ.out.put b0 (aE _) hX0;have hless: ∀k o,Pr k=some o->(Pr.put w.heap.size (.cells #[.int .i64 (x.1:Int), .int .i64 (x.2:Int)] 59)) k=some o:=aK.put_less (λk o hk=>HJ.out.frLt k o hk) (aE _);obtain⟨W1,hW1⟩:=exQ<|w.alloc (.cells #[.int .i64 (x.1:Int), .int .i64 (x.2:Int)] 59);rw[hW1] at hput b0 hX0;rw[hXe] at hput hless hX0;rw[hW1];have HP1:=hid hput;have HX1:=hid hX0;have HLess:=hid hless;have HB1:=hid b0;obtain⟨y0,y1⟩:=qU hX0;clear hput hless hX0 b0 hW1 hXe s0 s1 c1 HJ;go_wp2_with fail;go_loopw [6] (λs6 wr=> ∃(i f:Nat),s6= .int .i64 (i:Int)/\i<=65536/\Hid (x.2<=i+f/\sN txt x.2 f i=M)/\Hid (Below W1.heap.size W1 wr)) (λs6 _=>x.2-(RowKit.intOf s6).toNat)
 case atStart=>exact⟨x.1,x.2-x.1,rfl,by omega,hid ⟨by omega,HM.out⟩,hid (aB _ _)⟩
 case round=>
  obtain⟨i,f,rfl,hi,HF,HBr⟩:=hrel;have HPr:=hid (HP1.out.keep HBr.out);have HXr:=hid (HPr.out.at_ (aK.put_eq _ _ _));obtain⟨y0,y1⟩:=qU HXr.out;obtain⟨z,sv,lvv,nv,hz,hK⟩:=HPr.out;obtain⟨⟨c0,c1,c2,_⟩,_⟩:=hK.cells;have hPl:=hK.lt;have hXl:=aF HXr.out;have hii:(0:Int)<=(i:Int):=by omega
  by_cases hix:i<x.2
  ·have d1:decide ((i:Int)<(x.2:Int))=true:=aN (by omega);have d1n:decide (i<x.2)=true:=aN hix;have hit:i<txt.length:=(by omega);have CN:Hid (∀w',Below wr.heap.size wr w'->Calls Tryz.prog 204 #[.string (bs txt), .int .i64 (i:Int)] w' λe w2=>e= .returned (.tuple #[.int .i32 ((decodeL (txt.drop i)).1:Int), .int .i64 ((decodeL (txt.drop i)).2:Int)])/\Below w'.heap.size w' w2):=hid (λw' hb=>Xt txt i w' hit (by omega) (HV.out w' (HB1.out.trans ((aC HBr.out hb).mono HB1.out.size))));have hne:txt.drop i≠ []:=λe=>by have:=congrArg List.length e;rw[aV] at this;simp at this;omega
   have hdw:=decodeL_le (txt.drop i) hne;have hdw2:1<=(decodeL (txt.drop i)).2:=by
    cases hd:txt.drop i with
    | nil=>exact absurd hd hne
    | cons c t=>exact decodeL_width (c::t)
   rw[aV] at hdw;obtain⟨g,hg⟩: ∃g,f=g+1:=⟨f-1,by have:=HF.out.1;omega⟩;subst hg;have hM:=HF.out.2;have hfi:=HF.out.1;unfold sN at hM;rw[if_neg (by omega)] at hM;obtain⟨d,hd⟩:=exQ<|decodeL (txt.drop i);rw[hd] at CN hdw hdw2 hM;obtain⟨r,n⟩:=d;rw[Xq] at hM;simp only[] at CN hdw hdw2 hM;have CM:=hid (λw=>Xr (r:Int) (n:Int) w);obtain⟨m,hm⟩:=exQ<|wL (r:Int) (n:Int);rw[hm] at CM hM;clear hd hm hne HF hK hz;cases m with
   | false=>
    rw[if_pos (by rfl)] at hM;have HMi:=hid hM;have HIX:=hid hix;have CF:=hid (λw' hj=>pC (Pr:=Pr.put X (.cells #[.int .i64 (x.1:Int), .int .i64 (x.2:Int)] 59)) (w0:=w0) (P:=P) (txt:=txt) (sp:=sp) (st:=st) (a0:=0) (e0:=0) (i:Int) 2 w' hj);clear hM hix;go_wp2_with fail;refine(CN.out _ (by first | exact aB _ _ | exact(aB _ _).drew)).mono ?_;rintro e w2 ⟨rfl,hb2⟩;have HP2:=hid (HPr.out.keep (by first | exact hb2 | exact aC (aB _ _).drew hb2));clear hb2;go_wp2_with fail;refine(CM.out _).mono ?_;rintro e w3 ⟨rfl,rfl⟩;go_wp2_with fail;refine(CF.out _ (by first | exact HP2.out | exact HP2.out.keep (aB _ _).drew)).mono ?_;rintro e w4 ⟨rfl,hj⟩;have HFi:=hid (hj.less HLess.out).bad;clear hj;go_wp2_with fail;go_ret;exact .inl ⟨by rw[<-HMi.out];exact HIX.out,rfl,by rw[<-HMi.out];exact HFi.out⟩
   | true=>
    rw[if_neg (by simp)] at hM;have HMi:=hid hM;obtain⟨i1,hi1⟩:=exQ<|i+n;have HI1:=hid hi1;have hi1z:(i:Int)+(n:Int)=(i1:Int):=(by omega);have hlt1:i<i1:=(by omega);have hi1b:i1<=65536:=(by omega);have hgi:x.2<=i1+g:=(by omega);have HG:=hid hgi;clear hM hi1 hgi hfi hdw;go_wp2_with fail;refine(CN.out _ (by first | exact aB _ _ | exact(aB _ _).drew)).mono ?_;rintro e w2 ⟨rfl,hb2⟩;have HB2:=hid (aC HBr.out (by first | exact hb2 | exact aC (aB _ _).drew hb2));clear hb2;go_wp2_with fail;refine(CM.out _).mono ?_;rintro e w3 ⟨rfl,rfl⟩;go_wp2_with fail;go_roundw
    ·exact⟨i1,g,by first | rfl | rw[<-hi1z],hi1b,hid ⟨HG.out,by rw[<-HI1.out];exact HMi.out⟩,HB2⟩
    ·(try simp only[RowKit.intOf]);omega
  ·have d1:decide ((i:Int)<(x.2:Int))=false:=aJ (by omega);have d1n:decide (i<x.2)=false:=aJ hix;have hM:=HF.out.2;rw[Xv _ _ _ _ (by omega)] at hM;have HNM:=hid (show ¬M<x.2 by omega);have CB:=hid (λw' hj=>Lg (Pr:=Pr.put X (.cells #[.int .i64 (x.1:Int), .int .i64 (x.2:Int)] 59)) (w0:=w0) (P:=P) (txt:=txt) (sp:=sp) (st:=st) (a0:=0) (e0:=0) q x w' hj HX.out HSP.out hs);obtain⟨nb,hnb⟩:=exQ<|bQ (fR txt x);obtain⟨bb,hbb⟩:=exQ<|decide (bQ (fR txt x)=(fR txt x).length);rw[hbb,hnb] at CB;have HNB:=hid hnb;clear hM hix hnb hbb HF hK hz;go_wp2_with fail;refine(CB.out _ (by first | exact HPr.out | exact HPr.out.keep (aB _ _).drew)).mono ?_;rintro e w2 ⟨rfl,hb2⟩;have HP2:=hid (HPr.out.keep (by first | exact hb2 | exact aC (aB _ _).drew hb2));clear hb2 y0 y1 c0 c1 c2;go_upto_region 9 with fail;obtain⟨W2,hW2⟩:=exQ<|w2.drew;obtain⟨z,sv,lvv,nv,hz,hK2⟩:=HP2.out.keep (aB _ w2).drew;rw[hW2] at hK2;obtain⟨pl,cl,rfl⟩:=hK2.lnSlice;rw[HKL.out] at hK2;have HZ:=hid hz;have HK2:=hid hK2;have hrow:=hK2.lnr;rw[HKL.out] at hrow;have HROW:=hid hrow;have HB0:=hid hK2.bel.size;obtain⟨SB,hSB⟩: ∃S:World->Prop,(λw'=>(w'.cell? ⟨P,2,none⟩=some (.slice pl k cl)/\w'.frozen? ⟨P,2,none⟩=false)/\w'.cell? ⟨X,0,none⟩=some (.int .i64 (x.1:Int))/\w'.cell? ⟨X,1,none⟩=some (.int .i64 (x.2:Int)))=S:=⟨_,rfl⟩;have HSB:Hid (∀q c w',q<3->cQ 121 w0.heap.size (.slice pl k cl) k (jA st.lines) (lineA (sZ x nb)) P 2 W2 q c w'->SB w'):=hid (λq c w' hq hp=>by rw[<-hSB];have hs:=HK2.out.seenA HROW.out (by decide) (λj o hj=>(HK2.out.fr j o hj).2.2.1) hq hp;obtain⟨c2,f2⟩:=hs.c2;obtain⟨b0,b1⟩:=qU (hs.fr X _ (aK.put_eq _ _ _));exact⟨⟨c2,f2⟩,b0,b1⟩);clear hK2 hrow hz;have hfol:Tryz.prog.follows .mixedOrders=true:=(by kernel_rfl);refine kR hfol [some 49,some 50,some 51,some 52,some 53,some 54,some 55,some 56,some 57,some 58,some 59,some 60,none] [49,50,51,52,53,54,55,56,57,58,59,60] [8,9,12] 1000000 (λ_ _=>True) 61 rfl (by kernel_rfl) (by kernel_rfl) (by kernel_rfl) (λiz=>match iz with | 0=> .pointer (some ⟨P,0,none⟩) | 1=> .pointer (some ⟨P,0,none⟩) | 2=> .pointer (some ⟨P,0,none⟩) | 3=> .pointer (some ⟨P,2,none⟩) | 4=> .slice pl k cl | 5=> .agg #[.int .i64 (x.1:Int), .int .i64 (x.2:Int)] | 6=> .int .i64 (nb:Int) | 7=> .agg #[.int .i64 6, .int .i64 (x.1:Int), .int .i64 (x.2:Int), .int .i64 (nb:Int), .int .i64 0, .int .i64 0, .int .i64 0, .int .i64 0, .int .i64 0, .int .i64 0] | 10=> .pointer (some ⟨P,0,none⟩) | 11=> .pointer (some ⟨P,2,none⟩) | _=>undef) SB (cQ 121 w0.heap.size (.slice pl k cl) k (jA st.lines) (lineA (sZ x nb)) P 2 W2) (by rw[hW2];exact HSB.out 0 undef _ (by decide) (aB _ _)) (by rw[hW2];exact aB _ _) ?_ ?_
   ·intro d a w' iq o' ho hi hall hfr hF R' hR;have hiN:iq<13:=(cM.1 ho).1;have q0:a.tmps[0]?.getD undef= .pointer (some ⟨P,0,none⟩):=aY hfr 0 (by decide);have q5:a.tmps[5]?.getD undef= .pointer (some ⟨X,0,none⟩):=aY hfr 5 (by decide);have q9:a.tmps[9]?.getD undef= .int .i64 (nb:Int):=aY hfr 9 (by decide);have hc:=hF.all [(0,49),(1,50),(2,51),(3,52),(4,53),(5,54),(6,55),(7,56),(10,59),(11,60)] (by decide);dsimp only[eW] at hc;clear hfr;have ha:=hall;have hoo:=ho;have hcs:iq=8\/iq=9\/iq=12\/iq=0\/iq=1\/iq=2\/iq=3\/iq=6\/iq=7\/iq=10\/iq=11\/iq=4\/iq=5:=(by omega);clear hiN;rcases hcs with rfl|rfl|rfl|rfl|rfl|rfl|rfl|rfl|rfl|rfl|rfl|rfl|rfl<;>simp only[dW,dA,cD,cS] at ho<;>subst ho<;>(try simp[Region.binds] at hall)
    ·have c56:=hF.g 7 56 rfl (by decide) (by decide) (by decide) (by simp[hall]);have hP0:=hF.at2 (j:=0) rfl hi (.inl rfl);have hA:Below W2.heap.size W2 w':=hP0;go_simp;exact hR _ _ (hF.eff2 (by kernel_rfl) (by decide) 0 hoo ha rfl hi (.inl rfl) rfl (by decide) (λ_ _ _=>trivial) (λ_=>HSB.out 1 _ _ (by decide) ⟨w',hA,rfl,rfl⟩) ⟨w',hA,rfl,rfl⟩)
    ·have c53:=hF.g 4 53 rfl (by decide) (by decide) (by decide) (by simp[hall]);have hpv:d 8=true:=(by simp[hall]);have hP0:=hF.at2 (j:=1) rfl hi (.inr ⟨8,rfl,hpv⟩);have ca':a.tmps.getD 53 undef= .slice pl k cl:=by rw[aO];exact c53
     exact cQ.app rfl (.tmp 53) (.tmp 57) 33 rfl Tryz.underlying33 hi0 hz0 hz1 hz2 rfl (by decide) rfl (Ky (sZ x nb)) HROW.out (by omega) (by decide) HB0.out hP0 ca' rfl (λv' w2 hp=>hR _ _ (hF.eff2 (by kernel_rfl) (by decide) 1 hoo ha rfl hi (.inr ⟨8,rfl,hpv⟩) rfl (by decide) (λ_ _ _=>trivial) (λ_=>HSB.out 2 _ _ (by decide) hp) hp))
    ·have c60:=hF.g 11 60 rfl (by decide) (by decide) (by decide) (by simp[hall]);have hpv:d 9=true:=(by simp[hall]);have hP0:=hF.at2 (j:=2) rfl hi (.inr ⟨9,rfl,hpv⟩);have hS0:=hF.st hi;rw[<-hSB] at hS0;obtain⟨⟨p2,p2f⟩,b0,b1⟩:=hS0;have hP2:cQ 121 w0.heap.size (.slice pl k cl) k (jA st.lines) (lineA (sZ x nb)) P 2 W2 2 (a.tmps.getD 58 undef) w':=hP0;obtain⟨gz,cz,hz⟩:=hP2.form;rw[hz] at hP2;have c58:a.tmps[58]?.getD undef= .slice (some ⟨gz,0,none⟩) (k+1) cz:=by rw[<-aO];exact hz
     go_simp;exact hR undef _ (hF.eff2 (by kernel_rfl) (by decide) 2 hoo ha rfl hi (.inr ⟨9,rfl,hpv⟩) rfl (by decide) (λ_ _ _=>trivial) (λh=>absurd rfl h) ⟨_,_,hP2,rfl⟩)
    iterate 8 (go_simp;exact hR _ _ (hF.pure (by kernel_rfl) hoo ha rfl (by decide) (by decide) (by decide) rfl))
    all_goals
     have hS0:=hF.early (f:=13) (by kernel_rfl) hi;rw[<-hSB] at hS0;obtain⟨⟨p2,p2f⟩,b0,b1⟩:=hS0;go_simp;exact hR _ _ (hF.pure (by kernel_rfl) hoo ha rfl (by decide) (by decide) (by decide) rfl)
   intro v wy hcl hP3;obtain⟨cz,hcz⟩: ∃c,cQ 121 w0.heap.size (.slice pl k cl) st.lines.length (jA st.lines) (lineA (sZ x nb)) P 2 W2 3 c wy:=⟨_,by rw[HKL.out];exact hP3⟩;obtain⟨lv',hK3⟩:=HK2.out.lineA hcz;have hK4:=hK3.less HLess.out;rw[show sZ x nb=nA txt x by rw[<-Xu txt x,HNB.out]] at hK4;have HFi:=hid hK4;clear hP3 hK3 hK4 hcz hcl HSB hSB hW2;simp only[cE,eE,dF,eF];go_wp2_with fail;go_ret;exact .inr ⟨HNM.out,rfl,z,_,_,_,HZ.out,HFi.out⟩
theorem Xx {Pr:aK}{w0:World}{P:Nat}{txt:aA}{sp:List (Nat×Nat)}{st:YS} (k:Nat) (ind:Int) (w:World) (h:YJ YP Pr w0 P txt sp st 0 0 w) (hk:k<st.lines.length) (hl:st.lines.length<=sp.length) (hi:(aZ st.lines k).ind=ind) (hsp:eJ txt sp) (hs:txt.length<=65536) (hn:sp.length<=131072):
  Calls Tryz.prog 182 #[.pointer (some ⟨P,0,none⟩), .int .i64 (k:Int)] w λe w'=>e= .returned (.int .i64 (oU txt sp ind k:Int))/\Below w.heap.size w w':=by
 obtain⟨R,hR⟩:=exQ<|oU txt sp ind k;rw[hR];unfold oU at hR;have HR:=hid hR;have HJ:=hid h;have HSP:=hid hsp;have hks:k+1<=sp.length:=by omega
 have hln:=pA hk;obtain⟨r,hr⟩:=exQ<|aZ st.lines k;rw[hr] at hln hi;have HLN:=hid hln;have hri:r.ind=ind:=hi;obtain⟨n,hnn⟩:=exQ<|st.lines.length;rw[hnn] at hk hl;have HN:=hid hnn;obtain⟨k1,hk1⟩:=exQ<|k+1;rw[hk1] at HR hks;have hk1z:(k:Int)+1=(k1:Int):=by omega
 have hk0:(0:Int)<=(k:Int):=by omega
 have hkn:(k:Int)<(n:Int):=by omega
 clear h hR hsp hln hr hi hnn hk1 hk;go_enter Tryz.func182,Tryz.ntmps182;go_wp2_with fail;go_loopw [5,6,7] (λs5 s6 s7 wr=> ∃(til first i:Nat),s5= .int .i64 (til:Int)/\s6= .int .i64 (first:Int)/\s7= .int .i64 (i:Int)/\i<=sp.length/\Hid (mL txt ind (sp.drop i) i til first=R)/\Hid (Below w.heap.size w wr)) (λ_ _ s7 _=>sp.length+1-(RowKit.intOf s7).toNat)
 case atStart=>exact⟨k1,0,k1,by first | rfl | rw[<-hk1z],rfl,by first | rfl | rw[<-hk1z],hks,HR,hid (aB _ _)⟩
 case round=>
  obtain⟨til,first,i,rfl,rfl,rfl,hi,HG,HB⟩:=hrel;have HJr:=hid (HJ.out.keep HB.out);have CT:Hid (∀w',Below wr.heap.size wr w'->Calls Tryz.prog 34 #[.pointer (some ⟨P,0,none⟩), .int .i64 (i:Int)] w' λe w2=>e= .returned (.bool (decide (i<sp.length)))/\Below w'.heap.size w' w2):=hid (λw' hb=>uJ i w' (HJr.out.keep hb));have hii:(0:Int)<=(i:Int):=by omega
  by_cases hil:i<sp.length
  ·rw[aN hil] at CT;obtain⟨x,hx⟩: ∃x,sp[i]?=some x:=⟨_,bJ hil⟩;have hdr:sp.drop i=x::sp.drop (i+1):=by
    rw[iK hil];rw[bJ hil] at hx;rw[bD hx]
   have hg:=HG.out;rw[hdr] at hg;unfold mL at hg;obtain⟨x1,x2⟩:=HSP.out x (aX hx);have htl:=Ct x1 x2;have CB:Hid (∀w',Below wr.heap.size wr w'->Calls Tryz.prog 203 #[.pointer (some ⟨P,0,none⟩), .int .i64 (i:Int)] w' λe w2=>e= .returned (.tuple #[.int .i64 (bQ (fR txt x):Int), .bool (decide (bQ (fR txt x)=(fR txt x).length))])/\Below w'.heap.size w' w2):=hid (λw' hb=>Lg i x w' (HJr.out.keep hb) hx HSP.out hs);obtain⟨nb,hnb⟩:=exQ<|bQ (fR txt x);have hnbl:nb<=65536:=by have:=mR (fR txt x);omega
   rw[hnb] at CB hg;obtain⟨i1,hi1⟩:=exQ<|i+1;have hi1z:(i:Int)+1=(i1:Int):=(by omega);have hi1s:i1<=sp.length:=(by omega);rw[hi1] at hg;obtain⟨z,sv,lv,nv,hz,hK⟩:=HJr.out;obtain⟨gl,cl,e9,_,hcell⟩:=hK.lineAt HLN.out;rw[HN.out] at e9;subst e9;have hcl: ∀w',Below wr.heap.size wr w'->w'.cell? ⟨P,2,none⟩=some (.slice (some ⟨gl,0,none⟩) n cl)/\w'.cell? ⟨gl,k*10+2+1,none⟩=some (.int .i64 ind):=λw' hb=>by
    have hK2:=hK.keep hb;obtain⟨⟨_,_,c2,_⟩,_⟩:=hK2.cells;obtain⟨g2,c2',e2,_,hcell2⟩:=hK2.lineAt HLN.out;have e3:=(Value.slice.inj e2).1;injection e3 with e3;injection e3 with e3;subst e3;have:=hcell2 3 _ (by omega) rfl;rw[hri] at this;exact⟨c2,this⟩
   have HCL:=hid hcl;have hPl:=hK.lt;clear hcl hK hz hcell hdr x1 x2 htl hi1 hx;by_cases hbl:nb=(fR txt x).length
   ·rw[if_pos hbl] at hg;rw[aN hbl] at CB;have HG2:=hid hg;clear hbl hg hnb;go_wp2_with fail;refine(CT.out _ (by first | exact aB _ _ | exact(aB _ _).drew)).mono ?_;rintro e w2 ⟨rfl,hb2⟩;have HB2:=hid hb2;clear hb2;go_wp2_with fail;refine(CB.out _ HB2.out).mono ?_;rintro e w3 ⟨rfl,hb3⟩;have HB3:=hid (aC HB.out (aC HB2.out hb3));clear hb3;go_wp2_with fail;go_roundw
    ·exact⟨til,first,i1,rfl,rfl,by first | rfl | rw[<-hi1z],hi1s,HG2,HB3⟩
    ·(try simp only[RowKit.intOf]);omega
   rw[if_neg hbl] at hg;rw[aJ hbl] at CB;clear hbl hnb;by_cases h1:(nb:Int)<=ind
   ·rw[if_pos (.inl h1)] at hg;have d1:decide ((nb:Int)<=ind)=true:=aN h1;have HG2:=hid hg;clear h1 hg;go_wp2_with fail;refine(CT.out _ (by first | exact aB _ _ | exact(aB _ _).drew)).mono ?_;rintro e w2 ⟨rfl,hb2⟩;have HB2:=hid hb2;clear hb2;go_wp2_with fail;refine(CB.out _ HB2.out).mono ?_;rintro e w3 ⟨rfl,hb3⟩;have hb4:=aC HB2.out hb3;obtain⟨c2,b3⟩:=HCL.out w3 hb4;have HB3:=hid (aC HB.out hb4);clear hb3 hb4;go_wp2_with fail;go_ret;rw[<-HG2.out];exact⟨rfl,HB3.out⟩
   have d1:decide ((nb:Int)<=ind)=false:=aJ h1;by_cases h2:nb<first
   ·rw[if_pos (.inr h2)] at hg;have d2:decide ((nb:Int)<(first:Int))=true:=aN (by omega);have d2n:decide (nb<first)=true:=aN h2;have HG2:=hid hg;clear h1 h2 hg;go_wp2_with fail;refine(CT.out _ (by first | exact aB _ _ | exact(aB _ _).drew)).mono ?_;rintro e w2 ⟨rfl,hb2⟩;have HB2:=hid hb2;clear hb2;go_wp2_with fail;refine(CB.out _ HB2.out).mono ?_;rintro e w3 ⟨rfl,hb3⟩;have hb4:=aC HB2.out hb3;obtain⟨c2,b3⟩:=HCL.out w3 hb4;have HB3:=hid (aC HB.out hb4);clear hb3 hb4;go_wp2_with fail;go_ret;rw[<-HG2.out];exact⟨rfl,HB3.out⟩
   rw[if_neg (by rintro(h | h);exact h1 h;exact h2 h)] at hg;have d2:decide ((nb:Int)<(first:Int))=false:=aJ (by omega);have d2n:decide (nb<first)=false:=aJ h2;obtain⟨f2,hf2⟩:=exQ (if first=0 then nb else first);rw[hf2] at hg;have HG2:=hid hg;clear h1 h2 hg;by_cases h3:first=0
   ·rw[if_pos h3] at hf2;subst hf2 h3;go_wp2_with fail;refine(CT.out _ (by first | exact aB _ _ | exact(aB _ _).drew)).mono ?_;rintro e w2 ⟨rfl,hb2⟩;have HB2:=hid hb2;clear hb2;go_wp2_with fail;refine(CB.out _ HB2.out).mono ?_;rintro e w3 ⟨rfl,hb3⟩;have hb4:=aC HB2.out hb3;obtain⟨c2,b3⟩:=HCL.out w3 hb4;have HB3:=hid (aC HB.out hb4);clear hb3 hb4;go_wp2_with fail;go_roundw
    ·exact⟨i1,nb,i1,by first | rfl | rw[<-hi1z],rfl,by first | rfl | rw[<-hi1z],hi1s,HG2,HB3⟩
    ·(try simp only[RowKit.intOf]);omega
   ·rw[if_neg h3] at hf2;subst hf2;have d3:((first:Int)==0)=false:=aG.2 (by omega);have d3n:(first==0)=false:=aG.2 h3;clear h3;go_wp2_with fail;refine(CT.out _ (by first | exact aB _ _ | exact(aB _ _).drew)).mono ?_;rintro e w2 ⟨rfl,hb2⟩;have HB2:=hid hb2;clear hb2;go_wp2_with fail;refine(CB.out _ HB2.out).mono ?_;rintro e w3 ⟨rfl,hb3⟩;have hb4:=aC HB2.out hb3;obtain⟨c2,b3⟩:=HCL.out w3 hb4;have HB3:=hid (aC HB.out hb4);clear hb3 hb4;go_wp2_with fail;go_roundw
    ·exact⟨i1,first,i1,by first | rfl | rw[<-hi1z],rfl,by first | rfl | rw[<-hi1z],hi1s,HG2,HB3⟩
    ·(try simp only[RowKit.intOf]);omega
  ·have hie:i=sp.length:=(by omega);subst hie;rw[aJ hil] at CT;have hg:=HG.out;rw[List.drop_length] at hg;unfold mL at hg;have HG2:=hid hg;clear hg hil;go_wp2_with fail;refine(CT.out _ (by first | exact aB _ _ | exact(aB _ _).drew)).mono ?_;rintro e w2 ⟨rfl,hb2⟩;have HB2:=hid (aC HB.out hb2);clear hb2;go_wp2_with fail;go_ret;rw[<-HG2.out];exact⟨rfl,HB2.out⟩
def Lh:aM:=⟨0,0,0,0,0,0,0,0,[]⟩
theorem Li {w:World}{X:Nat}{a0 a1 a2 a3 a4 a5 a6 a7 a8:Value}{t:TypeId} (hb:w.heap[X]?=some (.cells #[a0,a1,a2,a3,a4,a5,a6,a7,a8] t (0,0))):w.cell? ⟨X,0,none⟩=some a0/\w.cell? ⟨X,1,none⟩=some a1/\w.cell? ⟨X,2,none⟩=some a2/\w.cell? ⟨X,3,none⟩=some a3/\w.cell? ⟨X,4,none⟩=some a4/\w.cell? ⟨X,5,none⟩=some a5/\w.cell? ⟨X,6,none⟩=some a6/\w.cell? ⟨X,7,none⟩=some a7/\w.cell? ⟨X,8,none⟩=some a8/\
  w.frozen? ⟨X,0,none⟩=false/\w.frozen? ⟨X,1,none⟩=false/\w.frozen? ⟨X,2,none⟩=false/\w.frozen? ⟨X,3,none⟩=false/\w.frozen? ⟨X,4,none⟩=false/\w.frozen? ⟨X,5,none⟩=false/\w.frozen? ⟨X,6,none⟩=false/\w.frozen? ⟨X,7,none⟩=false/\w.frozen? ⟨X,8,none⟩=false:=by
 refine⟨?_,?_,?_,?_,?_,?_,?_,?_,?_,?_,?_,?_,?_,?_,?_,?_,?_,?_⟩<;>simp[World.cell?,World.frozen?,hb]
def yS (w:World) (X:Nat) (a0 a1 a2 a3 a4 a5 a6 a7 a8:Value):World:=
 ((((((((w.setCell ⟨X,0,none⟩ a0).setCell ⟨X,1,none⟩ a1).setCell ⟨X,2,none⟩ a2).setCell ⟨X,3,none⟩ a3).setCell ⟨X,4,none⟩ a4).setCell ⟨X,5,none⟩ a5).setCell ⟨X,6,none⟩ a6).setCell ⟨X,7,none⟩ a7).setCell ⟨X,8,none⟩ a8
theorem Xy {w:World}{X:Nat}{o0 o1 o2 o3 o4 o5 o6 o7 o8 a0 a1 a2 a3 a4 a5 a6 a7 a8:Value}{t:TypeId} (h:w.heap[X]?=some (.cells #[o0,o1,o2,o3,o4,o5,o6,o7,o8] t (0,0))):(yS w X a0 a1 a2 a3 a4 a5 a6 a7 a8).heap[X]?=some (.cells #[a0,a1,a2,a3,a4,a5,a6,a7,a8] t (0,0)):=by
 unfold yS;simp[World.setCell,Array.getElem?_modify,h]
theorem Xz {W0 w':World}{Y:Nat}{a0 a1 a2 a3 a4 a5 a6 a7 a8:Value} (h:Below W0.heap.size W0 w') (hY:W0.heap.size<=Y):Below W0.heap.size W0 (yS w' Y a0 a1 a2 a3 a4 a5 a6 a7 a8):=by
 unfold yS
 (repeat (refine Below.setCell ?_ (by first | exact hY) _))
 exact h
theorem lU {w:World}{X:Nat}{a b:Value}{t:TypeId} (h:w.heap[X]?=some (.cells #[a,b] t)):w.cell? ⟨X,0,none⟩=some a/\w.cell? ⟨X,1,none⟩=some b:=by
 refine⟨?_,?_⟩<;>simp[World.cell?,h]
def Lj (Pr:aK) (w0:World) (P:Nat) (txt:aA) (sp:List (Nat×Nat)) (n til:Nat) (ns:List aM) (tot:Nat) (R:YR) (b:Bool) (i:Nat) (w:World):Prop:=match b with
 | true=>i<=til/\ ∃ls,ls.length=i/\(match oW txt ((sp.drop i).take (til-i)) ls with | .inr a=>YR.bad a 2 | .inl ls=> .ok n ⟨ls,ns,tot⟩)=R/\YJ YP Pr w0 P txt sp ⟨ls,ns,tot⟩ 0 0 w
 | false=> ∃a e,R= .bad a e/\fU YP Pr w0 P txt sp a e w
theorem Ya {Pr:aK}{w0:World}{P:Nat}{txt:aA}{sp:List (Nat×Nat)}{st:YS} (k:Nat) (kf kt:Int) (lv:Nat) (lev:Int) (w:World) (h:YJ YP Pr w0 P txt sp st 0 0 w) (hk:k+1=st.lines.length) (hw:dZ txt sp st) (hl:Hid (lev=33-(lv:Int))) (hlv:lv<=32) (hsp:eJ txt sp) (hs:txt.length<=65536) (hn:sp.length<=131072) (hV:cA w0):
  Calls Tryz.prog 153 #[.pointer (some ⟨P,0,none⟩), .int .i64 (k:Int), .int .i64 lev, .agg #[.int .i64 kf, .int .i64 kt]] w (gX YP Pr w0 P txt sp (nB txt sp lv k kf kt st)):=by
 obtain⟨R,hR⟩:=exQ<|nB txt sp lv k kf kt st;rw[hR];unfold nB at hR;have hln:=pA (show k<st.lines.length by omega);obtain⟨r,hr⟩:=exQ<|aZ st.lines k;rw[hr] at hln hR;have hks:k<sp.length:=by have:=hw.ls.1;omega
 obtain⟨t1,t2⟩:=Km (s:=txt) r.ind hks;have hll:=hw.ls.1;have hnt:=hw.tot;obtain⟨n,hn2⟩:=exQ<|st.lines.length;have b1:=aH w (.cells #[.int .i64 kf, .int .i64 kt] 59);have hX1:=heap_alloc_new w (.cells #[.int .i64 kf, .int .i64 kt] 59);have hp1:=h.put b1 (aE _) hX1;have hl1: ∀q o,Pr q=some o->(Pr.put w.heap.size (.cells #[.int .i64 kf, .int .i64 kt] 59)) q=some o:=aK.put_less (λq o hq=>h.frLt q o hq) (aE _);obtain⟨X1,hX1e⟩:=exQ<|w.heap.size;obtain⟨W1,hW1⟩:=exQ<|w.alloc (.cells #[.int .i64 kf, .int .i64 kt] 59);rw[hW1] at hX1 hp1;rw[hX1e] at hX1 hp1 hl1;have b2:=aH W1 (.cells (lineA r) 121);have hX2:=heap_alloc_new W1 (.cells (lineA r) 121);have hp2:=hp1.put b2 (aE _) hX2;have hl2: ∀q o,(Pr.put X1 (.cells #[.int .i64 kf, .int .i64 kt] 59)) q=some o->((Pr.put X1 (.cells #[.int .i64 kf, .int .i64 kt] 59)).put W1.heap.size (.cells (lineA r) 121)) q=some o:=aK.put_less (λq o hq=>hp1.frLt q o hq) (aE _);have hX1':(W1.alloc (.cells (lineA r) 121)).heap[X1]?=some (.cells #[.int .i64 kf, .int .i64 kt] 59):=(b2.block _ (aF hX1)).trans hX1;obtain⟨z,sv,lvv,nv,hz,hK⟩:=hp1;obtain⟨gl,cl,e9,_,hcell⟩:=hK.lineAt hln;subst e9;obtain⟨⟨_,_,c2,_⟩,_⟩:=hK.cells;have hPl:=hK.lt;have g0:=hcell 0 _ (by omega) rfl;have g1:=hcell 1 _ (by omega) rfl;have g2:=hcell 2 _ (by omega) rfl;have g3:=hcell 3 _ (by omega) rfl;have g4:=hcell 4 _ (by omega) rfl;have g5:=hcell 5 _ (by omega) rfl;have g6:=hcell 6 _ (by omega) rfl;have g7:=hcell 7 _ (by omega) rfl;have g8:=hcell 8 _ (by omega) rfl;have g9:=hcell 9 _ (by omega) rfl;simp only[Nat.add_zero] at g0;rw[hn2] at c2;have hk0:(0:Int)<=(k:Int):=by omega
 have hk1:(k:Int)<(n:Int):=by omega
 obtain⟨X2,hX2f⟩:=exQ<|W1.heap.size;obtain⟨W2,hW2⟩:=exQ<|W1.alloc (.cells (lineA r) 121);rw[hW2] at hp2 hX2 hX1';rw[hX2f] at hp2 hX2 hl2;unfold lineA at hW2;have HP2:=hid hp2;have HX12:=hid (aI hX1' hX2);have HLess:=hid (λq o hq=>hl2 q o (hl1 q o hq));have HR:=hid hR;have HW:=hid hw;have HSP:=hid hsp;have HK:=hid (aI hk (aI hr hln));have HN2:=hid hn2;have HT:=hid (aI t1 t2);clear hK hz hcell hp2 hX1 hX1' hX2 b1 b2 hl1 hl2 hR hw hsp hk hln hr t1 t2 h;go_enter Tryz.func153,Tryz.ntmps153;go_upto_region 2 with fail;clear hW1 hX1e hW2 hX2f c2 g0 g1 g2 g3 g4 g5 g6 g7 g8 g9 hPl;obtain⟨W0,hW0⟩:=exQ<|W2.drew;have hp0:=HP2.out.keep (aB _ W2).drew;rw[hW0] at hp0;have HP0:=hid hp0;obtain⟨til,htil⟩:=exQ<|oU txt sp r.ind k;have HTil:=hid htil;have CRe:Hid (∀w',Below W0.heap.size W0 w'->Calls Tryz.prog 182 #[.pointer (some ⟨P,0,none⟩), .int .i64 (k:Int)] w' λe w2=>e= .returned (.int .i64 (til:Int))/\Below w'.heap.size w' w2):=hid (λw' hb=>by have:=Xx k r.ind w' (HP0.out.keep hb) (by have:=HK.out.1;omega) hll (by rw[HK.out.2.1]) HSP.out hs hn;rw[htil] at this;exact this);obtain⟨nd,hnd⟩: ∃nd:aM,(⟨4,r.ind,k,til,kf,kt,r.rf,r.rt,[]⟩:aM)=nd:=⟨_,rfl⟩;obtain⟨SA,hSA⟩: ∃S:World->Prop,(λw'=>w'.cell? ⟨X2,3,none⟩=some (.int .i64 r.ind)/\w'.cell? ⟨X2,6,none⟩=some (.int .i64 r.rf)/\w'.cell? ⟨X2,7,none⟩=some (.int .i64 r.rt)/\w'.cell? ⟨X1,0,none⟩=some (.int .i64 kf)/\w'.cell? ⟨X1,1,none⟩=some (.int .i64 kt))=S:=⟨_,rfl⟩;have HSA:Hid (∀w',Below W0.heap.size W0 w'->SA w'):=hid (λw' hb=>by
  rw[<-hSA];have hq:=HP0.out.keep hb;have hl:cB w' X2 r:=hq.at_ (aK.put_eq _ _ _);have h1:w'.heap[X1]?=some (.cells #[.int .i64 kf, .int .i64 kt] 59):=by
   have e0:W2.heap[X1]?=_:=HX12.out.1;have e1:W0.heap[X1]?=W2.heap[X1]?:=by rw[<-hW0];rfl
   exact(hb.block X1 (by rw[<-hW0];exact aF e0)).trans (e1.trans e0)
  obtain⟨_,_,_,b3,_,_,b6,b7,_⟩:=hl.cells;exact⟨b3,b6,b7,lU h1⟩)
 clear htil hp0;subst hnd;have hfol:Tryz.prog.follows .mixedOrders=true:=by kernel_rfl
 refine kR hfol [some 22,some 23,some 24,some 25,some 26,some 27,some 28,some 29,some 30,some 31,some 11,none] [22,23,24,25,26,27,28,29,30,31,11] [11] 10 (nH W0 62 (gP Lh)) 58 rfl (by kernel_rfl) (by kernel_rfl) (by kernel_rfl) (λiz=>match iz with | 0=> .pointer (some ⟨X2,3,none⟩) | 1=> .int .i64 r.ind | 2=> .int .i64 (k:Int) | 3=> .pointer (some ⟨P,0,none⟩) | 4=> .int .i64 (k:Int) | 5=> .int .i64 (til:Int) | 6=> .agg #[.int .i64 kf, .int .i64 kt] | 7=> .pointer (some ⟨X2,6,none⟩) | 8=> .agg #[.int .i64 r.rf, .int .i64 r.rt] | 9=> .agg #[.int .i64 4, .int .i64 r.ind, .int .i64 (k:Int), .int .i64 (til:Int), .int .i64 kf, .int .i64 kt, .int .i64 r.rf, .int .i64 r.rt, .slice none 0 0] | _=>undef) SA (uK W0 62 (gP ⟨4,r.ind,k,til,kf,kt,r.rf,r.rt,[]⟩)) (by rw[hW0];exact HSA.out _ (aB _ _)) (by rw[hW0];exact aB _ _) ?_ ?_
 ·intro d a w' iq o' ho hi hall hfr hF R' hR;have hiN:iq<12:=(cM.1 ho).1;have q0:a.tmps[0]?.getD undef= .pointer (some ⟨P,0,none⟩):=aY hfr 0 (by decide);have q1:a.tmps[1]?.getD undef= .int .i64 (k:Int):=aY hfr 1 (by decide);have q7:a.tmps[7]?.getD undef= .pointer (some ⟨X1,0,none⟩):=aY hfr 7 (by decide);have q10:a.tmps[10]?.getD undef= .pointer (some ⟨X2,0,none⟩):=aY hfr 10 (by decide);have hc:=hF.all [(0,22),(1,23),(2,24),(3,25),(4,26),(5,27),(6,28),(7,29),(8,30),(9,31)] (by decide);dsimp only[eW] at hc;clear hfr;have ha:=hall;have hoo:=ho;have hcs:iq=5\/iq=10\/iq=11\/iq=0\/iq=2\/iq=3\/iq=4\/iq=7\/iq=9\/iq=1\/iq=6\/iq=8:=by omega
  clear hiN;rcases hcs with rfl|rfl|rfl|rfl|rfl|rfl|rfl|rfl|rfl|rfl|rfl|rfl<;>simp only[dW,dA,cD,cS] at ho<;>subst ho<;>(try simp[Region.binds] at hall)
  ·have c25:=hF.g 3 25 rfl (by decide) (by decide) (by decide) (by simp[hall]);have c26:=hF.g 4 26 rfl (by decide) (by decide) (by decide) (by simp[hall]);have hA:Below W0.heap.size W0 w':=hF.at2 (j:=0) rfl (hF.lastNot (f:=12) (i:=5) (by kernel_rfl) hi) (.inl rfl);go_simp;go_at_call 182;refine(CRe.out _ hA).mono ?_;rintro e w5 ⟨rfl,hb5⟩;exact hR _ _ (hF.quiet (by kernel_rfl) hoo ha rfl (by decide) (by decide) (by decide) rfl (hF.lastNot (f:=12) (i:=5) (by kernel_rfl) hi) (λ_=>HSA.out _ (aC hA hb5)) (λk c _ hp=>hp.keep hb5) (λx hx=>hx.keep hb5))
  ·have hA:Below W0.heap.size W0 w':=hF.at2 (j:=0) rfl (hF.lastNot (f:=12) (i:=10) (by kernel_rfl) hi) (.inl rfl);have hA2:=aH w' (.cells (gP Lh) 62);go_simp;exact hR _ _ (hF.free (by kernel_rfl) hoo ha rfl (by decide) rfl (by decide) (by kernel_rfl) (by decide) (hF.lastNot (f:=12) (i:=10) (by kernel_rfl) hi) (λ_=>HSA.out _ (aC hA hA2)) (λk c hp=>hp.keep hA2) (nH.new hA.size))
  ·have c31:=hF.g 9 31 rfl (by decide) (by decide) (by decide) (by simp[hall]);have hP0:=hF.at2 (j:=0) rfl hi (.inl rfl);obtain⟨Y,hY,hYW,hYb⟩:=hF.fb hi (by simp[hall]);have hY:a.tmps.getD 11 undef= .pointer (some ⟨Y,0,none⟩):=hY;have c11:a.tmps[11]?.getD undef= .pointer (some ⟨Y,0,none⟩):=by rw[<-aO];exact hY
   obtain⟨z0,z1,z2,z3,z4,z5,z6,z7,z8,h0,h1,h2,h3,h4,h5,h6,h7,h8⟩:=Li hYb;have hA:Below W0.heap.size W0 w':=hP0;go_simp;exact hR undef _ (hF.eff2 (by kernel_rfl) (by decide) 0 hoo ha rfl hi (.inl rfl) rfl (by decide) (λh=>absurd rfl h) (λh=>absurd rfl h) ⟨Y,hY,hYW,Xy hYb,Xz hA hYW⟩)
  iterate 6 (go_simp;exact hR _ _ (hF.pure (by kernel_rfl) hoo ha rfl (by decide) (by decide) (by decide) rfl))
  all_goals
   have hS0:=hF.early (f:=12) (by kernel_rfl) hi;rw[<-hSA] at hS0;obtain⟨b3,b6,b7,y0,y1⟩:=hS0;go_simp;exact hR _ _ (hF.pure (by kernel_rfl) hoo ha rfl (by decide) (by decide) (by decide) rfl)
 intro v wz hcl hP1;obtain⟨Y,hY,hYW,hYb,hbz⟩:=hP1;have hv11:v 11= .pointer (some ⟨Y,0,none⟩):=hY;simp only[cE,eE,dF,eF,hv11];have hp3:=HP0.out.put hbz hYW hYb;have HLess3:=hid (λq o hq=>aK.put_less (Pr:=(Pr.put X1 (.cells #[.int .i64 kf, .int .i64 kt] 59)).put X2 (.cells (lineA r) 121)) (o:= .cells (gP ⟨4,r.ind,k,til,kf,kt,r.rf,r.rt,[]⟩) 62) (λq o' hq=>HP0.out.frLt q o' hq) hYW q o (HLess.out q o hq));obtain⟨Pr3,hPr3⟩: ∃Pr3:aK,((Pr.put X1 (.cells #[.int .i64 kf, .int .i64 kt] 59)).put X2 (.cells (lineA r) 121)).put Y (.cells (gP ⟨4,r.ind,k,til,kf,kt,r.rf,r.rt,[]⟩) 62)=Pr3:=⟨_,rfl⟩;have HY3:=hid (aK.put_eq ((Pr.put X1 (.cells #[.int .i64 kf, .int .i64 kt] 59)).put X2 (.cells (lineA r) 121)) Y (.cells (gP ⟨4,r.ind,k,til,kf,kt,r.rf,r.rt,[]⟩) 62));rw[hPr3] at hp3 HLess3 HY3;have HP3:=hid hp3;have hlz:cB wz X2 r:=(HP0.out.keep hbz).at_ (aK.put_eq _ _ _);obtain⟨_,_,_,_,_,_,b6,_⟩:=hlz.cells;obtain⟨z0,z1,z2,z3,z4,z5,z6,z7,z8⟩:=pE hYb;obtain⟨A,hA⟩:=exQ<|iR ⟨4,r.ind,k,til,kf,kt,r.rf,r.rt,[]⟩ lv r.rf st;have CA:Hid (∀w',YJ YP Pr3 w0 P txt sp st 0 0 w'->Calls Tryz.prog 72 #[.pointer (some ⟨P,0,none⟩), .agg #[.int .i64 4, .int .i64 r.ind, .int .i64 (k:Int), .int .i64 (til:Int), .int .i64 kf, .int .i64 kt, .int .i64 r.rf, .int .i64 r.rt, .slice none 0 0], .int .i64 lev, .int .i64 r.rf] w' (gX YP Pr3 w0 P txt sp A)):=hid (λw' hj=>by have:=Le (Pr:=Pr3) ⟨4,r.ind,k,til,kf,kt,r.rf,r.rt,[]⟩ lv lev r.rf w' hj rfl hl hlv (by omega);rw[hA] at this;exact this);have HA:=hid hA;clear hA hp3 hPr3 hcl hY hYW hYb hbz hv11 HSA hSA CRe hlz;cases A with
 | bad a e=>
  have hR:=HR.out;rw[HTil.out,HA.out] at hR;have HR2:Hid (YR.bad a e=R):=hid hR;clear hR;go_wp2_with fail;refine(CA.out _ (by first | exact HP3.out | exact HP3.out.keep (aB _ _).drew)).mono ?_;rintro e w4 ⟨⟨m,rfl⟩,hbad⟩;have HF:=hid (hbad.less HLess3.out);clear hbad;go_wp2_with fail;go_loopw [13] (λs13 wr=>s13= .bool false/\w4=wr) (λ_ _=>0)
  case atStart=>exact⟨rfl,rfl⟩
  case round=>
   obtain⟨rfl,rfl⟩:=hrel;go_wp2_with fail;go_ret2;rw[<-HR2.out];exact⟨⟨_,rfl⟩,HF.out⟩
 | ok nn s1=>
  obtain⟨e1,e2,_,h4t⟩:=pB HA.out;subst e2;have hR:=HR.out;rw[HTil.out,HA.out] at hR;simp only[] at hR;have HNN:=hid e1;clear e1;have HR3:=hid hR;clear hR;obtain⟨k1,hk1e⟩:=exQ<|k+1;have hk1z:(k:Int)+1=(k1:Int):=by omega
  have HK1:=hid hk1e;have htl:til<=sp.length:=by have:=HT.out.2;rw[HTil.out] at this;exact this
  have htl1:k1<=til:=by have:=HT.out.1;rw[HTil.out] at this;omega
  clear hk1e;go_wp2_with fail;refine(CA.out _ (by first | exact HP3.out | exact HP3.out.keep (aB _ _).drew)).mono ?_;rintro e w4 ⟨rfl,hj4⟩;have HLI:Hid (Lj Pr3 w0 P txt sp nn til (st.nodes++ [⟨4,r.ind,k,til,kf,kt,r.rf,r.rt,[]⟩]) (st.total+1) R true k1 w4):=hid ⟨htl1,st.lines,by rw[<-HK1.out];exact HK.out.1.symm,by rw[<-HK1.out];exact HR3.out,hj4⟩;clear hj4 z0 z1 z2 z3 z4 z5 z6 z7 z8 b6;go_wp2_with fail;go_loopw [13,14] (λs13 s14 wr=> ∃(b:Bool) (i:Nat),s13= .bool b/\s14= .int .i64 (i:Int)/\i<=sp.length+1/\Hid (Lj Pr3 w0 P txt sp nn til (st.nodes++ [⟨4,r.ind,k,til,kf,kt,r.rf,r.rt,[]⟩]) (st.total+1) R b i wr)) (λ_ s14 _=>sp.length+2-(RowKit.intOf s14).toNat)
  case atStart=>exact⟨true,k1,rfl,by first | rfl | rw[<-hk1z],by omega,HLI⟩
  case round=>
   obtain⟨b,i,rfl,rfl,hi,HLi⟩:=hrel;have hii:(0:Int)<=(i:Int):=(by omega);cases b with
   | false=>
    obtain⟨a,e,hRe,hbad⟩:=(show ∃a e,R= .bad a e/\fU YP Pr3 w0 P txt sp a e wr from HLi.out);have HF:=hid (hbad.less HLess3.out);clear hbad;go_wp2_with fail;go_ret2;rw[hRe];exact⟨⟨_,rfl⟩,HF.out⟩
   | true=>
    obtain⟨hit,ls,hlsl,hG,hj⟩:=(show i<=til/\ ∃ls,ls.length=i/\(match oW txt ((sp.drop i).take (til-i)) ls with | .inr a=>YR.bad a 2 | .inl ls=> .ok nn ⟨ls,st.nodes++ [⟨4,r.ind,k,til,kf,kt,r.rf,r.rt,[]⟩],st.total+1⟩)=R/\YJ YP Pr3 w0 P txt sp ⟨ls,st.nodes++ [⟨4,r.ind,k,til,kf,kt,r.rf,r.rt,[]⟩],st.total+1⟩ 0 0 wr from HLi.out);have hYr:=hj.at_ HY3.out;obtain⟨z0,z1,z2,z3,z4,z5,z6,z7,z8⟩:=pE hYr;have HJr:=hid hj;have HLS:=hid hlsl;clear hj hYr hlsl;by_cases hilt:i<til
    ·have d1:decide ((i:Int)<(til:Int))=true:=aN (by omega);have d1n:decide (i<til)=true:=aN hilt;obtain⟨x,hx⟩: ∃x,sp[i]?=some x:=⟨_,bJ (by omega)⟩;have hdr:(sp.drop i).take (til-i)=x::(sp.drop (i+1)).take (til-(i+1)):=by
      rw[iK (by omega)];rw[bJ (by omega)] at hx;rw[bD hx,show til-i=(til-(i+1))+1 by omega,List.take_succ_cons]
     rw[hdr] at hG;unfold oW at hG;have CTk:=hid (λw' hj=>Xw (Pr:=Pr3) (P:=P) (st:=⟨ls,st.nodes++ [⟨4,r.ind,k,til,kf,kt,r.rf,r.rt,[]⟩],st.total+1⟩) i x w' hj hx HSP.out (by simp only[];have:=HLS.out;omega) hs hn hV);unfold Dd at CTk;obtain⟨i1,hi1⟩:=exQ<|i+1;have hi1z:(i:Int)+1=(i1:Int):=(by omega);have HI1:=hid hi1;have HDX:=hid hx;clear hdr hx hi1;by_cases hm:oV txt x<x.2
     ·rw[if_pos hm] at hG;simp only[] at hG;have HGR:Hid (YR.bad (oV txt x:Int) 2=R):=hid hG;have CT2:Hid (∀w',YJ YP Pr3 w0 P txt sp ⟨ls,st.nodes++ [⟨4,r.ind,k,til,kf,kt,r.rf,r.rt,[]⟩],st.total+1⟩ 0 0 w'->Calls Tryz.prog 183 #[.pointer (some ⟨P,0,none⟩), .int .i64 (i:Int)] w' λe w2=>e= .returned (.bool false)/\fU YP Pr3 w0 P txt sp (oV txt x:Int) 2 w2):=hid (λw' hj=>(CTk.out w' hj).mono (λe w2 hE=>by
       rcases hE with⟨_,h1,h2⟩ | ⟨h1,_⟩
       ·exact⟨h1,h2⟩
       ·exact absurd hm h1))
      clear hG CTk hm;go_wp2_with fail;refine(CT2.out _ (by first | exact HJr.out | exact HJr.out.keep (aB _ _).drew)).mono ?_;rintro e w5 ⟨rfl,hbad⟩;have HB5:=hid hbad;clear hbad;go_wp2_with fail;go_roundw
      ·exact⟨false,i1,rfl,by first | rfl | rw[<-hi1z],by omega,hid ⟨_,_,HGR.out.symm,HB5.out⟩⟩
      ·(try simp only[RowKit.intOf]);omega
     ·rw[if_neg hm] at hG;have HG2:=hid hG;have CT2:Hid (∀w',YJ YP Pr3 w0 P txt sp ⟨ls,st.nodes++ [⟨4,r.ind,k,til,kf,kt,r.rf,r.rt,[]⟩],st.total+1⟩ 0 0 w'->Calls Tryz.prog 183 #[.pointer (some ⟨P,0,none⟩), .int .i64 (i:Int)] w' λe w2=>e= .returned (.bool true)/\YJ YP Pr3 w0 P txt sp ⟨ls++ [nA txt x],st.nodes++ [⟨4,r.ind,k,til,kf,kt,r.rf,r.rt,[]⟩],st.total+1⟩ 0 0 w2):=hid (λw' hj=>(CTk.out w' hj).mono (λe w2 hE=>by
       rcases hE with⟨h1,_⟩ | ⟨_,h1,h2⟩
       ·exact absurd h1 hm
       ·exact⟨h1,h2⟩))
      clear hG CTk hm;go_wp2_with fail;refine(CT2.out _ (by first | exact HJr.out | exact HJr.out.keep (aB _ _).drew)).mono ?_;rintro e w5 ⟨rfl,hj5⟩;have HJ5:=hid hj5;clear hj5;go_wp2_with fail;go_roundw
      ·exact⟨true,i1,rfl,by first | rfl | rw[<-hi1z],by omega,hid ⟨by have:=HI1.out;omega,ls++ [nA txt x],by rw[aS,eD,HLS.out];exact HI1.out,by rw[<-HI1.out];exact HG2.out,HJ5.out⟩⟩
      ·(try simp only[RowKit.intOf]);omega
    ·have d1:decide ((i:Int)<(til:Int))=false:=aJ (by omega);have d1n:decide (i<til)=false:=aJ hilt;rw[show til-i=0 by omega,List.take_zero] at hG;unfold oW at hG;simp only[] at hG;have HG2:=hid hG;have HF:=hid (HJr.out.less HLess3.out);clear hG hilt;go_wp2_with fail;go_ret2;rw[<-HG2.out,HNN.out];exact⟨rfl,HF.out⟩
end
section
open Go.Lib hiding intOf
theorem Ll {txt:aA}{ns:List aD}{A lv:Nat} (hK: ∀k,(eT txt ns k).length<=A) (ih: ∀k m,dJ ns lv k m->(bG txt ns lv k).bulk+(A+1)<=(m-k)*(2*A+2)) {hi:Nat}: ∀(l:List Nat) (a:Nat),cX (dJ ns lv) l a hi->
  a<=hi/\kG (l.map (eT txt ns))+l.length+eK (l.map (bG txt ns lv))<=(hi-a)*(2*A+2)
 | [],a,h=>by
  have e:a=hi:=h;subst e;exact⟨aE _,by simp[kG,eK]⟩
 | x::l,a,h=>by
  obtain⟨rfl,m,h2,h3⟩:=h;obtain⟨h4,h5⟩:=Ll hK ih l m h3;have h6:=ih x m h2;have h7:=h2.lt;have h8:=hK x;refine⟨by omega,?_⟩;rw[kD,kD,Gm,eK,aT];have e:(hi-x)*(2*A+2)=(m-x)*(2*A+2)+(hi-m)*(2*A+2):=by rw[<-Nat.add_mul];congr 1;omega
  rw[e];omega
theorem Lm (txt:aA) (ns:List aD) (A:Nat) (hA: ∀kd sp,(mD kd (dE txt sp)).length<=A) (hK: ∀k,(eT txt ns k).length<=A): ∀(lv k hi:Nat),dJ ns lv k hi->(bG txt ns lv k).bulk+(A+1)<=(hi-k)*(2*A+2)
 | 0,_,_,h=>h.elim
 | lv+1,k,hi,h=>by
  have hlt:=h.lt;obtain⟨x,hx,h2⟩:=h;obtain⟨h3,h4⟩:=Ll hK (Lm txt ns A hA hK lv) x.kids (k+1) h2;have hval:bG txt ns (lv+1) k= .mk (x.kind:Int) (mD x.kind (dE txt (x.sf,x.st))) (iE txt ns x.kind x.kids) (x.kids.map (bG txt ns lv)):=by rw[bG,hx];rfl
  rw[hval,VT.bulk];have h5:=hA x.kind (x.sf,x.st);have h6:kG (iE txt ns x.kind x.kids)+(iE txt ns x.kind x.kids).length<=kG (x.kids.map (eT txt ns))+x.kids.length:=by
   unfold iE;split
   ·rw[bU];exact aE _
   ·simp[kG]
  have e:(hi-k)*(2*A+2)=(hi-(k+1))*(2*A+2)+(2*A+2):=by
   rw[show hi-k=(hi-(k+1))+1 by omega,Nat.add_mul,Nat.one_mul]
  rw[e];omega
def tA (c:UInt8):Bool:=decide (c.toNat<32)||decide (c.toNat=127)
end
section
open Go.RowKit
open Go.Lib hiding intOf
end
section
open Go.Lib hiding intOf
theorem Ln: ∀(l:aA),(∀c∈l,c.toNat<128)->validD l=true
 | [],_=>by decide
 | c::r,h=>by
  have hc:=h c (by simp);have e:=Fe c hc;have hr:mB (c.toNat:Int):=by unfold mB;omega
  have:=Fg (c.toNat:Int) hr r;rw[e] at this;rw[show c::r= [c]++r from rfl,this];exact Ln r (λd hd=>h d (by simp[hd]))
theorem Yb (n:eB) (h:n.dig.length<=1000) (he: -1000000<=n.exp/\n.exp<=1000000):(iV n).length<=1100:=by
 have hi:=Hz n.exp (by omega);unfold iV;split
 ·simp
 ·split
  ·simp
  ·split<;>split<;>simp<;>omega
theorem Lo (s:aA) (h:(cZ s).2=0):(iV (cZ s).1).length<=1100:=by
 have hr:=Bc (Gl (l:=s) (n:=(cZ s).1) (Prod.ext rfl h));exact Yb _ hr.1 hr.2
theorem Lp: ∀(f:Nat) (l:List UInt8) (i:Nat) (acc:List UInt8),(bY f l i acc).1.length<=acc.length+4*l.length
 | 0,_,_,_=>by simp[bY]
 | _+1,[],_,_=>by simp[bY]
 | f+1,c::r,i,acc=>by
  unfold bY;split
  ·simp
  ·split
   ·simp
   ·rename_i h;have hp:=nP (c::r) (List.cons_ne_nil _ _);obtain⟨P,hP⟩:=exQ<|cI (c::r);rw[hP] at hp h ⊢;have:=Lp f ((c::r).drop P.2.toNat) (i+P.2.toNat) (acc++encodeRune P.1);have h4:=Lib.runeCells_le P.1;rw[Lib.runeCells_length] at h4;rw[aV,aS] at this;omega
theorem De (l:List UInt8):(fW l).1.length<=4*(l.length-1):=by
 have h:(bN l 0).1.length<=4*(l.length-1):=by
  unfold bN;split
  ·have:=Lp (l.length+1) (l.drop ((0:Int).toNat+1)) ((0:Int).toNat+1) [];rw[aV] at this;simp only[gR] at this;have e0:(0:Int).toNat=0:=rfl;rw[e0] at this;rw[e0];omega
  ·simp
 unfold fW;split
 ·simp
 ·exact h
theorem Yc (s:aA) (he:(cZ s).2≠0):(cZ s).1=eN:=by
 unfold cZ at he ⊢;cases hl:kC s with
 | none=>rfl
 | some x=>
  rw[hl] at he;simp only[] at he ⊢;obtain⟨q,hq⟩:=exQ<|pM x;rw[hq] at he ⊢;unfold pM at hq;simp only[] at hq
  (repeat' split at hq)<;>subst hq<;>first | rfl | exact absurd rfl he
end
section
open Go.Lib
theorem Yd (txt:aA) (ht:txt.length<=65536) (kd:Nat) (sp:Sp):(mD kd (dE txt sp)).length<=262144:=by
 have hl:=yH txt sp;unfold mD;split
 ·omega
 ·split
  ·by_cases he:(cZ (dE txt sp)).2=0
   ·have:=Lo (dE txt sp) he;omega
   ·have hz:(cZ (dE txt sp)).1=eN:=Yc _ he;rw[hz];decide+kernel
  ·split
   ·have:=De (dE txt sp);omega
   ·simp
theorem Ye (txt:aA) (ns:List aD) (ht:txt.length<=65536) (k:Nat):(eT txt ns k).length<=262144:=by
 unfold eT;split
 ·have:=De (dE txt (by assumption:aD).key);have h2:=yH txt (by assumption:aD).key;omega
 ·simp
theorem Yf (t:aA) (ht:t.length<=65536):(eX t).1.bulk<=1099511627776:=by
 unfold eX;by_cases he:(eC t).2.2=0
 ·rw[if_neg (by simp[he])];obtain⟨⟨ns,at_,er⟩,hP⟩:=exQ<|eC t;rw[hP] at he;change er=0 at he;subst he;have hT:=tP hP;have hN:=xY t;rw[hP] at hN ⊢;simp only[] at hN ⊢;have:=Lm t ns 262144 (Yd t ht) (Ye t ns ht) 32 0 ns.length hT;have h2:(ns.length-0)*(2*262144+2)<=65536*524290:=Nat.mul_le_mul (by omega) (by omega);omega
 ·rw[if_pos he];show dL.bulk<=_;decide+kernel
theorem Lq (s:aA) (h:s.length<=65536):(mW s).bulk<=1099511627776:=by
 unfold mW;rw[VT.bulk];simp only[eK,kG,List.map_nil,List.sum_nil,gR];unfold rB;split
 ·simp
 ·split
  ·simp only[];omega
  ·split
   ·rename_i he;have:=Lo s he;simp only[];omega
   ·simp only[];omega
theorem Df: ∀(f:Nat) (l:aA) (i:Nat) (acc:aA),(lA f l i acc).1.length<=acc.length+l.length
 | 0,l,i,acc=>by simp[lA]
 | _+1,[],i,acc=>by simp[lA]
 | f +1,c::r,i,acc=>by
  rw[Br];have h1:=Df f (r.drop 1) (i+2) (acc++ [39]);have h2:=Df f ((c::r).drop (decodeL (c::r)).2) (i+(decodeL (c::r)).2) (acc++(c::r).take (decodeL (c::r)).2);have hd:=decodeL_le (c::r) (List.cons_ne_nil _ _);rw[aS,aV] at h1 h2;rw[cF] at h2;simp only[eD,aT,gR] at h1 h2 hd ⊢;split
  ·split
   ·rename_i hh;have hr:1<=r.length:=by
     cases r with
     | nil=>simp at hh
     | cons _ _=>simp
    omega
   ·simp only[];omega
  ·split
   ·simp
   ·omega
theorem Lr (t:aA):(oN t).1.length<=4*t.length:=by
 unfold oN;split
 ·unfold wF;split
  ·simp
  ·simp only[];unfold lB;split
   ·simp
   ·split
    ·have:=Df (t.length+1) (t.drop ((0:Int).toNat+1)) ((0:Int).toNat+1) [];rw[aV] at this;simp only[gR] at this;omega
    ·simp
 ·have:=De t;simp only[];omega
theorem Yg (t:aA) (h:t.length<=65536):(jJ t).1.bulk<=1099511627776:=by
 have hz:dL.bulk<=1099511627776:=by decide+kernel
 unfold jJ;split
 ·exact Lq [] (by simp)
 ·rename_i c r;split
  ·split
   ·exact hz
   ·have:=Lr (c::r);show (kN _).bulk<=_;unfold kN;rw[VT.bulk];simp only[eK,kG,List.map_nil,List.sum_nil,gR];omega
  ·split
   ·exact Yf _ h
   ·split
    ·exact Lq _ h
    ·exact hz
end
end Go.Proofs.YtaifnmjjpddikaaGreatDoor
