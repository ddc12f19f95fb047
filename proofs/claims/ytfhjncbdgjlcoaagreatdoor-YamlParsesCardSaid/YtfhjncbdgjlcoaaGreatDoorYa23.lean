import Derived.Test.YtfhjncbdgjlcoaaGreatDoorYa22
set_option maxRecDepth 100000
set_option maxHeartbeats 4000000
set_option linter.unusedVariables false
set_option linter.unusedSimpArgs false
namespace Go.Proofs.YtfhjncbdgjlcoaaGreatDoor
section
open Go.RowKit
open Go.Lib hiding intOf
theorem Fj {Pr:aJ}{w0:World}{P:Nat}{txt:aA}{sp:List (Nat×Nat)}{st:YS} (x:bA) (lv:Nat) (lev a:Int) (w:World) (h:YJ YQ Pr w0 P txt sp st 0 0 w) (hx:x.kids= []) (hl:Hid (lev=33-(lv:Int))) (hlv:lv<=32) (hN:st.nodes.length<=4096):
  Calls Tryz.prog 38 #[some P,wG x,lev,a] w (rG YQ Pr w0 P txt sp (fM x lv a st)):=by
 have xw:=trivial;exact qh
theorem Zd {Pr:aJ}{w0:World}{P:Nat}{txt:aA}{sp:List (Nat×Nat)}{st:YS} (x:bA) (lv:Nat) (lev a:Int) (w:World) (h:YJ YQ Pr w0 P txt sp st 0 0 w) (hx:x.kids= []) (hl:Hid (lev=33-(lv:Int))) (hlv:lv<=32) (hN:st.nodes.length<=4096):
  Calls Tryz.prog 38 #[some P,wG x,lev,a] w (eT YQ Pr w0 P txt sp (fM x lv a st)):=by
 refine(Fj x lv lev a w h hx hl hlv hN).mono (λe w' c=>?_);exact k7
theorem Ze (s:aA) (x:Nat×Nat):eQ s (x.1:Int) (x.2:Int)=eJ s x:=rfl
theorem Ms (t:aA):(Lib.trimLeftB t 32).length=t.length-aX t:=by
 have h:Lib.trimLeftB t 32=t.drop (aX t):=by
  refine Lib.trimLeftB_drop t 32 (aX t) (jU t) (λj b c a=>?_) (λb a=>?_)
  ·have:=nV t j c;rw[a] at this;exact aV this
  ·intro e;subst e;exact nW t a
 rw[h,aU]
theorem Zf (t:aA) (w:World): ∃r:aA,r.length=t.length-aX t/\Calls Tryz.prog 29 #[bs t, .string ⟨#[32]⟩] w λe w'=>e= .returned (.string (bs r))/\w=w':=by
 refine⟨Lib.trimLeftB t 32,Ms t,?_⟩;exact pg
section
variable {Pr:aJ}{w0:World}{P:Nat}{txt:aA}{sp:List (Nat×Nat)}{st:YS}{a0 e0:Int}
theorem Mt (k:Nat) (x:Nat×Nat) (w:World) (h:YJ YP Pr w0 P txt sp st a0 e0 w) (hx:sp[k]?=some x) (hsp:eR txt sp) (hs:txt.length<=65536):
  Calls Tryz.prog 205 #[some P,k] w λe w'=>e= .returned (.tuple #[(aX (eJ txt x):Int),(decide (aX (eJ txt x)=(eJ txt x).length))])/\Below w.heap.size w w':=by
 have B8:=trivial;exact uz
end
def yA (r n:Int):Bool:=!(r==65533&&n==1)&&(r==9||(decide (32<=r)&&r !=127))
theorem Zg (d:Nat×Nat):xS d=!yA (d.1:Int) (d.2:Int):=by
 unfold xS yA;have e:((d.1:Int)==65533)=(d.1==65533):=by rw[Bool.eq_iff_iff,beq_iff_eq,beq_iff_eq];omega
 have b:((d.2:Int)==1)=(d.2==1):=by rw[Bool.eq_iff_iff,beq_iff_eq,beq_iff_eq];omega
 have c:((d.1:Int)==9)=(d.1==9):=by rw[Bool.eq_iff_iff,beq_iff_eq,beq_iff_eq];omega
 have f:decide ((32:Int)<=(d.1:Int))=decide (32<=d.1):=by rw[Bool.eq_iff_iff,jS,jS];omega
 have a:((d.1:Int) !=127)=(d.1 !=127):=by rw[Bool.eq_iff_iff,eF,eF];omega
 rw[e,b,c,f,a];cases (d.1==65533&&d.2==1)<;>cases (d.1==9||decide (32<=d.1)&&d.1 !=127)<;>rfl
theorem Zh (r n:Int) (w:World):Calls Tryz.prog 207 #[.int .i32 r,n] w λe w'=>e= .returned (.bool (yA r n))/\w=w':=by
 unfold yA;by_cases h1:r=65533
 ·subst h1;by_cases h2:n=1
  ·subst h2;exact bu
  ·have d2:(n==1)=false:=aE.2 h2;rw[d2];clear h2;exact bu
 ·have d1:(r==65533)=false:=aE.2 h1;rw[d1];clear h1;by_cases h3:r=9
  ·subst h3;exact bu
  ·have d3:(r==9)=false:=aE.2 h3;rw[d3];clear h3;by_cases h4:32<=r
   ·have d4:decide (32<=r)=true:=aO h4;rw[d4];clear h4;by_cases h5:r=127
    ·subst h5;exact bu
    ·have d5:(r !=127)=true:=eF.2 h5;rw[d5];clear h5;exact bu
   ·have d4:decide (32<=r)=false:=aG h4;rw[d4];clear h4;exact bu
theorem Mu (l:aA) (i:Nat):decodeL (l.drop i)=((Utf8.decode (bs l) i).1,(Utf8.decode (bs l) i).2):=by
 have a:=mB (bs l) i;rw[aQ] at a;exact a
theorem Zi (l:aA) (i:Nat) (w:World) (hi:i<l.length) (hs:l.length<=1073741824) (hT:cW w):
  Calls Tryz.prog 206 #[bs l,i] w λe w'=>e= .returned (.tuple #[.int .i32 ((decodeL (l.drop i)).1:Int),((decodeL (l.drop i)).2:Int)])/\Below w.heap.size w w':=by
 rw[Mu];have sl:=aM l;have CD:=hid (λw=>Dy l i w hi);have a:=hid hT;have hi1:(i:Int)<(l.length:Int):=a_
 clear hT;go_enter Tryz.func206,Tryz.ntmps206;go_wp2_with (go_at_call 84;refine(CD.out _ a.out).mono ?_;rintro e w' ⟨rfl,b⟩);go_ret2;exact⟨rfl,b⟩
def oK (x:Nat×Nat) (nb:Nat):aP:=⟨6,x.1,x.2,nb,0,0,0,0,0,0⟩
theorem Mv (s:aA) (x:Nat×Nat):oK x (aX (eJ s x))=pD s x:=rfl
def Fk (Pr:aJ) (w0:World) (P:Nat) (txt:aA) (sp:List (Nat×Nat)) (st:YS) (x:Nat×Nat) (e:Ending) (w':World):Prop:=
 (mM txt x<x.2/\e= .returned (.bool false)/\fS YP Pr w0 P txt sp (mM txt x:Int) 2 w')\/(¬mM txt x<x.2/\e= .returned (.bool true)/\YJ YP Pr w0 P txt sp ⟨st.lines++ [pD txt x],st.nodes,st.total⟩ 0 0 w')
theorem Mw (s:aA) (e:Nat) (f i:Nat) (h:e<=i):oD s e f i=i:=by
 cases f with
 | zero=>rfl
 | succ f=>unfold oD;rw[if_pos h]
theorem Zj {Pr:aJ}{w0:World}{P:Nat}{txt:aA}{sp:List (Nat×Nat)}{st:YS} (q:Nat) (x:Nat×Nat) (w:World) (h:YJ YP Pr w0 P txt sp st 0 0 w) (hx:sp[q]?=some x) (hsp:eR txt sp) (hl:st.lines.length<=sp.length) (hs:txt.length<=65536) (hn:sp.length<=131072) (hV:bU w0):
  Calls Tryz.prog 182 #[some P,q] w (Fk Pr w0 P txt sp st x):=by
 obtain⟨x1,x2⟩:=hsp x (bD hx);have Z:=(aR.1 hx).1;obtain⟨i0,cy,cm,dg,dh⟩:=info_parts Tryz.infoLine;have cC:=hid hsp;have HX:=hid hx;obtain⟨k,hk⟩:=exQ<|st.lines.length;rw[hk] at hl;have dU:=hid hk;have HJ:=hid h;have HV:Hid (∀w',Below w.heap.size w w'->cW w'):=hid (λw' hb=>((hV.keep h.bel).keep hb).tabs);have b0:=aL w (.cells #[x.1,x.2] 42);obtain⟨M,hM⟩:=exQ<|mM txt x;unfold Fk;rw[hM];have HM:Hid (oD txt x.2 (x.2-x.1) x.1=M):=hid hM;obtain⟨z,sv,lv,nv,hz,hK⟩:=h;obtain⟨gs,cs,rfl,cY,s0,s1⟩:=hK.spanAt hx;obtain⟨⟨_,c1,_⟩,_⟩:=hK.cells;have hPl:=hK.lt;have ih:(0:Int)<=(q:Int):=a_
 have le:(q:Int)<(sp.length:Int):=a_
 have sl:=aM txt;have fW:=heap_alloc_new w (.cells #[x.1,x.2] 42);obtain⟨X,fd⟩:=exQ<|w.heap.size;have HXe:=hid fd;clear hK hz hx hsp hk hV hM cY;go_enter Tryz.func182,Tryz.ntmps182;go_upto_region 2 with fail;have eV:=HJ.out.put b0 (aD _) fW;have ey: ∀k o,Pr k=some o->(Pr.put w.heap.size (.cells #[x.1,x.2] 42)) k=some o:=aJ.put_less (λk o hk=>HJ.out.frLt k o hk) (aD _);obtain⟨W1,bo⟩:=exQ<|w.alloc (.cells #[x.1,x.2] 42);rw[bo] at eV b0 fW;rw[fd] at eV ey fW;rw[bo];have jK:=hid eV;have HX1:=hid fW;have ap:=hid ey;have lc:=hid b0;obtain⟨y0,y1⟩:=pP fW;clear eV ey fW b0 bo fd s0 s1 c1 HJ;go_wp2_with fail;go_loopw [6] (λs6 wr=> ∃(i f:Nat),s6= .int .i64 (i:Int)/\i<=65536/\Hid (x.2<=i+f/\oD txt x.2 f i=M)/\Hid (Below W1.heap.size W1 wr)) (λs6 _=>x.2-(RowKit.intOf s6).toNat)
 case atStart=>exact⟨x.1,x.2-x.1,rfl,a_,hid ⟨a_,HM.out⟩,hid (aB _ _)⟩
 case round=>
  have yc:=trivial;exact qj
end
section
open Go.Lib hiding intOf
theorem Fl (p:UInt8->Bool): ∀l:aA,∀c,(l.dropWhile p).head?=some c->p c=false
 | [],c,h=>by simp at h
 | x::l,c,h=>by
  rw[List.dropWhile_cons] at h;split at h
  ·exact Fl p l c h
  ·rename_i hx;simp at h;subst h;simpa using hx
def pY (c:UInt8):Bool:=decide (c.toNat<32)||decide (c.toNat=127)
theorem Mx: ∀(n f:Nat) (s:aA),s.length<=n->s.length<=f->Lib.validD s=true->sS f s=!s.any pY
 | 0,f,s,hn,_,_=>by
  cases s with
  | nil=>cases f<;>rfl
  | cons c r=>simp at hn
 | n +1,f,s,hn,hf,hv=>by
  by_cases hne:s= []
  ·subst hne;cases f<;>rfl
  obtain⟨r,t,hr,rfl,ht,hd⟩:=Rn s hne hv;obtain⟨E,b⟩:=exQ<|encodeRune r;have a:=Rl r;rw[b] at a;cases E with
  | nil=>exact absurd rfl a
  | cons e E'=>
   rw[b] at hd hn hf ⊢;obtain⟨g,rfl⟩: ∃g,f=g+1:=⟨f-1,by simp at hf;omega⟩;rw[qK,sS];rw[qK] at hd;rw[hd];have e1:(e::(E'++t)).drop (e::E').length=t:=(by rw[show e::(E'++t)=(e::E')++t from rfl,List.drop_left]);rw[e1,Mx n g t (by simp at hn;omega) (by simp at hf;omega) ht];rw[show e::(E'++t)=(e::E')++t from rfl,List.any_append];have hr0:=hr.1;have i:(e::E').any pY=(decide (r.toNat<32)||(r.toNat==127)):=by
    by_cases h128:r<128
    ·obtain⟨d,h⟩: ∃d:UInt8,r=(d.toNat:Int):=⟨UInt8.ofNat r.toNat,by rw[UInt8.toNat_ofNat'];omega⟩;subst h;rw[<-b,Rm d a_,List.any_cons,List.any_nil,Bool.or_false,fV];unfold pY;congr 1
    ·have k:(decide (r.toNat<32)||(r.toNat==127))=false:=by
      rw[Bool.or_eq_false_iff];exact⟨aG a_,aE.2 a_⟩
     rw[k,List.any_eq_false];intro c j;rw[<-b] at j;have:=Rk r hr a_ c j;unfold pY;simp only[Bool.or_eq_true,jS];omega
   rw[i];cases (decide (r.toNat<32)||(r.toNat==127))<;>simp
theorem Zk (s:aA):mH s=(Lib.validD s&&!s.any pY):=by
 unfold mH;cases hv:Lib.validD s with
 | false=>simp
 | true=>rw[Mx s.length s.length s (aD _) (aD _) hv];simp
def jN:aA->Bool
 | a::b::r=>!((a==58&&b==32)||(a==32&&b==35))&&jN (b::r)
 | _=>true
theorem contains_cons (b:UInt8) (l sub:aA):Lib.contains (b::l) sub=(sub.isPrefixOf (b::l)||Lib.contains l sub):=by
 unfold Lib.contains;rw[Lib.index];have hg:=Lib.index_ge l sub;split
 ·rename_i h;rw[h];simp
 ·rename_i h;rw[Bool.not_eq_true] at h;rw[h,Bool.false_or];split
  ·rename_i a;rw[beq_iff_eq] at a;rw[a]
  ·rename_i a;simp only[beq_iff_eq] at a;rw[decide_eq_decide];omega
theorem My: ∀s:aA,(!Lib.contains s [58,32]&&!Lib.contains s [32,35])=jN s
 | []=>by rfl
 | [a]=>by
  rw[contains_cons,contains_cons];have e1:Lib.contains [] [58,32]=false:=b_
  have e2:Lib.contains [] [32,35]=false:=b_
  rw[e1,e2];simp[List.isPrefixOf,jN]
 | a::b::r=>by
  rw[contains_cons,contains_cons a,jN,<-My (b::r)];simp only[List.isPrefixOf,Bool.and_true];have e1:((58:UInt8)==a)=(a==58):=BEq.comm;have e2:((32:UInt8)==b)=(b==32):=BEq.comm;have e3:((32:UInt8)==a)=(a==32):=BEq.comm;have e4:((35:UInt8)==b)=(b==35):=BEq.comm;rw[e1,e2,e3,e4];cases (a==58&&b==32)<;>cases (a==32&&b==35)<;>cases Lib.contains (b::r) [58,32]<;>cases Lib.contains (b::r) [32,35]<;>rfl
theorem Bf (p:UInt8->Bool): ∀l:aA,(l.dropWhile p).length<=l.length
 | []=>aD _
 | x::l=>by
  rw[List.dropWhile_cons];split
  ·have:=Bf p l;simp only[bH];omega
  ·exact aD _
theorem Zl (p:UInt8->Bool) (l:aA) (h:l.length<=(l.dropWhile p).length):l.dropWhile p=l:=by
 cases l with
 | nil=>rfl
 | cons x l=>
  rw[List.dropWhile_cons] at h ⊢;split
  ·rename_i a;rw[if_pos a] at h;have:=Bf p l;simp only[bH] at h;omega
  ·rfl
theorem Zm (s:aA):decide (Lib.trimB s 32=s)=(decide (s.head?≠some 32)&&decide (s.getLast?≠some 32)):=by
 rw[<-Bool.decide_and,decide_eq_decide];unfold Lib.trimB Lib.trimLeftB Lib.trimRightB;constructor
 ·intro h;have c:=congrArg List.length h;have b:=Bf (· ==32) ((s.reverse.dropWhile (· ==32)).reverse);have a:=Bf (· ==32) s.reverse;rw[List.length_reverse] at b a;have e1:=Zl (· ==32) s.reverse (by rw[List.length_reverse];omega);rw[e1,List.reverse_reverse] at h;refine⟨λe=>?_,λe=>?_⟩
  ·have:=Fl (· ==32) s 32 (by rw[h];exact e);simp at this
  ·have:=Fl (· ==32) s.reverse 32 (by rw[e1,List.head?_reverse];exact e);simp at this
 ·rintro⟨b,a⟩;have no: ∀l:aA,l.head?≠some 32->l.dropWhile (· ==32)=l:=by
   intro l c;cases l with
   | nil=>rfl
   | cons x l=>
    rw[List.dropWhile_cons,if_neg];intro e;rw[beq_iff_eq] at e;exact c (by rw[e];rfl)
  rw[no s.reverse (by rw[List.head?_reverse];exact a),List.reverse_reverse,no s b]
def Bg (s:aA):Bool:=match s with
 | []=>false
 | c::r=>mH (c::r)&&!(c==32)&&!((c::r).getLast?==some 32)&&!((c::r).getLast?==some 58)&&!mI.contains c&&!(c==45&&(r.isEmpty||r.head?==some 32))&&jN (c::r)
theorem Zn (s:aA):nD s=Bg s:=by
 cases s with
 | nil=>rfl
 | cons c r=>
  unfold nD Bg;simp only[];rw[Zm];have e1:decide (0<=Lib.indexByte mI c)=mI.contains c:=(Lib.contains_iff_indexByte mI c).symm;have e2:Lib.hasSuffix (c::r) [58]=((c::r).getLast?==some 58):=by
   unfold Lib.hasSuffix List.isSuffixOf;rw[List.reverse_singleton];have a:(c::r).reverse.head?=(c::r).getLast?:=List.head?_reverse;cases hr:(c::r).reverse with
   | nil=>simp at hr
   | cons x l=>
    rw[hr] at a;rw[<-a];simp only[List.isPrefixOf,Bool.and_true,List.head?_cons];rw[show ((58:UInt8)==x)=(x==58) from BEq.comm];rfl
  have e3:(!decide (c::r= [45])&&!Lib.hasPrefix (c::r) [45,32])=!(c==45&&(r.isEmpty||r.head?==some 32)):=by
   unfold Lib.hasPrefix;cases r with
   | nil=>
    simp only[List.isPrefixOf,Bool.and_false,List.isEmpty_nil,Bool.true_or,Bool.and_true,Bool.not_false];congr 1;rw[Bool.eq_iff_iff];simp
   | cons b r=>
    simp only[List.isPrefixOf,Bool.and_true,List.isEmpty_cons,Bool.false_or,List.head?_cons];have:decide (c::b::r= [45])=false:=aG e_;rw[this];simp only[Bool.not_false,Bool.true_and];rw[show ((45:UInt8)==c)=(c==45) from BEq.comm,show ((32:UInt8)==b)=(b==32) from BEq.comm];rfl
  have e4:(decide ((c::r).head?≠some 32))=!(c==32):=by
   rw[Bool.eq_iff_iff];simp
  have e5:(decide ((c::r).getLast?≠some 32))=!((c::r).getLast?==some 32):=by
   rw[Bool.eq_iff_iff];simp
  rw[e1,e2,e4,e5,<-e3,<-My];generalize mH (c::r)=a1;generalize (c==32)=a2;generalize ((c::r).getLast?==some 32)=a3;generalize mI.contains c=a4;generalize decide (c::r= [45])=a5;generalize Lib.hasPrefix (c::r) [45,32]=a6;generalize ((c::r).getLast?==some 58)=a7;generalize Lib.contains (c::r) [58,32]=a8;generalize Lib.contains (c::r) [32,35]=a9;cases a1<;>cases a2<;>cases a3<;>cases a4<;>cases a5<;>cases a6<;>cases a7<;>cases a8<;>cases a9<;>rfl
end
section
open Go.RowKit
open Go.Lib hiding intOf
theorem Zo (l:aA) (w:World) (hs:l.length<=4611686018427387904):
  ∃N:Int,Calls Tryz.prog 134 #[bs l] w λe w'=>e= .returned (.tuple #[N,(Lib.validD l)])/\Below w.heap.size w w':=by
 refine⟨(kQ (bs l)).1,(We (bs l) w (by rw[aM];exact hs)).mono ?_⟩;rintro e w' ⟨rfl,rfl⟩;exact⟨by rw[La,aQ],aB _ _⟩
theorem wL {l:aA}{i:Nat}{b:UInt8} (h:l[i]?=some b):l.drop i=b::l.drop (i+1):=by
 obtain⟨a,c⟩:=aR.1 h;rw[fL a,c]
theorem Zp (b:UInt8) (x:Int) (hx:(b.toNat:Int)=x):pY b=(decide (x<32)||(x==127)):=by
 unfold pY;subst hx;congr 1
 ·rw[decide_eq_decide];omega
 ·rw[Bool.eq_iff_iff,decide_eq_true_iff,beq_iff_eq];omega
theorem Zq (l:aA) (w:World) (hs:l.length<=4611686018427387904):
  Calls Tryz.prog 95 #[bs l] w λe w'=>e= .returned (.bool (mH l))/\Below w.heap.size w w':=by
 have sl:=aM l;obtain⟨N,v⟩:=Zo l w hs;have r:=hid v;clear v;have f:=Zk l;obtain⟨V,u⟩:=exQ<|Lib.validD l;obtain⟨Q,y⟩:=exQ<|mH l;rw[u] at r f;rw[y] at f ⊢;have z:Hid ((V&&!(l.drop 0).any pY)=Q):=hid (by rw[List.drop_zero];exact f.symm);clear u y f;go_enter Tryz.func95,Tryz.ntmps95;go_wp2_with fail;refine r.out.mono ?_;rintro e w2 ⟨rfl,k⟩;have t:=hid k;clear k r;go_wp2_with fail;go_loopw [5] (λs5 wr=> ∃i:Nat,s5= .int .i64 (i:Int)/\i<=l.length/\Hid ((V&&!(l.drop i).any pY)=Q)/\Hid (Below w.heap.size w wr)) (λs5 _=>l.length-(RowKit.intOf s5).toNat)
 case atStart=>exact⟨0,rfl,dY _,z,t⟩
 case round=>
  obtain⟨i,rfl,hi,h,j⟩:=hrel;by_cases hlt:i<l.length
  ·have a:i<(bs l).size:=a_;have dk:decide ((i:Int)<(l.length:Int))=true:=aO a_;have hiz:(i:Int)<(l.length:Int):=a_;have g:=cK l i a;obtain⟨b,q⟩:=exQ<|(bs l)[i]'a;rw[q] at g;have n:=h.out;rw[wL g,List.any_cons] at n;obtain⟨x,p⟩: ∃x:Int,(b.toNat:Int)=x:=⟨_,rfl⟩;have hge3:(((bs l)[i]'a).toNat:Int)=x:=(by rw[q,p]);rw[Zp b x p] at n;have m:=hid n;clear n g q p h;by_cases h32:x<32
   ·have d:decide (x<32)=true:=aO h32;have s:Q=false:=by have:=m.out;rw[d] at this;simpa using this.symm
    subst s;clear h32;exact gt
   ·have d:decide (x<32)=false:=aG h32;by_cases h127:x=127
    ·have c:(x==127)=true:=beq_iff_eq.2 h127;have s:Q=false:=by have:=m.out;rw[d,c] at this;simpa using this.symm
     subst s;clear h32 m;subst h127;exact gt
    ·have c:(x==127)=false:=aE.2 h127;have o:Hid ((V&&!(l.drop (i+1)).any pY)=Q):=hid (by have:=m.out;rw[d,c] at this;simpa using this);clear h32 h127 m;go_wp2_with fail;go_roundw
     case rel=>exact⟨i+1,q_,a_,o,by first | exact j | exact hid (below_drewN j.out _)⟩
     case measure=>simp[RowKit.intOf];omega
  ·have dk:decide ((i:Int)<(l.length:Int))=false:=aG a_;obtain rfl:V=Q:=by
    have:=h.out;rw[List.drop_of_length_le a_] at this;simpa using this
   exact gt
theorem Zr {m:aA}{S:ByteArray} (h:bs m=S) (i:Nat) (hi:i<S.size):m[i]?=some (S[i]'hi):=by
 subst h;exact cK m i hi
theorem rH {b:UInt8}{x:Int} (hx:(b.toNat:Int)=x) (n:UInt8):(b==n)=(x==(n.toNat:Int)):=by
 subst hx;rw[Bool.eq_iff_iff,beq_iff_eq,beq_iff_eq];exact⟨λe=>by rw[e],λe=>UInt8.toNat_inj.1 a_⟩
theorem Fm (l:aA) (w:World) (hs:l.length<=4611686018427387904):
  Calls Tryz.prog 60 #[bs l] w λe w'=>e= .returned (.bool (nD l))/\Below w.heap.size w w':=by
 rw[Zn];have sl:=aM l;have CC:=hid (Zq l w hs);cases l with
 | nil=>
  have e1:mH []=true:=rfl;rw[e1] at CC;clear e1;exact jp
 | cons c r=>
 obtain⟨l,Y⟩:=exQ<|c::r;obtain⟨K,R⟩: ∃K,l.length=K+1:=⟨r.length,by rw[<-Y];rfl⟩;obtain⟨Q,hQ⟩:=exQ<|Bg (c::r);have ae:(r.isEmpty||r.head?==some 32)=(K==0||l[1]?==some 32):=by
  rw[<-Y] at R ⊢;cases r with
  | nil=>simp at R;subst R;rfl
  | cons b r=>simp at R;rw[<-R];simp
 have f:=hQ;unfold Bg at f;simp only[] at f;rw[ae,Y] at f;have Z:l[0]?=some c:=by rw[<-Y];rfl
 have B:l.getLast?=l[K]?:=by rw[List.getLast?_eq_getElem?,R,Nat.add_sub_cancel]
 rw[B] at f;rw[hQ];rw[Y] at CC sl hs ⊢;clear hQ Y ae B;obtain⟨A,hA⟩:=exQ<|mH l;rw[hA] at f CC;clear hA;have sz:((bs l).size:Int)=(K:Int)+1:=a_
 have hz:((K:Int)+1==0)=false:=aE.2 a_;have hsb:(K:Int)+1-1=(K:Int):=a_
 have T:0<(bs l).size:=a_
 have V:K<(bs l).size:=a_
 have I:(bs l)[0]'T=c:=by
  have:=cK l 0 T;rw[Z] at this;exact(aV this).symm
 obtain⟨z,W⟩:=exQ<|(bs l)[K]'V;have L:=cK l K V;rw[W] at L;rw[L] at f;obtain⟨x,hx⟩: ∃x:Int,(c.toNat:Int)=x:=⟨_,rfl⟩;obtain⟨y,hy⟩: ∃y:Int,(z.toNat:Int)=y:=⟨_,rfl⟩;have hgex:(((bs l)[0]'T).toNat:Int)=x:=by rw[I,hx]
 have hgey:(((bs l)[K]'V).toNat:Int)=y:=by rw[W,hy]
 have ab:(some z==some (32:UInt8))=(y==32):=rH hy 32;have ag:(some z==some (58:UInt8))=(y==58):=rH hy 58;rw[ab,ag,rH hx 32,rH hx 45] at f;have f:(A&&!(x==32)&&!(y==32)&&!(y==58)&&!mI.contains c&&!((x==45)&&((K==0)||(l[1]?==some 32)))&&jN l)=Q:=f;have HX:=hid hx;have HQ:=hid f;have HK:=hid R;clear ab ag hx hy L W I f Z;obtain⟨S,hS⟩:=exQ<|bs mI;have HS:=hid hS;have hSs:S.size=18:=by rw[<-hS];rfl
 clear hS;cases A with
 | false=>
  obtain rfl:Q=false:=by have:=HQ.out;simpa using this.symm
  exact jp
 | true=>
 by_cases hb3:x=32\/y=32\/y=58
 ·obtain rfl:Q=false:=by
   have:=HQ.out;rw[<-this];rcases hb3 with h | h | h<;>subst h<;>simp
  go_enter Tryz.func60,Tryz.ntmps60;go_wp2_with fail;refine CC.out.mono ?_;rintro e w2 ⟨rfl,g⟩;have G:=hid g;clear g CC;by_cases h1:x=32
  ·have d1:(x==32)=true:=beq_iff_eq.2 h1;clear h1 hb3;exact eh
  ·have d1:(x==32)=false:=aE.2 h1;by_cases h2:y=32
   ·have d2:(y==32)=true:=beq_iff_eq.2 h2;clear h1 h2 hb3;exact eh
   ·have d2:(y==32)=false:=aE.2 h2;have d3:(y==58)=true:=beq_iff_eq.2 a_;clear h1 h2 hb3;exact eh
 have d1:(x==32)=false:=aE.2 a_;have d2:(y==32)=false:=aE.2 a_;have d3:(y==58)=false:=aE.2 a_;clear hb3;have an:Hid ((!(mI.drop 0).contains c&&(!((x==45)&&((K==0)||(l[1]?==some 32)))&&jN l))=Q):=hid (by have:=HQ.out;rw[d1,d2,d3] at this;rw[List.drop_zero,<-this];simp[Bool.and_assoc]);clear HQ;go_enter Tryz.func60,Tryz.ntmps60;go_wp2_with fail;refine CC.out.mono ?_;rintro e w2 ⟨rfl,g⟩;have G:=hid g;clear g CC;go_upto_region 5 with fail;go_cut [5] (λs5 wx=>s5= .string S/\Hid (Below w.heap.size w wx))
 case first=>
  go_wp2_with fail;go_meet;exact⟨by rw[<-HS.out];rfl,G⟩
 case rest=>
 obtain⟨rfl,ak⟩:=hcut;clear d1 d2 d3;go_wp2_with fail;go_loopw [6] (λs6 wr=> ∃i:Nat,s6= .int .i64 (i:Int)/\i<=18/\Hid ((!(mI.drop i).contains c&&(!((x==45)&&((K==0)||(l[1]?==some 32)))&&jN l))=Q)/\Hid (Below w.heap.size w wr)) (λs6 _=>18-(RowKit.intOf s6).toNat)
 case atStart=>exact⟨0,rfl,dY _,an,ak⟩
 case round=>
  obtain⟨i,rfl,hi,E,m⟩:=hrel;by_cases hlt:i<18
  ·have s:i<S.size:=a_;have dk:decide ((i:Int)<18)=true:=aO a_;have hiz:(i:Int)<18:=a_;have J:=Zr HS.out i s;obtain⟨b,n⟩:=exQ<|S[i]'s;rw[n] at J;have f:=E.out;rw[wL J,List.contains_cons] at f;obtain⟨v,k⟩: ∃v:Int,(b.toNat:Int)=v:=⟨_,rfl⟩;have H:((S[i]'s).toNat:Int)=v:=(by rw[n,k]);have aa:(c==b)=(x==v):=(by rw[rH HX.out b,k]);rw[aa] at f;have d:=hid f;clear f J n k E aa;by_cases hxv:x=v
   ·have dx:(x==v)=true:=beq_iff_eq.2 hxv;obtain rfl:Q=false:=by have:=d.out;rw[dx] at this;simpa using this.symm
    clear hxv d;go_upto_region 9 with fail;go_region
    all_goals
     go_wp2_with fail;go_ret;exact⟨rfl,by first | exact m.out | exact below_drewN m.out _⟩
   ·have dx:(x==v)=false:=aE.2 hxv;have F:Hid ((!(mI.drop (i+1)).contains c&&(!((x==45)&&((K==0)||(l[1]?==some 32)))&&jN l))=Q):=hid (by have:=d.out;rw[dx] at this;simpa using this);clear hxv d;go_upto_region 9 with fail;go_region
    all_goals
     go_wp2_with fail;go_roundw
     case rel=>exact⟨i+1,q_,a_,F,by first | exact m | exact hid (below_drewN m.out _)⟩
     case measure=>simp[RowKit.intOf];omega
  ·have dk:decide ((i:Int)<18)=false:=aG a_;have aj:Hid ((!((x==45)&&((K==0)||(l[1]?==some 32)))&&jN l)=Q):=hid (by have:=E.out;rw[List.drop_of_length_le (by show 18<=i;omega)] at this;simpa using this);clear E;have t:Hid ((x=45/\(K=0\/l[1]?=some 32)/\Q=false)\/(¬(x=45/\(K=0\/l[1]?=some 32))/\jN (l.drop 0)=Q)):=hid (by
    have h:=aj.out;rw[List.drop_zero];by_cases hc:x=45/\(K=0\/l[1]?=some 32)
    ·left;refine⟨hc.1,hc.2,?_⟩;rw[<-h];have:((x==45)&&((K==0)||(l[1]?==some 32)))=true:=by
      simp only[fK,Bool.or_eq_true,beq_iff_eq];exact hc
     rw[this];rfl
    ·right;refine⟨hc,?_⟩;rw[<-h];have:((x==45)&&((K==0)||(l[1]?==some 32)))=false:=by
      rw[<-Bool.not_eq_true];simp only[fK,Bool.or_eq_true,beq_iff_eq];exact hc
     rw[this];rfl)
   clear aj;go_upto_region 11 with fail;go_cut [60] (λam wx=> ∃q:Bool,am= .bool q/\Hid (q=true->Q=false)/\Hid (q=false->jN (l.drop 0)=Q)/\Hid (Below w.heap.size w wx))
   case first=>
    by_cases h45:x=45
    ·have ap:(x==45)=true:=beq_iff_eq.2 h45;by_cases hK0:K=0
     ·have dK:((K:Int)+1==1)=true:=beq_iff_eq.2 a_;have o:Hid (Q=false):=hid (by
       rcases t.out with h | h
       ·exact h.2.2
       ·exact absurd ⟨h45, .inl hK0⟩ h.1)
      clear h45 hK0;exact mh
     ·have dK:((K:Int)+1==1)=false:=aE.2 a_;have M:1<(bs l).size:=a_;have p:=cK l 1 M;obtain⟨b,n⟩:=exQ<|(bs l)[1]'M;rw[n] at p;obtain⟨v,k⟩: ∃v:Int,(b.toNat:Int)=v:=⟨_,rfl⟩;have H:(((bs l)[1]'M).toNat:Int)=v:=(by rw[n,k]);by_cases h32:v=32
      ·have al:(v==32)=true:=beq_iff_eq.2 h32;have o:Hid (Q=false):=hid (by
        rcases t.out with h | h
        ·exact h.2.2
        ·refine absurd ⟨h45, .inr ?_⟩ h.1;rw[p];congr 1;exact UInt8.toNat_inj.1 (by show b.toNat=32;omega))
       clear h45 hK0 n p k;subst h32;exact mh
      ·have al:(v==32)=false:=aE.2 h32;have o:Hid (jN (l.drop 0)=Q):=hid (by
        rcases t.out with h | h
        ·exfalso;rcases h.2.1 with h | h
         ·exact hK0 h
         ·rw[p] at h;have:=aV h;rw[this] at k;exact h32 k.symm
        ·exact h.2)
       clear h45 hK0 n p k h32;exact mg
    ·have ap:(x==45)=false:=aE.2 h45;have o:Hid (jN (l.drop 0)=Q):=hid (by
      rcases t.out with h | h
      ·exact absurd h.1 h45
      ·exact h.2)
     clear h45;exact mg
   case rest=>
   obtain⟨q,rfl,ah,af,ai⟩:=hcut;cases q with
   | true=>
    obtain rfl:=ah.out rfl;go_wp2_with fail;go_ret;exact⟨rfl,ai.out⟩
   | false=>
    have HP:=hid (af.out rfl);clear ah af t;go_wp2_with fail;go_loopw [7] (λs7 wr=> ∃i:Nat,s7= .int .i64 (i:Int)/\i<=K/\Hid (jN (l.drop i)=Q)/\Hid (Below w.heap.size w wr)) (λs7 _=>K-(RowKit.intOf s7).toNat)
    case atStart=>exact⟨0,rfl,dY _,HP,ai⟩
    case round=>
     obtain⟨j,rfl,hj,O,D⟩:=hrel;by_cases hlj:j<K
     ·have X:j<(bs l).size:=a_;have N:j+1<(bs l).size:=a_;have dj:decide ((j:Int)+1<(K:Int)+1)=true:=aO a_;have hjz:(j:Int)+1<(K:Int)+1:=a_;have ao:decide ((j:Int)<(K:Int))=true:=aO a_;have U:=cK l j X;have C:=cK l (j+1) N;obtain⟨a,ha⟩:=exQ<|(bs l)[j]'X;obtain⟨b,n⟩:=exQ<|(bs l)[j+1]'N;rw[ha] at U;rw[n] at C;have f:=O.out;rw[wL U,wL C,jN,<-wL C] at f;obtain⟨u,hu⟩: ∃v:Int,(a.toNat:Int)=v:=⟨_,rfl⟩;obtain⟨v,k⟩: ∃v:Int,(b.toNat:Int)=v:=⟨_,rfl⟩;have hgeu:(((bs l)[j]'X).toNat:Int)=u:=(by rw[ha,hu]);have H:(((bs l)[j+1]'N).toNat:Int)=v:=(by rw[n,k]);rw[rH hu 58,rH k 32,rH hu 32,rH k 35] at f;have d:Hid ((!(((u==58)&&(v==32))||((u==32)&&(v==35)))&&jN (l.drop (j+1)))=Q):=hid f;clear f U C ha n hu k O;by_cases h1:u=58
      ·have BV:=trivial;exact us
      ·have t1:(u==58)=false:=aE.2 h1;by_cases h2:u=32
       ·exact us
       ·have t2:(u==32)=false:=aE.2 h2;have F:Hid (jN (l.drop (j+1))=Q):=hid (by have:=d.out;rw[t1,t2] at this;simpa using this);clear h1 h2 d;exact jr
     ·have dj:decide ((j:Int)+1<(K:Int)+1)=false:=aG a_;have ao:decide ((j:Int)<(K:Int))=false:=aG a_;obtain rfl:Q=true:=by
       have h:=O.out;have hjk:j=K:=a_;have ad:(l.drop j).length=1:=by rw[aU,HK.out];omega
       match hd:l.drop j,ad with
       | [a],_=>rw[hd] at h;exact h.symm
      go_wp2_with fail;go_ret;exact⟨rfl,D.out⟩
end
end Go.Proofs.YtfhjncbdgjlcoaaGreatDoor
