import Derived.Test.YtfhjncbdgjlcoaaGreatDoorYn22
set_option linter.unusedVariables false
set_option linter.unusedSimpArgs false
set_option maxRecDepth 100000
set_option maxHeartbeats 4000000
namespace Go.Proofs.YtfhjncbdgjlcoaaGreatDoor
open Tryz
section
open Go.RowKit
open Go.Lib hiding intOf
theorem Gd {Pr:aO}{w0:World}{P:Nat}{txt:aB}{sp:List (Nat×Nat)}{st:YS} (x:aV) (lv:Nat) (lev a:Int) (w:World) (h:YJ YQ Pr w0 P txt sp st 0 0 w) (hx:x.kids= []) (hl:Hid (lev=33-(lv:Int))) (hlv:lv<=32) (hN:st.nodes.length<=4096):
  Calls prog 38 #[some P,wT x,lev,a] w (sH YQ Pr w0 P txt sp (gC x lv a st)):=by
 have RF:=trivial;exact PM
theorem aAw {Pr:aO}{w0:World}{P:Nat}{txt:aB}{sp:List (Nat×Nat)}{st:YS} (x:aV) (lv:Nat) (lev a:Int) (w:World) (h:YJ YQ Pr w0 P txt sp st 0 0 w) (hx:x.kids= []) (hl:Hid (lev=33-(lv:Int))) (hlv:lv<=32) (hN:st.nodes.length<=4096):
  Calls prog 38 #[some P,wT x,lev,a] w (fG YQ Pr w0 P txt sp (gC x lv a st)):=by
 refine(Gd x lv lev a w h hx hl hlv hN).mono (λe w' c=>?_);exact FO
theorem aAx (s:aB) (x:Nat×Nat):dQ s (x.1:Int) (x.2:Int)=dL s x:=rfl
theorem Ns (t:aB):(Lib.trimLeftB t 32).length=t.length-bB t:=by
 have h:Lib.trimLeftB t 32=t.drop (bB t):=by
  refine Lib.trimLeftB_drop t 32 (bB t) (jU t) (λj b c a=>?_) (λb a=>?_)
  .have:=pA t j c;rw[a] at this;exact bA this
  .intro e;subst e;exact pB t a
 rw[h,bC]
theorem aAy (t:aB) (w:World): ∃r:aB,r.length=t.length-bB t/\Calls prog 29 #[bs t, .string ⟨#[32]⟩] w λe w'=>e= .returned (.string (bs r))/\w=w':=by
 refine⟨Lib.trimLeftB t 32,Ns t,?_⟩;exact GE
section
variable {Pr:aO}{w0:World}{P:Nat}{txt:aB}{sp:List (Nat×Nat)}{st:YS}{a0 e0:Int}
theorem Nt (k:Nat) (x:Nat×Nat) (w:World) (h:YJ YP Pr w0 P txt sp st a0 e0 w) (hx:sp[k]?=some x) (hsp:dV txt sp) (hs:txt.length<=65536):
  Calls prog 205 #[some P,k] w (aT w (.tuple #[(bB (dL txt x):Int),(decide (bB (dL txt x)=(dL txt x).length))])):=by
 have SU:=trivial;exact QE
end
def yR (r n:Int):Bool:=!(r==65533&&n==1)&&(r==9||(decide (32<=r)&&r !=127))
theorem aAz (d:Nat×Nat):yH d=!yR (d.1:Int) (d.2:Int):=by
 unfold yH yR;have a:((d.1:Int)==65533)=(d.1==65533):=by rw[Bool.eq_iff_iff,beq_iff_eq,beq_iff_eq];omega
 have e:((d.2:Int)==1)=(d.2==1):=by rw[Bool.eq_iff_iff,beq_iff_eq,beq_iff_eq];omega
 have c:((d.1:Int)==9)=(d.1==9):=by rw[Bool.eq_iff_iff,beq_iff_eq,beq_iff_eq];omega
 have f:decide ((32:Int)<=(d.1:Int))=decide (32<=d.1):=by rw[Bool.eq_iff_iff,kB,kB];omega
 have b:((d.1:Int) !=127)=(d.1 !=127):=by rw[Bool.eq_iff_iff,eN,eN];omega
 rw[a,e,c,f,b];cases (d.1==65533&&d.2==1)<;>cases (d.1==9||decide (32<=d.1)&&d.1 !=127)<;>rfl
theorem aAA (r n:Int) (w:World):Calls prog 207 #[.int .i32 r,n] w λe w'=>e= .returned (.bool (yR r n))/\w=w':=by
 unfold yR;by_cases h1:r=65533
 .subst h1;by_cases h2:n=1
  .subst h2;exact bj
  .have d2:(n==1)=false:=aI.2 h2;rw[d2];clear h2;exact bj
 .have d1:(r==65533)=false:=aI.2 h1;rw[d1];clear h1;by_cases h3:r=9
  .subst h3;exact bj
  .have d3:(r==9)=false:=aI.2 h3;rw[d3];clear h3;by_cases h4:32<=r
   .have d4:decide (32<=r)=true:=aQ h4;rw[d4];clear h4;by_cases h5:r=127
    .subst h5;exact bj
    .have d5:(r !=127)=true:=eN.2 h5;rw[d5];clear h5;exact bj
   .have d4:decide (32<=r)=false:=aJ h4;rw[d4];clear h4;exact bj
theorem Nu (l:aB) (i:Nat):decodeL (l.drop i)=((Utf8.decode (bs l) i).1,(Utf8.decode (bs l) i).2):=by
 have a:=nF (bs l) i;rw[aY] at a;exact a
theorem aAB (l:aB) (i:Nat) (w:World) (hi:i<l.length) (hs:l.length<=1073741824) (hT:dE w):
  Calls prog 206 #[bs l,i] w (aT w (.tuple #[.int .i32 ((decodeL (l.drop i)).1:Int),((decodeL (l.drop i)).2:Int)])):=by
 rw[Nu];have sl:=aP l;have CD:=hid (λw=>Ex l i w hi);have b:=hid hT;have hi1:(i:Int)<(l.length:Int):=a_
 clear hT;go_in;go_wp2_with (go_at_call 84;refine(CD.out _ b.out).mono ?_;rintro e w' ⟨rfl,a⟩);go_ret2;exact⟨rfl,a⟩
def pI (x:Nat×Nat) (nb:Nat):aS:=⟨6,x.1,x.2,nb,0,0,0,0,0,0⟩
theorem Nv (s:aB) (x:Nat×Nat):pI x (bB (dL s x))=jC s x:=rfl
def Ge (Pr:aO) (w0:World) (P:Nat) (txt:aB) (sp:List (Nat×Nat)) (st:YS) (x:Nat×Nat) (e:Ending) (w':World):Prop:=
 (nN txt x<x.2/\e= .returned (.bool false)/\gH YP Pr w0 P txt sp (nN txt x:Int) 2 w')\/(¬nN txt x<x.2/\e= .returned (.bool true)/\YJ YP Pr w0 P txt sp ⟨st.lines++ [jC txt x],st.nodes,st.total⟩ 0 0 w')
theorem Nw (s:aB) (e:Nat) (f i:Nat) (h:e<=i):pF s e f i=i:=by
 cases f with
 | zero=>rfl
 | succ f=>unfold pF;rw[if_pos h]
theorem aAC {Pr:aO}{w0:World}{P:Nat}{txt:aB}{sp:List (Nat×Nat)}{st:YS} (q:Nat) (x:Nat×Nat) (w:World) (h:YJ YP Pr w0 P txt sp st 0 0 w) (hx:sp[q]?=some x) (hsp:dV txt sp) (hl:st.lines.length<=sp.length) (hs:txt.length<=65536) (hn:sp.length<=131072) (hV:bV w0):
  Calls prog 182 #[some P,q] w (Ge Pr w0 P txt sp st x):=by
 obtain⟨x1,x2⟩:=hsp x (bH hx);have Z:=(aW.1 hx).1;obtain⟨i0,du,ds,ee,ei⟩:=info_parts infoLine;have dz:=hid hsp;have HX:=hid hx;obtain⟨k,hk⟩:=exQ<|st.lines.length;rw[hk] at hl;have eY:=hid hk;have HJ:=hid h;have HV:Hid (∀w',aA w w'->dE w'):=hid (λw' hb=>((hV.keep h.bel).keep hb).tabs);have b0:=aL w (.cells #[x.1,x.2] 42);obtain⟨M,hM⟩:=exQ<|nN txt x;unfold Ge;rw[hM];have HM:Hid (pF txt x.2 (x.2-x.1) x.1=M):=hid hM;obtain⟨z,sv,lv,nv,hz,hK⟩:=h;obtain⟨gs,cs,rfl,ct,s0,s1⟩:=hK.spanAt hx;obtain⟨⟨_,c1,_⟩,_⟩:=hK.cells;have hPl:=hK.lt;have io:(0:Int)<=(q:Int):=a_
 have k9:(q:Int)<(sp.length:Int):=a_
 have sl:=aP txt;have iu:=heap_alloc_new w (.cells #[x.1,x.2] 42);obtain⟨X,eo⟩:=exQ<|w.heap.size;have HXe:=hid eo;clear hK hz hx hsp hk hV hM ct;go_in;go_upto_region 2 with fail;have gd:=HJ.out.put b0 (aF _) iu;have fI: ∀k o,Pr k=some o->(Pr.put w.heap.size (.cells #[x.1,x.2] 42)) k=some o:=aO.put_less (λk o hk=>HJ.out.frLt k o hk) (aF _);obtain⟨W1,bp⟩:=exQ<|w.alloc (.cells #[x.1,x.2] 42);rw[bp] at gd b0 iu;rw[eo] at gd fI iu;rw[bp];have lG:=hid gd;have HX1:=hid iu;have av:=hid fI;have iy:=hid b0;obtain⟨y0,y1⟩:=qO iu;clear gd fI iu b0 bp eo s0 s1 c1 HJ;go_wp2;go_loopw [6] (λs6 wr=> ∃(i f:Nat),s6= .int .i64 (i:Int)/\i<=65536/\Hid (x.2<=i+f/\pF txt x.2 f i=M)/\Hid (aA W1 wr)) (λs6 _=>x.2-(RowKit.intOf s6).toNat)
 case atStart=>exact⟨x.1,x.2-x.1,rfl,a_,hid ⟨a_,HM.out⟩,hid (aD _ _)⟩
 case round=>
  have RL:=trivial;exact PO
end
section
open Go.Lib hiding intOf
theorem Gf (p:UInt8->Bool): ∀l:aB,∀c,(l.dropWhile p).head?=some c->p c=false
 | [],c,h=>by simp at h
 | x::l,c,h=>by
  rw[List.dropWhile_cons] at h;split at h
  .exact Gf p l c h
  .rename_i hx;simp at h;subst h;simpa using hx
def qW (c:UInt8):Bool:=decide (c.toNat<32)||decide (c.toNat=127)
theorem Nx: ∀(n f:Nat) (s:aB),s.length<=n->s.length<=f->Lib.validD s=true->tP f s=!s.any qW
 | 0,f,s,hn,_,_=>by
  cases s with
  | nil=>cases f<;>rfl
  | cons c r=>simp at hn
 | n +1,f,s,hn,hf,hv=>by
  by_cases hne:s= []
  .subst hne;cases f<;>rfl
  obtain⟨r,t,hr,rfl,ht,hd⟩:=Tj s hne hv;obtain⟨E,b⟩:=exQ<|encodeRune r;have a:=Th r;rw[b] at a;cases E with
  | nil=>exact absurd rfl a
  | cons e E'=>
   rw[b] at hd hn hf ⊢;obtain⟨g,rfl⟩: ∃g,f=g+1:=⟨f-1,by simp at hf;omega⟩;rw[qK,tP];rw[qK] at hd;rw[hd];have e1:(e::(E'++t)).drop (e::E').length=t:=(by rw[show e::(E'++t)=(e::E')++t from rfl,List.drop_left]);rw[e1,Nx n g t (by simp at hn;omega) (by simp at hf;omega) ht];rw[show e::(E'++t)=(e::E')++t from rfl,List.any_append];have hr0:=hr.1;have h:(e::E').any qW=(decide (r.toNat<32)||(r.toNat==127)):=by
    by_cases h128:r<128
    .obtain⟨d,i⟩: ∃d:UInt8,r=(d.toNat:Int):=⟨UInt8.ofNat r.toNat,by rw[UInt8.toNat_ofNat'];omega⟩;subst i;rw[<-b,Ti d a_,List.any_cons,List.any_nil,Bool.or_false,gA];unfold qW;congr 1
    .have k:(decide (r.toNat<32)||(r.toNat==127))=false:=by
      rw[Bool.or_eq_false_iff];exact⟨aJ a_,aI.2 a_⟩
     rw[k,List.any_eq_false];intro c j;rw[<-b] at j;have:=Tg r hr a_ c j;unfold qW;simp only[Bool.or_eq_true,kB];omega
   rw[h];cases (decide (r.toNat<32)||(r.toNat==127))<;>simp
theorem aAD (s:aB):nK s=(Lib.validD s&&!s.any qW):=by
 unfold nK;cases hv:Lib.validD s with
 | false=>simp
 | true=>rw[Nx s.length s.length s (aF _) (aF _) hv];simp
def kE:aB->Bool
 | a::b::r=>!((a==58&&b==32)||(a==32&&b==35))&&kE (b::r)
 | _=>true
theorem contains_cons (b:UInt8) (l sub:aB):Lib.contains (b::l) sub=(sub.isPrefixOf (b::l)||Lib.contains l sub):=by
 unfold Lib.contains;rw[Lib.index];have hg:=Lib.index_ge l sub;split
 .rename_i h;rw[h];simp
 .rename_i h;rw[Bool.not_eq_true] at h;rw[h,Bool.false_or];split
  .rename_i a;rw[beq_iff_eq] at a;rw[a]
  .rename_i a;simp only[beq_iff_eq] at a;rw[decide_eq_decide];omega
theorem Ny: ∀s:aB,(!Lib.contains s [58,32]&&!Lib.contains s [32,35])=kE s
 | []=>by rfl
 | [a]=>by
  rw[contains_cons,contains_cons];have e1:Lib.contains [] [58,32]=false:=b_
  have e2:Lib.contains [] [32,35]=false:=b_
  rw[e1,e2];simp[List.isPrefixOf,kE]
 | a::b::r=>by
  rw[contains_cons,contains_cons a,kE,<-Ny (b::r)];simp only[List.isPrefixOf,Bool.and_true];have e1:((58:UInt8)==a)=(a==58):=BEq.comm;have e2:((32:UInt8)==b)=(b==32):=BEq.comm;have e3:((32:UInt8)==a)=(a==32):=BEq.comm;have e4:((35:UInt8)==b)=(b==35):=BEq.comm;rw[e1,e2,e3,e4];cases (a==58&&b==32)<;>cases (a==32&&b==35)<;>cases Lib.contains (b::r) [58,32]<;>cases Lib.contains (b::r) [32,35]<;>rfl
theorem Cd (p:UInt8->Bool): ∀l:aB,(l.dropWhile p).length<=l.length
 | []=>aF _
 | x::l=>by
  rw[List.dropWhile_cons];split
  .have:=Cd p l;simp only[bM];omega
  .exact aF _
theorem aAE (p:UInt8->Bool) (l:aB) (h:l.length<=(l.dropWhile p).length):l.dropWhile p=l:=by
 cases l with
 | nil=>rfl
 | cons x l=>
  rw[List.dropWhile_cons] at h ⊢;split
  .rename_i a;rw[if_pos a] at h;have:=Cd p l;simp only[bM] at h;omega
  .rfl
theorem aAF (s:aB):decide (Lib.trimB s 32=s)=(decide (s.head?≠some 32)&&decide (s.getLast?≠some 32)):=by
 rw[<-Bool.decide_and,decide_eq_decide];unfold Lib.trimB Lib.trimLeftB Lib.trimRightB;constructor
 .intro h;have c:=congrArg List.length h;have b:=Cd (· ==32) ((s.reverse.dropWhile (· ==32)).reverse);have a:=Cd (· ==32) s.reverse;rw[List.length_reverse] at b a;have e1:=aAE (· ==32) s.reverse (by rw[List.length_reverse];omega);rw[e1,List.reverse_reverse] at h;refine⟨λe=>?_,λe=>?_⟩
  .have:=Gf (· ==32) s 32 (by rw[h];exact e);simp at this
  .have:=Gf (· ==32) s.reverse 32 (by rw[e1,List.head?_reverse];exact e);simp at this
 .rintro⟨b,a⟩;have no: ∀l:aB,l.head?≠some 32->l.dropWhile (· ==32)=l:=by
   intro l c;cases l with
   | nil=>rfl
   | cons x l=>
    rw[List.dropWhile_cons,if_neg];intro e;rw[beq_iff_eq] at e;exact c (by rw[e];rfl)
  rw[no s.reverse (by rw[List.head?_reverse];exact a),List.reverse_reverse,no s b]
def Ce (s:aB):Bool:=match s with
 | []=>false
 | c::r=>nK (c::r)&&!(c==32)&&!((c::r).getLast?==some 32)&&!((c::r).getLast?==some 58)&&!nL.contains c&&!(c==45&&(r.isEmpty||r.head?==some 32))&&kE (c::r)
theorem aAG (s:aB):oF s=Ce s:=by
 cases s with
 | nil=>rfl
 | cons c r=>
  unfold oF Ce;simp only[];rw[aAF];have e1:decide (0<=Lib.indexByte nL c)=nL.contains c:=(Lib.contains_iff_indexByte nL c).symm;have e2:Lib.hasSuffix (c::r) [58]=((c::r).getLast?==some 58):=by
   unfold Lib.hasSuffix List.isSuffixOf;rw[List.reverse_singleton];have a:(c::r).reverse.head?=(c::r).getLast?:=List.head?_reverse;cases hr:(c::r).reverse with
   | nil=>simp at hr
   | cons x l=>
    rw[hr] at a;rw[<-a];simp only[List.isPrefixOf,Bool.and_true,List.head?_cons];rw[show ((58:UInt8)==x)=(x==58) from BEq.comm];rfl
  have e3:(!decide (c::r= [45])&&!Lib.hasPrefix (c::r) [45,32])=!(c==45&&(r.isEmpty||r.head?==some 32)):=by
   unfold Lib.hasPrefix;cases r with
   | nil=>
    simp only[List.isPrefixOf,Bool.and_false,List.isEmpty_nil,Bool.true_or,Bool.and_true,Bool.not_false];congr 1;rw[Bool.eq_iff_iff];simp
   | cons b r=>
    simp only[List.isPrefixOf,Bool.and_true,List.isEmpty_cons,Bool.false_or,List.head?_cons];have:decide (c::b::r= [45])=false:=aJ e_;rw[this];simp only[Bool.not_false,Bool.true_and];rw[show ((45:UInt8)==c)=(c==45) from BEq.comm,show ((32:UInt8)==b)=(b==32) from BEq.comm];rfl
  have e4:(decide ((c::r).head?≠some 32))=!(c==32):=by
   rw[Bool.eq_iff_iff];simp
  have e5:(decide ((c::r).getLast?≠some 32))=!((c::r).getLast?==some 32):=by
   rw[Bool.eq_iff_iff];simp
  rw[e1,e2,e4,e5,<-e3,<-Ny];generalize nK (c::r)=a1;generalize (c==32)=a2;generalize ((c::r).getLast?==some 32)=a3;generalize nL.contains c=a4;generalize decide (c::r= [45])=a5;generalize Lib.hasPrefix (c::r) [45,32]=a6;generalize ((c::r).getLast?==some 58)=a7;generalize Lib.contains (c::r) [58,32]=a8;generalize Lib.contains (c::r) [32,35]=a9;cases a1<;>cases a2<;>cases a3<;>cases a4<;>cases a5<;>cases a6<;>cases a7<;>cases a8<;>cases a9<;>rfl
end
section
open Go.RowKit
open Go.Lib hiding intOf
theorem aAH (l:aB) (w:World) (hs:l.length<=4611686018427387904):
  ∃N:Int,Calls prog 134 #[bs l] w (aT w (.tuple #[N,(Lib.validD l)])):=by
 refine⟨(lO (bs l)).1,(Yb (bs l) w (by rw[aP];exact hs)).mono ?_⟩;rintro e w' ⟨rfl,rfl⟩;exact⟨by rw[Mc,aY],aD _ _⟩
theorem wY {l:aB}{i:Nat}{b:UInt8} (h:l[i]?=some b):l.drop i=b::l.drop (i+1):=by
 obtain⟨a,c⟩:=aW.1 h;rw[gB a,c]
theorem aAI (b:UInt8) (x:Int) (hx:(b.toNat:Int)=x):qW b=(decide (x<32)||(x==127)):=by
 unfold qW;subst hx;congr 1
 .rw[decide_eq_decide];omega
 .rw[Bool.eq_iff_iff,decide_eq_true_iff,beq_iff_eq];omega
theorem aAJ (l:aB) (w:World) (hs:l.length<=4611686018427387904):
  Calls prog 95 #[bs l] w (aT w (.bool (nK l))):=by
 have sl:=aP l;obtain⟨N,u⟩:=aAH l w hs;have s:=hid u;clear u;have f:=aAD l;obtain⟨V,v⟩:=exQ<|Lib.validD l;obtain⟨Q,t⟩:=exQ<|nK l;rw[v] at s f;rw[t] at f ⊢;have y:Hid ((V&&!(l.drop 0).any qW)=Q):=hid (by rw[List.drop_zero];exact f.symm);clear v t f;go_in;go_wp2_with fail;refine aH s.out λw2 j=>?_;have q:=hid j;clear j s;go_wp2;go_loopw [5] (λs5 wr=> ∃i:Nat,s5= .int .i64 (i:Int)/\i<=l.length/\Hid ((V&&!(l.drop i).any qW)=Q)/\Hid (aA w wr)) (λs5 _=>l.length-(RowKit.intOf s5).toNat)
 case atStart=>exact⟨0,rfl,cI _,y,q⟩
 case round=>
  obtain⟨i,rfl,hi,h,c⟩:=hrel;by_cases hlt:i<l.length
  .have a:i<(bs l).size:=a_;have dk:decide ((i:Int)<(l.length:Int))=true:=aQ a_;have hiz:(i:Int)<(l.length:Int):=a_;have g:=cT l i a;obtain⟨b,n⟩:=exQ<|(bs l)[i]'a;rw[n] at g;have m:=h.out;rw[wY g,List.any_cons] at m;obtain⟨x,r⟩: ∃x:Int,(b.toNat:Int)=x:=⟨_,rfl⟩;have hge3:(((bs l)[i]'a).toNat:Int)=x:=(by rw[n,r]);rw[aAI b x r] at m;have k:=hid m;clear m g n r h;by_cases h32:x<32
   .have e:decide (x<32)=true:=aQ h32;have p:Q=false:=by have:=k.out;rw[e] at this;simpa using this.symm
    subst p;clear h32;go_wp2;go_ret;exact⟨rfl,c.out⟩
   .have e:decide (x<32)=false:=aJ h32;by_cases h127:x=127
    .have d:(x==127)=true:=beq_iff_eq.2 h127;have p:Q=false:=by have:=k.out;rw[e,d] at this;simpa using this.symm
     subst p;clear h32 k;subst h127;go_wp2;go_ret;exact⟨rfl,c.out⟩
    .have d:(x==127)=false:=aI.2 h127;have o:Hid ((V&&!(l.drop (i+1)).any qW)=Q):=hid (by have:=k.out;rw[e,d] at this;simpa using this);clear h32 h127 k;go_wp2;go_roundw
     case rel=>exact⟨i+1,t_,a_,o,by first | exact c | exact hid (below_drewN c.out _)⟩
     case measure=>simp[RowKit.intOf];omega
  .have dk:decide ((i:Int)<(l.length:Int))=false:=aJ a_;obtain rfl:V=Q:=by
    have:=h.out;rw[List.drop_of_length_le a_] at this;simpa using this
   go_wp2;go_ret;exact⟨rfl,c.out⟩
theorem aAK {m:aB}{S:ByteArray} (h:bs m=S) (i:Nat) (hi:i<S.size):m[i]?=some (S[i]'hi):=by
 subst h;exact cT m i hi
theorem sJ {b:UInt8}{x:Int} (hx:(b.toNat:Int)=x) (n:UInt8):(b==n)=(x==(n.toNat:Int)):=by
 subst hx;rw[Bool.eq_iff_iff,beq_iff_eq,beq_iff_eq];exact⟨λe=>by rw[e],λe=>UInt8.toNat_inj.1 a_⟩
theorem Gg (l:aB) (w:World) (hs:l.length<=4611686018427387904):
  Calls prog 60 #[bs l] w (aT w (.bool (oF l))):=by
 rw[aAG];have sl:=aP l;have CC:=hid (aAJ l w hs);cases l with
 | nil=>
  have e1:nK []=true:=rfl;rw[e1] at CC;clear e1;exact PA
 | cons c r=>
 obtain⟨l,X⟩:=exQ<|c::r;obtain⟨K,U⟩: ∃K,l.length=K+1:=⟨r.length,by rw[<-X];rfl⟩;obtain⟨Q,hQ⟩:=exQ<|Ce (c::r);have ae:(r.isEmpty||r.head?==some 32)=(K==0||l[1]?==some 32):=by
  rw[<-X] at U ⊢;cases r with
  | nil=>simp at U;subst U;rfl
  | cons b r=>simp at U;rw[<-U];simp
 have e:=hQ;unfold Ce at e;simp only[] at e;rw[ae,X] at e;have ag:l[0]?=some c:=by rw[<-X];rfl
 have p:l.getLast?=l[K]?:=by rw[List.getLast?_eq_getElem?,U,Nat.add_sub_cancel]
 rw[p] at e;rw[hQ];rw[X] at CC sl hs ⊢;clear hQ X ae p;obtain⟨A,hA⟩:=exQ<|nK l;rw[hA] at e CC;clear hA;have sz:((bs l).size:Int)=(K:Int)+1:=a_
 have hz:((K:Int)+1==0)=false:=aI.2 a_;have hsb:(K:Int)+1-1=(K:Int):=a_
 have V:0<(bs l).size:=a_
 have O:K<(bs l).size:=a_
 have G:(bs l)[0]'V=c:=by
  have:=cT l 0 V;rw[ag] at this;exact(bA this).symm
 obtain⟨z,N⟩:=exQ<|(bs l)[K]'O;have I:=cT l K O;rw[N] at I;rw[I] at e;obtain⟨x,hx⟩: ∃x:Int,(c.toNat:Int)=x:=⟨_,rfl⟩;obtain⟨y,hy⟩: ∃y:Int,(z.toNat:Int)=y:=⟨_,rfl⟩;have hgex:(((bs l)[0]'V).toNat:Int)=x:=by rw[G,hx]
 have hgey:(((bs l)[K]'O).toNat:Int)=y:=by rw[N,hy]
 have aa:(some z==some (32:UInt8))=(y==32):=sJ hy 32;have ad:(some z==some (58:UInt8))=(y==58):=sJ hy 58;rw[aa,ad,sJ hx 32,sJ hx 45] at e;have e:(A&&!(x==32)&&!(y==32)&&!(y==58)&&!nL.contains c&&!((x==45)&&((K==0)||(l[1]?==some 32)))&&kE l)=Q:=e;have HX:=hid hx;have HQ:=hid e;have HK:=hid U;clear aa ad hx hy I N G e ag;obtain⟨S,hS⟩:=exQ<|bs nL;have HS:=hid hS;have hSs:S.size=18:=by rw[<-hS];rfl
 clear hS;cases A with
 | false=>
  obtain rfl:Q=false:=by have:=HQ.out;simpa using this.symm
  exact PA
 | true=>
 by_cases hb3:x=32\/y=32\/y=58
 .obtain rfl:Q=false:=by
   have:=HQ.out;rw[<-this];rcases hb3 with h | h | h<;>subst h<;>simp
  go_in;go_wp2_with fail;refine aH CC.out λw2 f=>?_;have F:=hid f;clear f CC;by_cases h1:x=32
  .have d1:(x==32)=true:=beq_iff_eq.2 h1;clear h1 hb3;exact ev
  .have d1:(x==32)=false:=aI.2 h1;by_cases h2:y=32
   .have d2:(y==32)=true:=beq_iff_eq.2 h2;clear h1 h2 hb3;exact ev
   .have d2:(y==32)=false:=aI.2 h2;have d3:(y==58)=true:=beq_iff_eq.2 a_;clear h1 h2 hb3;exact ev
 have d1:(x==32)=false:=aI.2 a_;have d2:(y==32)=false:=aI.2 a_;have d3:(y==58)=false:=aI.2 a_;clear hb3;have an:Hid ((!(nL.drop 0).contains c&&(!((x==45)&&((K==0)||(l[1]?==some 32)))&&kE l))=Q):=hid (by have:=HQ.out;rw[d1,d2,d3] at this;rw[List.drop_zero,<-this];simp[Bool.and_assoc]);clear HQ;go_in;go_wp2_with fail;refine aH CC.out λw2 f=>?_;have F:=hid f;clear f CC;go_upto_region 5 with fail;go_cut [5] (λs5 wx=>s5= .string S/\Hid (aA w wx))
 case first=>
  go_wp2;go_meet;exact⟨by rw[<-HS.out];rfl,F⟩
 case rest=>
 obtain⟨rfl,ak⟩:=hcut;clear d1 d2 d3;go_wp2;go_loopw [6] (λs6 wr=> ∃i:Nat,s6= .int .i64 (i:Int)/\i<=18/\Hid ((!(nL.drop i).contains c&&(!((x==45)&&((K==0)||(l[1]?==some 32)))&&kE l))=Q)/\Hid (aA w wr)) (λs6 _=>18-(RowKit.intOf s6).toNat)
 case atStart=>exact⟨0,rfl,cI _,an,ak⟩
 case round=>
  obtain⟨i,rfl,hi,C,k⟩:=hrel;by_cases hlt:i<18
  .have o:i<S.size:=a_;have dk:decide ((i:Int)<18)=true:=aQ a_;have hiz:(i:Int)<18:=a_;have J:=aAK HS.out i o;obtain⟨b,m⟩:=exQ<|S[i]'o;rw[m] at J;have e:=C.out;rw[wY J,List.contains_cons] at e;obtain⟨v,g⟩: ∃v:Int,(b.toNat:Int)=v:=⟨_,rfl⟩;have H:((S[i]'o).toNat:Int)=v:=(by rw[m,g]);have ah:(c==b)=(x==v):=(by rw[sJ HX.out b,g]);rw[ah] at e;have d:=hid e;clear e J m g C ah;by_cases hxv:x=v
   .have dx:(x==v)=true:=beq_iff_eq.2 hxv;obtain rfl:Q=false:=by have:=d.out;rw[dx] at this;simpa using this.symm
    clear hxv d;go_upto_region 9 with fail;go_region
    all_goals
     go_wp2;go_ret;exact⟨rfl,by first | exact k.out | exact below_drewN k.out _⟩
   .have dx:(x==v)=false:=aI.2 hxv;have E:Hid ((!(nL.drop (i+1)).contains c&&(!((x==45)&&((K==0)||(l[1]?==some 32)))&&kE l))=Q):=hid (by have:=d.out;rw[dx] at this;simpa using this);clear hxv d;go_upto_region 9 with fail;go_region
    all_goals
     go_wp2;go_roundw
     case rel=>exact⟨i+1,t_,a_,E,by first | exact k | exact hid (below_drewN k.out _)⟩
     case measure=>simp[RowKit.intOf];omega
  .have dk:decide ((i:Int)<18)=false:=aJ a_;have Y:Hid ((!((x==45)&&((K==0)||(l[1]?==some 32)))&&kE l)=Q):=hid (by have:=C.out;rw[List.drop_of_length_le (by show 18<=i;omega)] at this;simpa using this);clear C;have s:Hid ((x=45/\(K=0\/l[1]?=some 32)/\Q=false)\/(¬(x=45/\(K=0\/l[1]?=some 32))/\kE (l.drop 0)=Q)):=hid (by
    have h:=Y.out;rw[List.drop_zero];by_cases hc:x=45/\(K=0\/l[1]?=some 32)
    .left;refine⟨hc.1,hc.2,?_⟩;rw[<-h];have:((x==45)&&((K==0)||(l[1]?==some 32)))=true:=by
      simp only[fQ,Bool.or_eq_true,beq_iff_eq];exact hc
     rw[this];rfl
    .right;refine⟨hc,?_⟩;rw[<-h];have:((x==45)&&((K==0)||(l[1]?==some 32)))=false:=by
      rw[<-Bool.not_eq_true];simp only[fQ,Bool.or_eq_true,beq_iff_eq];exact hc
     rw[this];rfl)
   clear Y;go_upto_region 11 with fail;go_cut [60] (λao wx=> ∃q:Bool,ao= .bool q/\Hid (q=true->Q=false)/\Hid (q=false->kE (l.drop 0)=Q)/\Hid (aA w wx))
   case first=>
    by_cases h45:x=45
    .have al:(x==45)=true:=beq_iff_eq.2 h45;by_cases hK0:K=0
     .have dK:((K:Int)+1==1)=true:=beq_iff_eq.2 a_;have n:Hid (Q=false):=hid (by
       rcases s.out with h | h
       .exact h.2.2
       .exact absurd ⟨h45, .inl hK0⟩ h.1)
      clear h45 hK0;exact od
     .have dK:((K:Int)+1==1)=false:=aI.2 a_;have R:1<(bs l).size:=a_;have t:=cT l 1 R;obtain⟨b,m⟩:=exQ<|(bs l)[1]'R;rw[m] at t;obtain⟨v,g⟩: ∃v:Int,(b.toNat:Int)=v:=⟨_,rfl⟩;have H:(((bs l)[1]'R).toNat:Int)=v:=(by rw[m,g]);by_cases h32:v=32
      .have am:(v==32)=true:=beq_iff_eq.2 h32;have n:Hid (Q=false):=hid (by
        rcases s.out with h | h
        .exact h.2.2
        .refine absurd ⟨h45, .inr ?_⟩ h.1;rw[t];congr 1;exact UInt8.toNat_inj.1 (by show b.toNat=32;omega))
       clear h45 hK0 m t g;subst h32;exact od
      .have am:(v==32)=false:=aI.2 h32;have n:Hid (kE (l.drop 0)=Q):=hid (by
        rcases s.out with h | h
        .exfalso;rcases h.2.1 with h | h
         .exact hK0 h
         .rw[t] at h;have:=bA h;rw[this] at g;exact h32 g.symm
        .exact h.2)
       clear h45 hK0 m t g h32;exact oc
    .have al:(x==45)=false:=aI.2 h45;have n:Hid (kE (l.drop 0)=Q):=hid (by
      rcases s.out with h | h
      .exact absurd h.1 h45
      .exact h.2)
     clear h45;exact oc
   case rest=>
   obtain⟨q,rfl,ab,ai,af⟩:=hcut;cases q with
   | true=>
    obtain rfl:=ab.out rfl;go_wp2;go_ret;exact⟨rfl,af.out⟩
   | false=>
    have HP:=hid (ai.out rfl);clear ab ai s;go_wp2;go_loopw [7] (λs7 wr=> ∃i:Nat,s7= .int .i64 (i:Int)/\i<=K/\Hid (kE (l.drop i)=Q)/\Hid (aA w wr)) (λs7 _=>K-(RowKit.intOf s7).toNat)
    case atStart=>exact⟨0,rfl,cI _,HP,af⟩
    case round=>
     obtain⟨j,rfl,hj,W,D⟩:=hrel;by_cases hlj:j<K
     .have M:j<(bs l).size:=a_;have T:j+1<(bs l).size:=a_;have dj:decide ((j:Int)+1<(K:Int)+1)=true:=aQ a_;have hjz:(j:Int)+1<(K:Int)+1:=a_;have aj:decide ((j:Int)<(K:Int))=true:=aQ a_;have L:=cT l j M;have B:=cT l (j+1) T;obtain⟨a,ha⟩:=exQ<|(bs l)[j]'M;obtain⟨b,m⟩:=exQ<|(bs l)[j+1]'T;rw[ha] at L;rw[m] at B;have e:=W.out;rw[wY L,wY B,kE,<-wY B] at e;obtain⟨u,hu⟩: ∃v:Int,(a.toNat:Int)=v:=⟨_,rfl⟩;obtain⟨v,g⟩: ∃v:Int,(b.toNat:Int)=v:=⟨_,rfl⟩;have hgeu:(((bs l)[j]'M).toNat:Int)=u:=(by rw[ha,hu]);have H:(((bs l)[j+1]'T).toNat:Int)=v:=(by rw[m,g]);rw[sJ hu 58,sJ g 32,sJ hu 32,sJ g 35] at e;have d:Hid ((!(((u==58)&&(v==32))||((u==32)&&(v==35)))&&kE (l.drop (j+1)))=Q):=hid e;clear e L B ha m hu g W;by_cases h1:u=58
      .have OE:=trivial;exact JO
      .have t1:(u==58)=false:=aI.2 h1;by_cases h2:u=32
       .exact JO
       .have t2:(u==32)=false:=aI.2 h2;have E:Hid (kE (l.drop (j+1))=Q):=hid (by have:=d.out;rw[t1,t2] at this;simpa using this);clear h1 h2 d;exact kh
     .have dj:decide ((j:Int)+1<(K:Int)+1)=false:=aJ a_;have aj:decide ((j:Int)<(K:Int))=false:=aJ a_;obtain rfl:Q=true:=by
       have h:=W.out;have hjk:j=K:=a_;have Z:(l.drop j).length=1:=by rw[bC,HK.out];omega
       match hd:l.drop j,Z with
       | [a],_=>rw[hd] at h;exact h.symm
      go_wp2;go_ret;exact⟨rfl,D.out⟩
end
end Go.Proofs.YtfhjncbdgjlcoaaGreatDoor
