import Derived.Test.YtfhjncbdgjlcoaaGreatDoorYa23
set_option maxRecDepth 100000
set_option maxHeartbeats 4000000
set_option linter.unusedVariables false
set_option linter.unusedSimpArgs false
namespace Go.Proofs.YtfhjncbdgjlcoaaGreatDoor
section
open Go.RowKit
open Go.Lib hiding intOf
section
variable {Pr:aJ}{w0:World}{P:Nat}{txt:aA}{sp:List (Nat×Nat)}{st:YS}{a0 e0:Int}
theorem Mz (k:Nat) (x:Nat×Nat) (w:World) (h:YJ YQ Pr w0 P txt sp st a0 e0 w) (hx:sp[k]?=some x) (hsp:eR txt sp) (hs:txt.length<=65536):
  Calls Tryz.prog 102 #[some P,k] w λe w'=>e= .returned (.tuple #[(aX (eJ txt x):Int),(decide (aX (eJ txt x)=(eJ txt x).length))])/\Below w.heap.size w w':=by
 have B7:=trivial;exact uz
def Bi (g:Bool) (c:Int):Bool:=!g||(decide (c<32)&&c !=9)||c==127
theorem Zs (l:aA) (b:UInt8):xS (decodeL (b::l))=Bi (!((decodeL (b::l)).1==65533&&(decodeL (b::l)).2==1)) (b.toNat:Int):=by
 unfold xS Bi;rw[Bool.not_not];by_cases h:b.toNat<128
 ·rw[decodeL_ascii b l h];simp only[];have d:(b.toNat==65533)=false:=aE.2 a_;rw[d,Bool.false_and,Bool.false_or,Bool.false_or];rw[Bool.eq_iff_iff];simp only[Bool.not_eq_true',Bool.or_eq_false_iff,fK,Bool.or_eq_true,jS,eF,beq_iff_eq,aE,Bool.and_eq_false_iff,decide_eq_false_iff_not,bne_eq_false_iff_eq];omega
 ·have a:128<=(decodeL (b::l)).1:=by
   rw[decodeL_N];exact Ch _ _ _ _ _ h_ (UInt8.toNat_lt _)
  obtain⟨⟨r,n⟩,c⟩:=exQ<|decodeL (b::l);rw[c] at a ⊢;simp only[] at a ⊢;have e1:(!(r==9||(decide (32<=r)&&r !=127)))=false:=by simp;omega
  have e2:(decide ((b.toNat:Int)<32)&&(b.toNat:Int) !=9)=false:=by rw[aG a_];rfl
  have e3:((b.toNat:Int)==127)=false:=aE.2 a_;rw[e1,e2,e3];simp
theorem Zt {s:aA}{e f i:Nat}{b:UInt8} (hi:i<e) (hb:s[i]?=some b) (hf:e<=i+f): ∃f',(oD s e f i=if Bi (fB (bs s) i) (b.toNat:Int) then i else oD s e f' (i+bG (bs s) i))/\e<=i+1+f':=by
 cases f with
 | zero=>omega
 | succ f=>
  refine⟨f,?_,a_⟩;have a:=Mu s i;have c:fB (bs s) i=!((decodeL (s.drop i)).1==65533&&(decodeL (s.drop i)).2==1):=by
   rw[a];unfold fB bL bG;simp only[];congr 2
   ·rw[Bool.eq_iff_iff,beq_iff_eq,beq_iff_eq];omega
   ·rw[Bool.eq_iff_iff,beq_iff_eq,beq_iff_eq];omega
  have d:bG (bs s) i=(decodeL (s.drop i)).2:=by rw[a];rfl
  rw[oD,if_neg a_,c,d];rw[wL hb,Zs]
theorem Zu (k:Nat) (x:Nat×Nat) (w:World) (h:YJ YQ Pr w0 P txt sp st a0 e0 w) (hx:sp[k]?=some x) (hsp:eR txt sp) (hs:txt.length<=65536):
    Calls Tryz.prog 103 #[some P,k] w λe w'=>e= .returned (.int .i64 (mM txt x:Int))/\Below w.heap.size w w':=by
  obtain⟨x1,x2⟩:=hsp x (bD hx);have N:=(aR.1 hx).1;have J:Hid (oD txt x.2 (x.2-x.1) x.1=mM txt x):=hid rfl;obtain⟨M,s⟩:=exQ<|mM txt x;rw[s] at J ⊢;obtain⟨z,sv,lv,nv,_,y⟩:=h;obtain⟨gs,cs,rfl,_,s0,s1⟩:=y.spanAt hx;have sl:=aM txt;have hk0:(0:Int)<=(k:Int):=a_
  have hk1:(k:Int)<(sp.length:Int):=a_
  have CG:=hid (fun(i:Nat) (w:World) (t:i<(bs txt).size)=>vX (bs txt) i w t a_);have CN:=hid (fun(i:Nat) (w:World) (t:i<(bs txt).size)=>vW (bs txt) i w t a_);have L:=hid (λi t=>lH (bs txt) i t);obtain⟨⟨c0,c1,_⟩,_⟩:=y.cells;have hPl:=y.lt;clear y hx s N;go_enter Tryz.func103,Tryz.ntmps103;go_wp2_with fail;go_loopw [5] (λs5 wr=> ∃(i f:Nat),s5= .int .i64 (i:Int)/\i<=65536/\Hid (x.2<=i+f/\oD txt x.2 f i=M)/\wr=w) (λs5 _=>x.2-(RowKit.intOf s5).toNat)
  case atStart=>exact⟨x.1,x.2-x.1,rfl,a_,hid ⟨a_,J.out⟩,rfl⟩
  case round =>
    obtain⟨i,f,rfl,t,C,rfl⟩:=hrel;by_cases hlt:i<x.2
    · have a:i<(bs txt).size:=a_;have o:=cK txt i a;obtain⟨b,F⟩:=exQ<|(bs txt)[i]'a;rw[F] at o;obtain⟨f',q,B⟩:=Zt hlt o C.out.1;rw[C.out.2] at q;obtain⟨c,E⟩: ∃c:Int,(b.toNat:Int)=c:=⟨_,rfl⟩;rw[E] at q;have hge:(((bs txt)[i]'a).toNat:Int)=c:=(by rw[F,E]);have dk:decide ((i:Int)<(x.2:Int))=true:=aO a_;have hiz:(i:Int)<(txt.length:Int):=a_;have l:=hid (CG.out i wr a);have j:=hid (CN.out i wr a);have G:=L.out i a;obtain⟨n,I⟩:=exQ<|bG (bs txt) i;obtain⟨g,K⟩:=exQ<|fB (bs txt) i;obtain⟨r,H⟩:=exQ<|bL (bs txt) i;rw[I] at q j G;rw[K] at q l;rw[H] at j;have hw1:=G.1;have hw4:(i:Int)+(n:Int)<=65536:=a_;have d:=hid q;have D:=hid (show x.2<=i+n+f' by omega);have m:Hid (Bi g c=(!g||(decide (c<32)&&c !=9)||c==127)):=hid rfl;clear o F E I K H G q B;cases g with
      | false=>
        have s:M=i:=by have:=d.out;rw[m.out] at this;simpa using this
        clear d;go_wp2_with fail;refine l.out.mono ?_;rintro e w2 ⟨rfl,rfl⟩;go_wp2_with fail;go_ret;exact⟨by rw[s];rfl,aB _ _⟩
      | true =>
        obtain⟨t1,A⟩:=exQ<|decide (c<32);obtain⟨t2,d9⟩:=exQ (c !=9);obtain⟨t3,v⟩:=exQ (c==127);have p:=d.out;rw[m.out,A,d9,v] at p;have u:=hid p;clear d p m;cases t1<;>cases t2<;>cases t3
        all_goals
          go_wp2_with fail;refine l.out.mono ?_;rintro e w2 ⟨rfl,rfl⟩;go_wp2_with fail
        all_goals first
          | (go_ret;exact⟨by rw[show M=i by simpa using u.out];rfl,aB _ _⟩)
          | (refine j.out.mono ?_
             rintro e w2 ⟨rfl,rfl⟩;go_wp2_with fail;go_roundw
             case rel=>exact⟨i+n,f',q_,a_,hid ⟨D.out,by have:=u.out;simpa using this.symm⟩,trivial⟩
             case measure=>simp[RowKit.intOf];omega)
    · have dk:decide ((i:Int)<(x.2:Int))=false:=aG a_;have s:M=i:=by rw[<-C.out.2];exact Mw _ _ _ _ a_
      go_wp2_with fail;go_ret;exact⟨by rw[s];rfl,aB _ _⟩
end
theorem Zv {Pr:aJ}{w0:World}{P:Nat}{txt:aA}{sp:List (Nat×Nat)}{st:YS} (k:Nat) (ind:Int) (w:World) (h:YJ YP Pr w0 P txt sp st 0 0 w) (hk:k<st.lines.length) (hl:st.lines.length<=sp.length) (hi:(aS st.lines k).ind=ind) (hsp:eR txt sp) (hs:txt.length<=65536) (hn:sp.length<=131072):
  Calls Tryz.prog 181 #[some P,k] w λe w'=>e= .returned (.int .i64 (oC txt sp ind k:Int))/\Below w.heap.size w w':=by
 obtain⟨R,G⟩:=exQ<|oC txt sp ind k;rw[G];unfold oC at G;have HR:=hid G;have HJ:=hid h;have cC:=hid hsp;have eH:k+1<=sp.length:=a_
 have bz:=jY hk;obtain⟨r,hr⟩:=exQ<|aS st.lines k;rw[hr] at bz hi;have yg:=hid bz;have At:r.ind=ind:=hi;obtain⟨n,lo⟩:=exQ<|st.lines.length;rw[lo] at hk hl;have HN:=hid lo;obtain⟨k1,ge⟩:=exQ<|k+1;rw[ge] at HR eH;have fK:(k:Int)+1=(k1:Int):=a_
 have gC:(0:Int)<=(k:Int):=a_
 have AR:(k:Int)<(n:Int):=a_
 clear h G hsp bz hr hi lo ge hk;go_enter Tryz.func181,Tryz.ntmps181;go_wp2_with fail;go_loopw [5,6,7] (λs5 s6 s7 wr=> ∃(til first i:Nat),s5= .int .i64 (til:Int)/\s6= .int .i64 (first:Int)/\s7= .int .i64 (i:Int)/\i<=sp.length/\Hid (lB txt ind (sp.drop i) i til first=R)/\Hid (Below w.heap.size w wr)) (λ_ _ s7 _=>sp.length+1-(RowKit.intOf s7).toNat)
 case atStart=>exact⟨k1,0,k1,by first | rfl | rw[<-fK],rfl,by first | rfl | rw[<-fK],eH,HR,hid (aB _ _)⟩
 case round=>
  obtain⟨til,first,i,rfl,rfl,rfl,hi,HG,HB⟩:=hrel;have cv:=hid (HJ.out.keep HB.out);have CT:Hid (∀w',Below wr.heap.size wr w'->Calls Tryz.prog 43 #[some P,i] w' λe w2=>e= .returned (.bool (decide (i<sp.length)))/\Below w'.heap.size w' w2):=hid (λw' hb=>wF i w' (cv.out.keep hb));have vt:(0:Int)<=(i:Int):=a_
  by_cases hil:i<sp.length
  ·rw[aO hil] at CT;obtain⟨x,hx⟩: ∃x,sp[i]?=some x:=⟨_,bC hil⟩;have eg:sp.drop i=x::sp.drop (i+1):=dy;have hg:=HG.out;rw[eg] at hg;unfold lB at hg;obtain⟨x1,x2⟩:=cC.out x (bD hx);have dD:=xV x1 x2;have CB:Hid (∀w',Below wr.heap.size wr w'->Calls Tryz.prog 205 #[some P,i] w' λe w2=>e= .returned (.tuple #[.int .i64 (aX (eJ txt x):Int), .bool (decide (aX (eJ txt x)=(eJ txt x).length))])/\Below w'.heap.size w' w2):=hid (λw' hb=>Mt i x w' (cv.out.keep hb) hx cC.out hs);obtain⟨nb,fw⟩:=exQ<|aX (eJ txt x);have nP:nb<=65536:=by have:=jU (eJ txt x);omega
   rw[fw] at CB hg;obtain⟨i1,cL⟩:=exQ<|i+1;have br:(i:Int)+1=(i1:Int):=a_;have eo:i1<=sp.length:=a_;rw[cL] at hg;obtain⟨z,sv,lv,nv,hz,hK⟩:=cv.out;obtain⟨gl,cl,e9,_,I⟩:=hK.lineAt yg.out;rw[HN.out] at e9;subst e9;have au: ∀w',Below wr.heap.size wr w'->w'.cell? ⟨P,2,none⟩=some (.slice (some ⟨gl,0,none⟩) n cl)/\w'.cell? ⟨gl,k*10+2+1,none⟩=some (.int .i64 ind):=λw' hb=>by
    have av:=hK.keep hb;obtain⟨⟨_,_,c2,_⟩,_⟩:=av.cells;obtain⟨g2,lC,e2,_,oR⟩:=av.lineAt yg.out;have e3:=(Value.slice.inj e2).1;injection e3 with e3;injection e3 with e3;subst e3;have:=oR 3 _ a_ rfl;rw[At] at this;exact⟨c2,this⟩
   have v9:=hid au;have hPl:=hK.lt;clear au hK hz I eg x1 x2 dD cL hx;by_cases iE:nb=(eJ txt x).length
   ·exact tv
   rw[if_neg iE] at hg;rw[aG iE] at CB;clear iE fw;by_cases h1:(nb:Int)<=ind
   ·have AX:=trivial;exact ti
   have d1:decide ((nb:Int)<=ind)=false:=aG h1;by_cases h2:nb<first
   ·exact ti
   rw[if_neg (by rintro(h | h);exact h1 h;exact h2 h)] at hg;have d2:decide ((nb:Int)<(first:Int))=false:=aG a_;have zC:decide (nb<first)=false:=aG h2;obtain⟨f2,ng⟩:=exQ (if first=0 then nb else first);rw[ng] at hg;have cE:=hid hg;clear h1 h2 hg;by_cases h3:first=0
   ·have A6:=trivial;exact tv
   ·have A7:=trivial;exact tv
  ·have hI:i=sp.length:=a_;subst hI;rw[aG hil] at CT;have hg:=HG.out;rw[List.drop_length] at hg;unfold lB at hg;have cE:=hid hg;clear hg hil;go_wp2_with fail;refine(CT.out _ f_).mono ?_;rintro e w2 ⟨rfl,bp⟩;have a9:=hid (aC HB.out bp);clear bp;go_wp2_with fail;go_ret;rw[<-cE.out];exact⟨rfl,a9.out⟩
def Na:bA:=⟨0,0,0,0,0,0,0,0,[]⟩
theorem yB {w:World}{X:Nat}{a0 a1 a2 a3 a4 a5 a6 a7 a8:Value}{t:TypeId} (hb:w.heap[X]?=some (.cells #[a0,a1,a2,a3,a4,a5,a6,a7,a8] t (0,0))):w.cell? ⟨X,0,none⟩=some a0/\w.cell? ⟨X,1,none⟩=some a1/\w.cell? ⟨X,2,none⟩=some a2/\w.cell? ⟨X,3,none⟩=some a3/\w.cell? ⟨X,4,none⟩=some a4/\w.cell? ⟨X,5,none⟩=some a5/\w.cell? ⟨X,6,none⟩=some a6/\w.cell? ⟨X,7,none⟩=some a7/\w.cell? ⟨X,8,none⟩=some a8/\
  w.frozen? ⟨X,0,none⟩=false/\w.frozen? ⟨X,1,none⟩=false/\w.frozen? ⟨X,2,none⟩=false/\w.frozen? ⟨X,3,none⟩=false/\w.frozen? ⟨X,4,none⟩=false/\w.frozen? ⟨X,5,none⟩=false/\w.frozen? ⟨X,6,none⟩=false/\w.frozen? ⟨X,7,none⟩=false/\w.frozen? ⟨X,8,none⟩=false:=by
 refine⟨?_,?_,?_,?_,?_,?_,?_,?_,?_,?_,?_,?_,?_,?_,?_,?_,?_,?_⟩<;>simp[World.cell?,World.frozen?,hb]
def Bj (w:World) (X:Nat) (a0 a1 a2 a3 a4 a5 a6 a7 a8:Value):World:=
 ((((((((w.setCell ⟨X,0,none⟩ a0).setCell ⟨X,1,none⟩ a1).setCell ⟨X,2,none⟩ a2).setCell ⟨X,3,none⟩ a3).setCell ⟨X,4,none⟩ a4).setCell ⟨X,5,none⟩ a5).setCell ⟨X,6,none⟩ a6).setCell ⟨X,7,none⟩ a7).setCell ⟨X,8,none⟩ a8
theorem Zw {w:World}{X:Nat}{o0 o1 o2 o3 o4 o5 o6 o7 o8 a0 a1 a2 a3 a4 a5 a6 a7 a8:Value}{t:TypeId} (h:w.heap[X]?=some (.cells #[o0,o1,o2,o3,o4,o5,o6,o7,o8] t (0,0))):(Bj w X a0 a1 a2 a3 a4 a5 a6 a7 a8).heap[X]?=some (.cells #[a0,a1,a2,a3,a4,a5,a6,a7,a8] t (0,0)):=by
 unfold Bj;exact ai
theorem Zx {W0 w':World}{Y:Nat}{a0 a1 a2 a3 a4 a5 a6 a7 a8:Value} (h:Below W0.heap.size W0 w') (hY:W0.heap.size<=Y):Below W0.heap.size W0 (Bj w' Y a0 a1 a2 a3 a4 a5 a6 a7 a8):=by
 unfold Bj
 (repeat (refine Below.setCell ?_ (by first | exact hY) _))
 exact h
theorem jG {w:World}{X:Nat}{a b:Value}{t:TypeId} (h:w.heap[X]?=some (.cells #[a,b] t)):w.cell? ⟨X,0,none⟩=some a/\w.cell? ⟨X,1,none⟩=some b:=by
 refine⟨?_,?_⟩<;>simp[World.cell?,h]
def Nb (Pr:aJ) (w0:World) (P:Nat) (txt:aA) (sp:List (Nat×Nat)) (n til:Nat) (ns:List bA) (tot:Nat) (R:YR) (b:Bool) (i:Nat) (w:World):Prop:=match b with
 | true=>i<=til/\ ∃ls,ls.length=i/\(match nF txt ((sp.drop i).take (til-i)) ls with | .inr a=>YR.bad a 2 | .inl ls=> .ok n ⟨ls,ns,tot⟩)=R/\YJ YP Pr w0 P txt sp ⟨ls,ns,tot⟩ 0 0 w
 | false=> ∃a e,R= .bad a e/\fS YP Pr w0 P txt sp a e w
theorem Zy {Pr:aJ}{w0:World}{P:Nat}{txt:aA}{sp:List (Nat×Nat)}{st:YS} (k:Nat) (kf kt:Int) (lv:Nat) (lev:Int) (w:World) (h:YJ YP Pr w0 P txt sp st 0 0 w) (hk:k+1=st.lines.length) (hw:eS txt sp st) (hl:Hid (lev=33-(lv:Int))) (hlv:lv<=32) (hsp:eR txt sp) (hs:txt.length<=65536) (hn:sp.length<=131072) (hV:bU w0):
  Calls Tryz.prog 147 #[some P,k,lev, .agg #[kf,kt]] w (eT YP Pr w0 P txt sp (pE txt sp lv k kf kt st)):=by
 have ws:=trivial;exact p9
end
section
open Go.Lib hiding intOf
theorem Nc {txt:aA}{ns:List aH}{A lv:Nat} (hK: ∀k,(eN txt ns k).length<=A) (ih: ∀k m,fF ns lv k m->(bE txt ns lv k).bulk+(A+1)<=(m-k)*(2*A+2)) {hi:Nat}: ∀(l:List Nat) (a:Nat),gY (fF ns lv) l a hi->
  a<=hi/\nS (l.map (eN txt ns))+l.length+iG (l.map (bE txt ns lv))<=(hi-a)*(2*A+2)
 | [],a,h=>by
  have e:a=hi:=h;subst e;exact⟨aD _,by simp[nS,iG]⟩
 | x::l,a,h=>by
  obtain⟨rfl,m,b,c⟩:=h;obtain⟨h4,h5⟩:=Nc hK ih l m c;have h6:=ih x m b;have h7:=b.lt;have h8:=hK x;refine⟨a_,?_⟩;rw[oR,oR,Rz,iG,bH];have e:(hi-x)*(2*A+2)=(m-x)*(2*A+2)+(hi-m)*(2*A+2):=by rw[<-Nat.add_mul];congr 1;omega
  rw[e];omega
theorem Nd (txt:aA) (ns:List aH) (A:Nat) (hA: ∀kd sp,(nT kd (fZ txt sp)).length<=A) (hK: ∀k,(eN txt ns k).length<=A): ∀(lv k hi:Nat),fF ns lv k hi->(bE txt ns lv k).bulk+(A+1)<=(hi-k)*(2*A+2)
 | 0,_,_,h=>h.elim
 | lv+1,k,hi,h=>by
  have hlt:=h.lt;obtain⟨x,c,b⟩:=h;obtain⟨h3,h4⟩:=Nc hK (Nd txt ns A hA hK lv) x.kids (k+1) b;have a:bE txt ns (lv+1) k= .mk (x.kind:Int) (nT x.kind (fZ txt (x.sf,x.st))) (fA txt ns x.kind x.kids) (x.kids.map (bE txt ns lv)):=by rw[bE,c];rfl
  rw[a,VT.bulk];have h5:=hA x.kind (x.sf,x.st);have h6:nS (fA txt ns x.kind x.kids)+(fA txt ns x.kind x.kids).length<=nS (x.kids.map (eN txt ns))+x.kids.length:=by
   unfold fA;split
   ·rw[bR];exact aD _
   ·simp[nS]
  have e:(hi-k)*(2*A+2)=(hi-(k+1))*(2*A+2)+(2*A+2):=by
   rw[show hi-k=(hi-(k+1))+1 by omega,Nat.add_mul,Nat.one_mul]
  rw[e];omega
theorem Zz (n:dU) (h:n.dig.length<=1000) (he: -1000000<=n.exp/\n.exp<=1000000):(kB n).length<=1100:=by
 have hi:=zU n.exp a_;unfold kB;split
 ·simp
 ·split
  ·simp
  ·split<;>split<;>simp<;>omega
theorem Nf (s:aA) (h:(dP s).2=0):(kB (dP s).1).length<=1100:=by
 have a:=zT (Ig (l:=s) (n:=(dP s).1) (Prod.ext rfl h));exact Zz _ a.1 a.2
theorem Ng: ∀(f:Nat) (l:List UInt8) (i:Nat) (acc:List UInt8),(dQ f l i acc).1.length<=acc.length+4*l.length
 | 0,_,_,_=>by simp[dQ]
 | _+1,[],_,_=>by simp[dQ]
 | f+1,c::r,i,acc=>by
  unfold dQ;split
  ·simp
  ·split
   ·simp
   ·rename_i h;have hp:=rP (c::r) (List.cons_ne_nil _ _);obtain⟨P,hP⟩:=exQ<|eX (c::r);rw[hP] at hp h ⊢;have:=Ng f ((c::r).drop P.2.toNat) (i+P.2.toNat) (acc++encodeRune P.1);have a:=Lib.runeCells_le P.1;rw[Lib.runeCells_length] at a;rw[aU,aT] at this;omega
theorem Fo (l:List UInt8):(dR l).1.length<=4*(l.length-1):=by
 have h:(bV l 0).1.length<=4*(l.length-1):=by
  unfold bV;split
  ·have:=Ng (l.length+1) (l.drop ((0:Int).toNat+1)) ((0:Int).toNat+1) [];rw[aU] at this;simp only[kS] at this;have e0:(0:Int).toNat=0:=rfl;rw[e0] at this;rw[e0];omega
  ·simp
 unfold dR;split
 ·simp
 ·exact h
theorem aAa (s:aA) (he:(dP s).2≠0):(dP s).1=cF:=by
 unfold dP at he ⊢;cases hl:kJ s with
 | none=>rfl
 | some x=>
  rw[hl] at he;simp only[] at he ⊢;obtain⟨q,a⟩:=exQ<|nN x;rw[a] at he ⊢;unfold nN at a;simp only[] at a
  (repeat' split at a)<;>subst a<;>first | rfl | exact absurd rfl he
end
section
open Go.Lib
theorem aAb (txt:aA) (ht:txt.length<=65536) (kd:Nat) (sp:Sp):(nT kd (fZ txt sp)).length<=262144:=by
 have hl:=vZ txt sp;unfold nT;split
 ·omega
 ·split
  ·by_cases he:(dP (fZ txt sp)).2=0
   ·have:=Nf (fZ txt sp) he;omega
   ·have a:(dP (fZ txt sp)).1=cF:=aAa _ he;rw[a];decide+kernel
  ·split
   ·have:=Fo (fZ txt sp);omega
   ·simp
theorem aAc (txt:aA) (ns:List aH) (ht:txt.length<=65536) (k:Nat):(eN txt ns k).length<=262144:=by
 unfold eN;split
 ·have:=Fo (fZ txt (by assumption:aH).key);have h2:=vZ txt (by assumption:aH).key;omega
 ·simp
theorem aAd (t:aA) (ht:t.length<=65536):(jL t).1.bulk<=1099511627776:=by
 unfold jL;by_cases he:(fP t).2.2=0
 ·rw[if_neg (by simp[he])];obtain⟨⟨ns,at_,er⟩,hP⟩:=exQ<|fP t;rw[hP] at he;change er=0 at he;subst he;have b:=Cv hP;have a:=Ds t;rw[hP] at a ⊢;simp only[] at a ⊢;have:=Nd t ns 262144 (aAb t ht) (aAc t ns ht) 32 0 ns.length b;have h2:(ns.length-0)*(2*262144+2)<=65536*524290:=Nat.mul_le_mul a_ a_;omega
 ·rw[if_pos he];show fD.bulk<=_;decide+kernel
theorem Nh (s:aA) (h:s.length<=65536):(mL s).bulk<=1099511627776:=by
 unfold mL;rw[VT.bulk];simp only[iG,nS,List.map_nil,List.sum_nil,kS];unfold oZ;split
 ·simp
 ·split
  ·exact al
  ·split
   ·rename_i a;have:=Nf s a;exact al
   ·exact al
theorem Fp: ∀(f:Nat) (l:aA) (i:Nat) (acc:aA),(jB f l i acc).1.length<=acc.length+l.length
 | 0,l,i,acc=>by simp[jB]
 | _+1,[],i,acc=>by simp[jB]
 | f +1,c::r,i,acc=>by
  rw[vV];have h1:=Fp f (r.drop 1) (i+2) (acc++ [39]);have a:=Fp f ((c::r).drop (decodeL (c::r)).2) (i+(decodeL (c::r)).2) (acc++(c::r).take (decodeL (c::r)).2);have d:=decodeL_le (c::r) (List.cons_ne_nil _ _);rw[aT,aU] at h1 a;rw[bT] at a;simp only[dS,bH,kS] at h1 a d ⊢;split
  ·split
   ·rename_i b;have hr:1<=r.length:=by
     cases r with
     | nil=>simp at b
     | cons _ _=>simp
    omega
   ·simp only[];omega
  ·split
   ·simp
   ·omega
theorem Ni (t:aA):(iT t).1.length<=4*t.length:=by
 unfold iT;split
 ·unfold sW;split
  ·simp
  ·simp only[];unfold gT;split
   ·simp
   ·split
    ·have:=Fp (t.length+1) (t.drop ((0:Int).toNat+1)) ((0:Int).toNat+1) [];rw[aU] at this;simp only[kS] at this;omega
    ·simp
 ·have:=Fo t;simp only[];omega
theorem Nj (t:aA) (h:t.length<=65536):(iB t).1.bulk<=1099511627776:=by
 have a:fD.bulk<=1099511627776:=DQ
 unfold iB;split
 ·exact Nh [] e_
 ·rename_i c r;split
  ·split
   ·exact a
   ·have:=Ni (c::r);show (jC _).bulk<=_;unfold jC;rw[VT.bulk];simp only[iG,nS,List.map_nil,List.sum_nil,kS];omega
  ·split
   ·exact aAd _ h
   ·split
    ·exact Nh _ h
    ·exact a
end
end Go.Proofs.YtfhjncbdgjlcoaaGreatDoor
