import Derived.Test.YtfhjncbdgjlcoaaGreatDoorYn23
set_option linter.unusedVariables false
set_option linter.unusedSimpArgs false
set_option maxRecDepth 100000
set_option maxHeartbeats 4000000
namespace Go.Proofs.YtfhjncbdgjlcoaaGreatDoor
open Tryz
section
open Go.RowKit
open Go.Lib hiding intOf
section
variable {Pr:aO}{w0:World}{P:Nat}{txt:aB}{sp:List (Nat×Nat)}{st:YS}{a0 e0:Int}
theorem Nz (k:Nat) (x:Nat×Nat) (w:World) (h:YJ YQ Pr w0 P txt sp st a0 e0 w) (hx:sp[k]?=some x) (hsp:dV txt sp) (hs:txt.length<=65536):
  Calls prog 102 #[some P,k] w (aT w (.tuple #[(bB (dL txt x):Int),(decide (bB (dL txt x)=(dL txt x).length))])):=by
 have SS:=trivial;exact QE
def Cf (g:Bool) (c:Int):Bool:=!g||(decide (c<32)&&c !=9)||c==127
theorem aAL (l:aB) (b:UInt8):yH (decodeL (b::l))=Cf (!((decodeL (b::l)).1==65533&&(decodeL (b::l)).2==1)) (b.toNat:Int):=by
 unfold yH Cf;rw[Bool.not_not];by_cases h:b.toNat<128
 .rw[decodeL_ascii b l h];simp only[];have d:(b.toNat==65533)=false:=aI.2 a_;rw[d,Bool.false_and,Bool.false_or,Bool.false_or];rw[Bool.eq_iff_iff];simp only[Bool.not_eq_true',Bool.or_eq_false_iff,fQ,Bool.or_eq_true,kB,eN,beq_iff_eq,aI,Bool.and_eq_false_iff,decide_eq_false_iff_not,bne_eq_false_iff_eq];omega
 .have a:128<=(decodeL (b::l)).1:=by
   rw[decodeL_N];exact Dg _ _ _ _ _ h_ (UInt8.toNat_lt _)
  obtain⟨⟨r,n⟩,c⟩:=exQ<|decodeL (b::l);rw[c] at a ⊢;simp only[] at a ⊢;have e1:(!(r==9||(decide (32<=r)&&r !=127)))=false:=by simp;omega
  have e2:(decide ((b.toNat:Int)<32)&&(b.toNat:Int) !=9)=false:=by rw[aJ a_];rfl
  have e3:((b.toNat:Int)==127)=false:=aI.2 a_;rw[e1,e2,e3];simp
theorem aAM {s:aB}{e f i:Nat}{b:UInt8} (hi:i<e) (hb:s[i]?=some b) (hf:e<=i+f): ∃f',(pF s e f i=if Cf (fP (bs s) i) (b.toNat:Int) then i else pF s e f' (i+bN (bs s) i))/\e<=i+1+f':=by
 cases f with
 | zero=>omega
 | succ f=>
  refine⟨f,?_,a_⟩;have a:=Nu s i;have c:fP (bs s) i=!((decodeL (s.drop i)).1==65533&&(decodeL (s.drop i)).2==1):=by
   rw[a];unfold fP bU bN;simp only[];congr 2
   .rw[Bool.eq_iff_iff,beq_iff_eq,beq_iff_eq];omega
   .rw[Bool.eq_iff_iff,beq_iff_eq,beq_iff_eq];omega
  have d:bN (bs s) i=(decodeL (s.drop i)).2:=by rw[a];rfl
  rw[pF,if_neg a_,c,d];rw[wY hb,aAL]
theorem aAN (k:Nat) (x:Nat×Nat) (w:World) (h:YJ YQ Pr w0 P txt sp st a0 e0 w) (hx:sp[k]?=some x) (hsp:dV txt sp) (hs:txt.length<=65536):
    Calls prog 103 #[some P,k] w (aT w (.int .i64 (nN txt x:Int))):=by
  obtain⟨x1,x2⟩:=hsp x (bH hx);have L:=(aW.1 hx).1;have H:Hid (pF txt x.2 (x.2-x.1) x.1=nN txt x):=hid rfl;obtain⟨M,q⟩:=exQ<|nN txt x;rw[q] at H ⊢;obtain⟨z,sv,lv,nv,_,y⟩:=h;obtain⟨gs,cs,rfl,_,s0,s1⟩:=y.spanAt hx;have sl:=aP txt;have hk0:(0:Int)<=(k:Int):=a_
  have hk1:(k:Int)<(sp.length:Int):=a_
  have CG:=hid (fun(i:Nat) (w:World) (s:i<(bs txt).size)=>wH (bs txt) i w s a_);have CN:=hid (fun(i:Nat) (w:World) (s:i<(bs txt).size)=>wG (bs txt) i w s a_);have N:=hid (λi s=>mJ (bs txt) i s);obtain⟨⟨c0,c1,_⟩,_⟩:=y.cells;have hPl:=y.lt;clear y hx q L;go_in;go_wp2;go_loopw [5] (λs5 wr=> ∃(i f:Nat),s5= .int .i64 (i:Int)/\i<=65536/\Hid (x.2<=i+f/\pF txt x.2 f i=M)/\wr=w) (λs5 _=>x.2-(RowKit.intOf s5).toNat)
  case atStart=>exact⟨x.1,x.2-x.1,rfl,a_,hid ⟨a_,H.out⟩,rfl⟩
  case round =>
    obtain⟨i,f,rfl,s,G,rfl⟩:=hrel;by_cases hlt:i<x.2
    · have a:i<(bs txt).size:=a_;have p:=cT txt i a;obtain⟨b,A⟩:=exQ<|(bs txt)[i]'a;rw[A] at p;obtain⟨f',t,B⟩:=aAM hlt p G.out.1;rw[G.out.2] at t;obtain⟨c,E⟩: ∃c:Int,(b.toNat:Int)=c:=⟨_,rfl⟩;rw[E] at t;have hge:(((bs txt)[i]'a).toNat:Int)=c:=(by rw[A,E]);have dk:decide ((i:Int)<(x.2:Int))=true:=aQ a_;have hiz:(i:Int)<(txt.length:Int):=a_;have l:=hid (CG.out i wr a);have o:=hid (CN.out i wr a);have C:=N.out i a;obtain⟨n,K⟩:=exQ<|bN (bs txt) i;obtain⟨g,I⟩:=exQ<|fP (bs txt) i;obtain⟨r,J⟩:=exQ<|bU (bs txt) i;rw[K] at t o C;rw[I] at t l;rw[J] at o;have hw1:=C.1;have hw4:(i:Int)+(n:Int)<=65536:=a_;have d:=hid t;have D:=hid (show x.2<=i+n+f' by omega);have j:Hid (Cf g c=(!g||(decide (c<32)&&c !=9)||c==127)):=hid rfl;clear p A E K I J C t B;cases g with
      | false=>
        have q:M=i:=by have:=d.out;rw[j.out] at this;simpa using this
        clear d;go_wp2_with fail;refine l.out.mono ?_;rintro e w2 ⟨rfl,rfl⟩;go_wp2;go_ret;exact⟨by rw[q];rfl,aD _ _⟩
      | true =>
        obtain⟨t1,F⟩:=exQ<|decide (c<32);obtain⟨t2,d9⟩:=exQ (c !=9);obtain⟨t3,v⟩:=exQ (c==127);have m:=d.out;rw[j.out,F,d9,v] at m;have u:=hid m;clear d m j;cases t1<;>cases t2<;>cases t3
        all_goals
          go_wp2_with fail;refine l.out.mono ?_;rintro e w2 ⟨rfl,rfl⟩;go_wp2_with fail
        all_goals first
          | (go_ret;exact⟨by rw[show M=i by simpa using u.out];rfl,aD _ _⟩)
          | (refine o.out.mono ?_
             rintro e w2 ⟨rfl,rfl⟩;go_wp2;go_roundw
             case rel=>exact⟨i+n,f',t_,a_,hid ⟨D.out,by have:=u.out;simpa using this.symm⟩,trivial⟩
             case measure=>simp[RowKit.intOf];omega)
    · have dk:decide ((i:Int)<(x.2:Int))=false:=aJ a_;have q:M=i:=by rw[<-G.out.2];exact Nw _ _ _ _ a_
      go_wp2;go_ret;exact⟨by rw[q];rfl,aD _ _⟩
end
theorem aAO {Pr:aO}{w0:World}{P:Nat}{txt:aB}{sp:List (Nat×Nat)}{st:YS} (k:Nat) (ind:Int) (w:World) (h:YJ YP Pr w0 P txt sp st 0 0 w) (hk:k<st.lines.length) (hl:st.lines.length<=sp.length) (hi:(aU st.lines k).ind=ind) (hsp:dV txt sp) (hs:txt.length<=65536) (hn:sp.length<=131072):
  Calls prog 181 #[some P,k] w (aT w (.int .i64 (oH txt sp ind k:Int))):=by
 obtain⟨R,I⟩:=exQ<|oH txt sp ind k;rw[I];unfold oH at I;have HR:=hid I;have HJ:=hid h;have dz:=hid hsp;have fR:k+1<=sp.length:=a_
 have bO:=kO hk;obtain⟨r,hr⟩:=exQ<|aU st.lines k;rw[hr] at bO hi;have jV:=hid bO;have AO:r.ind=ind:=hi;obtain⟨n,hZ⟩:=exQ<|st.lines.length;rw[hZ] at hk hl;have HN:=hid hZ;obtain⟨k1,gm⟩:=exQ<|k+1;rw[gm] at HR fR;have gG:(k:Int)+1=(k1:Int):=a_
 have gX:(0:Int)<=(k:Int):=a_
 have vz:(k:Int)<(n:Int):=a_
 clear h I hsp bO hr hi hZ gm hk;go_in;go_wp2;go_loopw [5,6,7] (λs5 s6 s7 wr=> ∃(til first i:Nat),s5= .int .i64 (til:Int)/\s6= .int .i64 (first:Int)/\s7= .int .i64 (i:Int)/\i<=sp.length/\Hid (jL txt ind (sp.drop i) i til first=R)/\Hid (aA w wr)) (λ_ _ s7 _=>sp.length+1-(RowKit.intOf s7).toNat)
 case atStart=>exact⟨k1,0,k1,by first | rfl | rw[<-gG],rfl,by first | rfl | rw[<-gG],fR,HR,hid (aD _ _)⟩
 case round=>
  obtain⟨til,first,i,rfl,rfl,rfl,hi,HG,HB⟩:=hrel;have dI:=hid (HJ.out.keep HB.out);have CT:Hid (∀w',aA wr w'->Calls prog 43 #[some P,i] w' (aT w' (.bool (decide (i<sp.length))))):=hid (λw' hb=>wR i w' (dI.out.keep hb));have zc:(0:Int)<=(i:Int):=a_
  by_cases hil:i<sp.length
  .rw[aQ hil] at CT;obtain⟨x,hx⟩: ∃x,sp[i]?=some x:=⟨_,bI hil⟩;have fc:sp.drop i=x::sp.drop (i+1):=D5;have hg:=HG.out;rw[fc] at hg;unfold jL at hg;obtain⟨x1,x2⟩:=dz.out x (bH hx);have dK:=yJ x1 x2;have CB:Hid (∀w',aA wr w'->Calls prog 205 #[some P,i] w' (aT w' (.tuple #[.int .i64 (bB (dL txt x):Int), .bool (decide (bB (dL txt x)=(dL txt x).length))]))):=hid (λw' hb=>Nt i x w' (dI.out.keep hb) hx dz.out hs);obtain⟨nb,fX⟩:=exQ<|bB (dL txt x);have oK:nb<=65536:=by have:=jU (dL txt x);omega
   rw[fX] at CB hg;obtain⟨i1,cN⟩:=exQ<|i+1;have bt:(i:Int)+1=(i1:Int):=a_;have fy:i1<=sp.length:=a_;rw[cN] at hg;obtain⟨z,sv,lv,nv,hz,hK⟩:=dI.out;obtain⟨gl,cl,e9,_,L⟩:=hK.lineAt jV.out;rw[HN.out] at e9;subst e9;have bf: ∀w',aA wr w'->w'.cell? (P,2)=some (.slice (some ⟨gl,0,none⟩) n cl)/\w'.cell? (gl,k*10+2+1)=some (.int .i64 ind):=λw' hb=>by
    have bd:=hK.keep hb;obtain⟨⟨_,_,c2,_⟩,_⟩:=bd.cells;obtain⟨g2,mj,e2,_,rx⟩:=bd.lineAt jV.out;have e3:=(Value.slice.inj e2).1;injection e3 with e3;injection e3 with e3;subst e3;have:=rx 3 _ a_ rfl;rw[AO] at this;exact⟨c2,this⟩
   have zQ:=hid bf;have hPl:=hK.lt;clear bf hK hz L fc x1 x2 dK cN hx;by_cases jw:nb=(dL txt x).length
   .exact QB
   rw[if_neg jw] at hg;rw[aJ jw] at CB;clear jw fX;by_cases h1:(nb:Int)<=ind
   .have SK:=trivial;exact P9
   have d1:decide ((nb:Int)<=ind)=false:=aJ h1;by_cases h2:nb<first
   .exact P9
   rw[if_neg (by rintro(h | h);exact h1 h;exact h2 h)] at hg;have d2:decide ((nb:Int)<(first:Int))=false:=aJ a_;have AG:decide (nb<first)=false:=aJ h2;obtain⟨f2,o0⟩:=exQ (if first=0 then nb else first);rw[o0] at hg;have dy:=hid hg;clear h1 h2 hg;by_cases h3:first=0
   .have SM:=trivial;exact QB
   .have SN:=trivial;exact QB
  .have jh:i=sp.length:=a_;subst jh;rw[aJ hil] at CT;have hg:=HG.out;rw[List.drop_length] at hg;unfold jL at hg;have dy:=hid hg;clear hg hil;go_wp2_with fail;refine aH (CT.out _ f_) λw2 bS=>?_;have bh:=hid (aE HB.out bS);clear bS;go_wp2;go_ret;rw[<-dy.out];exact⟨rfl,bh.out⟩
def Oa:aV:=⟨0,0,0,0,0,0,0,0,[]⟩
theorem Gh {w:World}{X:Nat}{a0 a1 a2 a3 a4 a5 a6 a7 a8:Value}{t:TypeId} (hb:w.heap[X]?=some (.cells #[a0,a1,a2,a3,a4,a5,a6,a7,a8] t (0,0))):w.cell? (X,0)=some a0/\w.cell? (X,1)=some a1/\w.cell? (X,2)=some a2/\w.cell? (X,3)=some a3/\w.cell? (X,4)=some a4/\w.cell? (X,5)=some a5/\w.cell? (X,6)=some a6/\w.cell? (X,7)=some a7/\w.cell? (X,8)=some a8/\
  w.frozen? ⟨X,0,none⟩=false/\w.frozen? ⟨X,1,none⟩=false/\w.frozen? ⟨X,2,none⟩=false/\w.frozen? ⟨X,3,none⟩=false/\w.frozen? ⟨X,4,none⟩=false/\w.frozen? ⟨X,5,none⟩=false/\w.frozen? ⟨X,6,none⟩=false/\w.frozen? ⟨X,7,none⟩=false/\w.frozen? ⟨X,8,none⟩=false:=by
 refine⟨?_,?_,?_,?_,?_,?_,?_,?_,?_,?_,?_,?_,?_,?_,?_,?_,?_,?_⟩<;>simp[World.cell?,World.frozen?,hb]
def Cg (w:World) (X:Nat) (a0 a1 a2 a3 a4 a5 a6 a7 a8:Value):World:=
 ((((((((w.setCell ⟨X,0,none⟩ a0).setCell ⟨X,1,none⟩ a1).setCell ⟨X,2,none⟩ a2).setCell ⟨X,3,none⟩ a3).setCell ⟨X,4,none⟩ a4).setCell ⟨X,5,none⟩ a5).setCell ⟨X,6,none⟩ a6).setCell ⟨X,7,none⟩ a7).setCell ⟨X,8,none⟩ a8
theorem aAP {w:World}{X:Nat}{o0 o1 o2 o3 o4 o5 o6 o7 o8 a0 a1 a2 a3 a4 a5 a6 a7 a8:Value}{t:TypeId} (h:w.heap[X]?=some (.cells #[o0,o1,o2,o3,o4,o5,o6,o7,o8] t (0,0))):(Cg w X a0 a1 a2 a3 a4 a5 a6 a7 a8).heap[X]?=some (.cells #[a0,a1,a2,a3,a4,a5,a6,a7,a8] t (0,0)):=by
 unfold Cg;exact aj
theorem aAQ {W0 w':World}{Y:Nat}{a0 a1 a2 a3 a4 a5 a6 a7 a8:Value} (h:aA W0 w') (hY:W0.heap.size<=Y):aA W0 (Cg w' Y a0 a1 a2 a3 a4 a5 a6 a7 a8):=by
 unfold Cg
 (repeat (refine Below.setCell ?_ (by first | exact hY) _))
 exact h
theorem jY {w:World}{X:Nat}{a b:Value}{t:TypeId} (h:w.heap[X]?=some (.cells #[a,b] t)):w.cell? (X,0)=some a/\w.cell? (X,1)=some b:=by
 refine⟨?_,?_⟩<;>simp[World.cell?,h]
def Ob (Pr:aO) (w0:World) (P:Nat) (txt:aB) (sp:List (Nat×Nat)) (n til:Nat) (ns:List aV) (tot:Nat) (R:YR) (b:Bool) (i:Nat) (w:World):Prop:=match b with
 | true=>i<=til/\ ∃ls,ls.length=i/\(match lZ txt ((sp.drop i).take (til-i)) ls with | .inr a=>YR.bad a 2 | .inl ls=> .ok n ⟨ls,ns,tot⟩)=R/\YJ YP Pr w0 P txt sp ⟨ls,ns,tot⟩ 0 0 w
 | false=> ∃a e,R= .bad a e/\gH YP Pr w0 P txt sp a e w
theorem aAR {Pr:aO}{w0:World}{P:Nat}{txt:aB}{sp:List (Nat×Nat)}{st:YS} (k:Nat) (kf kt:Int) (lv:Nat) (lev:Int) (w:World) (h:YJ YP Pr w0 P txt sp st 0 0 w) (hk:k+1=st.lines.length) (hw:dR txt sp st) (hl:Hid (lev=33-(lv:Int))) (hlv:lv<=32) (hsp:dV txt sp) (hs:txt.length<=65536) (hn:sp.length<=131072) (hV:bV w0):
  Calls prog 147 #[some P,k,lev, .agg #[kf,kt]] w (fG YP Pr w0 P txt sp (lK txt sp lv k kf kt st)):=by
 have Q4:=trivial;exact PH
end
section
open Go.Lib hiding intOf
theorem Oc {txt:aB}{ns:List aM}{A lv:Nat} (hK: ∀k,(eS txt ns k).length<=A) (ih: ∀k m,fR ns lv k m->(bJ txt ns lv k).bulk+(A+1)<=(m-k)*(2*A+2)) {hi:Nat}: ∀(l:List Nat) (a:Nat),eV (fR ns lv) l a hi->
  a<=hi/\oU (l.map (eS txt ns))+l.length+iZ (l.map (bJ txt ns lv))<=(hi-a)*(2*A+2)
 | [],a,h=>by
  have e:a=hi:=h;subst e;exact⟨aF _,by simp[oU,iZ]⟩
 | x::l,a,h=>by
  obtain⟨rfl,m,b,c⟩:=h;obtain⟨h4,h5⟩:=Oc hK ih l m c;have h6:=ih x m b;have h7:=b.lt;have h8:=hK x;refine⟨a_,?_⟩;rw[pN,pN,Tu,iZ,bM];have e:(hi-x)*(2*A+2)=(m-x)*(2*A+2)+(hi-m)*(2*A+2):=by rw[<-Nat.add_mul];congr 1;omega
  rw[e];omega
theorem Od (txt:aB) (ns:List aM) (A:Nat) (hA: ∀kd sp,(nZ kd (gL txt sp)).length<=A) (hK: ∀k,(eS txt ns k).length<=A): ∀(lv k hi:Nat),fR ns lv k hi->(bJ txt ns lv k).bulk+(A+1)<=(hi-k)*(2*A+2)
 | 0,_,_,h=>h.elim
 | lv+1,k,hi,h=>by
  have hlt:=h.lt;obtain⟨x,c,b⟩:=h;obtain⟨h3,h4⟩:=Oc hK (Od txt ns A hA hK lv) x.kids (k+1) b;have a:bJ txt ns (lv+1) k= .mk (x.kind:Int) (nZ x.kind (gL txt (x.sf,x.st))) (fO txt ns x.kind x.kids) (x.kids.map (bJ txt ns lv)):=by rw[bJ,c];rfl
  rw[a,VT.bulk];have h5:=hA x.kind (x.sf,x.st);have h6:oU (fO txt ns x.kind x.kids)+(fO txt ns x.kind x.kids).length<=oU (x.kids.map (eS txt ns))+x.kids.length:=by
   unfold fO;split
   .rw[bP];exact aF _
   .simp[oU]
  have e:(hi-k)*(2*A+2)=(hi-(k+1))*(2*A+2)+(2*A+2):=by
   rw[show hi-k=(hi-(k+1))+1 by omega,Nat.add_mul,Nat.one_mul]
  rw[e];omega
theorem aAS (n:eJ) (h:n.dig.length<=1000) (he: -1000000<=n.exp/\n.exp<=1000000):(kS n).length<=1100:=by
 have hi:=Aq n.exp a_;unfold kS;split
 .simp
 .split
  .simp
  .split<;>split<;>simp<;>omega
theorem Oe (s:aB) (h:(eF s).2=0):(kS (eF s).1).length<=1100:=by
 have a:=Ao (Jh (l:=s) (n:=(eF s).1) (Prod.ext rfl h));exact aAS _ a.1 a.2
theorem Of: ∀(f:Nat) (l:aC) (i:Nat) (acc:aC),(eG f l i acc).1.length<=acc.length+4*l.length
 | 0,_,_,_=>by simp[eG]
 | _+1,[],_,_=>by simp[eG]
 | f+1,c::r,i,acc=>by
  unfold eG;split
  .simp
  .split
   .simp
   .rename_i h;have hp:=sR (c::r) (List.cons_ne_nil _ _);obtain⟨P,hP⟩:=exQ<|fK (c::r);rw[hP] at hp h ⊢;have:=Of f ((c::r).drop P.2.toNat) (i+P.2.toNat) (acc++encodeRune P.1);have a:=Lib.runeCells_le P.1;rw[Lib.runeCells_length] at a;rw[bC,aZ] at this;omega
theorem Gi (l:aC):(eH l).1.length<=4*(l.length-1):=by
 have h:(cD l 0).1.length<=4*(l.length-1):=by
  unfold cD;split
  .have:=Of (l.length+1) (l.drop ((0:Int).toNat+1)) ((0:Int).toNat+1) [];rw[bC] at this;simp only[lQ] at this;have e0:(0:Int).toNat=0:=rfl;rw[e0] at this;rw[e0];omega
  .simp
 unfold eH;split
 .simp
 .exact h
theorem aAT (s:aB) (he:(eF s).2≠0):(eF s).1=cM:=by
 unfold eF at he ⊢;cases hl:lE s with
 | none=>rfl
 | some x=>
  rw[hl] at he;simp only[] at he ⊢;obtain⟨q,a⟩:=exQ<|oO x;rw[a] at he ⊢;unfold oO at a;simp only[] at a
  (repeat' split at a)<;>subst a<;>first | rfl | exact absurd rfl he
end
section
open Go.Lib
theorem aAU (txt:aB) (ht:txt.length<=65536) (kd:Nat) (sp:Sp):(nZ kd (gL txt sp)).length<=262144:=by
 have hl:=wJ txt sp;unfold nZ;split
 .omega
 .split
  .by_cases he:(eF (gL txt sp)).2=0
   .have:=Oe (gL txt sp) he;omega
   .have a:(eF (gL txt sp)).1=cM:=aAT _ he;rw[a];decide+kernel
  .split
   .have:=Gi (gL txt sp);omega
   .simp
theorem aAV (txt:aB) (ns:List aM) (ht:txt.length<=65536) (k:Nat):(eS txt ns k).length<=262144:=by
 unfold eS;split
 .have:=Gi (gL txt (by assumption:aM).key);have h2:=wJ txt (by assumption:aM).key;omega
 .simp
theorem aAW (t:aB) (ht:t.length<=65536):(jV t).1.bulk<=1099511627776:=by
 unfold jV;by_cases he:(gE t).2.2=0
 .rw[if_neg (by simp[he])];obtain⟨⟨ns,at_,er⟩,hP⟩:=exQ<|gE t;rw[hP] at he;change er=0 at he;subst he;have b:=zZ hP;have a:=Av t;rw[hP] at a ⊢;simp only[] at a ⊢;have:=Od t ns 262144 (aAU t ht) (aAV t ns ht) 32 0 ns.length b;have h2:(ns.length-0)*(2*262144+2)<=65536*524290:=Nat.mul_le_mul a_ a_;omega
 .rw[if_pos he];show eE.bulk<=_;decide+kernel
theorem Og (s:aB) (h:s.length<=65536):(lW s).bulk<=1099511627776:=by
 unfold lW;rw[VT.bulk];simp only[iZ,oU,List.map_nil,List.sum_nil,lQ];unfold pU;split
 .simp
 .split
  .exact am
  .split
   .rename_i a;have:=Oe s a;exact am
   .exact am
theorem Gj: ∀(f:Nat) (l:aB) (i:Nat) (acc:aB),(jT f l i acc).1.length<=acc.length+l.length
 | 0,l,i,acc=>by simp[jT]
 | _+1,[],i,acc=>by simp[jT]
 | f +1,c::r,i,acc=>by
  rw[wF];have h1:=Gj f (r.drop 1) (i+2) (acc++ [39]);have a:=Gj f ((c::r).drop (decodeL (c::r)).2) (i+(decodeL (c::r)).2) (acc++(c::r).take (decodeL (c::r)).2);have b:=decodeL_le (c::r) (List.cons_ne_nil _ _);rw[aZ,bC] at h1 a;rw[bR] at a;simp only[dF,bM,lQ] at h1 a b ⊢;split
  .split
   .rename_i d;have hr:1<=r.length:=by
     cases r with
     | nil=>simp at d
     | cons _ _=>simp
    omega
   .simp only[];omega
  .split
   .simp
   .omega
theorem Oh (t:aB):(jK t).1.length<=4*t.length:=by
 unfold jK;split
 .unfold tR;split
  .simp
  .simp only[];unfold iJ;split
   .simp
   .split
    .have:=Gj (t.length+1) (t.drop ((0:Int).toNat+1)) ((0:Int).toNat+1) [];rw[bC] at this;simp only[lQ] at this;omega
    .simp
 .have:=Gi t;simp only[];omega
theorem Oi (t:aB) (h:t.length<=65536):(gQ t).1.bulk<=1099511627776:=by
 have a:eE.bulk<=1099511627776:=DQ
 unfold gQ;split
 .exact Og [] e_
 .rename_i c r;split
  .split
   .exact a
   .have:=Oh (c::r);show (gN _).bulk<=_;unfold gN;rw[VT.bulk];simp only[iZ,oU,List.map_nil,List.sum_nil,lQ];omega
  .split
   .exact aAW _ h
   .split
    .exact Og _ h
    .exact a
end
end Go.Proofs.YtfhjncbdgjlcoaaGreatDoor
