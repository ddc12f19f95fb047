import Derived.Test.YtfhjncbdgjlcoaaGreatDoorYn33
set_option linter.unusedVariables false
set_option linter.unusedSimpArgs false
set_option maxRecDepth 100000
set_option maxHeartbeats 8000000
namespace Go.Proofs.YtfhjncbdgjlcoaaGreatDoor
open Tryz
open Go.RowKit
open Go.Lib hiding intOf
theorem aCm {w:World}{X:Nat}{a0 a1:Value}{t:TypeId} (hb:w.heap[X]?=some (.cells #[a0,a1] t (0,0))):w.cell? (X,0)=some a0/\w.cell? (X,1)=some a1/\w.frozen? ⟨X,0,none⟩=false/\w.frozen? ⟨X,1,none⟩=false:=by
 refine⟨?_,?_,?_,?_⟩<;>simp[World.cell?,World.frozen?,hb]
theorem aCn {w:World}{X:Nat}{o0 o1 a0 a1:Value}{t:TypeId} (h:w.heap[X]?=some (.cells #[o0,o1] t (0,0))):((w.setCell ⟨X,0,none⟩ a0).setCell ⟨X,1,none⟩ a1).heap[X]?=some (.cells #[a0,a1] t (0,0)):=aj
theorem aCo {W0 w':World}{Y:Nat}{a0 a1:Value} (h:aA W0 w') (hY:W0.heap.size<=Y):aA W0 ((w'.setCell ⟨Y,0,none⟩ a0).setCell ⟨Y,1,none⟩ a1):=
 (h.setCell (by exact hY) _).setCell (by exact hY) _
def WhE (T:TypeId) (Pr:aO) (w0:World) (P:Nat) (txt:aB) (sp:List (Nat×Nat)) (R:dU×Int×Int) (e:Ending) (w':World):Prop:=
 (R.2.2=0/\e= .returned (.bool true)/\ ∃tot,YJ T Pr w0 P txt sp ⟨R.1.lines,R.1.nodes,tot⟩ 0 0 w')\/(R.2.2≠0/\e= .returned (.bool false)/\gH T Pr w0 P txt sp R.2.1 R.2.2 w')
theorem aCq (w0:World) (P:Nat) (txt:aB) (sp:List (Nat×Nat)) (hsp0:dV txt sp) (hs:txt.length<=65536) (hns:sp.length<=131072) (hV:bV w0) {Pr:aO} (w:World) (h:YJ YP Pr w0 P txt sp ⟨[],[],0⟩ 0 0 w):
  Calls prog 25 #[some P] w (WhE YP Pr w0 P txt sp (lL txt sp)):=by
 obtain⟨R,I⟩:=exQ<|lL txt sp;rw[I];unfold lL at I;have zq:mB txt sp []:=⟨cI _,λi hi=>absurd hi (oW _)⟩;have br:=kP hsp0 (k:=0) (lines:= []) (aF _) zq (λi _ hi=>absurd hi (oW _));obtain⟨NN,hN⟩:=exQ<|eX txt sp 0 [];rw[hN] at I br;have CN:Hid (Calls prog 42 #[some P,(0:Int)] w (sF YP Pr w0 P txt sp ⟨[],[],0⟩ NN)):=hid (by have:=Ga (st:=⟨[],[],0⟩) 0 w h (aF _) (cI _) hs hns hV;rw[hN] at this;exact this);have dz:=hid hsp0;clear hN h zq;go_in;cases NN with
 | bad a er=>
  have cf:Hid ((⟨[],[]⟩,a,er)=R):=hid I;have vp:Hid (er≠0):=hid br.2.2;clear I br;go_wp2_with fail;refine CN.out.mono ?_;rintro e w2 ⟨⟨m,rfl⟩,ar⟩;have HF:=hid ar;clear ar;exact gu
 | ok k ls=>
  simp only[] at I br;have gW:=hid br;have HR:=hid I;have gX:(0:Int)<=(k:Int):=a_
  clear I br;go_wp2_with fail;refine aH CN.out λw2 gf=>?_;have fo:=hid gf;have CT:Hid (∀w',YJ YP Pr w0 P txt sp ⟨ls,[],0⟩ 0 0 w'->Calls prog 43 #[some P,k] w' (aT w' (.bool (decide (k<sp.length))))):=hid (λw' hj=>wR k w' hj);clear gf CN;by_cases bc:k<sp.length;rotate_left
  .exact PM
  .have I:=HR.out;rw[if_neg (λe=>e bc)] at I;rw[aQ bc] at CT;obtain⟨cO,gK⟩:=gW.out.hit bc;have wk:dR txt sp ⟨ls,[],0⟩:=⟨gW.out.ok,e_⟩;obtain⟨Q,hQ⟩:=exQ<|oI txt sp 32 k 0 0 ⟨ls,[],0⟩;have en:=pG hsp0 32 k 0 0 ⟨ls,[],0⟩ wk cO.symm;rw[hQ] at I en;have CB:Hid (∀w',YJ YP Pr w0 P txt sp ⟨ls,[],0⟩ 0 0 w'->Calls prog 44 #[some P,k,(1:Int), .agg #[(0:Int),(0:Int)]] w' (fG YP Pr w0 P txt sp Q)):=hid (λw' hj=>by have:=Pd w0 P txt sp hsp0 hs hns hV 32 (aF _) Pr k 0 0 ⟨ls,[],0⟩ 1 w' hj cO.symm wk (hid b_);rw[hQ] at this;exact this);have ow:=hid I;clear I bc hQ wk HR cO gK;go_wp2_with fail;refine aH (CT.out _ GJ) λw3 cj=>?_;have ex:=hid (fo.out.keep FI);clear cj;go_wp2_with fail;refine(CB.out _ F6).mono ?_;rintro e w4 hE;have HE:=hid hE;clear hE;cases Q with
   | bad a er=>
    have cf:Hid ((⟨[],[]⟩,a,er)=R):=hid ow.out;have vp:Hid (er≠0):=hid (show 0<=a/\a<=(txt.length:Int)/\er≠0 from en).2.2;obtain⟨⟨m,rfl⟩,ar⟩:=HE.out;have HF:=hid ar;clear ar HE en;exact gu
   | ok nn s4=>
    obtain⟨rfl,fg⟩:=HE.out;obtain⟨g1,⟨wU,mG,g2⟩,g3,g4,g5,g6⟩:=(show lA txt sp k ⟨ls,[],0⟩ nn s4 from en);have Dl:nn=0:=g1;subst Dl;have I:=ow.out;simp only[] at I;obtain⟨y,hy⟩: ∃y,s4.nodes[0]?=some y:=by
     cases wU with
     | nil=>exact absurd rfl mG
     | cons y _=>exact⟨y,by rw[g2];rfl⟩
    have dv:=wP hy;rw[dv] at I g4 g5;obtain⟨til,dK⟩:=exQ<|y.til;rw[dK] at I g4 g5;obtain⟨N2,wn⟩:=exQ<|eX txt sp til s4.lines;have br:=kP hsp0 (k:=til) g4.2 g6.ls g5;rw[wn] at I br;have CN:Hid (∀w',YJ YP Pr w0 P txt sp s4 0 0 w'->Calls prog 42 #[some P,til] w' (sF YP Pr w0 P txt sp s4 N2)):=hid (λw' hj=>by have:=Ga til w' hj g4.2 g6.ls.1 hs hns hV;rw[wn] at this;exact this);have cc:=hid fg;obtain⟨z,sv,lv,nv,hz,hK⟩:=fg;have cA:z.length=s4.nodes.length:=IP;obtain⟨gn,cn,ec,rfl,eD,_⟩:=hK.nod.form (λe=>by rw[e] at hz;rw[<-hz] at hy;cases hy);obtain⟨z0,ds⟩: ∃z0,z[0]?=some z0:=by
     rw[<-hz,cF] at hy;cases Z:z[0]? with
     | none=>rw[Z] at hy;cases hy
     | some q=>exact⟨q,rfl⟩
    have sY:z0.1=y:=by
     rw[<-hz,cF,ds] at hy;exact bA hy
    have mI:=(hK.nod.at_ ds 3 a_ rfl).1;rw[sY,dK] at mI;have c3:=hK.cells.1.2.2.2.1;have hPl:=hK.lt;obtain⟨m,hm⟩:=exQ<|z.length;have hm0:(0:Int)<(m:Int):=by have:=(aW.1 ds).1;omega
    have hm1:0<m:=a_;rw[hm] at c3 eD;simp only[Nat.zero_mul,Nat.zero_add] at mI;have HR:=hid I;have tk:=hid br;have HG:=hid g6;clear hK hz ds sY cA hm hy dv dK g1 mG g2 g3 g4 g5 g6 I br wn en ow HE CB CT;cases N2 with
    | bad a er=>
     have cf:Hid ((⟨[],[]⟩,a,er)=R):=hid HR.out;have vp:Hid (er≠0):=hid (show 0<=a/\a<=(txt.length:Int)/\er≠0 from tk.out).2.2;go_wp2_with fail;refine(CN.out _ g_).mono ?_;rintro e w5 ⟨⟨mm,rfl⟩,ar⟩;have HF:=hid ar;clear ar mI c3;exact gu
    | ok k2 ig=>
     have br:=(show sB txt sp til s4.lines k2 ig from tk.out);have I:=HR.out;simp only[] at I;have lU:=hid I;have za:=hid br;have hk20:(0:Int)<=(k2:Int):=a_;clear I br;go_wp2_with fail;refine aH (CN.out _ g_) λw5 ih=>?_;have dA:=hid ih;clear ih mI c3;have CT:Hid (∀w',YJ YP Pr w0 P txt sp ⟨ig,s4.nodes,s4.total⟩ 0 0 w'->Calls prog 43 #[some P,k2] w' (aT w' (.bool (decide (k2<sp.length))))):=hid (λw' hj=>wR k2 w' hj);by_cases bc:k2<sp.length;rotate_left
     .have SW:=trivial;exact QG
     .have SX:=trivial;exact QG
def eZ:Nat->List (Nat×Nat)->List (Nat×Nat)
 | 0,l=>l
 | _,[]=> []
 | n+1,x::l=>(x.1,x.2-1)::eZ n l
theorem Gy: ∀(n:Nat) (l:List (Nat×Nat)),(eZ n l).length=l.length
 | 0,l=>by cases l<;>rfl
 | n+1,[]=>rfl
 | n+1,x::l=>by rw[eZ,bM,Gy n l];rfl
theorem Gz: ∀(n:Nat) (l:List (Nat×Nat)),(eZ n l)[n]?=l[n]?
 | 0,l=>by cases l<;>rfl
 | n+1,[]=>rfl
 | n+1,x::l=>by rw[eZ,bY,bY];exact Gz n l
theorem Ha: ∀(n:Nat) (l:List (Nat×Nat)) (x:Nat×Nat),l[n]?=some x->eZ (n+1) l=(eZ n l).set n (x.1,x.2-1)
 | 0,[],x,h=>by cases h
 | 0,y::l,x,h=>by
  obtain rfl:y=x:=bA h;cases l<;>rfl
 | n+1,[],x,h=>by cases h
 | n+1,y::l,x,h=>by
  rw[eZ,eZ,cQ,<-Ha n l x h]
theorem Hb: ∀(l:List (Nat×Nat)),eZ (l.length-1) l=tU l
 | []=>rfl
 | [x]=>rfl
 | x::y::l=>by
  have:=Hb (y::l);rw[tU,<-this];rfl
theorem Pg {l:aB}{i:Nat}{x:Nat×Nat} (h:(gR l 0 0)[i]?=some x):x.2<=l.length/\(i+1<(gR l 0 0).length->1<=x.2):=by
 obtain⟨a,b⟩:=Bo l 0 0 (aF _);have h3:=a x (bH h);refine⟨a_,λhi=>?_⟩;have h4:=b x (bH (show (gR l 0 0).dropLast[i]?=some x by rw[List.getElem?_dropLast,if_pos a_];exact h));omega
theorem aCr {s:aB}{sp:List (Nat×Nat)} (hsp:dV s sp):((lL s sp).2.2=0/\(lL s sp).2.1=(s.length:Int))\/((lL s sp).2.2≠0/\(lL s sp).1=⟨[],[]⟩):=by
 have f:mB s sp []:=⟨cI _,λi g=>absurd g (oW _)⟩;have b:=kP hsp (k:=0) (lines:= []) (aF _) f (λi _ g=>absurd g (oW _));unfold lL;cases hN:eX s sp 0 [] with
 | bad a e=>rw[hN] at b;exact .inr ⟨b.2.2,rfl⟩
 | ok k ls=>
  rw[hN] at b;simp only[] at b ⊢;by_cases hk:k<sp.length
  .rw[if_neg (λe=>e hk)];have c:=pG hsp 32 k 0 0 ⟨ls,[],0⟩ ⟨b.ok,e_⟩ (b.hit hk).1.symm;cases hB:oI s sp 32 k 0 0 ⟨ls,[],0⟩ with
   | bad a e=>rw[hB] at c;exact .inr ⟨(show 0<=a/\a<=(s.length:Int)/\e≠0 from c).2.2,rfl⟩
   | ok n st=>
    rw[hB] at c;obtain⟨g1,_,_,g4,g5,g6⟩:=(show lA s sp k ⟨ls,[],0⟩ n st from c);have d:n=0:=g1;subst d;have h:=kP hsp (k:=fF st.nodes 0) g4.2 g6.ls g5;simp only[];cases hN2:eX s sp (fF st.nodes 0) st.lines with
    | bad a e=>rw[hN2] at h;exact .inr ⟨h.2.2,rfl⟩
    | ok k2 ls2=>
     simp only[];split
     .exact .inr ⟨show (2:Int)≠0 by decide,rfl⟩
     .exact .inl ⟨rfl,rfl⟩
  .rw[if_pos hk];exact .inl ⟨rfl,rfl⟩
theorem yX {w:World}{B B':Nat}{e:TypeId}{s:Nat}{v:Value}{n:Nat}{xs:List Value} (h:w.ownsRow B e s v n xs) (hB:B'<=B):w.ownsRow B' e s v n xs:=FL
theorem fX.base {B B':Nat}{z:List YN}{nv:Value}{w:World} (h:fX B z nv w) (hB:B'<=B):fX B' z nv w:=⟨yX h.row hB,λy a=>yX (h.kids y a) hB,h.ak⟩
def eP (B:Nat) (d:dU) (lv nv:Value) (w:World):Prop:= ∃z:List YN,z.map (·.1)=d.nodes/\w.ownsRow B 68 10 lv d.lines.length (gY d.lines)/\fX B z nv w
theorem eP.nil (B:Nat) (w:World):eP B ⟨[],[]⟩ (.slice none 0 0) (.slice none 0 0) w:=⟨[],rfl,⟨rfl, .inl ⟨rfl,rfl⟩⟩,fX.nil _ _⟩
theorem eP.keep {B:Nat}{d:dU}{lv nv:Value}{w w':World} (h:eP B d lv nv w) (hb:aA w w'):eP B d lv nv w':=by
 obtain⟨z,a,b,c⟩:=h;exact⟨z,a,iP b hb,c.keep hb⟩
def Cq (l:aB) (R:dU×Int×Int) (w:World) (e:Ending) (w':World):Prop:= ∃tx lv nv,e= .returned (.tuple #[.agg #[.string tx,lv,nv],R.2.1,R.2.2])/\tx=(if R.2.2=0 then bs l else⟨#[]⟩)/\eP w.heap.size R.1 lv nv w'/\Below w.heap.size w w'
theorem rA {fn:Func} (h:fn.results= #[.cell 2 26, .tmp 3, .tmp 4]) (tmps:Array Value) (w:World) {D:Nat}{u v x:Value} (hD:tmps.getD 2 undef= .pointer (some ⟨D,0,none⟩)) (h0:w.cell? (D,0)=some u) (h1:w.cell? (D,1)=some v) (h2:w.cell? (D,2)=some x):
  (results fn tmps).run prog w= .ok (.tuple #[.agg #[u,v,x],tmps.getD 3 undef,tmps.getD 4 undef]) w:=by
 have a:tmps[2]?.getD undef= .pointer (some ⟨D,0,none⟩):=by rw[<-aN];exact hD
 simp[results,h,a,asAddr,go_sem,h0,h1,h2]
theorem eA {w:World}{X:Nat}{a0 a1 a2:Value}{t:TypeId} (hb:w.heap[X]?=some (.cells #[a0,a1,a2] t (0,0))):w.cell? (X,0)=some a0/\w.cell? (X,1)=some a1/\w.cell? (X,2)=some a2/\w.frozen? ⟨X,0,none⟩=false/\w.frozen? ⟨X,1,none⟩=false/\w.frozen? ⟨X,2,none⟩=false:=by
 refine⟨?_,?_,?_,?_,?_,?_⟩<;>simp[World.cell?,World.frozen?,hb]
theorem Hc (l:aB) (w:World) (hV:bV w):
  Calls prog 7 #[bs l] w (Cq l (mA l) w):=by
 have RD:=trivial;exact PL
end Go.Proofs.YtfhjncbdgjlcoaaGreatDoor
