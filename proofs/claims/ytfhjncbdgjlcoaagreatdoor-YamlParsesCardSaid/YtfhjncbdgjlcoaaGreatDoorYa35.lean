import Derived.Test.YtfhjncbdgjlcoaaGreatDoorYa33
set_option maxRecDepth 100000
set_option maxHeartbeats 8000000
set_option linter.unusedVariables false
set_option linter.unusedSimpArgs false
namespace Go.Proofs.YtfhjncbdgjlcoaaGreatDoor
open Go.RowKit
open Go.Lib hiding intOf
theorem aBt {w:World}{X:Nat}{a0 a1:Value}{t:TypeId} (hb:w.heap[X]?=some (.cells #[a0,a1] t (0,0))):w.cell? ⟨X,0,none⟩=some a0/\w.cell? ⟨X,1,none⟩=some a1/\w.frozen? ⟨X,0,none⟩=false/\w.frozen? ⟨X,1,none⟩=false:=by
 refine⟨?_,?_,?_,?_⟩<;>simp[World.cell?,World.frozen?,hb]
theorem aBu {w:World}{X:Nat}{o0 o1 a0 a1:Value}{t:TypeId} (h:w.heap[X]?=some (.cells #[o0,o1] t (0,0))):((w.setCell ⟨X,0,none⟩ a0).setCell ⟨X,1,none⟩ a1).heap[X]?=some (.cells #[a0,a1] t (0,0)):=ai
theorem aBv {W0 w':World}{Y:Nat}{a0 a1:Value} (h:Below W0.heap.size W0 w') (hY:W0.heap.size<=Y):Below W0.heap.size W0 ((w'.setCell ⟨Y,0,none⟩ a0).setCell ⟨Y,1,none⟩ a1):=
 (h.setCell (by exact hY) _).setCell (by exact hY) _
def WhE (T:TypeId) (Pr:aJ) (w0:World) (P:Nat) (txt:aA) (sp:List (Nat×Nat)) (R:gD×Int×Int) (e:Ending) (w':World):Prop:=
 (R.2.2=0/\e= .returned (.bool true)/\ ∃tot,YJ T Pr w0 P txt sp ⟨R.1.lines,R.1.nodes,tot⟩ 0 0 w')\/(R.2.2≠0/\e= .returned (.bool false)/\fS T Pr w0 P txt sp R.2.1 R.2.2 w')
theorem aBx (w0:World) (P:Nat) (txt:aA) (sp:List (Nat×Nat)) (hsp0:eR txt sp) (hs:txt.length<=65536) (hns:sp.length<=131072) (hV:bU w0) {Pr:aJ} (w:World) (h:YJ YP Pr w0 P txt sp ⟨[],[],0⟩ 0 0 w):
  Calls Tryz.prog 25 #[some P] w (WhE YP Pr w0 P txt sp (pV txt sp)):=by
 obtain⟨R,G⟩:=exQ<|pV txt sp;rw[G];unfold pV at G;have tW:nH txt sp []:=⟨dY _,λi hi=>absurd hi (rY _)⟩;have bd:=oH hsp0 (k:=0) (lines:= []) (aD _) tW (λi _ hi=>absurd hi (rY _));obtain⟨NN,hN⟩:=exQ<|fR txt sp 0 [];rw[hN] at G bd;have CN:Hid (Calls Tryz.prog 42 #[some P,(0:Int)] w (rD YP Pr w0 P txt sp ⟨[],[],0⟩ NN)):=hid (by have:=Fg (st:=⟨[],[],0⟩) 0 w h (aD _) (dY _) hs hns hV;rw[hN] at this;exact this);have cC:=hid hsp0;clear hN h tW;go_enter Tryz.func25,Tryz.ntmps25;cases NN with
 | bad a er=>
  have bx:Hid ((⟨[],[]⟩,a,er)=R):=hid G;have sL:Hid (er≠0):=hid bd.2.2;clear G bd;go_wp2_with fail;refine CN.out.mono ?_;rintro e w2 ⟨⟨m,rfl⟩,an⟩;have HF:=hid an;clear an;exact fv
 | ok k ls=>
  simp only[] at G bd;have fH:=hid bd;have HR:=hid G;have gC:(0:Int)<=(k:Int):=a_
  clear G bd;go_wp2_with fail;refine CN.out.mono ?_;rintro e w2 ⟨rfl,fj⟩;have ed:=hid fj;have CT:Hid (∀w',YJ YP Pr w0 P txt sp ⟨ls,[],0⟩ 0 0 w'->Calls Tryz.prog 43 #[some P,k] w' λe w2=>e= .returned (.bool (decide (k<sp.length)))/\Below w'.heap.size w' w2):=hid (λw' hj=>wF k w' hj);clear fj CN;by_cases aw:k<sp.length;rotate_left
  ·exact qh
  ·have G:=HR.out;rw[if_neg (λe=>e aw)] at G;rw[aO aw] at CT;obtain⟨cJ,fJ⟩:=fH.out.hit aw;have tz:eS txt sp ⟨ls,[],0⟩:=⟨fH.out.ok,e_⟩;obtain⟨Q,hQ⟩:=exQ<|tA txt sp 32 k 0 0 ⟨ls,[],0⟩;have ds:=tB hsp0 32 k 0 0 ⟨ls,[],0⟩ tz cJ.symm;rw[hQ] at G ds;have CB:Hid (∀w',YJ YP Pr w0 P txt sp ⟨ls,[],0⟩ 0 0 w'->Calls Tryz.prog 44 #[some P,k,(1:Int), .agg #[(0:Int),(0:Int)]] w' (eT YP Pr w0 P txt sp Q)):=hid (λw' hj=>by have:=Od w0 P txt sp hsp0 hs hns hV 32 (aD _) Pr k 0 0 ⟨ls,[],0⟩ 1 w' hj cJ.symm tz (hid b_);rw[hQ] at this;exact this);have og:=hid G;clear G aw hQ tz HR cJ fJ;go_wp2_with fail;refine(CT.out _ D0).mono ?_;rintro e w3 ⟨rfl,bI⟩;have da:=hid (ed.out.keep DS);clear bI;go_wp2_with fail;refine(CB.out _ C_).mono ?_;rintro e w4 hE;have HE:=hid hE;clear hE;cases Q with
   | bad a er=>
    have bx:Hid ((⟨[],[]⟩,a,er)=R):=hid og.out;have sL:Hid (er≠0):=hid (show 0<=a/\a<=(txt.length:Int)/\er≠0 from ds).2.2;obtain⟨⟨m,rfl⟩,an⟩:=HE.out;have HF:=hid an;clear an HE ds;exact fv
   | ok nn s4=>
    obtain⟨rfl,en⟩:=HE.out;obtain⟨g1,⟨wT,kr,g2⟩,g3,g4,g5,g6⟩:=(show mN txt sp k ⟨ls,[],0⟩ nn s4 from ds);have zP:nn=0:=g1;subst zP;have G:=og.out;simp only[] at G;obtain⟨y,hy⟩: ∃y,s4.nodes[0]?=some y:=by
     cases wT with
     | nil=>exact absurd rfl kr
     | cons y _=>exact⟨y,by rw[g2];rfl⟩
    have cx:=wE hy;rw[cx] at G g4 g5;obtain⟨til,dD⟩:=exQ<|y.til;rw[dD] at G g4 g5;obtain⟨N2,tk⟩:=exQ<|fR txt sp til s4.lines;have bd:=oH hsp0 (k:=til) g4.2 g6.ls g5;rw[tk] at G bd;have CN:Hid (∀w',YJ YP Pr w0 P txt sp s4 0 0 w'->Calls Tryz.prog 42 #[some P,til] w' (rD YP Pr w0 P txt sp s4 N2)):=hid (λw' hj=>by have:=Fg til w' hj g4.2 g6.ls.1 hs hns hV;rw[tk] at this;exact this);have bu:=hid en;obtain⟨z,sv,lv,nv,hz,hK⟩:=en;have cH:z.length=s4.nodes.length:=E3;obtain⟨gn,cn,dL,rfl,gZ,_⟩:=hK.nod.form (λe=>by rw[e] at hz;rw[<-hz] at hy;cases hy);obtain⟨z0,cm⟩: ∃z0,z[0]?=some z0:=by
     rw[<-hz,dE] at hy;cases Z:z[0]? with
     | none=>rw[Z] at hy;cases hy
     | some q=>exact⟨q,rfl⟩
    have qp:z0.1=y:=by
     rw[<-hz,dE,cm] at hy;exact aV hy
    have ki:=(hK.nod.at_ cm 3 a_ rfl).1;rw[qp,dD] at ki;have c3:=hK.cells.1.2.2.2.1;have hPl:=hK.lt;obtain⟨m,hm⟩:=exQ<|z.length;have hm0:(0:Int)<(m:Int):=by have:=(aR.1 cm).1;omega
    have hm1:0<m:=a_;rw[hm] at c3 gZ;simp only[Nat.zero_mul,Nat.zero_add] at ki;have HR:=hid G;have rd:=hid bd;have HG:=hid g6;clear hK hz cm qp cH hm hy cx dD g1 kr g2 g3 g4 g5 g6 G bd tk ds og HE CB CT;cases N2 with
    | bad a er=>
     have bx:Hid ((⟨[],[]⟩,a,er)=R):=hid HR.out;have sL:Hid (er≠0):=hid (show 0<=a/\a<=(txt.length:Int)/\er≠0 from rd.out).2.2;go_wp2_with fail;refine(CN.out _ g_).mono ?_;rintro e w5 ⟨⟨mm,rfl⟩,an⟩;have HF:=hid an;clear an ki c3;exact fv
    | ok k2 fp=>
     have bd:=(show rB txt sp til s4.lines k2 fp from rd.out);have G:=HR.out;simp only[] at G;have kl:=hid G;have xt:=hid bd;have hk20:(0:Int)<=(k2:Int):=a_;clear G bd;go_wp2_with fail;refine(CN.out _ g_).mono ?_;rintro e w5 ⟨rfl,fu⟩;have cw:=hid fu;clear fu ki c3;have CT:Hid (∀w',YJ YP Pr w0 P txt sp ⟨fp,s4.nodes,s4.total⟩ 0 0 w'->Calls Tryz.prog 43 #[some P,k2] w' λe w2=>e= .returned (.bool (decide (k2<sp.length)))/\Below w'.heap.size w' w2):=hid (λw' hj=>wF k2 w' hj);by_cases aw:k2<sp.length;rotate_left
     ·have BY:=trivial;exact uv
     ·have BZ:=trivial;exact uv
def eK:Nat->List (Nat×Nat)->List (Nat×Nat)
 | 0,l=>l
 | _,[]=> []
 | n+1,x::l=>(x.1,x.2-1)::eK n l
theorem Gd: ∀(n:Nat) (l:List (Nat×Nat)),(eK n l).length=l.length
 | 0,l=>by cases l<;>rfl
 | n+1,[]=>rfl
 | n+1,x::l=>by rw[eK,bH,Gd n l];rfl
theorem Ge: ∀(n:Nat) (l:List (Nat×Nat)),(eK n l)[n]?=l[n]?
 | 0,l=>by cases l<;>rfl
 | n+1,[]=>rfl
 | n+1,x::l=>by rw[eK,bZ,bZ];exact Ge n l
theorem Gf: ∀(n:Nat) (l:List (Nat×Nat)) (x:Nat×Nat),l[n]?=some x->eK (n+1) l=(eK n l).set n (x.1,x.2-1)
 | 0,[],x,h=>by cases h
 | 0,y::l,x,h=>by
  obtain rfl:y=x:=aV h;cases l<;>rfl
 | n+1,[],x,h=>by cases h
 | n+1,y::l,x,h=>by
  rw[eK,eK,cP,<-Gf n l x h]
theorem Gg: ∀(l:List (Nat×Nat)),eK (l.length-1) l=sZ l
 | []=>rfl
 | [x]=>rfl
 | x::y::l=>by
  have:=Gg (y::l);rw[sZ,<-this];rfl
theorem Og {l:aA}{i:Nat}{x:Nat×Nat} (h:(gC l 0 0)[i]?=some x):x.2<=l.length/\(i+1<(gC l 0 0).length->1<=x.2):=by
 obtain⟨b,a⟩:=Ao l 0 0 (aD _);have h3:=b x (bD h);refine⟨a_,λhi=>?_⟩;have h4:=a x (bD (show (gC l 0 0).dropLast[i]?=some x by rw[List.getElem?_dropLast,if_pos a_];exact h));omega
theorem aBy {s:aA}{sp:List (Nat×Nat)} (hsp:eR s sp):((pV s sp).2.2=0/\(pV s sp).2.1=(s.length:Int))\/((pV s sp).2.2≠0/\(pV s sp).1=⟨[],[]⟩):=by
 have f:nH s sp []:=⟨dY _,λi d=>absurd d (rY _)⟩;have b:=oH hsp (k:=0) (lines:= []) (aD _) f (λi _ d=>absurd d (rY _));unfold pV;cases hN:fR s sp 0 [] with
 | bad a e=>rw[hN] at b;exact .inr ⟨b.2.2,rfl⟩
 | ok k ls=>
  rw[hN] at b;simp only[] at b ⊢;by_cases hk:k<sp.length
  ·rw[if_neg (λe=>e hk)];have c:=tB hsp 32 k 0 0 ⟨ls,[],0⟩ ⟨b.ok,e_⟩ (b.hit hk).1.symm;cases hB:tA s sp 32 k 0 0 ⟨ls,[],0⟩ with
   | bad a e=>rw[hB] at c;exact .inr ⟨(show 0<=a/\a<=(s.length:Int)/\e≠0 from c).2.2,rfl⟩
   | ok n st=>
    rw[hB] at c;obtain⟨g1,_,_,g4,g5,g6⟩:=(show mN s sp k ⟨ls,[],0⟩ n st from c);have g:n=0:=g1;subst g;have h:=oH hsp (k:=iL st.nodes 0) g4.2 g6.ls g5;simp only[];cases hN2:fR s sp (iL st.nodes 0) st.lines with
    | bad a e=>rw[hN2] at h;exact .inr ⟨h.2.2,rfl⟩
    | ok k2 ls2=>
     simp only[];split
     ·exact .inr ⟨show (2:Int)≠0 by decide,rfl⟩
     ·exact .inl ⟨rfl,rfl⟩
  ·rw[if_pos hk];exact .inl ⟨rfl,rfl⟩
theorem yH {w:World}{B B':Nat}{e:TypeId}{s:Nat}{v:Value}{n:Nat}{xs:List Value} (h:w.ownsRow B e s v n xs) (hB:B'<=B):w.ownsRow B' e s v n xs:=kn
theorem fH.base {B B':Nat}{z:List YN}{nv:Value}{w:World} (h:fH B z nv w) (hB:B'<=B):fH B' z nv w:=⟨yH h.row hB,λy a=>yH (h.kids y a) hB,h.ak⟩
def eD (B:Nat) (d:gD) (lv nv:Value) (w:World):Prop:= ∃z:List YN,z.map (·.1)=d.nodes/\w.ownsRow B 68 10 lv d.lines.length (gK d.lines)/\fH B z nv w
theorem eD.nil (B:Nat) (w:World):eD B ⟨[],[]⟩ (.slice none 0 0) (.slice none 0 0) w:=⟨[],rfl,⟨rfl, .inl ⟨rfl,rfl⟩⟩,fH.nil _ _⟩
theorem eD.keep {B:Nat}{d:gD}{lv nv:Value}{w w':World} (h:eD B d lv nv w) (hb:Below w.heap.size w w'):eD B d lv nv w':=by
 obtain⟨z,b,a,c⟩:=h;exact⟨z,b,gH a hb,c.keep hb⟩
def Bs (l:aA) (R:gD×Int×Int) (w:World) (e:Ending) (w':World):Prop:= ∃tx lv nv,e= .returned (.tuple #[.agg #[.string tx,lv,nv],R.2.1,R.2.2])/\tx=(if R.2.2=0 then bs l else⟨#[]⟩)/\eD w.heap.size R.1 lv nv w'/\Below w.heap.size w w'
theorem qC {fn:Func} (h:fn.results= #[.cell 2 26, .tmp 3, .tmp 4]) (tmps:Array Value) (w:World) {D:Nat}{u v x:Value} (hD:tmps.getD 2 undef= .pointer (some ⟨D,0,none⟩)) (h0:w.cell? ⟨D,0,none⟩=some u) (h1:w.cell? ⟨D,1,none⟩=some v) (h2:w.cell? ⟨D,2,none⟩=some x):
  (results fn tmps).run Tryz.prog w= .ok (.tuple #[.agg #[u,v,x],tmps.getD 3 undef,tmps.getD 4 undef]) w:=by
 have a:tmps[2]?.getD undef= .pointer (some ⟨D,0,none⟩):=by rw[<-aI];exact hD
 simp[results,h,a,asAddr,go_sem,h0,h1,h2]
theorem eE {w:World}{X:Nat}{a0 a1 a2:Value}{t:TypeId} (hb:w.heap[X]?=some (.cells #[a0,a1,a2] t (0,0))):w.cell? ⟨X,0,none⟩=some a0/\w.cell? ⟨X,1,none⟩=some a1/\w.cell? ⟨X,2,none⟩=some a2/\w.frozen? ⟨X,0,none⟩=false/\w.frozen? ⟨X,1,none⟩=false/\w.frozen? ⟨X,2,none⟩=false:=by
 refine⟨?_,?_,?_,?_,?_,?_⟩<;>simp[World.cell?,World.frozen?,hb]
theorem Gh (l:aA) (w:World) (hV:bU w):
  Calls Tryz.prog 7 #[bs l] w (Bs l (pF l) w):=by
 have xp:=trivial;exact qg
end Go.Proofs.YtfhjncbdgjlcoaaGreatDoor
