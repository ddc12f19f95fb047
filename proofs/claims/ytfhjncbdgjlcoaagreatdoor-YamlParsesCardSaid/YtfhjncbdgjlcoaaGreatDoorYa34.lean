import Derived.Test.YtfhjncbdgjlcoaaGreatDoorYa33
set_option maxRecDepth 100000
set_option maxHeartbeats 8000000
set_option linter.unusedVariables false
set_option linter.unusedSimpArgs false
namespace Go.Proofs.YtfhjncbdgjlcoaaGreatDoor
open Go.RowKit
open Go.Lib hiding intOf
section
variable {T:TypeId}{Pr:aJ}{w0 w w':World}{P:Nat}{txt:aA}{sp:List (Nat×Nat)}{st:YS}{lines:List aP}{z:List YN}{tot:Nat}{a er:Int}{sv lv nv hv:Value}{n:Nat}{xs:List Value}
theorem YK.rowG (h:YK YQ Pr w0 P txt sp lines z tot a er sv lv nv w) (hr:w.ownsRow w0.heap.size 9 1 hv n xs) (hg:w.grownBy w' hv.ownBlock) (hp: ∀q o,Pr q=some o->hv.ownBlock≠some q):YK YQ Pr w0 P txt sp lines z tot a er sv lv nv w':=
 ⟨h.box_grown hr b_ hg,h.spr.kept hg (gI h.spr hr b_),h.lnr.kept hg (gI h.lnr hr b_),⟨h.nod.row.kept hg (gI h.nod.row hr b_),λy c=>(h.nod.kids y c).kept hg (gI (h.nod.kids y c) hr b_),h.nod.ak⟩,h.hB,h.ty,h.bel.grown hg h.bel.size (λq b=>(World.ownsRow.lt hr q b).1),λq o b=>⟨pW hg (h.fr q o b).1 (hp q o b),(h.fr q o b).2⟩⟩
theorem YJ.rowG (h:YJ YQ Pr w0 P txt sp st a er w) (hr:w.ownsRow w0.heap.size 9 1 hv n xs) (hg:w.grownBy w' hv.ownBlock) (hp: ∀q o,Pr q=some o->hv.ownBlock≠some q):YJ YQ Pr w0 P txt sp st a er w':=by
 obtain⟨z,sv,lv,nv,c,b⟩:=h;exact⟨z,sv,lv,nv,c,b.rowG hr hg hp⟩
theorem YJ.hadP (h:YJ YQ Pr w0 P txt sp st a er w) (hr:w.ownsRow w0.heap.size 9 1 hv n xs) (hp: ∀q o,Pr q=some o->hv.ownBlock≠some q): ∃Pr':aJ,(∀q o,Pr q=some o->Pr' q=some o)/\YJ YQ Pr' w0 P txt sp st a er w/\ ∀st2 a2 e2 w2,YJ YQ Pr' w0 P txt sp st2 a2 e2 w2->w2.ownsRow w0.heap.size 9 1 hv n xs:=by
 rcases hr.2 with h1 | ⟨g,cap,dL,rfl,hB,hg,h3⟩
 ·exact⟨Pr,λ_ _ Z=>Z,h,λ_ _ _ _ _=>⟨hr.1, .inl h1⟩⟩
 ·have hn:Pr g=none:=by
   cases Z:Pr g with
   | none=>rfl
   | some o=>exact absurd rfl (hp g o Z)
  refine⟨Pr.put g (.cells dL 9 (0,0)),aJ.put_lessN hn,?_,λ_ _ _ w2 h2=>⟨hr.1, .inr ⟨g,cap,dL,rfl,hB,h2.at_ (aJ.put_eq _ _ _),h3⟩⟩⟩;obtain⟨z,sv,lv,nv,e1,h⟩:=h;refine⟨z,sv,lv,nv,e1,h.box,h.spr,h.lnr,h.nod,h.hB,h.ty,h.bel,λk o' hk=>?_⟩;by_cases hkb:k=g
  ·subst hkb;rw[aJ.put_eq] at hk;obtain rfl:=aV hk;have key: ∀ {v:Value}{e:TypeId}{s n:Nat}{xs:List Value},w.ownsRow w0.heap.size e s v n xs->e≠9->v.ownBlock≠some k:=λjh he e=>by
    rcases cQ jh hg he with h1 | h1
    ·rw[h1] at e;cases e
    ·exact h1 e
   refine⟨hg,λe=>?_,key h.lnr b_,key h.nod.row b_,λy hy=>key (h.nod.kids y hy) b_⟩;have hb:=h.box;rw[<-e,hg] at hb;exact fx
  ·rw[aJ.put_ne _ _ hkb] at hk;exact h.fr k o' hk
end
theorem aBh {w:World}{X:Nat}{a0 a1 a2 a3 a4 a5 a6 a7 a8 b0:Value}{t:TypeId} (h:w.heap[X]?=some (.cells #[a0,a1,a2,a3,a4,a5,a6,a7,a8] t)):(w.setCell ⟨X,0,none⟩ b0).heap[X]?=some (.cells #[b0,a1,a2,a3,a4,a5,a6,a7,a8] t):=ai
def nQ:YR->Int
 | .ok n _=>n
 | .bad _ _=>0
def bQ:YR->Bool
 | .ok _ _=>true
 | .bad _ _=>false
def oQ (Pr:aJ) (w0:World) (P:Nat) (txt:aA) (sp:List (Nat×Nat)) (R:YR) (w:World):Prop:=match R with
 | .ok _ st=>YJ YQ Pr w0 P txt sp st 0 0 w
 | .bad a er=>fS YQ Pr w0 P txt sp a er w
theorem rG.to {Pr:aJ}{w0:World}{P:Nat}{txt:aA}{sp:List (Nat×Nat)}{R:YR}{e:Ending}{w:World} (h:rG YQ Pr w0 P txt sp R e w):e= .returned (.tuple #[(nQ R),(bQ R)])/\oQ Pr w0 P txt sp R w:=by
 cases R with
 | ok n st=>exact h
 | bad a er=>exact h
theorem oQ.toE {Pr:aJ}{w0:World}{P:Nat}{txt:aA}{sp:List (Nat×Nat)}{R:YR}{w:World} (h:oQ Pr w0 P txt sp R w):eT YQ Pr w0 P txt sp R (.returned (.tuple #[(nQ R),(bQ R)])) w:=by
 cases R with
 | ok n st=>exact⟨rfl,h⟩
 | bad a er=>exact⟨⟨_,rfl⟩,h⟩
theorem oQ.less {Pr Pr':aJ}{w0:World}{P:Nat}{txt:aA}{sp:List (Nat×Nat)}{R:YR}{w:World} (h:oQ Pr w0 P txt sp R w) (hp: ∀k o,Pr' k=some o->Pr k=some o):oQ Pr' w0 P txt sp R w:=by
 cases R with
 | ok n st=>exact YJ.less h hp
 | bad a er=>exact fS.less h hp
theorem Ga {B:Nat}{l:List aA}{v:Value}{w:World} (h:bP B l v w): ∃p c,v= .slice p l.length c:=by
 rcases h.2 with⟨h0,h1⟩ | ⟨g,cap,dL,h1,_⟩
 ·exact ax
 ·exact ay
theorem aBi {B:Nat}{l:List aA}{v:Value}{w:World} (h:bP B l v w): ∃p n c,v= .slice p n c:=by
 obtain⟨p,c,e⟩:=Ga h;exact⟨p,_,c,e⟩
theorem aBj {B:Nat}{l:List aA}{p:Option Addr}{n c:Nat}{w:World} (h:bP B l (.slice p n c) w):n=l.length:=by
 obtain⟨_,_,e⟩:=Ga h;exact(Value.slice.inj e).2.1
theorem aBk {B:Nat}{l:List aA}{v:Value}{w:World} (h:bP B l v w):Ny w v l:=by
 obtain⟨p,c,rfl⟩:=Ga h;refine⟨p,c,rfl,λj x b=>?_⟩;have hl:=(aR.1 b).1;obtain⟨g,cap,e,_,_⟩:=World.ownsRow.form h a_;obtain rfl:=(Value.slice.inj e).1;have:=World.ownsRow.cells h (g:=g) rfl j (.string (bs x)) (by unfold iQ;rw[dE,b];rfl);rw[rX,Nat.zero_add] at this;exact⟨g,rfl,this⟩
theorem aBl {w:World}{K:Nat}{x:aA} (h:w.heap[K]?=some (.cells #[bs x] 9)):SV w (.slice (some ⟨K,0,none⟩) 1 1) [x]:=
 ⟨_,1,rfl,aD _, .inr ⟨K,0,rfl,aF h,λj y b=>by
  cases j with
  | zero=>
   obtain rfl:x=y:=(by simpa using b);simp[World.cell?,h]
  | succ j=>simp at b⟩⟩
theorem aBm {s:aA}{V:YB}{had:List aA}{k:Nat}{st:YS}{K:aA}{er:Int} (hK:jM (eQ s (aS st.lines k).kf (aS st.lines k).kt)=(K,er)) (h:er≠0):fN s V true had k st=(.bad (aS st.lines k).kf er,had):=by
 unfold fN;simp only[hK,if_true];rw[if_pos h]
theorem aBn {s:aA}{V:YB}{had:List aA}{k:Nat}{st:YS}{K:aA}{er:Int} (hK:jM (eQ s (aS st.lines k).kf (aS st.lines k).kt)=(K,er)) (h:er=0) (hm:K∈had):fN s V true had k st=(.bad (aS st.lines k).kf 7,had):=by
 unfold fN;simp only[hK,if_true];rw[if_neg r_,if_pos hm]
theorem aBo {s:aA}{V:YB}{had:List aA}{k:Nat}{st:YS}{K:aA}{er:Int} (hK:jM (eQ s (aS st.lines k).kf (aS st.lines k).kt)=(K,er)) (h:er=0) (hm:K ∉ had):fN s V true had k st=(V k (aS st.lines k).kf (aS st.lines k).kt st,K::had):=by
 unfold fN;simp only[hK,if_true];rw[if_neg r_,if_neg hm]
theorem Gb {s:aA}{sp:List (Nat×Nat)}{V:YB}{mp:Bool}{n:Nat}{ind a e:Int}{had had2:List aA}{k:Nat}{st:YS} (h:fN s V mp had k st=(.bad a e,had2)):iM s sp V mp n ind had k st= .bad a e:=by
 unfold iM;rw[h]
theorem aBp {s:aA}{sp:List (Nat×Nat)}{V:YB}{mp:Bool}{n:Nat}{ind a e:Int}{had had2:List aA}{k kid:Nat}{st s2:YS} (h:fN s V mp had k st=(.ok kid s2,had2)) (hn:fR s sp (iL s2.nodes kid) s2.lines= .bad a e):iM s sp V mp n ind had k st= .bad a e:=by
 unfold iM;rw[h];simp only[hn]
theorem Oe {s:aA}{sp:List (Nat×Nat)}{V:YB}{mp:Bool}{n:Nat}{ind:Int}{had had2:List aA}{k kid nx:Nat}{st s2:YS}{ls:List aP} (h:fN s V mp had k st=(.ok kid s2,had2)) (hn:fR s sp (iL s2.nodes kid) s2.lines= .ok nx ls) (hc: ¬(nx<sp.length/\ind<(aS ls nx).ind)):iM s sp V mp n ind had k st= .ok nx ⟨ls,iU n kid s2.nodes,s2.total⟩ had2:=by
 unfold iM;rw[h];simp only[hn];rw[if_neg hc]
theorem aBq {s:aA}{sp:List (Nat×Nat)}{V:YB}{mp:Bool}{n:Nat}{ind:Int}{had had2:List aA}{k kid nx:Nat}{st s2:YS}{ls:List aP} (h:fN s V mp had k st=(.ok kid s2,had2)) (hn:fR s sp (iL s2.nodes kid) s2.lines= .ok nx ls) (hc:nx<sp.length/\ind<(aS ls nx).ind):iM s sp V mp n ind had k st= .bad (((lA sp nx).1:Int)+(aS ls nx).ind) 2:=by
 unfold iM;rw[h];simp only[hn];rw[if_pos hc]
def Gc (w0:World) (P:Nat) (txt:aA) (sp:List (Nat×Nat)) (V:YB) (mp:Bool) (Pr:aJ) (nn:Nat) (ind kind:Int) (R:YR) (k:Nat) (hv:Value) (w:World):Prop:=
 ∃f had hm sr,nG txt sp V mp nn ind kind f had k sr=R/\YJ YQ Pr w0 P txt sp sr 0 0 w/\bP w0.heap.size hm hv w/\(∀q o,Pr q=some o->hv.ownBlock≠some q)/\(∀x,x∈hm↔x∈had)/\hm.length<=k/\eS txt sp sr/\(k<sp.length->k+1=sr.lines.length)/\sp.length<=k+f/\ ∃x,sr.nodes[nn]?=some x/\x.ind=ind/\x.kids.length+nn<sr.nodes.length
def PhS (W0:World) (A:Addr) (v:Value):Nat->Value->World->Prop
 | 0,_,w'=>Below W0.heap.size W0 w'
 | _,_,w'=> ∃w3,Below W0.heap.size W0 w3/\w'=w3.setCell A v
def Of (W0:World) (v:Value) (O:World->Prop):Nat->Value->World->Prop
 | 0,_,w'=>Below W0.heap.size W0 w'
 | _,c,w'=>c=v/\O w'
theorem aBs (w0:World) (P:Nat) (txt:aA) (sp:List (Nat×Nat)) (hsp0:eR txt sp) (hs:txt.length<=65536) (hn:sp.length<=131072) (hV:bU w0) (HRd:Hid uW) (HKy:Hid uX) (lv:Nat) (hlv:lv<=32) (V:YB) (hVG:lv≠0->iV txt sp V) (IH: ∀m,lv=m+1->wN 40 w0 P txt sp V m) (Pr:aJ) (k:Nat) (kf kt:Int) (st:YS) (lev:Int) (w:World) (h:YJ YQ Pr w0 P txt sp st 0 0 w) (hk1l:k+1=st.lines.length) (hw:eS txt sp st) (hl:Hid (lev=33-(lv:Int))):
  Calls Tryz.prog 21 #[some P,k,lev, .agg #[kf,kt]] w (eT YQ Pr w0 P txt sp (oE txt sp V lv k kf kt st)):=by
 have hkl:k<st.lines.length:=a_
 obtain⟨R,G⟩:=exQ<|oE txt sp V lv k kf kt st;rw[G];unfold oE at G;have bz:=jY hkl;obtain⟨r,hr⟩:=exQ<|aS st.lines k;have eL:=hw.ls.2 k hkl;have eH:k<sp.length:=by have:=hw.ls.1;omega
 have o8:=hid (fun(Pr':aJ) w' hj=>Fi (Pr:=Pr') (w0:=w0) (P:=P) (txt:=txt) (sp:=sp) (st:=st) (a0:=0) (e0:=0) k w' hj eH hkl eL hs);have ip:wB sp st k=((lA sp k).1:Int)+r.ind:=by unfold wB;rw[hr]
 have kC:=eL.oth;rw[hr] at bz eL kC;simp only[hr] at G o8;obtain⟨bg,qn⟩:=exQ<|((lA sp k).1:Int)+r.ind;rw[qn] at o8 ip kC;rw[ip] at G;have b1:=aL w (.cells #[kf,kt] 42);have d8:=heap_alloc_new w (.cells #[kf,kt] 42);have dx:=h.put b1 (aD _) d8;have ek: ∀q o,Pr q=some o->(Pr.put w.heap.size (.cells #[kf,kt] 42)) q=some o:=aJ.put_less (λq o Z=>h.frLt q o Z) (aD _);obtain⟨X1,fE⟩:=exQ<|w.heap.size;obtain⟨W1,bo⟩:=exQ<|w.alloc (.cells #[kf,kt] 42);rw[bo] at d8 dx;rw[fE] at d8 dx ek;have fT:=hid (aJ.put_eq Pr X1 (.cells #[kf,kt] 42));obtain⟨ix,qz⟩: ∃ix:aJ,Pr.put X1 (.cells #[kf,kt] 42)=ix:=⟨_,rfl⟩;rw[qz] at dx ek fT;have jK:=hid dx;have vF:=hid ek;obtain⟨n,dv⟩:=exQ<|st.lines.length;obtain⟨z,sv,lvv,nv,hz,hK⟩:=dx;obtain⟨gl,cl,e9,_,I⟩:=hK.lineAt bz;subst e9;obtain⟨⟨_,_,c2,_⟩,_⟩:=hK.cells;have hPl:=hK.lt;have g0:=I 0 _ a_ rfl;have g3:=I 3 _ a_ rfl;simp only[Nat.add_zero] at g0;rw[dv] at c2;have gC:(0:Int)<=(k:Int):=a_
 have ge:(k:Int)<(n:Int):=a_
 have HR:=hid G;have HW:=hid hw;have ct:=hid hk1l;have cC:=hid hsp0;have yM:=hid hr;have qL:=hid kC;clear hK hz I d8 b1 ek G hw bz h hk1l hr eL qz kC ip qn hkl;go_enter Tryz.func21,Tryz.ntmps21;by_cases h5:r.kind=5
 ·have d5:(r.kind==5)=true:=by rw[h5];rfl
  have G:=HR.out;rw[if_pos h5] at G;obtain⟨Q,hQ⟩:=exQ<|jW txt lv k kf kt st;rw[hQ] at G;have bx:Hid (Q=R):=hid G;go_upto_region 4 with fail;clear bo fE c2 g0 g3 hPl;obtain⟨W0,ai⟩:=exQ<|W1.drew;have bH:=jK.out.keep (aB _ W1).drew;rw[ai] at bH;have bn:=hid bH;obtain⟨gb,dB⟩: ∃O:World->Prop,(λw'=>oQ ix w0 P txt sp Q w')=O:=⟨_,rfl⟩;obtain⟨nq,j9⟩:=exQ<|nQ Q;obtain⟨bq,kx⟩:=exQ<|bQ Q;have CA:Hid (∀w',YJ YQ ix w0 P txt sp st 0 0 w'->Calls Tryz.prog 37 #[some P,k,lev, .agg #[kf,kt],bg] w' λe w2=>e= .returned (.tuple #[nq,bq])/\gb w2):=hid (λw' hj=>by have:=(Bm k kf kt lv lev w' hj EP HW.out hl hlv cC.out hs hn hV HRd.out).mono (λe w2 hE=>hE.to);rw[hQ,yM.out,qL.out h5,j9,kx] at this;rw[<-dB];exact this);have CB:Hid (∀w',YJ YQ ix w0 P txt sp st 0 0 w'->Calls Tryz.prog 23 #[some P,k] w' λe w2=>e= .returned (.int .i64 bg)/\Below w'.heap.size w' w2):=hid (λw' hj=>by have:=o8.out ix w' hj;exact this);obtain⟨SA,ah⟩: ∃S:World->Prop,(λw'=>w'.cell? ⟨X1,0,none⟩=some (.int .i64 kf)/\w'.cell? ⟨X1,1,none⟩=some (.int .i64 kt))=S:=⟨_,rfl⟩;have ak:Hid (∀w',Below W0.heap.size W0 w'->SA w'):=hid (λw' hb=>by rw[<-ah];exact jG ((bn.out.keep hb).at_ fT.out));have iO:=hid (aK j9 kx);clear G hQ bH j9 kx h5;refine iW [40,41,42,43,44,45,46,47,48,49,8,9] [] [7] 1000000 (λ_ _=>True) 207 [some P,k,lev, .agg #[kf,kt],some P,k,bg, .tuple #[nq,bq],nq,bq,nq,bq] SA (Of W0 (.tuple #[nq,bq]) gb) [6,7,8,9,0,1,2,4,5,10,11,3] j_ i_ ?_ ?_
  ·have zm:=trivial;exact rm
  intro v wz au dl;obtain⟨_,hO⟩:=dl;have hv:=Ay au [(10,8),(11,9)] b_;dsimp only[xZ,lk] at hv;rw[<-dB] at hO;have HF:=hid ((show oQ ix w0 P txt sp Q wz from hO).less vF.out).toE;rw[iO.out.1,iO.out.2] at HF;clear au hO ah ak;simp only[cS,dF,cP,dG,hv];go_wp2_with fail;go_ret2;rw[<-bx.out];exact HF.out
 ·have d5:(r.kind==5)=false:=aE.2 h5;have G:=HR.out;rw[if_neg h5] at G;have i7:=hid G;obtain⟨X3,eB⟩:=exQ<|W1.heap.size;have b3:=aL W1 (.cells #[(2:Int),r.ind,k,(0:Int),kf,kt,(0:Int),(0:Int),()] 45);have eM:=heap_alloc_new W1 (.cells #[(2:Int),r.ind,k,(0:Int),kf,kt,(0:Int),(0:Int),()] 45);obtain⟨W3,a6⟩:=exQ<|W1.alloc (.cells #[(2:Int),r.ind,k,(0:Int),kf,kt,(0:Int),(0:Int),()] 45);rw[a6] at b3 eM;rw[eB] at eM;have bf:=hid b3;have ec:=hid eM;have oY:=hid a6;have jR:=hid eB;obtain⟨y0,y1⟩:=jG (jK.out.at_ fT.out);clear G b3 eM a6 HR qL;go_upto_region 5 with fail;clear bo fE c2 g0 g3 hPl;go_upto_region 6 with fail;rw[oY.out];clear eB y0 y1;obtain⟨z0,_,_,_,_,_,_,_,_,f0,_⟩:=yB ec.out;go_upto_if 55 with fail;go_cut [54,55,56] (λr5 sA rS wx=> ∃kd:Nat,Hid (kd=if r.kind=4 then 3 else 2)/\Hid (Below W1.heap.size W1 wx/\wx.heap[X3]?=some (.cells #[kd,r.ind,k,(0:Int),kf,kt,(0:Int),(0:Int),()] 45)))
  case first=>
   by_cases h4:r.kind=4
   ·have d4:(r.kind==4)=true:=by rw[h4];rfl
    have oZ:Hid (3=if r.kind=4 then 3 else 2):=hid (by rw[if_pos h4]);have Ad:=hid (bf.out.setCell (p:=⟨X3,0,none⟩) (mW jR.out) (.int .i64 3));clear h4;go_wp2_with fail;go_meet;exact⟨3,oZ,hid ⟨Ad.out,aBh ec.out⟩⟩
   ·have d4:(r.kind==4)=false:=aE.2 h4;have oZ:Hid (2=if r.kind=4 then 3 else 2):=hid (by rw[if_neg h4]);clear h4;go_wp2_with fail;go_meet;exact⟨2,oZ,hid ⟨bf.out,ec.out⟩⟩
  case rest=>
   obtain⟨kd,gv,bW⟩:=hcut;clear bf ec oY z0 f0;go_upto_region 8 with fail;obtain⟨W0,ai⟩:=exQ<|wc.drew;have uc:W0.heap[X3]?=some (.cells #[kd,r.ind,k,(0:Int),kf,kt,(0:Int),(0:Int),()] 45):=by rw[<-ai];exact bW.out.2
   have bH:=jK.out.put (bW.out.1.drew) (mW jR.out) (by rw[ai];exact uc);rw[ai] at bH;have mA:=aJ.put_eq ix X3 (.cells #[kd,r.ind,k,(0:Int),kf,kt,(0:Int),(0:Int),()] 45);have kh: ∀q o,Pr q=some o->(ix.put X3 (.cells #[kd,r.ind,k,(0:Int),kf,kt,(0:Int),(0:Int),()] 45)) q=some o:=λq o Z=>aJ.put_less (λq o' Z=>jK.out.frLt q o' Z) (mW jR.out) q o (vF.out q o Z);obtain⟨ar,cK⟩: ∃ar:aJ,ix.put X3 (.cells #[kd,r.ind,k,(0:Int),kf,kt,(0:Int),(0:Int),()] 45)=ar:=⟨_,rfl⟩;rw[cK] at bH mA kh;have bn:=hid bH;have fU:=hid mA;have xT:=hid kh;obtain⟨Q,hQ⟩:=exQ<|fM ⟨kd,r.ind,k,0,kf,kt,0,0,[]⟩ lv bg st;obtain⟨gb,dB⟩: ∃O:World->Prop,(λw'=>oQ ar w0 P txt sp Q w')=O:=⟨_,rfl⟩;obtain⟨nq,j9⟩:=exQ<|nQ Q;obtain⟨bq,kx⟩:=exQ<|bQ Q;have CA:Hid (∀w',YJ YQ ar w0 P txt sp st 0 0 w'->Calls Tryz.prog 38 #[some P, .agg #[kd,r.ind,k,(0:Int),kf,kt,(0:Int),(0:Int),()],lev,bg] w' λe w2=>e= .returned (.tuple #[nq,bq])/\gb w2):=hid (λw' hj=>by have:=(Fj (Pr:=ar) ⟨kd,r.ind,k,0,kf,kt,0,0,[]⟩ lv lev bg w' hj rfl hl hlv (by have:=HW.out.tot;omega)).mono (λe w2 hE=>hE.to);rw[hQ,j9,kx] at this;rw[<-dB];exact this);have CB:Hid (∀w',YJ YQ ar w0 P txt sp st 0 0 w'->Calls Tryz.prog 23 #[some P,k] w' λe w2=>e= .returned (.int .i64 bg)/\Below w'.heap.size w' w2):=hid (λw' hj=>o8.out ar w' hj);obtain⟨SA,ah⟩: ∃S:World->Prop,(λw'=>w'.cell? ⟨X3,0,none⟩=some (.int .i64 (kd:Int))/\w'.cell? ⟨X3,1,none⟩=some (.int .i64 r.ind)/\w'.cell? ⟨X3,2,none⟩=some (.int .i64 (k:Int))/\w'.cell? ⟨X3,3,none⟩=some (.int .i64 0)/\w'.cell? ⟨X3,4,none⟩=some (.int .i64 kf)/\w'.cell? ⟨X3,5,none⟩=some (.int .i64 kt)/\w'.cell? ⟨X3,6,none⟩=some (.int .i64 0)/\w'.cell? ⟨X3,7,none⟩=some (.int .i64 0)/\w'.cell? ⟨X3,8,none⟩=some (.slice none 0 0))=S:=⟨_,rfl⟩;have ak:Hid (∀w',Below W0.heap.size W0 w'->SA w'):=hid (λw' hb=>by rw[<-ah];exact oJ ((bn.out.keep hb).at_ fU.out));have iO:=hid (aK j9 kx);have HQ:=hid hQ;clear bH mA kh cK hQ j9 kx uc h5;refine iW [58,59,60,61,62,63,64,57,65,66,13,14] [] [6] 1000000 (λ_ _=>True) 207 [some P, .agg #[kd,r.ind,k,(0:Int),kf,kt,(0:Int),(0:Int),()],lev,some P,k,bg, .tuple #[nq,bq], .tuple #[nq,bq],nq,bq,nq,bq] SA (Of W0 (.tuple #[nq,bq]) gb) [5,6,7,0,2,3,4,8,9,10,11,1] j_ i_ ?_ ?_
   ·exact rm
   intro v wz au dl;obtain⟨_,hO⟩:=dl;have hv:=Ay au [(10,13),(11,14)] b_;dsimp only[xZ,lk] at hv;rw[<-dB] at hO;have HO:Hid (oQ Pr w0 P txt sp Q wz):=hid ((show oQ ar w0 P txt sp Q wz from hO).less xT.out);have G:=i7.out;rw[<-gv.out,HQ.out] at G;have bi:=hid G;clear au hO ah ak CA CB ai dB i7 bn fU xT G bW;simp only[cS,dF,cP,dG,hv];clear hv;cases Q with
   | bad a er=>
    have e1:(nq:Int)=0:=iO.out.1.symm;have e2:bq=false:=iO.out.2.symm;subst e1 e2;have HF:Hid (fS YQ Pr w0 P txt sp a er wz):=HO;have bx:Hid (YR.bad a er=R):=bi;exact bj
   | ok nn s1=>
    obtain⟨e1,e2,iS,lN⟩:=uP HQ.out;subst e2;have e3:nq=(nn:Int):=iO.out.1.symm;have e4:bq=true:=iO.out.2.symm;subst e3 e4;have G:=bi.out;simp only[] at G;have hj:YJ YQ Pr w0 P txt sp ⟨st.lines,st.nodes++ [⟨kd,r.ind,k,0,kf,kt,0,0,[]⟩],st.total+1⟩ 0 0 wz:=HO.out;obtain⟨m,hm⟩: ∃m,lv=m+1:=⟨lv-1,a_⟩;obtain⟨mp,j5⟩:=exQ<|decide (r.kind=4);rw[j5] at G;have oq:Hid (Gc w0 P txt sp V mp Pr nn r.ind r.kind R k (.slice none 0 0) wz):=hid ⟨sp.length-k,[],[],_,G,hj,bP.nil _ _,(λq o _ h=>by cases h),(λ_=>Iff.rfl),dY _,⟨HW.out.ls,by have:=HW.out.tot;simp only[aT,dS];omega⟩,λ_=>ct.out,a_,_,by simp only[];rw[e1,kT (aD _),Nat.sub_self];rfl,rfl,by simp only[aT,dS,kS];omega⟩;have ud:=hid j5;have HM:=hid hm;obtain⟨fQ,oo⟩:=exQ<|lev+1;have oI:IntKind.i64.wrap fQ=fQ:=by rw[IntKind.wrap_i64];have:=hl.out;omega
    have Aj:Hid (fQ=33-(m:Int)):=hid EQ;have vr:=hid (hVG iS);have CV:=hid (IH m hm);clear G hj e1 lN bi HO HQ iO gv j5 hm;go_wp2_with fail;go_loopw [1,15] (λs1 jH wr=> ∃(kk:Nat) (ph:Option Addr) (nh ch:Nat),s1= .int .i64 (kk:Int)/\jH= .slice ph nh ch/\kk<=sp.length/\Hid (Gc w0 P txt sp V mp Pr nn r.ind r.kind R kk (.slice ph nh ch) wr)) (λs1 _ _=>sp.length+1-(RowKit.intOf s1).toNat)
    case atStart=>exact⟨k,none,0,0,rfl,rfl,a_,oq⟩
    case round=>
     clear oq ct HW gC ge eH;obtain⟨kk,ph,nh,ch,rfl,rfl,hkk,HL⟩:=hrel;obtain⟨f,had,jN,sr,mv,ny,bh,xG,qw,hml,mc,km,aa,x,hx,hxi,eY⟩:=HL.out;have tr:(0:Int)<=(kk:Int):=a_;have iH:=hid mv;have cv:=hid ny;have iT:=hid bh;have qc:=hid xG;have jI:=hid qw;have nJ:=hid hml;have ji:=hid mc;have uk:=hid aa;have HX:=hid (aK hx (aK hxi eY));obtain⟨z5,uz,vu,AY,px,fi⟩:=ny;obtain⟨ps,cs,rfl⟩:=fi.spSlice;have c1:=fi.cells.1.2.1;have hPl:=fi.lt;clear mv bh xG qw hml mc aa hx hxi eY HL;by_cases aw:kk<sp.length;rotate_left
     ·have d1:decide ((kk:Int)<(sp.length:Int))=false:=aG a_;have iF:decide (kk<sp.length)=false:=aG aw;clear fi px km;have bX:=iH.out;rw[wK (λh=>aw h.1)] at bX;exact fg
     have hk1l:=km aw;have d1:decide ((kk:Int)<(sp.length:Int))=true:=aO a_;have iF:decide (kk<sp.length)=true:=aO aw;have ce:=jY (show kk<sr.lines.length by omega);have mI:=ji.out.ls.2 kk a_;obtain⟨r2,jh⟩:=exQ<|aS sr.lines kk;rw[jh] at ce mI;obtain⟨g2,cO,e9,_,I⟩:=fi.lineAt ce;subst e9;have c2:=fi.cells.1.2.2.1;obtain⟨m2,dK⟩:=exQ<|sr.lines.length;rw[dK] at c2;have gE:(kk:Int)<(m2:Int):=a_;have b0:=I 0 _ a_ rfl;have b3:=I 3 _ a_ rfl;simp only[Nat.add_zero] at b0;obtain⟨t1,p8⟩:=exQ (r2.ind==r.ind);obtain⟨t2,i6⟩:=exQ (r2.kind==r.kind);have wf:=hid p8;have n9:=hid i6;have bi:=hid (aK jh (aK hk1l ce));have wq:=hid mI.itm;have AP:=hid dK;have j3:=hid aw;clear fi px km hk1l ce mI jh I dK;cases t1 with
     | false=>
      have bX:=iH.out;rw[wK (λh=>by have h1:=wf.out;rw[aE] at h1;exact h1 (by rw[<-bi.out.1];exact h.2.1))] at bX;exact fg
     | true=>
     cases t2 with
     | false=>
      have bX:=iH.out;rw[wK (λh=>by have h1:=n9.out;rw[aE] at h1;exact h1 (by rw[<-bi.out.1];exact h.2.2))] at bX;exact fg
     | true=>
     obtain⟨f1,tG⟩: ∃f1,f=f1+1:=⟨f-1,by have:=uk.out;omega⟩;subst tG;have bX:=iH.out;unfold nG at bX;rw[if_pos ⟨aw,by rw[bi.out.1];exact eq_of_beq wf.out,by rw[bi.out.1];exact eq_of_beq n9.out⟩] at bX;have dw:=hid bX;clear bX iH aw;go_upto_if 101 with fail;go_cut [15,16,17,102,103,104,105,106,107,108,109,110,111,112,113,114] (λjH yn Aa s102 s103 s104 s105 s106 s107 s108 s109 s110 s111 s112 s113 s114 wx=> ∃(p2:Option Addr) (n2 c2:Nat) (dK eW:List aA),jH= .slice p2 n2 c2/\Hid (fN txt V mp had kk sr=(V kk r2.kf r2.kt sr,eW))/\Hid (YJ YQ Pr w0 P txt sp sr 0 0 wx)/\Hid (bP w0.heap.size dK (.slice p2 n2 c2) wx)/\Hid (∀q o,Pr q=some o->(Value.slice p2 n2 c2).ownBlock≠some q)/\Hid (∀x,x∈dK↔x∈eW)/\Hid (dK.length<=kk+1))
     case first=>
      have rC:nh=jN.length:=aBj iT.out;by_cases h4:r.kind=4
      ·have d4:(r.kind==4)=true:=by rw[h4];rfl
       have j5:mp=true:=by rw[<-ud.out];exact aO h4
       subst j5;have tK:=hid (λw' hj hh=>aAU (Pr:=Pr) (w0:=w0) (P:=P) (txt:=txt) (sp:=sp) (st:=sr) kk (.slice ph nh ch) jN w' hj (by have:=bi.out.2.1;omega) ji.out hs hV HKy hh (by have:=nJ.out;omega));simp only[bi.out.1] at tK;obtain⟨⟨K,er⟩,hK⟩:=exQ<|jM (eQ txt r2.kf r2.kt);rw[hK] at tK;have HK:=hid (show jM (eQ txt (aS sr.lines kk).kf (aS sr.lines kk).kt)=(K,er) by rw[bi.out.1];exact hK);have HNH:=hid rC;clear h4 hK rC;go_wp2_with fail;refine(tK.out _ B_ (aBk (by first | exact iT.out | exact gH iT.out (aB _ _).drew))).mono ?_;rintro e w5 hE;rcases hE with⟨h1,rfl,hb⟩ | ⟨h1,h2,rfl,hb⟩ | ⟨h1,h2,rfl,hb⟩
       ·have h:=dw.out;rw[Gb (aBm HK.out h1),bi.out.1] at h;have HF:=hid hb;have bx:Hid (YR.bad r2.kf er=R):=hid h;clear hb h h1;exact bj
       ·have h:=dw.out;rw[Gb (aBn HK.out h1 ((jI.out K).1 h2)),bi.out.1] at h;have HF:=hid hb;have bx:Hid (YR.bad r2.kf 7=R):=hid h;clear hb h h1 h2;exact bj
       ·have h:=aBo (V:=V) HK.out h1 (λe=>h2 ((jI.out K).2 e));rw[bi.out.1] at h;have d9:=hid h;have aj:Below wr.heap.size wr w5:=by first | exact hb | exact aC (aB _ _).drew hb
        have cw:=hid (cv.out.keep aj);have oF:=hid (show bP w0.heap.size jN (.slice ph nh ch) w5 from gH iT.out aj);have ba:=aL w5 (.cells #[bs K] 9);have cB:=hid (cw.out.keep ba);have lM:=hid (show bP w0.heap.size jN (.slice ph nh ch) (w5.alloc (.cells #[bs K] 9)) from gH oF.out ba);have zD:=hid (heap_alloc_new w5 (.cells #[bs K] 9));have eh:=hid (show w0.heap.size<=(w5.alloc (.cells #[bs K] 9)).heap.size from cB.out.bel.size);clear hb aj h h1 h2 ba;go_wp2_with (at_builtin;go_must (refine Sk DU (.tmp 111) (.tmp 113) rfl w0.heap.size (w5.alloc (.cells #[bs K] 9)) (.slice ph nh ch) jN [K] rfl lM.out (.slice (some ⟨w5.heap.size,0,none⟩) 1 1) rfl (aBl zD.out) (by have:=nJ.out;simp;omega) eh.out ?_);intro v1 w7 o1 j6 vx rk;obtain⟨p1,n1,yS,rfl⟩:=aBi o1;have rz:=hid o1;have vf:=hid (aK j6 (aK vx rk));clear o1 j6 vx rk);go_meet;have zE:(w5.alloc (.cells #[bs K] 9)).grownBy w7 (Value.slice ph nh ch).ownBlock:=by
         obtain⟨⟨g1,g2,g3,g4,_⟩,g5,_⟩:=vf.out;exact⟨g1,g2,g3,g4,g5⟩
        exact⟨p1,n1,yS,jN++ [K],K::had,rfl,d9,hid (cB.out.rowG lM.out zE qc.out),rz,hid (λq o Z=>by
         rcases vf.out.2.2 with e | e
         ·rw[e];exact qc.out q o Z
         ·rw[e];intro e2;have:=aV e2;have:=cB.out.frLt q o Z;omega),hid (λx=>by simp only[rT,fY,List.not_mem_nil,or_false,jI.out x];exact Or.comm),hid (by rw[aT,dS];have:=nJ.out;omega)⟩
      ·have d4:(r.kind==4)=false:=aE.2 h4;have j5:mp=false:=by rw[<-ud.out];exact aG h4
       subst j5;have hz:=wq.out (λe=>h4 (by rw[<-e];exact(eq_of_beq n9.out).symm));have d9:Hid (fN txt V false had kk sr=(V kk r2.kf r2.kt sr,had)):=hid (by unfold fN;rw[if_neg e_,hz.1,hz.2]);have mr:Hid (jN.length<=kk+1):=hid (by have:=nJ.out;omega);clear h4 hz rC;go_wp2_with fail;go_meet;exact⟨ph,nh,ch,jN,had,rfl,d9,cv,iT,qc,jI,mr⟩
     case rest=>
      obtain⟨p2,n2,c9,dK,eW,rfl,d9,ed,mE,qk,r7,mr⟩:=hcut;obtain⟨Pr',kp,uD,mX⟩:=ed.out.hadP mE.out qk.out;have lj:=hid kp;have sN:=hid mX;have pK:=hid uD;obtain⟨z6,sv6,lv6,nv6,yp,oX⟩:=uD;obtain⟨g3,pJ,e9,_,I⟩:=oX.lineAt bi.out.2.2;subst e9;have lC:=oX.cells.1.2.2.1;rw[AP.out] at lC;have jp:=oX.lt;have b4:=I 4 _ a_ rfl;have b5:=I 5 _ a_ rfl;obtain⟨Q2,td⟩:=exQ<|V kk r2.kf r2.kt sr;have vm:Hid (∀w',YJ YQ Pr' w0 P txt sp sr 0 0 w'->Calls Tryz.prog 40 #[some P,kk,fQ, .agg #[r2.kf,r2.kt]] w' (eT YQ Pr' w0 P txt sp Q2)):=hid (λw' hj=>by have:=CV.out Pr' kk r2.kf r2.kt sr fQ w' hj bi.out.2.1 ji.out Aj;rw[td] at this;exact this);have ds:=vr.out kk r2.kf r2.kt sr ji.out bi.out.2.1;rw[td] at ds d9;clear oX yp kp mX I td iT qc jI nJ cv c1 c2 b0 b3 hPl mE ed;cases Q2 with
      | bad a er=>
       have h:=dw.out;rw[Gb d9.out] at h;have bx:Hid (YR.bad a er=R):=hid h;clear h ds;go_wp2_with fail;refine(vm.out _ D4).mono ?_;rintro e w7 ⟨⟨m',rfl⟩,hb⟩;have HF:=hid (hb.less lj.out);clear hb;exact bj
      | ok kid s2=>
       have ye:=trivial;exact qm
end Go.Proofs.YtfhjncbdgjlcoaaGreatDoor
