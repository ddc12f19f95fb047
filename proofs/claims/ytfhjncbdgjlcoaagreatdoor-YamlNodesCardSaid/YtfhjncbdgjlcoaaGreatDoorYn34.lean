import Derived.Test.YtfhjncbdgjlcoaaGreatDoorYn33
set_option linter.unusedVariables false
set_option linter.unusedSimpArgs false
set_option maxRecDepth 100000
set_option maxHeartbeats 8000000
namespace Go.Proofs.YtfhjncbdgjlcoaaGreatDoor
open Tryz
open Go.RowKit
open Go.Lib hiding intOf
section
variable {T:TypeId}{Pr:aO}{w0 w w':World}{P:Nat}{txt:aB}{sp:List (Nat×Nat)}{st:YS}{lines:List aS}{z:List YN}{tot:Nat}{a er:Int}{sv lv nv hv:Value}{n:Nat}{xs:List Value}
theorem YK.rowG (h:YK YQ Pr w0 P txt sp lines z tot a er sv lv nv w) (hr:w.ownsRow w0.heap.size 9 1 hv n xs) (hg:w.grownBy w' hv.ownBlock) (hp: ∀q o,Pr q=some o->hv.ownBlock≠some q):YK YQ Pr w0 P txt sp lines z tot a er sv lv nv w':=
 ⟨h.box_grown hr b_ hg,h.spr.kept hg (gW h.spr hr b_),h.lnr.kept hg (gW h.lnr hr b_),⟨h.nod.row.kept hg (gW h.nod.row hr b_),λy c=>(h.nod.kids y c).kept hg (gW (h.nod.kids y c) hr b_),h.nod.ak⟩,h.hB,h.ty,h.bel.grown hg h.bel.size (λq b=>(World.ownsRow.lt hr q b).1),λq o b=>⟨qU hg (h.fr q o b).1 (hp q o b),(h.fr q o b).2⟩⟩
theorem YJ.rowG (h:YJ YQ Pr w0 P txt sp st a er w) (hr:w.ownsRow w0.heap.size 9 1 hv n xs) (hg:w.grownBy w' hv.ownBlock) (hp: ∀q o,Pr q=some o->hv.ownBlock≠some q):YJ YQ Pr w0 P txt sp st a er w':=by
 obtain⟨z,sv,lv,nv,b,c⟩:=h;exact⟨z,sv,lv,nv,b,c.rowG hr hg hp⟩
theorem YJ.hadP (h:YJ YQ Pr w0 P txt sp st a er w) (hr:w.ownsRow w0.heap.size 9 1 hv n xs) (hp: ∀q o,Pr q=some o->hv.ownBlock≠some q): ∃Pr':aO,(∀q o,Pr q=some o->Pr' q=some o)/\YJ YQ Pr' w0 P txt sp st a er w/\ ∀st2 a2 e2 w2,YJ YQ Pr' w0 P txt sp st2 a2 e2 w2->w2.ownsRow w0.heap.size 9 1 hv n xs:=by
 rcases hr.2 with h1 | ⟨g,cap,ec,rfl,hB,hg,h3⟩
 .exact⟨Pr,λ_ _ Z=>Z,h,λ_ _ _ _ _=>⟨hr.1, .inl h1⟩⟩
 .have hn:Pr g=none:=by
   cases Z:Pr g with
   | none=>rfl
   | some o=>exact absurd rfl (hp g o Z)
  refine⟨Pr.put g (.cells ec 9 (0,0)),aO.put_lessN hn,?_,λ_ _ _ w2 h2=>⟨hr.1, .inr ⟨g,cap,ec,rfl,hB,h2.at_ (aO.put_eq _ _ _),h3⟩⟩⟩;obtain⟨z,sv,lv,nv,e1,h⟩:=h;refine⟨z,sv,lv,nv,e1,h.box,h.spr,h.lnr,h.nod,h.hB,h.ty,h.bel,λk o' hk=>?_⟩;by_cases hkb:k=g
  .subst hkb;rw[aO.put_eq] at hk;obtain rfl:=bA hk;have key: ∀ {v:Value}{e:TypeId}{s n:Nat}{xs:List Value},w.ownsRow w0.heap.size e s v n xs->e≠9->v.ownBlock≠some k:=λkN he e=>by
    rcases dG kN hg he with h1 | h1
    .rw[h1] at e;cases e
    .exact h1 e
   refine⟨hg,λe=>?_,key h.lnr b_,key h.nod.row b_,λy hy=>key (h.nod.kids y hy) b_⟩;have hb:=h.box;rw[<-e,hg] at hb;exact gr
  .rw[aO.put_ne _ _ hkb] at hk;exact h.fr k o' hk
end
theorem aCa {w:World}{X:Nat}{a0 a1 a2 a3 a4 a5 a6 a7 a8 b0:Value}{t:TypeId} (h:w.heap[X]?=some (.cells #[a0,a1,a2,a3,a4,a5,a6,a7,a8] t)):(w.setCell ⟨X,0,none⟩ b0).heap[X]?=some (.cells #[b0,a1,a2,a3,a4,a5,a6,a7,a8] t):=aj
def nQ:YR->Int
 | .ok n _=>n
 | .bad _ _=>0
def bQ:YR->Bool
 | .ok _ _=>true
 | .bad _ _=>false
def oQ (Pr:aO) (w0:World) (P:Nat) (txt:aB) (sp:List (Nat×Nat)) (R:YR) (w:World):Prop:=match R with
 | .ok _ st=>YJ YQ Pr w0 P txt sp st 0 0 w
 | .bad a er=>gH YQ Pr w0 P txt sp a er w
theorem sH.to {Pr:aO}{w0:World}{P:Nat}{txt:aB}{sp:List (Nat×Nat)}{R:YR}{e:Ending}{w:World} (h:sH YQ Pr w0 P txt sp R e w):e= .returned (.tuple #[(nQ R),(bQ R)])/\oQ Pr w0 P txt sp R w:=by
 cases R with
 | ok n st=>exact h
 | bad a er=>exact h
theorem oQ.toE {Pr:aO}{w0:World}{P:Nat}{txt:aB}{sp:List (Nat×Nat)}{R:YR}{w:World} (h:oQ Pr w0 P txt sp R w):fG YQ Pr w0 P txt sp R (.returned (.tuple #[(nQ R),(bQ R)])) w:=by
 cases R with
 | ok n st=>exact⟨rfl,h⟩
 | bad a er=>exact⟨⟨_,rfl⟩,h⟩
theorem oQ.less {Pr Pr':aO}{w0:World}{P:Nat}{txt:aB}{sp:List (Nat×Nat)}{R:YR}{w:World} (h:oQ Pr w0 P txt sp R w) (hp: ∀k o,Pr' k=some o->Pr k=some o):oQ Pr' w0 P txt sp R w:=by
 cases R with
 | ok n st=>exact YJ.less h hp
 | bad a er=>exact gH.less h hp
theorem Gv {B:Nat}{l:List aB}{v:Value}{w:World} (h:bZ B l v w): ∃p c,v= .slice p l.length c:=by
 rcases h.2 with⟨h0,h1⟩ | ⟨g,cap,ec,h1,_⟩
 .exact bi
 .exact bn
theorem aCb {B:Nat}{l:List aB}{v:Value}{w:World} (h:bZ B l v w): ∃p n c,v= .slice p n c:=by
 obtain⟨p,c,e⟩:=Gv h;exact⟨p,_,c,e⟩
theorem aCc {B:Nat}{l:List aB}{p:Option Addr}{n c:Nat}{w:World} (h:bZ B l (.slice p n c) w):n=l.length:=by
 obtain⟨_,_,e⟩:=Gv h;exact(Value.slice.inj e).2.1
theorem aCd {B:Nat}{l:List aB}{v:Value}{w:World} (h:bZ B l v w):Oy w v l:=by
 obtain⟨p,c,rfl⟩:=Gv h;refine⟨p,c,rfl,λj x b=>?_⟩;have hl:=(aW.1 b).1;obtain⟨g,cap,e,_,_⟩:=World.ownsRow.form h a_;obtain rfl:=(Value.slice.inj e).1;have:=World.ownsRow.cells h (g:=g) rfl j (.string (bs x)) (by unfold jG;rw[cF,b];rfl);rw[tA,Nat.zero_add] at this;exact⟨g,rfl,this⟩
theorem aCe {w:World}{K:Nat}{x:aB} (h:w.heap[K]?=some (.cells #[bs x] 9)):SV w (.slice (some ⟨K,0,none⟩) 1 1) [x]:=
 ⟨_,1,rfl,aF _, .inr ⟨K,0,rfl,aG h,λj y b=>by
  cases j with
  | zero=>
   obtain rfl:x=y:=JW;simp[World.cell?,h]
  | succ j=>simp at b⟩⟩
theorem aCf {s:aB}{V:YB}{had:List aB}{k:Nat}{st:YS}{K:aB}{er:Int} (hK:jW (dQ s (aU st.lines k).kf (aU st.lines k).kt)=(K,er)) (h:er≠0):eM s V true had k st=(.bad (aU st.lines k).kf er,had):=by
 unfold eM;simp only[hK,if_true];rw[if_pos h]
theorem aCg {s:aB}{V:YB}{had:List aB}{k:Nat}{st:YS}{K:aB}{er:Int} (hK:jW (dQ s (aU st.lines k).kf (aU st.lines k).kt)=(K,er)) (h:er=0) (hm:K∈had):eM s V true had k st=(.bad (aU st.lines k).kf 7,had):=by
 unfold eM;simp only[hK,if_true];rw[if_neg s',if_pos hm]
theorem aCh {s:aB}{V:YB}{had:List aB}{k:Nat}{st:YS}{K:aB}{er:Int} (hK:jW (dQ s (aU st.lines k).kf (aU st.lines k).kt)=(K,er)) (h:er=0) (hm:K ∉ had):eM s V true had k st=(V k (aU st.lines k).kf (aU st.lines k).kt st,K::had):=by
 unfold eM;simp only[hK,if_true];rw[if_neg s',if_neg hm]
theorem Gw {s:aB}{sp:List (Nat×Nat)}{V:YB}{mp:Bool}{n:Nat}{ind a e:Int}{had had2:List aB}{k:Nat}{st:YS} (h:eM s V mp had k st=(.bad a e,had2)):fW s sp V mp n ind had k st= .bad a e:=by
 unfold fW;rw[h]
theorem aCi {s:aB}{sp:List (Nat×Nat)}{V:YB}{mp:Bool}{n:Nat}{ind a e:Int}{had had2:List aB}{k kid:Nat}{st s2:YS} (h:eM s V mp had k st=(.ok kid s2,had2)) (hn:eX s sp (fF s2.nodes kid) s2.lines= .bad a e):fW s sp V mp n ind had k st= .bad a e:=by
 unfold fW;rw[h];simp only[hn]
theorem Pe {s:aB}{sp:List (Nat×Nat)}{V:YB}{mp:Bool}{n:Nat}{ind:Int}{had had2:List aB}{k kid nx:Nat}{st s2:YS}{ls:List aS} (h:eM s V mp had k st=(.ok kid s2,had2)) (hn:eX s sp (fF s2.nodes kid) s2.lines= .ok nx ls) (hc: ¬(nx<sp.length/\ind<(aU ls nx).ind)):fW s sp V mp n ind had k st= .ok nx ⟨ls,iC n kid s2.nodes,s2.total⟩ had2:=by
 unfold fW;rw[h];simp only[hn];rw[if_neg hc]
theorem aCj {s:aB}{sp:List (Nat×Nat)}{V:YB}{mp:Bool}{n:Nat}{ind:Int}{had had2:List aB}{k kid nx:Nat}{st s2:YS}{ls:List aS} (h:eM s V mp had k st=(.ok kid s2,had2)) (hn:eX s sp (fF s2.nodes kid) s2.lines= .ok nx ls) (hc:nx<sp.length/\ind<(aU ls nx).ind):fW s sp V mp n ind had k st= .bad (((lY sp nx).1:Int)+(aU ls nx).ind) 2:=by
 unfold fW;rw[h];simp only[hn];rw[if_pos hc]
def Gx (w0:World) (P:Nat) (txt:aB) (sp:List (Nat×Nat)) (V:YB) (mp:Bool) (Pr:aO) (nn:Nat) (ind kind:Int) (R:YR) (k:Nat) (hv:Value) (w:World):Prop:=
 ∃f had hm sr,jM txt sp V mp nn ind kind f had k sr=R/\YJ YQ Pr w0 P txt sp sr 0 0 w/\bZ w0.heap.size hm hv w/\(∀q o,Pr q=some o->hv.ownBlock≠some q)/\(∀x,x∈hm↔x∈had)/\hm.length<=k/\dR txt sp sr/\(k<sp.length->k+1=sr.lines.length)/\sp.length<=k+f/\ ∃x,sr.nodes[nn]?=some x/\x.ind=ind/\x.kids.length+nn<sr.nodes.length
def PhS (W0:World) (A:Addr) (v:Value):Nat->Value->World->Prop
 | 0,_,w'=>Below W0.heap.size W0 w'
 | _,_,w'=> ∃w3,Below W0.heap.size W0 w3/\w'=w3.setCell A v
def Pf (W0:World) (v:Value) (O:World->Prop):Nat->Value->World->Prop
 | 0,_,w'=>Below W0.heap.size W0 w'
 | _,c,w'=>c=v/\O w'
theorem aCl (w0:World) (P:Nat) (txt:aB) (sp:List (Nat×Nat)) (hsp0:dV txt sp) (hs:txt.length<=65536) (hn:sp.length<=131072) (hV:bV w0) (HRd:Hid qB) (HKy:Hid qC) (lv:Nat) (hlv:lv<=32) (V:YB) (hVG:lv≠0->gS txt sp V) (IH: ∀m,lv=m+1->xA 40 w0 P txt sp V m) (Pr:aO) (k:Nat) (kf kt:Int) (st:YS) (lev:Int) (w:World) (h:YJ YQ Pr w0 P txt sp st 0 0 w) (hk1l:k+1=st.lines.length) (hw:dR txt sp st) (hl:Hid (lev=33-(lv:Int))):
  Calls prog 21 #[some P,k,lev, .agg #[kf,kt]] w (fG YQ Pr w0 P txt sp (kZ txt sp V lv k kf kt st)):=by
 have hkl:k<st.lines.length:=a_
 obtain⟨R,I⟩:=exQ<|kZ txt sp V lv k kf kt st;rw[I];unfold kZ at I;have bO:=kO hkl;obtain⟨r,hr⟩:=exQ<|aU st.lines k;have fQ:=hw.ls.2 k hkl;have fR:k<sp.length:=by have:=hw.ls.1;omega
 have r5:=hid (fun(Pr':aO) w' hj=>Gc (Pr:=Pr') (w0:=w0) (P:=P) (txt:=txt) (sp:=sp) (st:=st) (a0:=0) (e0:=0) k w' hj fR hkl fQ hs);have jX:wL sp st k=((lY sp k).1:Int)+r.ind:=by unfold wL;rw[hr]
 have mS:=fQ.oth;rw[hr] at bO fQ mS;simp only[hr] at I r5;obtain⟨bg,uj⟩:=exQ<|((lY sp k).1:Int)+r.ind;rw[uj] at r5 jX mS;rw[jX] at I;have b1:=aL w (.cells #[kf,kt] 42);have eO:=heap_alloc_new w (.cells #[kf,kt] 42);have eC:=h.put b1 (aF _) eO;have fD: ∀q o,Pr q=some o->(Pr.put w.heap.size (.cells #[kf,kt] 42)) q=some o:=aO.put_less (λq o Z=>h.frLt q o Z) (aF _);obtain⟨X1,gy⟩:=exQ<|w.heap.size;obtain⟨W1,bp⟩:=exQ<|w.alloc (.cells #[kf,kt] 42);rw[bp] at eO eC;rw[gy] at eO eC fD;have gZ:=hid (aO.put_eq Pr X1 (.cells #[kf,kt] 42));obtain⟨jx,tE⟩: ∃jx:aO,Pr.put X1 (.cells #[kf,kt] 42)=jx:=⟨_,rfl⟩;rw[tE] at eC fD gZ;have lG:=hid eC;have sR:=hid fD;obtain⟨n,ep⟩:=exQ<|st.lines.length;obtain⟨z,sv,lvv,nv,hz,hK⟩:=eC;obtain⟨gl,cl,e9,_,L⟩:=hK.lineAt bO;subst e9;obtain⟨⟨_,_,c2,_⟩,_⟩:=hK.cells;have hPl:=hK.lt;have g0:=L 0 _ a_ rfl;have g3:=L 3 _ a_ rfl;simp only[Nat.add_zero] at g0;rw[ep] at c2;have gX:(0:Int)<=(k:Int):=a_
 have gm:(k:Int)<(n:Int):=a_
 have HR:=hid I;have HW:=hid hw;have dw:=hid hk1l;have dz:=hid hsp0;have xu:=hid hr;have ud:=hid mS;clear hK hz L eO b1 fD I hw bO h hk1l hr fQ tE mS jX uj hkl;go_in;by_cases h5:r.kind=5
 .have d5:(r.kind==5)=true:=by rw[h5];rfl
  have I:=HR.out;rw[if_pos h5] at I;obtain⟨Q,hQ⟩:=exQ<|iB txt lv k kf kt st;rw[hQ] at I;have cf:Hid (Q=R):=hid I;go_upto_region 4 with fail;clear bp gy c2 g0 g3 hPl;obtain⟨W0,al⟩:=exQ<|W1.drew;have cg:=lG.out.keep (aD _ W1).drew;rw[al] at cg;have bT:=hid cg;obtain⟨iO,eE⟩: ∃O:World->Prop,(λw'=>oQ jx w0 P txt sp Q w')=O:=⟨_,rfl⟩;obtain⟨nq,mn⟩:=exQ<|nQ Q;obtain⟨bq,ma⟩:=exQ<|bQ Q;have CA:Hid (∀w',YJ YQ jx w0 P txt sp st 0 0 w'->Calls prog 37 #[some P,k,lev, .agg #[kf,kt],bg] w' λe w2=>e= .returned (.tuple #[nq,bq])/\iO w2):=hid (λw' hj=>by have:=(Cj k kf kt lv lev w' hj G4 HW.out hl hlv dz.out hs hn hV HRd.out).mono (λe w2 hE=>hE.to);rw[hQ,xu.out,ud.out h5,mn,ma] at this;rw[<-eE];exact this);have CB:Hid (∀w',YJ YQ jx w0 P txt sp st 0 0 w'->Calls prog 23 #[some P,k] w' (aT w' (.int .i64 bg))):=hid (λw' hj=>by have:=r5.out jx w' hj;exact this);obtain⟨SA,ak⟩: ∃S:World->Prop,(λw'=>w'.cell? (X1,0)=some (.int .i64 kf)/\w'.cell? (X1,1)=some (.int .i64 kt))=S:=⟨_,rfl⟩;have am:Hid (∀w',aA W0 w'->SA w'):=hid (λw' hb=>by rw[<-ak];exact jY ((bT.out.keep hb).at_ gZ.out));have jB:=hid (aK mn ma);clear I hQ cg mn ma h5;refine iV [40,41,42,43,44,45,46,47,48,49,8,9] [] [7] 1000000 (λ_ _=>True) 207 [some P,k,lev, .agg #[kf,kt],some P,k,bg, .tuple #[nq,bq],nq,bq,nq,bq] SA (Pf W0 (.tuple #[nq,bq]) iO) [6,7,8,9,0,1,2,4,5,10,11,3] j_ i_ ?_ ?_
  .have SE:=trivial;exact P4
  intro v wz bf eg;obtain⟨_,hO⟩:=eg;have hv:=Bv bf [(10,8),(11,9)] b_;dsimp only[yQ,lk] at hv;rw[<-eE] at hO;have HF:=hid ((show oQ jx w0 P txt sp Q wz from hO).less sR.out).toE;rw[jB.out.1,jB.out.2] at HF;clear bf hO ak am;simp only[cU,cY,cQ,cZ,hv];go_wp2;go_ret2;rw[<-cf.out];exact HF.out
 .have d5:(r.kind==5)=false:=aI.2 h5;have I:=HR.out;rw[if_neg h5] at I;have kE:=hid I;obtain⟨X3,fB⟩:=exQ<|W1.heap.size;have b3:=aL W1 (.cells #[(2:Int),r.ind,k,(0:Int),kf,kt,(0:Int),(0:Int),()] 45);have fL:=heap_alloc_new W1 (.cells #[(2:Int),r.ind,k,(0:Int),kf,kt,(0:Int),(0:Int),()] 45);obtain⟨W3,a6⟩:=exQ<|W1.alloc (.cells #[(2:Int),r.ind,k,(0:Int),kf,kt,(0:Int),(0:Int),()] 45);rw[a6] at b3 fL;rw[fB] at fL;have ax:=hid b3;have em:=hid fL;have ru:=hid a6;have lu:=hid fB;obtain⟨y0,y1⟩:=jY (lG.out.at_ gZ.out);clear I b3 fL a6 HR ud;go_upto_region 5 with fail;clear bp gy c2 g0 g3 hPl;go_upto_region 6 with fail;rw[ru.out];clear fB y0 y1;obtain⟨z0,_,_,_,_,_,_,_,_,f0,_⟩:=Gh em.out;go_upto_if 55 with fail;go_cut [54,55,56] (λvA vx vU wx=> ∃kd:Nat,Hid (kd=if r.kind=4 then 3 else 2)/\Hid (aA W1 wx/\wx.heap[X3]?=some (.cells #[kd,r.ind,k,(0:Int),kf,kt,(0:Int),(0:Int),()] 45)))
  case first=>
   by_cases h4:r.kind=4
   .have d4:(r.kind==4)=true:=by rw[h4];rfl
    have su:Hid (3=if r.kind=4 then 3 else 2):=hid (by rw[if_pos h4]);have BL:=hid (ax.out.setCell (p:=⟨X3,0,none⟩) (mP lu.out) (.int .i64 3));clear h4;go_wp2;go_meet;exact⟨3,su,hid ⟨BL.out,aCa em.out⟩⟩
   .have d4:(r.kind==4)=false:=aI.2 h4;have su:Hid (2=if r.kind=4 then 3 else 2):=hid (by rw[if_neg h4]);clear h4;go_wp2;go_meet;exact⟨2,su,hid ⟨ax.out,em.out⟩⟩
  case rest=>
   obtain⟨kd,gt,bN⟩:=hcut;clear ax em ru z0 f0;go_upto_region 8 with fail;obtain⟨W0,al⟩:=exQ<|wc.drew;have xh:W0.heap[X3]?=some (.cells #[kd,r.ind,k,(0:Int),kf,kt,(0:Int),(0:Int),()] 45):=by rw[<-al];exact bN.out.2
   have cg:=lG.out.put (bN.out.1.drew) (mP lu.out) (by rw[al];exact xh);rw[al] at cg;have od:=aO.put_eq jx X3 (.cells #[kd,r.ind,k,(0:Int),kf,kt,(0:Int),(0:Int),()] 45);have lS: ∀q o,Pr q=some o->(jx.put X3 (.cells #[kd,r.ind,k,(0:Int),kf,kt,(0:Int),(0:Int),()] 45)) q=some o:=λq o Z=>aO.put_less (λq o' Z=>lG.out.frLt q o' Z) (mP lu.out) q o (sR.out q o Z);obtain⟨a7,dX⟩: ∃a7:aO,jx.put X3 (.cells #[kd,r.ind,k,(0:Int),kf,kt,(0:Int),(0:Int),()] 45)=a7:=⟨_,rfl⟩;rw[dX] at cg od lS;have bT:=hid cg;have gP:=hid od;have wY:=hid lS;obtain⟨Q,hQ⟩:=exQ<|gC ⟨kd,r.ind,k,0,kf,kt,0,0,[]⟩ lv bg st;obtain⟨iO,eE⟩: ∃O:World->Prop,(λw'=>oQ a7 w0 P txt sp Q w')=O:=⟨_,rfl⟩;obtain⟨nq,mn⟩:=exQ<|nQ Q;obtain⟨bq,ma⟩:=exQ<|bQ Q;have CA:Hid (∀w',YJ YQ a7 w0 P txt sp st 0 0 w'->Calls prog 38 #[some P, .agg #[kd,r.ind,k,(0:Int),kf,kt,(0:Int),(0:Int),()],lev,bg] w' λe w2=>e= .returned (.tuple #[nq,bq])/\iO w2):=hid (λw' hj=>by have:=(Gd (Pr:=a7) ⟨kd,r.ind,k,0,kf,kt,0,0,[]⟩ lv lev bg w' hj rfl hl hlv (by have:=HW.out.tot;omega)).mono (λe w2 hE=>hE.to);rw[hQ,mn,ma] at this;rw[<-eE];exact this);have CB:Hid (∀w',YJ YQ a7 w0 P txt sp st 0 0 w'->Calls prog 23 #[some P,k] w' (aT w' (.int .i64 bg))):=hid (λw' hj=>r5.out a7 w' hj);obtain⟨SA,ak⟩: ∃S:World->Prop,(λw'=>w'.cell? (X3,0)=some (.int .i64 (kd:Int))/\w'.cell? (X3,1)=some (.int .i64 r.ind)/\w'.cell? (X3,2)=some (.int .i64 (k:Int))/\w'.cell? (X3,3)=some (.int .i64 0)/\w'.cell? (X3,4)=some (.int .i64 kf)/\w'.cell? (X3,5)=some (.int .i64 kt)/\w'.cell? (X3,6)=some (.int .i64 0)/\w'.cell? (X3,7)=some (.int .i64 0)/\w'.cell? (X3,8)=some (.slice none 0 0))=S:=⟨_,rfl⟩;have am:Hid (∀w',aA W0 w'->SA w'):=hid (λw' hb=>by rw[<-ak];exact kD ((bT.out.keep hb).at_ gP.out));have jB:=hid (aK mn ma);have HQ:=hid hQ;clear cg od lS dX hQ mn ma xh h5;refine iV [58,59,60,61,62,63,64,57,65,66,13,14] [] [6] 1000000 (λ_ _=>True) 207 [some P, .agg #[kd,r.ind,k,(0:Int),kf,kt,(0:Int),(0:Int),()],lev,some P,k,bg, .tuple #[nq,bq], .tuple #[nq,bq],nq,bq,nq,bq] SA (Pf W0 (.tuple #[nq,bq]) iO) [5,6,7,0,2,3,4,8,9,10,11,1] j_ i_ ?_ ?_
   .exact P4
   intro v wz bf eg;obtain⟨_,hO⟩:=eg;have hv:=Bv bf [(10,13),(11,14)] b_;dsimp only[yQ,lk] at hv;rw[<-eE] at hO;have HO:Hid (oQ Pr w0 P txt sp Q wz):=hid ((show oQ a7 w0 P txt sp Q wz from hO).less wY.out);have I:=kE.out;rw[<-gt.out,HQ.out] at I;have bw:=hid I;clear bf hO ak am CA CB al eE kE bT gP wY I bN;simp only[cU,cY,cQ,cZ,hv];clear hv;cases Q with
   | bad a er=>
    have e1:(nq:Int)=0:=jB.out.1.symm;have e2:bq=false:=jB.out.2.symm;subst e1 e2;have HF:Hid (gH YQ Pr w0 P txt sp a er wz):=HO;have cf:Hid (YR.bad a er=R):=bw;exact ay
   | ok nn s1=>
    obtain⟨e1,e2,kn,oP⟩:=mC HQ.out;subst e2;have e3:nq=(nn:Int):=jB.out.1.symm;have e4:bq=true:=jB.out.2.symm;subst e3 e4;have I:=bw.out;simp only[] at I;have hj:YJ YQ Pr w0 P txt sp ⟨st.lines,st.nodes++ [⟨kd,r.ind,k,0,kf,kt,0,0,[]⟩],st.total+1⟩ 0 0 wz:=HO.out;obtain⟨m,hm⟩: ∃m,lv=m+1:=⟨lv-1,a_⟩;obtain⟨mp,mz⟩:=exQ<|decide (r.kind=4);rw[mz] at I;have ra:Hid (Gx w0 P txt sp V mp Pr nn r.ind r.kind R k (.slice none 0 0) wz):=hid ⟨sp.length-k,[],[],_,I,hj,bZ.nil _ _,(λq o _ h=>by cases h),(λ_=>Iff.rfl),cI _,⟨HW.out.ls,by have:=HW.out.tot;simp only[aZ,dF];omega⟩,λ_=>dw.out,a_,_,by simp only[];rw[e1,lR (aF _),Nat.sub_self];rfl,rfl,by simp only[aZ,dF,lQ];omega⟩;have Al:=hid mz;have HM:=hid hm;obtain⟨ie,qS⟩:=exQ<|lev+1;have sx:IntKind.i64.wrap ie=ie:=by rw[IntKind.wrap_i64];have:=hl.out;omega
    have B9:Hid (ie=33-(m:Int)):=hid G5;have zr:=hid (hVG kn);have CV:=hid (IH m hm);clear I hj e1 oP bw HO HQ jB gt mz hm;go_wp2;go_loopw [1,15] (λs1 k8 wr=> ∃(kk:Nat) (ph:Option Addr) (nh ch:Nat),s1= .int .i64 (kk:Int)/\k8= .slice ph nh ch/\kk<=sp.length/\Hid (Gx w0 P txt sp V mp Pr nn r.ind r.kind R kk (.slice ph nh ch) wr)) (λs1 _ _=>sp.length+1-(RowKit.intOf s1).toNat)
    case atStart=>exact⟨k,none,0,0,rfl,rfl,a_,ra⟩
    case round=>
     clear ra dw HW gX gm fR;obtain⟨kk,ph,nh,ch,rfl,rfl,hkk,HL⟩:=hrel;obtain⟨f,had,lF,sr,oO,qN,bx,zs,tc,hml,qA,mb,aa,x,hx,hxi,fZ⟩:=HL.out;have vi:(0:Int)<=(kk:Int):=a_;have jE:=hid oO;have dI:=hid qN;have j6:=hid bx;have sj:=hid zs;have li:=hid tc;have oU:=hid hml;have kC:=hid qA;have zv:=hid aa;have HX:=hid (aK hx (aK hxi fZ));obtain⟨z5,xP,vJ,As,sE,gv⟩:=qN;obtain⟨ps,cs,rfl⟩:=gv.spSlice;have c1:=gv.cells.1.2.1;have hPl:=gv.lt;clear oO bx zs tc hml qA aa hx hxi fZ HL;by_cases bc:kk<sp.length;rotate_left
     .have d1:decide ((kk:Int)<(sp.length:Int))=false:=aJ a_;have j3:decide (kk<sp.length)=false:=aJ bc;clear gv sE mb;have cD:=jE.out;rw[wX (λh=>bc h.1)] at cD;exact fm
     have hk1l:=mb bc;have d1:decide ((kk:Int)<(sp.length:Int))=true:=aQ a_;have j3:decide (kk<sp.length)=true:=aQ bc;have cL:=kO (show kk<sr.lines.length by omega);have pt:=kC.out.ls.2 kk a_;obtain⟨r2,kN⟩:=exQ<|aU sr.lines kk;rw[kN] at cL pt;obtain⟨g2,dD,e9,_,L⟩:=gv.lineAt cL;subst e9;have c2:=gv.cells.1.2.2.1;obtain⟨m2,eJ⟩:=exQ<|sr.lines.length;rw[eJ] at c2;have fh:(kk:Int)<(m2:Int):=a_;have b0:=L 0 _ a_ rfl;have b3:=L 3 _ a_ rfl;simp only[Nat.add_zero] at b0;obtain⟨t1,sS⟩:=exQ (r2.ind==r.ind);obtain⟨t2,ks⟩:=exQ (r2.kind==r.kind);have yp:=hid sS;have oh:=hid ks;have bw:=hid (aK kN (aK hk1l cL));have wG:=hid pt.itm;have B2:=hid eJ;have lE:=hid bc;clear gv sE mb hk1l cL pt kN L eJ;cases t1 with
     | false=>
      have cD:=jE.out;rw[wX (λh=>by have h1:=yp.out;rw[aI] at h1;exact h1 (by rw[<-bw.out.1];exact h.2.1))] at cD;exact fm
     | true=>
     cases t2 with
     | false=>
      have cD:=jE.out;rw[wX (λh=>by have h1:=oh.out;rw[aI] at h1;exact h1 (by rw[<-bw.out.1];exact h.2.2))] at cD;exact fm
     | true=>
     obtain⟨f1,mi⟩: ∃f1,f=f1+1:=⟨f-1,by have:=zv.out;omega⟩;subst mi;have cD:=jE.out;unfold jM at cD;rw[if_pos ⟨bc,by rw[bw.out.1];exact eq_of_beq yp.out,by rw[bw.out.1];exact eq_of_beq oh.out⟩] at cD;have eG:=hid cD;clear cD jE bc;go_upto_if 101 with fail;go_cut [15,16,17,102,103,104,105,106,107,108,109,110,111,112,113,114] (λk8 Ce BT s102 s103 s104 s105 s106 s107 s108 s109 s110 s111 s112 s113 s114 wx=> ∃(p2:Option Addr) (n2 c2:Nat) (eJ ge:List aB),k8= .slice p2 n2 c2/\Hid (eM txt V mp had kk sr=(V kk r2.kf r2.kt sr,ge))/\Hid (YJ YQ Pr w0 P txt sp sr 0 0 wx)/\Hid (bZ w0.heap.size eJ (.slice p2 n2 c2) wx)/\Hid (∀q o,Pr q=some o->(Value.slice p2 n2 c2).ownBlock≠some q)/\Hid (∀x,x∈eJ↔x∈ge)/\Hid (eJ.length<=kk+1))
     case first=>
      have uK:nh=lF.length:=aCc j6.out;by_cases h4:r.kind=4
      .have d4:(r.kind==4)=true:=by rw[h4];rfl
       have mz:mp=true:=by rw[<-Al.out];exact aQ h4
       subst mz;have vE:=hid (λw' hj hh=>aBN (Pr:=Pr) (w0:=w0) (P:=P) (txt:=txt) (sp:=sp) (st:=sr) kk (.slice ph nh ch) lF w' hj (by have:=bw.out.2.1;omega) kC.out hs hV HKy hh (by have:=oU.out;omega));simp only[bw.out.1] at vE;obtain⟨⟨K,er⟩,hK⟩:=exQ<|jW (dQ txt r2.kf r2.kt);rw[hK] at vE;have HK:=hid (show jW (dQ txt (aU sr.lines kk).kf (aU sr.lines kk).kt)=(K,er) by rw[bw.out.1];exact hK);have HNH:=hid uK;clear h4 hK uK;go_wp2_with fail;refine(vE.out _ E7 (aCd (by first | exact j6.out | exact iP j6.out (aD _ _).drew))).mono ?_;rintro e w5 hE;rcases hE with⟨h1,rfl,hb⟩ | ⟨h1,h2,rfl,hb⟩ | ⟨h1,h2,rfl,hb⟩
       .have h:=eG.out;rw[Gw (aCf HK.out h1),bw.out.1] at h;have HF:=hid hb;have cf:Hid (YR.bad r2.kf er=R):=hid h;clear hb h h1;exact ay
       .have h:=eG.out;rw[Gw (aCg HK.out h1 ((li.out K).1 h2)),bw.out.1] at h;have HF:=hid hb;have cf:Hid (YR.bad r2.kf 7=R):=hid h;clear hb h h1 h2;exact ay
       .have h:=aCh (V:=V) HK.out h1 (λe=>h2 ((li.out K).2 e));rw[bw.out.1] at h;have fa:=hid h;have ag:aA wr w5:=by first | exact hb | exact aE (aD _ _).drew hb
        have dA:=hid (dI.out.keep ag);have sO:=hid (show bZ w0.heap.size lF (.slice ph nh ch) w5 from iP j6.out ag);have ba:=aL w5 (.cells #[bs K] 9);have dx:=hid (dA.out.keep ba);have q9:=hid (show bZ w0.heap.size lF (.slice ph nh ch) (w5.alloc (.cells #[bs K] 9)) from iP sO.out ba);have rI:=hid (heap_alloc_new w5 (.cells #[bs K] 9));have dq:=hid (show w0.heap.size<=(w5.alloc (.cells #[bs K] 9)).heap.size from dx.out.bel.size);clear hb ag h h1 h2 ba;go_wp2_with (at_builtin;go_must (refine Uf DS (.tmp 111) (.tmp 113) rfl w0.heap.size (w5.alloc (.cells #[bs K] 9)) (.slice ph nh ch) lF [K] rfl q9.out (.slice (some ⟨w5.heap.size,0,none⟩) 1 1) rfl (aCe rI.out) (by have:=oU.out;simp;omega) dq.out ?_);intro v1 w7 o1 j4 xi tT;obtain⟨p1,n1,zN,rfl⟩:=aCb o1;have uy:=hid o1;have yB:=hid (aK j4 (aK xi tT));clear o1 j4 xi tT);go_meet;have BG:(w5.alloc (.cells #[bs K] 9)).grownBy w7 (Value.slice ph nh ch).ownBlock:=by
         obtain⟨⟨g1,g2,g3,g4,_⟩,g5,_⟩:=yB.out;exact⟨g1,g2,g3,g4,g5⟩
        exact⟨p1,n1,zN,lF++ [K],K::had,rfl,fa,hid (dx.out.rowG q9.out BG sj.out),uy,hid (λq o Z=>by
         rcases yB.out.2.2 with e | e
         .rw[e];exact sj.out q o Z
         .rw[e];intro e2;have:=bA e2;have:=dx.out.frLt q o Z;omega),hid (λx=>by simp only[pO,fT,List.not_mem_nil,or_false,li.out x];exact Or.comm),hid (by rw[aZ,dF];have:=oU.out;omega)⟩
      .have d4:(r.kind==4)=false:=aI.2 h4;have mz:mp=false:=by rw[<-Al.out];exact aJ h4
       subst mz;have hz:=wG.out (λe=>h4 (by rw[<-e];exact(eq_of_beq oh.out).symm));have fa:Hid (eM txt V false had kk sr=(V kk r2.kf r2.kt sr,had)):=hid (by unfold eM;rw[if_neg e_,hz.1,hz.2]);have qw:Hid (lF.length<=kk+1):=hid (by have:=oU.out;omega);clear h4 hz uK;go_wp2;go_meet;exact⟨ph,nh,ch,lF,had,rfl,fa,dI,j6,sj,li,qw⟩
     case rest=>
      obtain⟨p2,n2,c9,eJ,ge,rfl,fa,fo,o7,tf,uP,qw⟩:=hcut;obtain⟨Pr',lV,yc,qG⟩:=fo.out.hadP o7.out tf.out;have nU:=hid lV;have vM:=hid qG;have sJ:=hid yc;obtain⟨z6,sv6,lv6,nv6,BS,rq⟩:=yc;obtain⟨g3,sL,e9,_,L⟩:=rq.lineAt bw.out.2.2;subst e9;have mj:=rq.cells.1.2.2.1;rw[B2.out] at mj;have lq:=rq.lt;have b4:=L 4 _ a_ rfl;have b5:=L 5 _ a_ rfl;obtain⟨Q2,vB⟩:=exQ<|V kk r2.kf r2.kt sr;have zd:Hid (∀w',YJ YQ Pr' w0 P txt sp sr 0 0 w'->Calls prog 40 #[some P,kk,ie, .agg #[r2.kf,r2.kt]] w' (fG YQ Pr' w0 P txt sp Q2)):=hid (λw' hj=>by have:=CV.out Pr' kk r2.kf r2.kt sr ie w' hj bw.out.2.1 kC.out B9;rw[vB] at this;exact this);have en:=zr.out kk r2.kf r2.kt sr kC.out bw.out.2.1;rw[vB] at en fa;clear rq BS lV qG L vB j6 sj li oU dI c1 c2 b0 b3 hPl o7 fo;cases Q2 with
      | bad a er=>
       have h:=eG.out;rw[Gw fa.out] at h;have cf:Hid (YR.bad a er=R):=hid h;clear h en;go_wp2_with fail;refine(zd.out _ GK).mono ?_;rintro e w7 ⟨⟨m',rfl⟩,hb⟩;have HF:=hid (hb.less nU.out);clear hb;exact ay
      | ok kid s2=>
       have RO:=trivial;exact PQ
end Go.Proofs.YtfhjncbdgjlcoaaGreatDoor
