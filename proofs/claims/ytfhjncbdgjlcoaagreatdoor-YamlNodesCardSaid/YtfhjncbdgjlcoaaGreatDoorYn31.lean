import Derived.Test.YtfhjncbdgjlcoaaGreatDoorYn30
set_option linter.unusedVariables false
set_option linter.unusedSimpArgs false
set_option maxRecDepth 100000
set_option maxHeartbeats 8000000
namespace Go.Proofs.YtfhjncbdgjlcoaaGreatDoor
open Tryz
section
open Go.RowKit
open Go.Lib hiding intOf
def xA (f:Nat) (w0:World) (P:Nat) (txt:aB) (sp:List (Nat×Nat)) (B:YB) (lv:Nat):Prop:= ∀(Pr:aO) (k:Nat) (kf kt:Int) (st:YS) (lev:Int) (w:World),YJ YQ Pr w0 P txt sp st 0 0 w->k+1=st.lines.length->dR txt sp st->Hid (lev=33-(lv:Int))->
 Calls prog f #[some P,k,lev, .agg #[kf,kt]] w (fG YQ Pr w0 P txt sp (B k kf kt st))
def qB:Prop:= ∀(s:aB) w',s.length<=65536->bV w'->Calls prog 31 #[bs s] w' (pW (gQ s).1 (gQ s).2 w')
def qC:Prop:= ∀(s:aB) w',s.length<=65536->bV w'->Calls prog 33 #[bs s] w' λe w2=>e=mT (jW s)/\Below w'.heap.size w' w2
theorem aBL (w0:World) (P:Nat) (txt:aB) (sp:List (Nat×Nat)) (hsp0:dV txt sp) (hs:txt.length<=65536) (hn:sp.length<=131072) (hV:bV w0) (HRd:Hid qB) (lv:Nat) (hlv:lv<=32) (B:YB) (hBG:gS txt sp B) (IH:xA 21 w0 P txt sp B lv):xA 40 w0 P txt sp (mY txt sp B lv) lv:=by
 have QV:=trivial;exact PE
def Oy (w:World) (v:Value) (hm:List aB):Prop:= ∃p c,v= .slice p hm.length c/\ ∀j x,hm[j]?=some x-> ∃g,p=some ⟨g,0,none⟩/\w.cell? ⟨g,j,none⟩=some (.string (bs x))
def KOE (Pr:aO) (w0:World) (P:Nat) (txt:aB) (sp:List (Nat×Nat)) (w:World) (kr:aB×Int) (hm:List aB) (kf:Int) (e:Ending) (w':World):Prop:=
 (kr.2≠0/\e= .returned (.tuple #[.string ⟨#[]⟩,false])/\gH YQ Pr w0 P txt sp kf kr.2 w')\/(kr.2=0/\kr.1∈hm/\e= .returned (.tuple #[.string ⟨#[]⟩,false])/\gH YQ Pr w0 P txt sp kf 7 w')\/(kr.2=0/\kr.1 ∉ hm/\e= .returned (.tuple #[bs kr.1,true])/\Below w.heap.size w w')
theorem aBN {Pr:aO}{w0:World}{P:Nat}{txt:aB}{sp:List (Nat×Nat)}{st:YS} (k:Nat) (hv:Value) (hm:List aB) (w:World) (h:YJ YQ Pr w0 P txt sp st 0 0 w) (hkl:k<st.lines.length) (hw:dR txt sp st) (hs:txt.length<=65536) (hV:bV w0) (HKy:Hid qC) (hh:Oy w hv hm) (hml:hm.length<=131072):
  Calls prog 39 #[some P,k,hv] w (KOE Pr w0 P txt sp w (jW (dQ txt (aU st.lines k).kf (aU st.lines k).kt)) hm (aU st.lines k).kf):=by
 have Q5:=trivial;exact PH
end
section
open Go.RowKit Go.Maps Go.WideMaps
open Go.Lib hiding intOf
theorem yT {w:World}{B:Nat}{e:TypeId}{s:Nat}{v:Value}{n:Nat}{xs:List Value}{b:Nat}{es:Array MapEntry}{c:Nat} (h:w.ownsRow B e s v n xs) (hb:w.heap[b]?=some (.map es c)):v.ownBlock=none\/v.ownBlock≠some b:=by
 rcases h.2 with⟨rfl,_⟩ | ⟨g,cap,cur,rfl,_,f,_⟩
 .exact .inl rfl
 .right;intro e2;have d:g=b:=bA e2;subst d;rw[f] at hb;cases hb
section
variable {T:TypeId}{Pr:aO}{w0 w w':World}{P:Nat}{txt:aB}{sp:List (Nat×Nat)}{lines:List aS}{z:List YN}{tot:Nat}{a er:Int}{sv lv nv:Value}{st:YS}{b:Nat}
theorem YK.mapG (h:YK T Pr w0 P txt sp lines z tot a er sv lv nv w) {es:Array MapEntry}{c:Nat} (ho:w.heap[b]?=some (.map es c)) (hg:w.grownBy w' (some b)) (hb:w0.heap.size<=b) (hp:Pr b=none):YK T Pr w0 P txt sp lines z tot a er sv lv nv w':=by
 have f:P≠b:=λe=>by
  have:=h.box;rw[e,ho] at this;cases this
 refine⟨qU hg h.box (λe=>f (bA e).symm),h.spr.kept hg (yT h.spr ho),h.lnr.kept hg (yT h.lnr ho),⟨h.nod.row.kept hg (yT h.nod.row ho),λy g=>(h.nod.kids y g).kept hg (yT (h.nod.kids y g) ho),h.nod.ak⟩,h.hB,h.ty,h.bel.grown hg h.bel.size (λq d=>by have:=bA d;omega),λq o d=>?_⟩;obtain⟨f1,f2⟩:=h.fr q o d;exact⟨qU hg f1 (λe=>by have e2:=bA e;subst e2;rw[hp] at d;cases d),f2⟩
theorem YK.putMap (h:YK T Pr w0 P txt sp lines z tot a er sv lv nv w) {es:Array MapEntry}{c:Nat} (ho:w.heap[b]?=some (.map es c)):YK T (Pr.put b (.map es c)) w0 P txt sp lines z tot a er sv lv nv w:=by
 refine⟨h.box,h.spr,h.lnr,h.nod,h.hB,h.ty,h.bel,λk o' f=>?_⟩;by_cases hkb:k=b
 .subst hkb;rw[aO.put_eq] at f;obtain rfl:=bA f;have d: ∀ {v:Value}{e:TypeId}{s n:Nat}{xs:List Value},w.ownsRow w0.heap.size e s v n xs->v.ownBlock≠some k:=λj e=>by
   rcases yT j ho with g | g
   .rw[g] at e;cases e
   .exact g e
  refine⟨ho,λe=>?_,d h.lnr,d h.nod.row,λy i=>d (h.nod.kids y i)⟩;have:=h.box;rw[<-e,ho] at this;cases this
 .rw[aO.put_ne _ _ hkb] at f;exact h.fr k o' f
theorem YJ.mapG (h:YJ T Pr w0 P txt sp st a er w) {es:Array MapEntry}{c:Nat} (ho:w.heap[b]?=some (.map es c)) (hg:w.grownBy w' (some b)) (hb:w0.heap.size<=b) (hp:Pr b=none):YJ T Pr w0 P txt sp st a er w':=by
 obtain⟨z,sv,lv,nv,d,e⟩:=h;exact⟨z,sv,lv,nv,d,e.mapG ho hg hb hp⟩
theorem YJ.putMap (h:YJ T Pr w0 P txt sp st a er w) {es:Array MapEntry}{c:Nat} (ho:w.heap[b]?=some (.map es c)):YJ T (Pr.put b (.map es c)) w0 P txt sp st a er w:=by
 obtain⟨z,sv,lv,nv,d,e⟩:=h;exact⟨z,sv,lv,nv,d,e.putMap ho⟩
theorem aO.put_lessN {o:Obj} (hp:Pr b=none): ∀k o',Pr k=some o'->Pr.put b o k=some o':=λk o' c=>by
 rw[aO.put_ne _ _ (λe=>by subst e;rw[hp] at c;cases c)];exact c
end
theorem aBO (w0:World) (P:Nat) (txt:aB) (sp:List (Nat×Nat)) (V:YB) (lv:Nat) (IH:qZ 106 w0 P txt sp V lv) {Pr:aO}{st:YS} (k:Nat) (lev:Int) (w:World) (h:YJ YP Pr w0 P txt sp st 0 0 w) (hk:k+1=st.lines.length) (hw:dR txt sp st) (hl:Hid (lev=33-(lv:Int))):
  Calls prog 74 #[some P,k,lev] w (fG YP Pr w0 P txt sp (V k 0 0 st)):=by
 obtain⟨Q,hQ⟩:=exQ<|V k 0 0 st;have C:=hid (IH Pr k 0 0 st lev w h hk hw hl);rw[hQ] at C ⊢;clear hQ h hk hw;go_in;go_wp2_with fail;refine C.out.mono ?_;rintro e w7 hE;have HE:=hid hE;clear hE;cases Q with
 | bad a er=>
  obtain⟨⟨m,rfl⟩,ar⟩:=HE.out;have HF:=hid ar;clear ar HE;go_wp2;go_ret2;exact ai
 | ok nn sq=>
  obtain⟨rfl,ga⟩:=HE.out;have HF:=hid ga;clear ga HE;go_wp2;go_ret2;exact an
def Cm (Pr:aO) (w0:World) (P:Nat) (txt:aB) (sp:List (Nat×Nat)) (b:Nat) (R:YR×List aB) (e:Ending) (w':World):Prop:=match R.1 with
 | .ok n st=>e= .returned (.tuple #[n,true])/\YJ YP Pr w0 P txt sp st 0 0 w'/\HM b R.2 w'
 | .bad a er=>(∃m:Int,e= .returned (.tuple #[m,false]))/\gH YP Pr w0 P txt sp a er w'
theorem aBP (t:aB):(jW t).1.length<=4*t.length:=by
 unfold jW;split
 .simp
 .split
  .exact Oh _
  .split
   .exact am
   .simp
theorem aBQ (w0:World) (P:Nat) (txt:aB) (sp:List (Nat×Nat)) (hs:txt.length<=65536) (hV:bV w0) (V:YB) (lv:Nat) (IH:qZ 106 w0 P txt sp V lv) {Pr:aO}{st:YS} (k:Nat) (lev:Int) (b CX CY:Nat) (had:List aB) (w:World)
  (h:YJ YP Pr w0 P txt sp st 0 0 w) (hk:k+1=st.lines.length) (hw:dR txt sp st) (hl:Hid (lev=33-(lv:Int))) (hm:HM b had w) (hB:w0.heap.size<=b) (hpb:Pr b=none) (hhad:had.length<=131072)
  (hX:Pr CX=some (.cells #[some P] 64)) (hY:Pr CY=some (.cells #[.map (some b)] 124)):
  Calls prog 110 #[k,lev,some CX,some CY] w (Cm Pr w0 P txt sp b (eM txt V true had k st)):=by
 have Q0:=trivial;exact PH
end
end Go.Proofs.YtfhjncbdgjlcoaaGreatDoor
