import Derived.Test.YtfhjncbdgjlcoaaGreatDoorYa30
set_option maxRecDepth 100000
set_option maxHeartbeats 8000000
set_option linter.unusedVariables false
set_option linter.unusedSimpArgs false
namespace Go.Proofs.YtfhjncbdgjlcoaaGreatDoor
section
open Go.RowKit
open Go.Lib hiding intOf
def wN (f:Nat) (w0:World) (P:Nat) (txt:aA) (sp:List (Nat×Nat)) (B:YB) (lv:Nat):Prop:= ∀(Pr:aJ) (k:Nat) (kf kt:Int) (st:YS) (lev:Int) (w:World),YJ YQ Pr w0 P txt sp st 0 0 w->k+1=st.lines.length->eS txt sp st->Hid (lev=33-(lv:Int))->
 Calls Tryz.prog f #[some P,k,lev, .agg #[kf,kt]] w (eT YQ Pr w0 P txt sp (B k kf kt st))
def uW:Prop:= ∀(s:aA) w',s.length<=65536->bU w'->Calls Tryz.prog 31 #[bs s] w' (pS (iB s).1 (iB s).2 w')
def uX:Prop:= ∀(s:aA) w',s.length<=65536->bU w'->Calls Tryz.prog 33 #[bs s] w' λe w2=>e=mG (jM s)/\Below w'.heap.size w' w2
theorem aAS (w0:World) (P:Nat) (txt:aA) (sp:List (Nat×Nat)) (hsp0:eR txt sp) (hs:txt.length<=65536) (hn:sp.length<=131072) (hV:bU w0) (HRd:Hid uW) (lv:Nat) (hlv:lv<=32) (B:YB) (hBG:iV txt sp B) (IH:wN 21 w0 P txt sp B lv):wN 40 w0 P txt sp (qZ txt sp B lv) lv:=by
 have wi:=trivial;exact p7
def Ny (w:World) (v:Value) (hm:List aA):Prop:= ∃p c,v= .slice p hm.length c/\ ∀j x,hm[j]?=some x-> ∃g,p=some ⟨g,0,none⟩/\w.cell? ⟨g,j,none⟩=some (.string (bs x))
def KOE (Pr:aJ) (w0:World) (P:Nat) (txt:aA) (sp:List (Nat×Nat)) (w:World) (kr:aA×Int) (hm:List aA) (kf:Int) (e:Ending) (w':World):Prop:=
 (kr.2≠0/\e= .returned (.tuple #[.string ⟨#[]⟩,false])/\fS YQ Pr w0 P txt sp kf kr.2 w')\/(kr.2=0/\kr.1∈hm/\e= .returned (.tuple #[.string ⟨#[]⟩,false])/\fS YQ Pr w0 P txt sp kf 7 w')\/(kr.2=0/\kr.1 ∉ hm/\e= .returned (.tuple #[bs kr.1,true])/\Below w.heap.size w w')
theorem aAU {Pr:aJ}{w0:World}{P:Nat}{txt:aA}{sp:List (Nat×Nat)}{st:YS} (k:Nat) (hv:Value) (hm:List aA) (w:World) (h:YJ YQ Pr w0 P txt sp st 0 0 w) (hkl:k<st.lines.length) (hw:eS txt sp st) (hs:txt.length<=65536) (hV:bU w0) (HKy:Hid uX) (hh:Ny w hv hm) (hml:hm.length<=131072):
  Calls Tryz.prog 39 #[some P,k,hv] w (KOE Pr w0 P txt sp w (jM (eQ txt (aS st.lines k).kf (aS st.lines k).kt)) hm (aS st.lines k).kf):=by
 have wt:=trivial;exact p9
end
section
open Go.RowKit Go.Maps Go.WideMaps
open Go.Lib hiding intOf
theorem yD {w:World}{B:Nat}{e:TypeId}{s:Nat}{v:Value}{n:Nat}{xs:List Value}{b:Nat}{es:Array MapEntry}{c:Nat} (h:w.ownsRow B e s v n xs) (hb:w.heap[b]?=some (.map es c)):v.ownBlock=none\/v.ownBlock≠some b:=by
 rcases h.2 with⟨rfl,_⟩ | ⟨g,cap,cur,rfl,_,f,_⟩
 ·exact .inl rfl
 ·right;intro e2;have d:g=b:=aV e2;subst d;rw[f] at hb;cases hb
section
variable {T:TypeId}{Pr:aJ}{w0 w w':World}{P:Nat}{txt:aA}{sp:List (Nat×Nat)}{lines:List aP}{z:List YN}{tot:Nat}{a er:Int}{sv lv nv:Value}{st:YS}{b:Nat}
theorem YK.mapG (h:YK T Pr w0 P txt sp lines z tot a er sv lv nv w) {es:Array MapEntry}{c:Nat} (ho:w.heap[b]?=some (.map es c)) (hg:w.grownBy w' (some b)) (hb:w0.heap.size<=b) (hp:Pr b=none):YK T Pr w0 P txt sp lines z tot a er sv lv nv w':=by
 have f:P≠b:=λe=>by
  have:=h.box;rw[e,ho] at this;cases this
 refine⟨pW hg h.box (λe=>f (aV e).symm),h.spr.kept hg (yD h.spr ho),h.lnr.kept hg (yD h.lnr ho),⟨h.nod.row.kept hg (yD h.nod.row ho),λy g=>(h.nod.kids y g).kept hg (yD (h.nod.kids y g) ho),h.nod.ak⟩,h.hB,h.ty,h.bel.grown hg h.bel.size (λq d=>by have:=aV d;omega),λq o d=>?_⟩;obtain⟨f1,f2⟩:=h.fr q o d;exact⟨pW hg f1 (λe=>by have e2:=aV e;subst e2;rw[hp] at d;cases d),f2⟩
theorem YK.putMap (h:YK T Pr w0 P txt sp lines z tot a er sv lv nv w) {es:Array MapEntry}{c:Nat} (ho:w.heap[b]?=some (.map es c)):YK T (Pr.put b (.map es c)) w0 P txt sp lines z tot a er sv lv nv w:=by
 refine⟨h.box,h.spr,h.lnr,h.nod,h.hB,h.ty,h.bel,λk o' f=>?_⟩;by_cases hkb:k=b
 ·subst hkb;rw[aJ.put_eq] at f;obtain rfl:=aV f;have d: ∀ {v:Value}{e:TypeId}{s n:Nat}{xs:List Value},w.ownsRow w0.heap.size e s v n xs->v.ownBlock≠some k:=λi e=>by
   rcases yD i ho with g | g
   ·rw[g] at e;cases e
   ·exact g e
  refine⟨ho,λe=>?_,d h.lnr,d h.nod.row,λy j=>d (h.nod.kids y j)⟩;have:=h.box;rw[<-e,ho] at this;cases this
 ·rw[aJ.put_ne _ _ hkb] at f;exact h.fr k o' f
theorem YJ.mapG (h:YJ T Pr w0 P txt sp st a er w) {es:Array MapEntry}{c:Nat} (ho:w.heap[b]?=some (.map es c)) (hg:w.grownBy w' (some b)) (hb:w0.heap.size<=b) (hp:Pr b=none):YJ T Pr w0 P txt sp st a er w':=by
 obtain⟨z,sv,lv,nv,e,d⟩:=h;exact⟨z,sv,lv,nv,e,d.mapG ho hg hb hp⟩
theorem YJ.putMap (h:YJ T Pr w0 P txt sp st a er w) {es:Array MapEntry}{c:Nat} (ho:w.heap[b]?=some (.map es c)):YJ T (Pr.put b (.map es c)) w0 P txt sp st a er w:=by
 obtain⟨z,sv,lv,nv,e,d⟩:=h;exact⟨z,sv,lv,nv,e,d.putMap ho⟩
theorem aJ.put_lessN {o:Obj} (hp:Pr b=none): ∀k o',Pr k=some o'->Pr.put b o k=some o':=λk o' c=>by
 rw[aJ.put_ne _ _ (λe=>by subst e;rw[hp] at c;cases c)];exact c
end
theorem aAV (w0:World) (P:Nat) (txt:aA) (sp:List (Nat×Nat)) (V:YB) (lv:Nat) (IH:qB 106 w0 P txt sp V lv) {Pr:aJ}{st:YS} (k:Nat) (lev:Int) (w:World) (h:YJ YP Pr w0 P txt sp st 0 0 w) (hk:k+1=st.lines.length) (hw:eS txt sp st) (hl:Hid (lev=33-(lv:Int))):
  Calls Tryz.prog 74 #[some P,k,lev] w (eT YP Pr w0 P txt sp (V k 0 0 st)):=by
 have wu:=trivial;exact p9
def Bo (Pr:aJ) (w0:World) (P:Nat) (txt:aA) (sp:List (Nat×Nat)) (b:Nat) (R:YR×List aA) (e:Ending) (w':World):Prop:=match R.1 with
 | .ok n st=>e= .returned (.tuple #[n,true])/\YJ YP Pr w0 P txt sp st 0 0 w'/\HM b R.2 w'
 | .bad a er=>(∃m:Int,e= .returned (.tuple #[m,false]))/\fS YP Pr w0 P txt sp a er w'
theorem aAW (t:aA):(jM t).1.length<=4*t.length:=by
 unfold jM;split
 ·simp
 ·split
  ·exact Ni _
  ·split
   ·exact al
   ·simp
theorem aAX (w0:World) (P:Nat) (txt:aA) (sp:List (Nat×Nat)) (hs:txt.length<=65536) (hV:bU w0) (V:YB) (lv:Nat) (IH:qB 106 w0 P txt sp V lv) {Pr:aJ}{st:YS} (k:Nat) (lev:Int) (b CX CY:Nat) (had:List aA) (w:World)
  (h:YJ YP Pr w0 P txt sp st 0 0 w) (hk:k+1=st.lines.length) (hw:eS txt sp st) (hl:Hid (lev=33-(lv:Int))) (hm:HM b had w) (hB:w0.heap.size<=b) (hpb:Pr b=none) (hhad:had.length<=131072)
  (hX:Pr CX=some (.cells #[some P] 64)) (hY:Pr CY=some (.cells #[.map (some b)] 124)):
  Calls Tryz.prog 110 #[k,lev,some CX,some CY] w (Bo Pr w0 P txt sp b (fN txt V true had k st)):=by
 have wn:=trivial;exact p9
end
end Go.Proofs.YtfhjncbdgjlcoaaGreatDoor
