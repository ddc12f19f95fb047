import Derived.Test.YtfhjncbdgjlcoaaGreatDoorYn31
set_option linter.unusedVariables false
set_option linter.unusedSimpArgs false
set_option maxRecDepth 100000
set_option maxHeartbeats 8000000
namespace Go.Proofs.YtfhjncbdgjlcoaaGreatDoor
open Tryz
open Go.RowKit Go.Maps Go.WideMaps
open Go.Lib hiding intOf
def yU (Pr:aO) (w0:World) (P:Nat) (txt:aB) (sp:List (Nat×Nat)) (H:List aB->World->Prop) (R:YR×List aB) (e:Ending) (w':World):Prop:=match R.1 with
 | .ok n st=>e= .returned (.tuple #[n,true])/\ ∃Pr':aO,(∀q o,Pr q=some o->Pr' q=some o)/\YJ YP Pr' w0 P txt sp st 0 0 w'/\ ∀st2 a er w2,YJ YP Pr' w0 P txt sp st2 a er w2->H R.2 w2
 | .bad a er=>(∃m:Int,e= .returned (.tuple #[m,false]))/\gH YP Pr w0 P txt sp a er w'
theorem fG.toX {Pr:aO}{w0:World}{P:Nat}{txt:aB}{sp:List (Nat×Nat)}{R:YR}{had:List aB}{e:Ending}{w':World} (h:fG YP Pr w0 P txt sp R e w'):yU Pr w0 P txt sp (λ_ _=>True) (R,had) e w':=by
 cases R with
 | ok n st=>exact⟨h.1,Pr,λ_ _ b=>b,h.2,λ_ _ _ _ _=>trivial⟩
 | bad a er=>exact h
theorem Cm.toX {Pr:aO}{w0:World}{P:Nat}{txt:aB}{sp:List (Nat×Nat)}{b:Nat}{R:YR×List aB}{e:Ending}{w':World} (hpb:Pr b=none) (h:Cm Pr w0 P txt sp b R e w'):yU Pr w0 P txt sp (HM b) R e w':=by
 obtain⟨R,d⟩:=R;cases R with
 | bad a er=>exact h
 | ok n st=>
  obtain⟨k,j,g⟩:=(show e= .returned (.tuple #[n,true])/\YJ YP Pr w0 P txt sp st 0 0 w'/\HM b d w' from h);obtain⟨es,c,f⟩:=g.obj;exact⟨k,Pr.put b (.map es c),aO.put_lessN hpb,j.putMap f,λst2 a er w2 i=>g.same ((i.at_ (aO.put_eq _ _ _)).trans f.symm)⟩
def yV (Pr:aO) (w0:World) (P:Nat) (txt:aB) (sp:List (Nat×Nat)) (H:List aB->World->Prop) (R:OR) (e:Ending) (w':World):Prop:=match R with
 | .ok nx st had=>e= .returned (.tuple #[nx,true])/\YJ YP Pr w0 P txt sp st 0 0 w'/\H had w'
 | .bad a er=>(∃m:Int,e= .returned (.tuple #[m,false]))/\gH YP Pr w0 P txt sp a er w'
def Cn (B:Nat) (v:Value) (mk:Nat) (xs:List Value) (el:Array Value) (gn n til:Nat) (W0:World):Nat->Value->World->Prop
 | 0,c,w'=>bW 3 B v mk xs el gn (n*9+8) W0 0 c w'
 | 1,c,w'=>bW 3 B v mk xs el gn (n*9+8) W0 1 c w'
 | 2,c,w'=>bW 3 B v mk xs el gn (n*9+8) W0 2 c w'
 | 3,c,w'=>bW 3 B v mk xs el gn (n*9+8) W0 3 c w'
 | _,_,w'=> ∃c3 w3,bW 3 B v mk xs el gn (n*9+8) W0 3 c3 w3/\w'=w3.setCell ⟨gn,n*9+3,none⟩ (.int .i64 (til:Int))
theorem Cn.lt3 {B:Nat}{v:Value}{mk:Nat}{xs:List Value}{el:Array Value}{gn n til:Nat}{W0:World}{k:Nat}{c:Value}{w':World} (hk:k<3) (h:Cn B v mk xs el gn n til W0 k c w'):bW 3 B v mk xs el gn (n*9+8) W0 k c w':=by
 match k,h with
 | 0,h=>exact h
 | 1,h=>exact h
 | 2,h=>exact h
 | k+3,_=>omega
theorem Oz (kid:Nat): ∀u∈(#[kid]:Array Value).toList,u.oneCell'=true:=by
 intro u b;rw[kT.1 b];rfl
section
variable {T:TypeId}{Pr:aO}{w0 w' W0:World}{P:Nat}{txt:aB}{sp:List (Nat×Nat)}{lines:List aS}{z:List YN}{tot:Nat}{a er:Int}{sv lv:Value}{gn cn:Nat}
theorem YK.seenK (h:YK T Pr w0 P txt sp lines z tot a er sv lv (.slice (some ⟨gn,0,none⟩) z.length cn) W0) {n:Nat}{y:YN} (hy:z[n]?=some y) {el:Array Value}{k i:Nat}{c:Value} (hp:bW 3 w0.heap.size y.2 y.1.kids.length (dH y.1.kids) el gn i W0 k c w') (hk:k<3):
  w'.cell? (P,3)=some (.slice (some ⟨gn,0,none⟩) z.length cn)/\ ∀(j:Nat) (x:YN) (q:Nat) (u:Value),z[j]?=some x->q<9->(iK x)[q]?=some u->w'.cell? (gn,j*9+q)=some u/\w'.frozen? ⟨gn,j*9+q,none⟩=false:=by
 have d:=h.nod.kids y (bH hy);have l:=h.seenA d (Ne.symm h.ty.2.2.2) (λj o g=>(h.fr j o g).2.2.2.2 y (bH hy)) hk hp;refine⟨l.c3.1,λj x q u e f m=>?_⟩;have hn:=(aW.1 e).1;have b:w'.ownsRow w0.heap.size 45 9 (.slice (some ⟨gn,0,none⟩) z.length cn) z.length (iT z):=by
  match k,hp with
  | 0,hp=>exact iP h.nod.row (show aA W0 w' from hp)
  | 1,⟨w1,hb,_,hw⟩=>
   rw[hw];exact(iP h.nod.row hb).alloc _
  | 2,⟨w1,hb,_,hg,_⟩=>exact(iP h.nod.row hb).kept hg (gW (iP h.nod.row hb) (iP d hb) b_)
  | k+3,_=>omega
 refine⟨?_,World.ownsRow.frozenAt b _⟩;rw[World.ownsRow.cellAt b _ a_,iT,qT _ 9 Bn z j x e q f,m]
theorem YK.kidA (h:YK T Pr w0 P txt sp lines z tot a er sv lv (.slice (some ⟨gn,0,none⟩) z.length cn) W0) {n kid:Nat}{y:YN} (hy:z[n]?=some y) {c:Value} (hp:bW 3 w0.heap.size y.2 y.1.kids.length (dH y.1.kids) #[kid] gn (n*9+8) W0 3 c w'):
  ∃kv,YK T Pr w0 P txt sp lines (z.set n ({ y.1 with kids:=y.1.kids++ [kid] },kv)) tot a er sv lv (.slice (some ⟨gn,0,none⟩) (z.set n ({ y.1 with kids:=y.1.kids++ [kid] },kv)).length cn) w':=by
 obtain⟨c,w2,⟨w1,e,b,f,d,_⟩,rfl⟩:=hp;exact⟨c,(h.keep e).kid hy (H:=w1.heap.size+1) (Nat.le_succ _) b f d⟩
end
theorem Gt {Pr:aO}{w0:World}{P:Nat}{txt:aB}{sp:List (Nat×Nat)}{st:YS}{a0 e0:Int} (k:Nat) (w:World) (h:YJ YP Pr w0 P txt sp st a0 e0 w) (hk:k<sp.length) (hkl:k<st.lines.length) (hok:wN txt (lY sp k) (aU st.lines k)) (hs:txt.length<=65536):
  Calls prog 46 #[some P,k] w (aT w (.int .i64 (((lY sp k).1:Int)+(aU st.lines k).ind))):=IE
theorem Pa (w0:World) (P:Nat) (txt:aB) (sp:List (Nat×Nat)) (hsp:dV txt sp) (hs:txt.length<=65536) (hns:sp.length<=131072) (hV:bV w0) (V:YB) (hVG:gS txt sp V) (H:List aB->World->Prop) {Pr:aO}{st:YS} (n k:Nat) (ind lev:Int) (had:List aB) (f:FuncId) (A B:Array Value) (mp:Bool) (hcf: ∀(args:Array Value) (w:World),(callFunc f args).run prog w= .ok (.enter f args) w) (w:World) (hk:k+1=st.lines.length) (hw:dR txt sp st) {x:aV} (hx:st.nodes[n]?=some x) (hxi:x.ind=ind) (hkids: ∀(s2:YS) kid had',eM txt V mp had k st=(.ok kid s2,had')-> ∀y,s2.nodes[n]?=some y->y.kids.length<=131072)
  (hPl:P<w.heap.size) (CR:Calls prog f (A++(#[.int .i64 (k:Int), .int .i64 lev]++B)) w (yU Pr w0 P txt sp H (eM txt V mp had k st))):
  Calls prog 78 #[some P,n,k,lev, .func (.func f) A B] w (yV Pr w0 P txt sp H (fW txt sp V mp n ind had k st)):=by
 obtain⟨R,I⟩:=exQ<|fW txt sp V mp n ind had k st;rw[I];unfold fW at I;have hg:=wQ hVG mp had hw hk;obtain⟨⟨Q,ge⟩,hQ⟩:=exQ<|eM txt V mp had k st;have qo:=λs2 kid had' e=>hkids s2 kid had' e;rw[hQ] at I hg CR qo;have yy:=hid CR;clear CR hkids hQ;cases Q with
 | bad a er=>
  have cf:Hid (OR.bad a er=R):=hid I;clear I hg qo hw hx;go_in;go_wp2_with fail;refine yy.out.mono ?_;rintro e w2 ⟨⟨m,rfl⟩,ar⟩;have HF:=hid ar;exact pj
 | ok kid s2=>
  have RM:=trivial;exact PQ
theorem Pb {P:Program}{f:FuncId}{fn:Func} (hf:P.funcs[f]?=some fn) (h1: ¬fn.name= "runtime.NumGoroutine") (h2:fn.body.isNone=false) (args:Array Value) (w:World):(callFunc f args).run P w= .ok (.enter f args) w:=by
 have b: ¬fn.body=none:=by
  intro h;rw[h] at h2;cases h2
 simp[callFunc,go_sem,hf,h1,b]
theorem aBR (args:Array Value) (w:World):(callFunc 74 args).run prog w= .ok (.enter 74 args) w:=
 Pb func74 (of_decide_eq_false d') d' args w
theorem aBS (args:Array Value) (w:World):(callFunc 110 args).run prog w= .ok (.enter 110 args) w:=
 Pb func110 (of_decide_eq_false d') d' args w
theorem aBT (w0:World) (P:Nat) (txt:aB) (sp:List (Nat×Nat)) (hsp:dV txt sp) (hs:txt.length<=65536) (hns:sp.length<=131072) (hV:bV w0) (V:YB) (hVG:gS txt sp V) (H:List aB->World->Prop) {Pr:aO}{st:YS} (n k:Nat) (ind lev:Int) (had:List aB) (w:World) (hk:k+1=st.lines.length) (hw:dR txt sp st) {x:aV} (hx:st.nodes[n]?=some x) (hxi:x.ind=ind) (hkids: ∀(s2:YS) kid had',eM txt V false had k st=(.ok kid s2,had')-> ∀y,s2.nodes[n]?=some y->y.kids.length<=131072)
  (hPl:P<w.heap.size) (CR:Calls prog 74 #[some P,k,lev] w (yU Pr w0 P txt sp H (eM txt V false had k st))):
  Calls prog 78 #[some P,n,k,lev, .func (.func 74) #[some P] #[]] w (yV Pr w0 P txt sp H (fW txt sp V false n ind had k st)):=
 Pa w0 P txt sp hsp hs hns hV V hVG H n k ind lev had _ #[some P] #[] false aBR w hk hw hx hxi hkids hPl CR
theorem aBU (w0:World) (P:Nat) (txt:aB) (sp:List (Nat×Nat)) (hsp:dV txt sp) (hs:txt.length<=65536) (hns:sp.length<=131072) (hV:bV w0) (V:YB) (hVG:gS txt sp V) (H:List aB->World->Prop) {Pr:aO}{st:YS} (n k:Nat) (ind lev:Int) (had:List aB) (CX CY:Nat) (w:World) (hk:k+1=st.lines.length) (hw:dR txt sp st) {x:aV} (hx:st.nodes[n]?=some x) (hxi:x.ind=ind) (hkids: ∀(s2:YS) kid had',eM txt V true had k st=(.ok kid s2,had')-> ∀y,s2.nodes[n]?=some y->y.kids.length<=131072)
  (hPl:P<w.heap.size) (CR:Calls prog 110 #[k,lev,some CX,some CY] w (yU Pr w0 P txt sp H (eM txt V true had k st))):
  Calls prog 78 #[some P,n,k,lev, .func (.func 110) #[] #[some CX,some CY]] w (yV Pr w0 P txt sp H (fW txt sp V true n ind had k st)):=
 Pa w0 P txt sp hsp hs hns hV V hVG H n k ind lev had _ #[] #[some CX,some CY] true aBS w hk hw hx hxi hkids hPl CR
end Go.Proofs.YtfhjncbdgjlcoaaGreatDoor
