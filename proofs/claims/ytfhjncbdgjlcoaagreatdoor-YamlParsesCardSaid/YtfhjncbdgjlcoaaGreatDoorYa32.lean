import Derived.Test.YtfhjncbdgjlcoaaGreatDoorYa31
set_option maxRecDepth 100000
set_option maxHeartbeats 8000000
set_option linter.unusedVariables false
set_option linter.unusedSimpArgs false
namespace Go.Proofs.YtfhjncbdgjlcoaaGreatDoor
open Go.RowKit Go.Maps Go.WideMaps
open Go.Lib hiding intOf
def yE (Pr:aJ) (w0:World) (P:Nat) (txt:aA) (sp:List (Nat×Nat)) (H:List aA->World->Prop) (R:YR×List aA) (e:Ending) (w':World):Prop:=match R.1 with
 | .ok n st=>e= .returned (.tuple #[n,true])/\ ∃Pr':aJ,(∀q o,Pr q=some o->Pr' q=some o)/\YJ YP Pr' w0 P txt sp st 0 0 w'/\ ∀st2 a er w2,YJ YP Pr' w0 P txt sp st2 a er w2->H R.2 w2
 | .bad a er=>(∃m:Int,e= .returned (.tuple #[m,false]))/\fS YP Pr w0 P txt sp a er w'
theorem eT.toX {Pr:aJ}{w0:World}{P:Nat}{txt:aA}{sp:List (Nat×Nat)}{R:YR}{had:List aA}{e:Ending}{w':World} (h:eT YP Pr w0 P txt sp R e w'):yE Pr w0 P txt sp (λ_ _=>True) (R,had) e w':=by
 cases R with
 | ok n st=>exact⟨h.1,Pr,λ_ _ b=>b,h.2,λ_ _ _ _ _=>trivial⟩
 | bad a er=>exact h
theorem Bo.toX {Pr:aJ}{w0:World}{P:Nat}{txt:aA}{sp:List (Nat×Nat)}{b:Nat}{R:YR×List aA}{e:Ending}{w':World} (hpb:Pr b=none) (h:Bo Pr w0 P txt sp b R e w'):yE Pr w0 P txt sp (HM b) R e w':=by
 obtain⟨R,d⟩:=R;cases R with
 | bad a er=>exact h
 | ok n st=>
  obtain⟨k,i,f⟩:=(show e= .returned (.tuple #[n,true])/\YJ YP Pr w0 P txt sp st 0 0 w'/\HM b d w' from h);obtain⟨es,c,g⟩:=f.obj;exact⟨k,Pr.put b (.map es c),aJ.put_lessN hpb,i.putMap g,λst2 a er w2 j=>f.same ((j.at_ (aJ.put_eq _ _ _)).trans g.symm)⟩
def yF (Pr:aJ) (w0:World) (P:Nat) (txt:aA) (sp:List (Nat×Nat)) (H:List aA->World->Prop) (R:OR) (e:Ending) (w':World):Prop:=match R with
 | .ok nx st had=>e= .returned (.tuple #[nx,true])/\YJ YP Pr w0 P txt sp st 0 0 w'/\H had w'
 | .bad a er=>(∃m:Int,e= .returned (.tuple #[m,false]))/\fS YP Pr w0 P txt sp a er w'
def Bp (B:Nat) (v:Value) (mk:Nat) (xs:List Value) (el:Array Value) (gn n til:Nat) (W0:World):Nat->Value->World->Prop
 | 0,c,w'=>bM 3 B v mk xs el gn (n*9+8) W0 0 c w'
 | 1,c,w'=>bM 3 B v mk xs el gn (n*9+8) W0 1 c w'
 | 2,c,w'=>bM 3 B v mk xs el gn (n*9+8) W0 2 c w'
 | 3,c,w'=>bM 3 B v mk xs el gn (n*9+8) W0 3 c w'
 | _,_,w'=> ∃c3 w3,bM 3 B v mk xs el gn (n*9+8) W0 3 c3 w3/\w'=w3.setCell ⟨gn,n*9+3,none⟩ (.int .i64 (til:Int))
theorem Bp.lt3 {B:Nat}{v:Value}{mk:Nat}{xs:List Value}{el:Array Value}{gn n til:Nat}{W0:World}{k:Nat}{c:Value}{w':World} (hk:k<3) (h:Bp B v mk xs el gn n til W0 k c w'):bM 3 B v mk xs el gn (n*9+8) W0 k c w':=by
 match k,h with
 | 0,h=>exact h
 | 1,h=>exact h
 | 2,h=>exact h
 | k+3,_=>omega
theorem Nz (kid:Nat): ∀u∈(#[kid]:Array Value).toList,u.oneCell'=true:=by
 intro u b;rw[mX.1 b];rfl
section
variable {T:TypeId}{Pr:aJ}{w0 w' W0:World}{P:Nat}{txt:aA}{sp:List (Nat×Nat)}{lines:List aP}{z:List YN}{tot:Nat}{a er:Int}{sv lv:Value}{gn cn:Nat}
theorem YK.seenK (h:YK T Pr w0 P txt sp lines z tot a er sv lv (.slice (some ⟨gn,0,none⟩) z.length cn) W0) {n:Nat}{y:YN} (hy:z[n]?=some y) {el:Array Value}{k i:Nat}{c:Value} (hp:bM 3 w0.heap.size y.2 y.1.kids.length (dJ y.1.kids) el gn i W0 k c w') (hk:k<3):
  w'.cell? ⟨P,3,none⟩=some (.slice (some ⟨gn,0,none⟩) z.length cn)/\ ∀(j:Nat) (x:YN) (q:Nat) (u:Value),z[j]?=some x->q<9->(jX x)[q]?=some u->w'.cell? ⟨gn,j*9+q,none⟩=some u/\w'.frozen? ⟨gn,j*9+q,none⟩=false:=by
 have d:=h.nod.kids y (bD hy);have f:=h.seenA d (Ne.symm h.ty.2.2.2) (λj o g=>(h.fr j o g).2.2.2.2 y (bD hy)) hk hp;refine⟨f.c3.1,λj x q u e m l=>?_⟩;have hn:=(aR.1 e).1;have b:w'.ownsRow w0.heap.size 45 9 (.slice (some ⟨gn,0,none⟩) z.length cn) z.length (iC z):=by
  match k,hp with
  | 0,hp=>exact gH h.nod.row (show Below W0.heap.size W0 w' from hp)
  | 1,⟨w1,hb,_,hw⟩=>
   rw[hw];exact(gH h.nod.row hb).alloc _
  | 2,⟨w1,hb,_,hg,_⟩=>exact(gH h.nod.row hb).kept hg (gI (gH h.nod.row hb) (gH d hb) b_)
  | k+3,_=>omega
 refine⟨?_,World.ownsRow.frozenAt b _⟩;rw[World.ownsRow.cellAt b _ a_,iC,pG _ 9 xU z j x e q m,l]
theorem YK.kidA (h:YK T Pr w0 P txt sp lines z tot a er sv lv (.slice (some ⟨gn,0,none⟩) z.length cn) W0) {n kid:Nat}{y:YN} (hy:z[n]?=some y) {c:Value} (hp:bM 3 w0.heap.size y.2 y.1.kids.length (dJ y.1.kids) #[kid] gn (n*9+8) W0 3 c w'):
  ∃kv,YK T Pr w0 P txt sp lines (z.set n ({ y.1 with kids:=y.1.kids++ [kid] },kv)) tot a er sv lv (.slice (some ⟨gn,0,none⟩) (z.set n ({ y.1 with kids:=y.1.kids++ [kid] },kv)).length cn) w':=by
 obtain⟨c,w2,⟨w1,e,b,f,d,_⟩,rfl⟩:=hp;exact⟨c,(h.keep e).kid hy (H:=w1.heap.size+1) (Nat.le_succ _) b f d⟩
end
theorem Fy {Pr:aJ}{w0:World}{P:Nat}{txt:aA}{sp:List (Nat×Nat)}{st:YS}{a0 e0:Int} (k:Nat) (w:World) (h:YJ YP Pr w0 P txt sp st a0 e0 w) (hk:k<sp.length) (hkl:k<st.lines.length) (hok:wD txt (lA sp k) (aS st.lines k)) (hs:txt.length<=65536):
  Calls Tryz.prog 46 #[some P,k] w λe w'=>e= .returned (.int .i64 (((lA sp k).1:Int)+(aS st.lines k).ind))/\Below w.heap.size w w':=ro
theorem Oa (w0:World) (P:Nat) (txt:aA) (sp:List (Nat×Nat)) (hsp:eR txt sp) (hs:txt.length<=65536) (hns:sp.length<=131072) (hV:bU w0) (V:YB) (hVG:iV txt sp V) (H:List aA->World->Prop) {Pr:aJ}{st:YS} (n k:Nat) (ind lev:Int) (had:List aA) (f:FuncId) (A B:Array Value) (mp:Bool) (hcf: ∀(args:Array Value) (w:World),(callFunc f args).run Tryz.prog w= .ok (.enter f args) w) (w:World) (hk:k+1=st.lines.length) (hw:eS txt sp st) {x:bA} (hx:st.nodes[n]?=some x) (hxi:x.ind=ind) (hkids: ∀(s2:YS) kid had',fN txt V mp had k st=(.ok kid s2,had')-> ∀y,s2.nodes[n]?=some y->y.kids.length<=131072)
  (hPl:P<w.heap.size) (CR:Calls Tryz.prog f (A++(#[.int .i64 (k:Int), .int .i64 lev]++B)) w (yE Pr w0 P txt sp H (fN txt V mp had k st))):
  Calls Tryz.prog 78 #[some P,n,k,lev, .func (.func f) A B] w (yF Pr w0 P txt sp H (iM txt sp V mp n ind had k st)):=by
 obtain⟨R,G⟩:=exQ<|iM txt sp V mp n ind had k st;rw[G];unfold iM at G;have hg:=Ar hVG mp had hw hk;obtain⟨⟨Q,eW⟩,hQ⟩:=exQ<|fN txt V mp had k st;have nC:=λs2 kid had' e=>hkids s2 kid had' e;rw[hQ] at G hg CR nC;have vb:=hid CR;clear CR hkids hQ;cases Q with
 | bad a er=>
  have bx:Hid (OR.bad a er=R):=hid G;clear G hg nC hw hx;go_enter Tryz.func78,Tryz.ntmps78;go_wp2_with fail;refine vb.out.mono ?_;rintro e w2 ⟨⟨m,rfl⟩,an⟩;have HF:=hid an;exact mz
 | ok kid s2=>
  have yd:=trivial;exact qm
theorem Ob {P:Program}{f:FuncId}{fn:Func} (hf:P.funcs[f]?=some fn) (h1: ¬fn.name= "runtime.NumGoroutine") (h2:fn.body.isNone=false) (args:Array Value) (w:World):(callFunc f args).run P w= .ok (.enter f args) w:=by
 have b: ¬fn.body=none:=by
  intro h;rw[h] at h2;cases h2
 simp[callFunc,go_sem,hf,h1,b]
theorem aAY (args:Array Value) (w:World):(callFunc 74 args).run Tryz.prog w= .ok (.enter 74 args) w:=
 Ob Tryz.func74 (of_decide_eq_false d') d' args w
theorem aAZ (args:Array Value) (w:World):(callFunc 110 args).run Tryz.prog w= .ok (.enter 110 args) w:=
 Ob Tryz.func110 (of_decide_eq_false d') d' args w
theorem aBa (w0:World) (P:Nat) (txt:aA) (sp:List (Nat×Nat)) (hsp:eR txt sp) (hs:txt.length<=65536) (hns:sp.length<=131072) (hV:bU w0) (V:YB) (hVG:iV txt sp V) (H:List aA->World->Prop) {Pr:aJ}{st:YS} (n k:Nat) (ind lev:Int) (had:List aA) (w:World) (hk:k+1=st.lines.length) (hw:eS txt sp st) {x:bA} (hx:st.nodes[n]?=some x) (hxi:x.ind=ind) (hkids: ∀(s2:YS) kid had',fN txt V false had k st=(.ok kid s2,had')-> ∀y,s2.nodes[n]?=some y->y.kids.length<=131072)
  (hPl:P<w.heap.size) (CR:Calls Tryz.prog 74 #[some P,k,lev] w (yE Pr w0 P txt sp H (fN txt V false had k st))):
  Calls Tryz.prog 78 #[some P,n,k,lev, .func (.func 74) #[some P] #[]] w (yF Pr w0 P txt sp H (iM txt sp V false n ind had k st)):=
 Oa w0 P txt sp hsp hs hns hV V hVG H n k ind lev had _ #[some P] #[] false aAY w hk hw hx hxi hkids hPl CR
theorem aBb (w0:World) (P:Nat) (txt:aA) (sp:List (Nat×Nat)) (hsp:eR txt sp) (hs:txt.length<=65536) (hns:sp.length<=131072) (hV:bU w0) (V:YB) (hVG:iV txt sp V) (H:List aA->World->Prop) {Pr:aJ}{st:YS} (n k:Nat) (ind lev:Int) (had:List aA) (CX CY:Nat) (w:World) (hk:k+1=st.lines.length) (hw:eS txt sp st) {x:bA} (hx:st.nodes[n]?=some x) (hxi:x.ind=ind) (hkids: ∀(s2:YS) kid had',fN txt V true had k st=(.ok kid s2,had')-> ∀y,s2.nodes[n]?=some y->y.kids.length<=131072)
  (hPl:P<w.heap.size) (CR:Calls Tryz.prog 110 #[k,lev,some CX,some CY] w (yE Pr w0 P txt sp H (fN txt V true had k st))):
  Calls Tryz.prog 78 #[some P,n,k,lev, .func (.func 110) #[] #[some CX,some CY]] w (yF Pr w0 P txt sp H (iM txt sp V true n ind had k st)):=
 Oa w0 P txt sp hsp hs hns hV V hVG H n k ind lev had _ #[] #[some CX,some CY] true aAZ w hk hw hx hxi hkids hPl CR
end Go.Proofs.YtfhjncbdgjlcoaaGreatDoor
