import Derived.Test.YtaifnmjjpddikaaGreatDoorRf21
import Derived.Test.YtaifnmjjpddikaaGreatDoorRf18
set_option maxRecDepth 100000
set_option maxHeartbeats 8000000
namespace Go.Proofs.YtaifnmjjpddikaaGreatDoor
set_option linter.unusedVariables false
set_option linter.unusedSimpArgs false
section
open Go.RowKit Go.Maps Go.WideMaps
open Go.Lib hiding intOf
def wQ (Pr:aK) (w0:World) (P:Nat) (txt:aA) (sp:List (Nat×Nat)) (H:List aA->World->Prop) (R:YR×List aA) (e:Ending) (w':World):Prop:=match R.1 with
 | .ok n st=>e= .returned (.tuple #[.int .i64 (n:Int), .bool true])/\ ∃Pr':aK,(∀q o,Pr q=some o->Pr' q=some o)/\YJ YP Pr' w0 P txt sp st 0 0 w'/\ ∀st2 a er w2,YJ YP Pr' w0 P txt sp st2 a er w2->H R.2 w2
 | .bad a er=>(∃m:Int,e= .returned (.tuple #[.int .i64 m, .bool false]))/\fU YP Pr w0 P txt sp a er w'
theorem gX.toX {Pr:aK}{w0:World}{P:Nat}{txt:aA}{sp:List (Nat×Nat)}{R:YR}{had:List aA}{e:Ending}{w':World} (h:gX YP Pr w0 P txt sp R e w'):wQ Pr w0 P txt sp (λ_ _=>True) (R,had) e w':=by
 cases R with
 | ok n st=>exact⟨h.1,Pr,λ_ _ hq=>hq,h.2,λ_ _ _ _ _=>trivial⟩
 | bad a er=>exact h
theorem yV.toX {Pr:aK}{w0:World}{P:Nat}{txt:aA}{sp:List (Nat×Nat)}{b:Nat}{R:YR×List aA}{e:Ending}{w':World} (hpb:Pr b=none) (h:yV Pr w0 P txt sp b R e w'):wQ Pr w0 P txt sp (HM b) R e w':=by
 obtain⟨R,had⟩:=R;cases R with
 | bad a er=>exact h
 | ok n st=>
  obtain⟨h1,h2,h3⟩:=(show e= .returned (.tuple #[.int .i64 (n:Int), .bool true])/\YJ YP Pr w0 P txt sp st 0 0 w'/\HM b had w' from h);obtain⟨es,c,ho⟩:=h3.obj;exact⟨h1,Pr.put b (.map es c),aK.put_lessN hpb,h2.putMap ho,λst2 a er w2 hj=>h3.same ((hj.at_ (aK.put_eq _ _ _)).trans ho.symm)⟩
def wR (Pr:aK) (w0:World) (P:Nat) (txt:aA) (sp:List (Nat×Nat)) (H:List aA->World->Prop) (R:OR) (e:Ending) (w':World):Prop:=match R with
 | .ok nx st had=>e= .returned (.tuple #[.int .i64 (nx:Int), .bool true])/\YJ YP Pr w0 P txt sp st 0 0 w'/\H had w'
 | .bad a er=>(∃m:Int,e= .returned (.tuple #[.int .i64 m, .bool false]))/\fU YP Pr w0 P txt sp a er w'
def yW (B:Nat) (v:Value) (mk:Nat) (xs:List Value) (el:Array Value) (gn n til:Nat) (W0:World):Nat->Value->World->Prop
 | 0,c,w'=>cQ 3 B v mk xs el gn (n*9+8) W0 0 c w'
 | 1,c,w'=>cQ 3 B v mk xs el gn (n*9+8) W0 1 c w'
 | 2,c,w'=>cQ 3 B v mk xs el gn (n*9+8) W0 2 c w'
 | 3,c,w'=>cQ 3 B v mk xs el gn (n*9+8) W0 3 c w'
 | _,_,w'=> ∃c3 w3,cQ 3 B v mk xs el gn (n*9+8) W0 3 c3 w3/\w'=w3.setCell ⟨gn,n*9+3,none⟩ (.int .i64 (til:Int))
theorem yW.lt3 {B:Nat}{v:Value}{mk:Nat}{xs:List Value}{el:Array Value}{gn n til:Nat}{W0:World}{k:Nat}{c:Value}{w':World} (hk:k<3) (h:yW B v mk xs el gn n til W0 k c w'):cQ 3 B v mk xs el gn (n*9+8) W0 k c w':=by
 match k,h with
 | 0,h=>exact h
 | 1,h=>exact h
 | 2,h=>exact h
 | k+3,_=>omega
theorem Yl (kid:Nat): ∀u∈(#[.int .i64 (kid:Int)]:Array Value).toList,u.oneCell'=true:=by
 intro u hu;rw[kH.1 hu];rfl
section
variable {T:TypeId}{Pr:aK}{w0 w' W0:World}{P:Nat}{txt:aA}{sp:List (Nat×Nat)}{lines:List aP}{z:List YN}{tot:Nat}{a er:Int}{sv lv:Value}{gn cn:Nat}
theorem YK.seenK (h:YK T Pr w0 P txt sp lines z tot a er sv lv (.slice (some ⟨gn,0,none⟩) z.length cn) W0) {n:Nat}{y:YN} (hy:z[n]?=some y) {el:Array Value}{k i:Nat}{c:Value} (hp:cQ 3 w0.heap.size y.2 y.1.kids.length (dV y.1.kids) el gn i W0 k c w') (hk:k<3):
  w'.cell? ⟨P,3,none⟩=some (.slice (some ⟨gn,0,none⟩) z.length cn)/\ ∀(j:Nat) (x:YN) (q:Nat) (u:Value),z[j]?=some x->q<9->(jB x)[q]?=some u->w'.cell? ⟨gn,j*9+q,none⟩=some u/\w'.frozen? ⟨gn,j*9+q,none⟩=false:=by
 have hkm:=h.nod.kids y (aX hy);have hs:=h.seenA hkm (Ne.symm h.ty.2.2.2) (λj o hj=>(h.fr j o hj).2.2.2.2 y (aX hy)) hk hp;refine⟨hs.c3.1,λj x q u hx hq hu=>?_⟩;have hn:=(aQ.1 hx).1;have key:w'.ownsRow w0.heap.size 62 9 (.slice (some ⟨gn,0,none⟩) z.length cn) z.length (iG z):=by
  match k,hp with
  | 0,hp=>exact jQ h.nod.row (show Below W0.heap.size W0 w' from hp)
  | 1,⟨w1,hb,_,hw⟩=>
   rw[hw];exact(jQ h.nod.row hb).alloc _
  | 2,⟨w1,hb,_,hg,_⟩=>exact(jQ h.nod.row hb).kept hg (iC (jQ h.nod.row hb) (jQ hkm hb) (by decide))
  | k+3,_=>omega
 refine⟨?_,World.ownsRow.frozenAt key _⟩;rw[World.ownsRow.cellAt key _ (by omega),iG,sO _ 9 yM z j x hx q hq,hu]
theorem YK.kidA (h:YK T Pr w0 P txt sp lines z tot a er sv lv (.slice (some ⟨gn,0,none⟩) z.length cn) W0) {n kid:Nat}{y:YN} (hy:z[n]?=some y) {c:Value} (hp:cQ 3 w0.heap.size y.2 y.1.kids.length (dV y.1.kids) #[.int .i64 (kid:Int)] gn (n*9+8) W0 3 c w'):
  ∃kv,YK T Pr w0 P txt sp lines (z.set n ({ y.1 with kids:=y.1.kids++ [kid] },kv)) tot a er sv lv (.slice (some ⟨gn,0,none⟩) (z.set n ({ y.1 with kids:=y.1.kids++ [kid] },kv)).length cn) w':=by
 obtain⟨c,w2,⟨w1,hb,hrow,hg,hat,_⟩,rfl⟩:=hp;exact⟨c,(h.keep hb).kid hy (H:=w1.heap.size+1) (Nat.le_succ _) hrow hg hat⟩
end
theorem Dg {Pr:aK}{w0:World}{P:Nat}{txt:aA}{sp:List (Nat×Nat)}{st:YS}{a0 e0:Int} (k:Nat) (w:World) (h:YJ YP Pr w0 P txt sp st a0 e0 w) (hk:k<sp.length) (hkl:k<st.lines.length) (hok:wH txt (oT sp k) (aZ st.lines k)) (hs:txt.length<=65536):
  Calls Tryz.prog 37 #[.pointer (some ⟨P,0,none⟩), .int .i64 (k:Int)] w λe w'=>e= .returned (.int .i64 (((oT sp k).1:Int)+(aZ st.lines k).ind))/\Below w.heap.size w w':=by
 obtain⟨x,hx⟩: ∃x,sp[k]?=some x:=⟨_,bJ hk⟩;have hln:=pA hkl;obtain⟨r,hr⟩:=exQ<|aZ st.lines k;rw[hr] at hln hok ⊢;rw[Cp hx] at hok ⊢;obtain⟨h1,h2,h3⟩:=hok.ind;obtain⟨z,sv,lv,nv,hz,hK⟩:=h;obtain⟨gs,cs,rfl,_,s0,s1⟩:=hK.spanAt hx;obtain⟨gl,cl,e9,_,hcell⟩:=hK.lineAt hln;subst e9;obtain⟨⟨_,c1,c2,_⟩,_⟩:=hK.cells;have g3:=hcell 3 _ (by omega) rfl;have hPl:=hK.lt;have hk0:(0:Int)<=(k:Int):=by omega
 have hk1:(k:Int)<(sp.length:Int):=by omega
 obtain⟨n,hn⟩:=exQ<|st.lines.length;rw[hn] at c2 hkl;have hk2:(k:Int)<(n:Int):=by omega
 obtain⟨S,hS⟩:=exQ<|(x.1:Int)+r.ind;have hSw:IntKind.i64.wrap S=S:=by rw[IntKind.wrap_i64];omega
 have HB:=hid (aB w.heap.size w);rw[hS];clear hK hz hcell hln hr hok hx hn hk hkl h2;go_enter Tryz.func37,Tryz.ntmps37;go_wp2_with fail;go_region;go_wp2_with fail;go_ret;exact⟨rfl,HB.out.drew⟩
theorem Ls (w0:World) (P:Nat) (txt:aA) (sp:List (Nat×Nat)) (hsp:eJ txt sp) (hs:txt.length<=65536) (hns:sp.length<=131072) (hV:cA w0) (V:YB) (hVG:gO txt sp V) (H:List aA->World->Prop) {Pr:aK}{st:YS} (n k:Nat) (ind lev:Int) (had:List aA) (f:FuncId) (A B:Array Value) (mp:Bool) (hcf: ∀(args:Array Value) (w:World),(callFunc f args).run Tryz.prog w= .ok (.enter f args) w) (w:World) (hk:k+1=st.lines.length) (hw:dZ txt sp st) {x:aM} (hx:st.nodes[n]?=some x) (hxi:x.ind=ind) (hkids: ∀(s2:YS) kid had',gB txt V mp had k st=(.ok kid s2,had')-> ∀y,s2.nodes[n]?=some y->y.kids.length<=131072)
  (hPl:P<w.heap.size) (CR:Calls Tryz.prog f (A++(#[.int .i64 (k:Int), .int .i64 lev]++B)) w (wQ Pr w0 P txt sp H (gB txt V mp had k st))):
  Calls Tryz.prog 73 #[.pointer (some ⟨P,0,none⟩), .int .i64 (n:Int), .int .i64 (k:Int), .int .i64 lev, .func (.func f) A B] w (wR Pr w0 P txt sp H (iF txt sp V mp n ind had k st)):=by
 obtain⟨R,hR⟩:=exQ<|iF txt sp V mp n ind had k st;rw[hR];unfold iF at hR;have hg:=wJ hVG mp had hw hk;obtain⟨⟨Q,had2⟩,hQ⟩:=exQ<|gB txt V mp had k st;have hkq:=λs2 kid had' e=>hkids s2 kid had' e;rw[hQ] at hR hg CR hkq;have HCR:=hid CR;clear CR hkids hQ;cases Q with
 | bad a er=>
  have HRQ:Hid (OR.bad a er=R):=hid hR;clear hR hg hkq hw hx;go_enter Tryz.func73,Tryz.ntmps73;go_wp2_with fail;refine HCR.out.mono ?_;rintro e w2 ⟨⟨m,rfl⟩,hbad⟩;have HF:=hid hbad;clear hbad;go_wp2_with fail;go_ret2;rw[<-HRQ.out];exact⟨⟨_,rfl⟩,HF.out⟩
 | ok kid s2=>
  obtain⟨g1,⟨m1,g2n,g2⟩,⟨m2',g3⟩,g4,g5,g6⟩:=(show lG txt sp k st kid s2 from hg);simp only[] at hR;have hnl:=(aQ.1 hx).1;have hx2:s2.nodes[n]?=some x:=by rw[g2,mE hnl];exact hx
  have hkidl:kid<s2.nodes.length:=by
   rw[g2,aS,g1];have:=tJ.2 g2n;omega
  obtain⟨xk,hxk⟩: ∃xk,s2.nodes[kid]?=some xk:=⟨_,bJ hkidl⟩;obtain⟨til,htil⟩:=exQ<|fS s2.nodes kid;have hxkt:xk.til=til:=by rw[<-htil,Cw hxk]
  rw[htil] at hR g4 g5;have hkl2:x.kids.length<=131072:=hkq s2 kid had2 rfl x hx2;have hnok:=nD (k:=til) hsp g4.2 g6.ls g5;have hnk:n≠kid:=by omega
  have hn2l:n<s2.nodes.length:=(aQ.1 hx2).1;have hmb:s2.nodes.length<=4096:=by have:=g6.tot;omega
  have HG:=hid (aI g4 (aI g6.ls.1 hmb));have HXs:=hid (aI hx2 (aI hxk (aI hxkt hxi)));obtain⟨N,hN⟩:=exQ<|gA txt sp til s2.lines;rw[hN] at hR hnok;have HN:=hid hN;have HR:=hid hR;have HNO:=hid hnok;clear hR hg hkq hw hx hx2 hxk hxkt hxi htil hN hnok g1 g2 g2n g3 g4 g5 g6 hkidl;go_enter Tryz.func73,Tryz.ntmps73;go_wp2_with fail;refine HCR.out.mono ?_;rintro e w2 ⟨rfl,Pr',hle,hj2,hH⟩;have HLe:=hid hle;have HH:=hid hH;obtain⟨z,sv,lv,nv,hz,hK⟩:=hj2;have hzl:z.length=s2.nodes.length:=by rw[<-hz,bU]
  obtain⟨gn,cn,cur,rfl,hcn,_,_⟩:=hK.nod.form (λe=>by rw[e] at hzl;simp at hzl;omega);obtain⟨y,hy⟩: ∃y,z[n]?=some y:=⟨_,bJ (by omega)⟩;have hy1:y.1=x:=by
   have:=HXs.out.1;rw[<-hz,cU,hy] at this;exact bD this
  obtain⟨yk,hyk⟩: ∃yk,z[kid]?=some yk:=by
   have:=HXs.out.2.1;rw[<-hz,cU] at this;cases hzk:z[kid]? with
   | none=>rw[hzk] at this;cases this
   | some q=>exact⟨q,rfl⟩
  have hyk1:yk.1=xk:=by
   have:=HXs.out.2.1;rw[<-hz,cU,hyk] at this;exact bD this
  have hkm:=hK.nod.kids y (aX hy);obtain⟨pk,ck,hkv⟩: ∃p c,y.2= .slice p y.1.kids.length c:=by
   rcases hkm.2 with⟨h0,h1⟩ | ⟨g,cap,cur,h1,_⟩
   ·exact⟨none,0,by rw[h0,h1]⟩
   ·exact⟨_,cap,h1⟩
  obtain⟨mk,hmk⟩:=exQ<|y.1.kids.length;have hmkb:mk<=131072:=by rw[<-hmk,hy1];exact hkl2
  obtain⟨m,hm⟩:=exQ<|z.length;have hn1:(n:Int)<(m:Int):=by omega
  have hn0:(0:Int)<=(n:Int):=by omega
  have hkd0:(0:Int)<=(kid:Int):=by omega
  have hkd1:(kid:Int)<(m:Int):=by have:=(aQ.1 hyk).1;omega
  have c3:=hK.cells.1.2.2.2.1;have hPl2:=hK.lt;rw[hm] at c3 hcn;have HY:=hid (aI hy (aI hy1 (aI hyk hyk1)));have HKV:=hid (aI hkv hmk);have HM:=hid (aI hz hm);have HK:=hid hK;clear hK hz hzl hy hy1 hyk hyk1 hkm hkv hmk hm hle hH hkl2;go_upto_region 5 with fail;clear c3;obtain⟨i0,hi0,hz0,hz1,hz2⟩:=info_parts Tryz.infoInt;obtain⟨W0,hW0⟩:=exQ<|w2.drew;have hK0:=HK.out.keep (aB _ w2).drew;rw[hW0] at hK0;have HK0:=hid hK0;have hrow:=hK0.nod.kids y (aX HY.out.1);rw[HKV.out.1,HKV.out.2] at hrow;have HROW:=hid hrow;have HB0:=hid hK0.bel.size;obtain⟨SA,hSA⟩: ∃S:World->Prop,(λw'=>w'.cell? ⟨P,3,none⟩=some (.slice (some ⟨gn,0,none⟩) m cn)/\w'.cell? ⟨gn,kid*9+3,none⟩=some (.int .i64 (til:Int))/\w'.frozen? ⟨gn,n*9+8,none⟩=false/\w'.frozen? ⟨gn,n*9+3,none⟩=false)=S:=⟨_,rfl⟩;have HPA:Hid (∀q c w',cQ 3 w0.heap.size (.slice pk mk ck) mk (dV y.1.kids) #[.int .i64 (kid:Int)] gn (n*9+8) W0 q c w'->cQ 3 w0.heap.size y.2 y.1.kids.length (dV y.1.kids) #[.int .i64 (kid:Int)] gn (n*9+8) W0 q c w'):=hid (λq c w' hp=>by rw[HKV.out.1,HKV.out.2];exact hp);have HK36:Hid (∀q c w',q<3->cQ 3 w0.heap.size (.slice pk mk ck) mk (dV y.1.kids) #[.int .i64 (kid:Int)] gn (n*9+8) W0 q c w'->w'.cell? ⟨gn,n*9+8,none⟩=some (.slice pk mk ck)):=hid (λq c w' hq hp=>by obtain⟨_,h2⟩:=HK0.out.seenK HY.out.1 (HPA.out q c w' hp) hq;have:=(h2 n y 8 y.2 HY.out.1 (by omega) rfl).1;rw[HKV.out.1,HKV.out.2] at this;exact this);have HK3:Hid (∀c w',cQ 3 w0.heap.size (.slice pk mk ck) mk (dV y.1.kids) #[.int .i64 (kid:Int)] gn (n*9+8) W0 3 c w'->w'.cell? ⟨gn,n*9+3,none⟩=some (.int .i64 (y.1.til:Int))):=hid (λc w' hp=>by obtain⟨kv,hK3⟩:=HK0.out.kidA HY.out.1 (HPA.out 3 c w' hp);have hyn:(z.set n ({ y.1 with kids:=y.1.kids++ [kid] },kv))[n]?=some ({ y.1 with kids:=y.1.kids++ [kid] },kv):=(by rw[List.getElem?_set_self (aQ.1 HY.out.1).1]);exact(hK3.nod.at_ hyn 3 (by omega) rfl).1);have HSA:Hid (∀q c w',q<4->cQ 3 w0.heap.size (.slice pk mk ck) mk (dV y.1.kids) #[.int .i64 (kid:Int)] gn (n*9+8) W0 q c w'->SA w'):=hid (λq c w' hq hp=>by
   rw[<-hSA];have hp2:=HPA.out q c w' hp;by_cases hq3:q<3
   ·obtain⟨h1,h2⟩:=HK0.out.seenK HY.out.1 hp2 hq3;rw[HM.out.2] at h1;refine⟨h1,?_,(h2 n y 8 _ HY.out.1 (by omega) rfl).2,(h2 n y 3 _ HY.out.1 (by omega) rfl).2⟩;have:=(h2 kid yk 3 _ HY.out.2.2.1 (by omega) rfl).1;rw[HY.out.2.2.2,HXs.out.2.2.1] at this;exact this
   ·obtain rfl:q=3:=(by omega);obtain⟨kv,hK3⟩:=HK0.out.kidA HY.out.1 hp2;have hyn:(z.set n ({ y.1 with kids:=y.1.kids++ [kid] },kv))[n]?=some ({ y.1 with kids:=y.1.kids++ [kid] },kv):=(by rw[List.getElem?_set_self (aQ.1 HY.out.1).1]);have hykn:(z.set n ({ y.1 with kids:=y.1.kids++ [kid] },kv))[kid]?=some yk:=by rw[List.getElem?_set_ne hnk];exact HY.out.2.2.1
    have h1:=hK3.cells.1.2.2.2.1;rw[List.length_set,HM.out.2] at h1;refine⟨h1,?_,(hK3.nod.at_ hyn 8 (by omega) rfl).2,(hK3.nod.at_ hyn 3 (by omega) rfl).2⟩;have:=(hK3.nod.at_ hykn 3 (by omega) rfl).1;rw[HY.out.2.2.2,HXs.out.2.2.1] at this;exact this)
  clear hK0 hrow;have hfol:Tryz.prog.follows .mixedOrders=true:=by kernel_rfl
  refine kR hfol [some 31,some 32,some 33,some 34,some 35,some 36,some 37,some 38,some 39,some 40,some 41,some 42,some 43,some 44,some 45,some 46,some 47,some 48,some 49,none,some 50,some 51,none] [31,32,33,34,35,36,37,38,39,40,41,42,43,44,45,46,47,48,49,50,51] [7,8,19,22] 1000000 (λ_ _=>True) 89 rfl (by kernel_rfl) (by kernel_rfl) (by kernel_rfl) (λiz=>match iz with | 0=> .pointer (some ⟨gn,n*9,none⟩) | 1=> .pointer (some ⟨gn,n*9,none⟩) | 2=> .pointer (some ⟨gn,n*9,none⟩) | 3=> .pointer (some ⟨gn,n*9,none⟩) | 4=> .pointer (some ⟨gn,n*9+8,none⟩) | 5=> .slice pk mk ck | 6=> .int .i64 (kid:Int) | 9=> .pointer (some ⟨P,0,none⟩) | 10=> .pointer (some ⟨P,0,none⟩) | 11=> .pointer (some ⟨P,3,none⟩) | 12=> .slice (some ⟨gn,0,none⟩) m cn | 13=> .int .i64 (kid:Int) | 14=> .pointer (some ⟨gn,kid*9,none⟩) | 15=> .pointer (some ⟨gn,kid*9+3,none⟩) | 16=> .int .i64 (til:Int) | 17=> .pointer (some ⟨gn,n*9,none⟩) | 18=> .pointer (some ⟨gn,n*9+8,none⟩) | 20=> .pointer (some ⟨gn,n*9,none⟩) | 21=> .pointer (some ⟨gn,n*9+3,none⟩) | _=>undef) SA (yW w0.heap.size (.slice pk mk ck) mk (dV y.1.kids) #[.int .i64 (kid:Int)] gn n til W0) (by rw[hW0];exact HSA.out 0 undef _ (by decide) (aB _ _)) (by rw[hW0];exact aB _ _) ?_ ?_
  ·intro d a w' iq o' ho hi hall hfr hF R' hR;have hiN:iq<23:=(cM.1 ho).1;have q0:a.tmps[0]?.getD undef= .pointer (some ⟨P,0,none⟩):=aY hfr 0 (by decide);have q12:a.tmps[12]?.getD undef= .int .i64 (kid:Int):=aY hfr 12 (by decide);have q14:a.tmps[14]?.getD undef= .pointer (some ⟨gn,n*9,none⟩):=aY hfr 14 (by decide);have hc:=hF.all [(0,31),(1,32),(2,33),(3,34),(4,35),(5,36),(6,37),(9,40),(10,41),(11,42),(12,43),(13,44),(14,45),(15,46),(16,47),(17,48),(18,49),(20,50),(21,51)] (by decide);dsimp only[eW] at hc;clear hfr;have ha:=hall;have hoo:=ho;have hcs:iq=5\/iq=7\/iq=8\/iq=19\/iq=22\/iq=0\/iq=1\/iq=2\/iq=3\/iq=4\/iq=6\/iq=9\/iq=10\/iq=11\/iq=13\/iq=14\/iq=15\/iq=17\/iq=18\/iq=20\/iq=21\/iq=12\/iq=16:=(by omega);clear hiN;rcases hcs with rfl|rfl|rfl|rfl|rfl|rfl|rfl|rfl|rfl|rfl|rfl|rfl|rfl|rfl|rfl|rfl|rfl|rfl|rfl|rfl|rfl|rfl|rfl<;>simp only[dW,dA,cD,cS] at ho<;>subst ho<;>(try simp[Region.binds] at hall)
   ·have c35:=hF.g 4 35 rfl (by decide) (by decide) (by decide) (by simp[hall]);obtain⟨kq,hkq,hiff,hPq⟩:=hF.ph;have hk2:kq<3:=by
     apply Classical.byContradiction;intro hge;have h1:=(hiff 2 19 rfl).2 (by omega);have h2:=hF.clo.reach 23 19 5 (by kernel_rfl) h1;rw[hi] at h2;cases h2
    have k36:=HK36.out kq _ _ hk2 (yW.lt3 hk2 hPq);go_simp;exact hR _ _ (hF.pure (by kernel_rfl) hoo ha rfl (by decide) (by decide) (by decide) rfl)
   ·have c37:=hF.g 6 37 rfl (by decide) (by decide) (by decide) (by simp[hall]);have hP0:=hF.at2 (j:=0) rfl hi (.inl rfl);have hA:Below W0.heap.size W0 w':=hP0;go_simp;exact hR _ _ (hF.eff2 (by kernel_rfl) (by decide) 0 hoo ha rfl hi (.inl rfl) rfl (by decide) (λ_ _ _=>trivial) (λ_=>HSA.out 1 _ _ (by decide) ⟨w',hA,rfl,rfl⟩) ⟨w',hA,rfl,rfl⟩)
   ·have c36:=hF.g 5 36 rfl (by decide) (by decide) (by decide) (by simp[hall]);have hpv:d 7=true:=(by simp[hall]);have hP0:=hF.at2 (j:=1) rfl hi (.inr ⟨7,rfl,hpv⟩);have ca':a.tmps.getD 36 undef= .slice pk mk ck:=by rw[aO];exact c36
    exact cQ.app rfl (.tmp 36) (.tmp 38) 60 rfl Tryz.underlying60 hi0 hz0 hz1 hz2 rfl (by decide) rfl (Yl kid) HROW.out (by omega) (by decide) HB0.out hP0 ca' rfl (λv' w2 hp=>hR _ _ (hF.eff2 (by kernel_rfl) (by decide) 1 hoo ha rfl hi (.inr ⟨7,rfl,hpv⟩) rfl (by decide) (λ_ _ _=>trivial) (λ_=>HSA.out 2 _ _ (by decide) hp) hp))
   ·have c49:=hF.g 18 49 rfl (by decide) (by decide) (by decide) (by simp[hall]);have hpv:d 8=true:=(by simp[hall]);have hP0:=hF.at2 (j:=2) rfl hi (.inr ⟨8,rfl,hpv⟩);have hS0:=hF.st (hF.lastNot (f:=23) (i:=19) (by kernel_rfl) hi);rw[<-hSA] at hS0;obtain⟨p3,q3,f8,f3⟩:=hS0;have hP2:cQ 3 w0.heap.size (.slice pk mk ck) mk (dV y.1.kids) #[.int .i64 (kid:Int)] gn (n*9+8) W0 2 (a.tmps.getD 39 undef) w':=hP0;obtain⟨gz,cz,hz⟩:=hP2.form;rw[hz] at hP2;have c39:a.tmps[39]?.getD undef= .slice (some ⟨gz,0,none⟩) (mk+1) cz:=by rw[<-aO];exact hz
    have k36:=HK36.out 2 _ _ (by decide) hP2;go_simp;exact hR undef _ (hF.eff2 (by kernel_rfl) (by decide) 2 hoo ha rfl hi (.inr ⟨8,rfl,hpv⟩) rfl (by decide) (λ_ _ _=>trivial) (λ_=>HSA.out 3 undef _ (by decide) ⟨_,_,hP2,rfl⟩) ⟨_,_,hP2,rfl⟩)
   ·have c47:=hF.g 16 47 rfl (by decide) (by decide) (by decide) (by simp[hall]);have c51:=hF.g 21 51 rfl (by decide) (by decide) (by decide) (by simp[hall]);have hpv:d 19=true:=by first | simp[hall];done | exact ha ⟨_,_⟩ (by simp) rfl | exact hF.clo.reach 23 16 19 (by kernel_rfl) (by simp[hall])
    have hP0:=hF.at2 (j:=3) rfl hi (.inr ⟨19,rfl,hpv⟩);have hS0:=hF.st hi;rw[<-hSA] at hS0;obtain⟨p3,q3,f8,f3⟩:=hS0;have k3:=HK3.out undef _ hP0;go_simp;exact hR undef _ (hF.eff2 (by kernel_rfl) (by decide) 3 hoo ha rfl hi (.inr ⟨19,rfl,hpv⟩) rfl (by decide) (λ_ _ _=>trivial) (λh=>absurd rfl h) ⟨undef,_,hP0,rfl⟩)
   iterate 16 (go_simp;exact hR _ _ (hF.pure (by kernel_rfl) hoo ha rfl (by decide) (by decide) (by decide) rfl))
   all_goals
    have hS0:=hF.early (f:=23) (by kernel_rfl) hi;rw[<-hSA] at hS0;obtain⟨p3,q3,f8,f3⟩:=hS0;go_simp;exact hR _ _ (hF.pure (by kernel_rfl) hoo ha rfl (by decide) (by decide) (by decide) rfl)
  intro v wz hcl hP4;obtain⟨c3,w3,hp3,hwz⟩:=(show ∃c3 w3,cQ 3 w0.heap.size (.slice pk mk ck) mk (dV y.1.kids) #[.int .i64 (kid:Int)] gn (n*9+8) W0 3 c3 w3/\wz=w3.setCell ⟨gn,n*9+3,none⟩ (.int .i64 (til:Int)) from hP4);obtain⟨kv,hK3⟩:=HK0.out.kidA HY.out.1 (HPA.out 3 c3 w3 hp3);have hyn:(z.set n ({ y.1 with kids:=y.1.kids++ [kid] },kv))[n]?=some ({ y.1 with kids:=y.1.kids++ [kid] },kv):=by rw[List.getElem?_set_self (aQ.1 HY.out.1).1]
  have hK4:=hK3.til hyn til;rw[<-hwz] at hK4;obtain⟨z4,hz4⟩:=exQ<|(z.set n ({ y.1 with kids:=y.1.kids++ [kid] },kv)).set n ({ ({ y.1 with kids:=y.1.kids++ [kid] }:aM) with til:=til },kv);rw[hz4] at hK4;have hz4m:z4.map (·.1)=lS n kid s2.nodes:=by
   rw[<-hz4,List.set_set,List.map_set,HM.out.1];unfold lS;rw[wI _ n _ x HXs.out.1,HY.out.2.1];rw[Cw HXs.out.2.1,HXs.out.2.2.1]
  have hz4l:z4.length=m:=by rw[<-hz4,List.length_set,List.length_set];exact HM.out.2
  have hy4:z4[n]?=some ({ ({ y.1 with kids:=y.1.kids++ [kid] }:aM) with til:=til },kv):=by
   rw[<-hz4,List.getElem?_set_self (by rw[List.length_set];exact(aQ.1 HY.out.1).1)]
  rw[hz4l] at hK4;have HZ4:=hid (aI hz4m (aI hz4l hy4));have HK4:=hid hK4;have hNat: ∀(w':World) (ls:List aP),jC YP Pr' w0 P txt sp ls z4 (.slice (some ⟨gn,0,none⟩) m cn) s2.total 0 0 w'->w'.cell? ⟨gn,n*9+3,none⟩=some (.int .i64 (til:Int))/\w'.cell? ⟨gn,n*9+1,none⟩=some (.int .i64 ind):=λw' ls hj=>by
   obtain⟨sv',lv',hk'⟩:=hj;have hnod:=hk'.nod;rw[<-hz4l] at hnod;have h1:=(hnod.at_ hy4 3 (by omega) rfl).1;have h2:=(hnod.at_ hy4 1 (by omega) rfl).1;refine⟨h1,?_⟩;rw[show ({ ({ y.1 with kids:=y.1.kids++ [kid] }:aM) with til:=til }:aM).ind=ind from by show y.1.ind=ind;rw[HY.out.2.1];exact HXs.out.2.2.2] at h2;exact h2
  have HNat:=hid hNat;have hJ4:jC YP Pr' w0 P txt sp s2.lines z4 (.slice (some ⟨gn,0,none⟩) m cn) s2.total 0 0 wz:=⟨_,_,hK4⟩;have HJ4:=hid hJ4;obtain⟨k3,k1⟩:=hNat wz _ hJ4;have hPl3:=hK4.lt;have CN:Hid (∀w',jC YP Pr' w0 P txt sp s2.lines z4 (.slice (some ⟨gn,0,none⟩) m cn) s2.total 0 0 w'->Calls Tryz.prog 33 #[.pointer (some ⟨P,0,none⟩), .int .i64 (til:Int)] w' (Kz YP Pr' w0 P txt sp ⟨s2.lines,lS n kid s2.nodes,s2.total⟩ z4 (.slice (some ⟨gn,0,none⟩) m cn) N)):=hid (λw' hj=>by have:=La (st:=⟨s2.lines,lS n kid s2.nodes,s2.total⟩) til w' hj hz4m HG.out.1.2 HG.out.2.1 hs hns hV;simp only[HN.out] at this;exact this);clear hcl hP4 hp3 hK3 hyn hK4 hz4 hz4m hz4l hy4 hNat hJ4 hwz HSA hSA;simp only[cE,eE,dF,eF];cases N with
  | bad a er=>
   have HRQ:Hid (OR.bad a er=R):=hid HR.out;go_wp2_with fail;refine(CN.out _ (by first | exact HJ4.out | exact HJ4.out.keep (aB _ _).drew)).mono ?_;rintro e w5 ⟨⟨mm,rfl⟩,hbad⟩;have HF:=hid (hbad.less HLe.out);clear hbad k3 k1;go_upto_region 7 with fail;obtain⟨W3,hW3⟩:=exQ<|w5.drew;have hfol:Tryz.prog.follows .mixedOrders=true:=(by kernel_rfl);refine nG hfol [61,62,63,64,65,66,67,68,69,70,71,72,73,74,75,76,77,78,79,80,81] 89 rfl (by kernel_rfl) (by kernel_rfl) (λiz=>match iz with | 0=> .bool false | 1=> .bool false | 2=>undef | 3=>undef | 4=>undef | 5=> .bool false | 6=> .bool false | 7=>undef | 8=>undef | 9=>undef | 10=>undef | 11=>undef | 12=>undef | 13=>undef | 14=>undef | 15=>undef | 16=>undef | 17=>undef | 18=>undef | 19=>undef | 20=> .bool false | _=>undef) (λw'=>Below W3.heap.size W3 w') (by rw[hW3];exact aB _ _) ?_ ?_
   ·intro d a w' iq o' ho hi hall hfr hF R' hR;have hiN:iq<21:=(cM.1 ho).1;have q0:a.tmps[0]?.getD undef= .pointer (some ⟨P,0,none⟩):=aY hfr 0 (by decide);have q13:a.tmps[13]?.getD undef= .bool false:=aY hfr 13 (by decide);have q14:a.tmps[14]?.getD undef= .pointer (some ⟨gn,n*9,none⟩):=aY hfr 14 (by decide);have q15:a.tmps[15]?.getD undef= .int .i64 mm:=aY hfr 15 (by decide);have hc:=hF.all [(0,61),(1,62),(4,65),(5,66),(6,67),(19,80)] (by decide);dsimp only[eW] at hc;clear hfr;have hcs:iq=0\/iq=1\/iq=5\/iq=6\/iq=20\/iq=2\/iq=3\/iq=4\/iq=7\/iq=8\/iq=9\/iq=10\/iq=11\/iq=12\/iq=13\/iq=14\/iq=15\/iq=16\/iq=17\/iq=18\/iq=19:=(by omega);clear hiN;rcases hcs with rfl|rfl|rfl|rfl|rfl|rfl|rfl|rfl|rfl|rfl|rfl|rfl|rfl|rfl|rfl|rfl|rfl|rfl|rfl|rfl|rfl<;>simp only[dW,dA,cD,cS] at ho<;>subst ho<;>(try simp[Region.binds] at hall)
    iterate 5 (refine eV (kS rfl) ?_;go_simp;exact hR _ _ (hF.step (by decide) rfl (by first | rfl | simp) hF.st))
    iterate 16 exact sW (hF.off rfl rfl rfl rfl (by simp[hall]) rfl) (hR _ _ (hF.step (by decide) rfl rfl hF.st))
   intro v wz hcl hS;have hv:=nF (l:= [61,62,63,64,65,66,67,68,69,70,71,72,73,74,75,76,77,78,79,80,81]) hcl (by decide);dsimp only[lH] at hv;simp only[cE,eE,dF,eF,hv];clear hcl hv;have HF2:=hid ((HF.out.keep (show Below w5.heap.size w5 W3 from by rw[<-hW3];exact(aB _ _).drew)).keep hS);clear hS;go_wp2_with fail;go_ret2;rw[<-HRQ.out];exact⟨⟨_,rfl⟩,HF2.out⟩
  | ok nx ls=>
   have hnok:=(show qG txt sp til s2.lines nx ls from HNO.out);have hR:=HR.out;simp only[] at hR;have HRn:=hid hR;have hnx0:(0:Int)<=(nx:Int):=(by omega);clear hR hnok;go_wp2_with fail;refine(CN.out _ (by first | exact HJ4.out | exact HJ4.out.keep (aB _ _).drew)).mono ?_;rintro e w5 ⟨rfl,hj5⟩;have HJ5:=hid hj5;clear hj5 k3 k1;go_upto_region 7 with fail;obtain⟨W3,hW3⟩:=exQ<|w5.drew;have hj0:=HJ5.out.keep (aB _ w5).drew;rw[hW3] at hj0;have HJ0:=hid hj0;have CT0:Hid (∀w',Below W3.heap.size W3 w'->Calls Tryz.prog 34 #[.pointer (some ⟨P,0,none⟩), .int .i64 (nx:Int)] w' λe w2=>e= .returned (.bool (decide (nx<sp.length)))/\Below w'.heap.size w' w2):=hid (λw' hb=>uJ nx w' ((HJ0.out.keep hb).toJ HZ4.out.1));clear hj0;by_cases hlt:nx<sp.length;rotate_left
   ·have hR:=HRn.out;rw[if_neg (λe=>hlt e.1)] at hR;have HRQ:=hid hR;have CT:Hid (∀w',Below W3.heap.size W3 w'->Calls Tryz.prog 34 #[.pointer (some ⟨P,0,none⟩), .int .i64 (nx:Int)] w' λe w2=>e= .returned (.bool false)/\Below w'.heap.size w' w2):=hid (λw' hb=>by have:=CT0.out w' hb;rw[aJ hlt] at this;exact this);clear hR hlt CT0;have hfol:Tryz.prog.follows .mixedOrders=true:=(by kernel_rfl);refine nG hfol [61,62,63,64,65,66,67,68,69,70,71,72,73,74,75,76,77,78,79,80,81] 89 rfl (by kernel_rfl) (by kernel_rfl) (λiz=>match iz with | 0=> .bool true | 1=> .bool true | 2=> .pointer (some ⟨P,0,none⟩) | 3=> .int .i64 (nx:Int) | 4=> .bool false | 5=> .bool false | 6=> .bool false | 7=>undef | 8=>undef | 9=>undef | 10=>undef | 11=>undef | 12=>undef | 13=>undef | 14=>undef | 15=>undef | 16=>undef | 17=>undef | 18=>undef | 19=>undef | 20=> .bool false | _=>undef) (λw'=>Below W3.heap.size W3 w') (by rw[hW3];exact aB _ _) ?_ ?_
    ·intro d a w' iq o' ho hi hall hfr hF R' hR;have hiN:iq<21:=(cM.1 ho).1;have q0:a.tmps[0]?.getD undef= .pointer (some ⟨P,0,none⟩):=aY hfr 0 (by decide);have q13:a.tmps[13]?.getD undef= .bool true:=aY hfr 13 (by decide);have q14:a.tmps[14]?.getD undef= .pointer (some ⟨gn,n*9,none⟩):=aY hfr 14 (by decide);have q15:a.tmps[15]?.getD undef= .int .i64 (nx:Int):=aY hfr 15 (by decide);have hc:=hF.all [(0,61),(1,62),(2,63),(3,64),(4,65),(5,66),(6,67),(19,80)] (by decide);dsimp only[eW] at hc;clear hfr;have hcs:iq=4\/iq=0\/iq=1\/iq=5\/iq=6\/iq=20\/iq=2\/iq=3\/iq=7\/iq=8\/iq=9\/iq=10\/iq=11\/iq=12\/iq=13\/iq=14\/iq=15\/iq=16\/iq=17\/iq=18\/iq=19:=(by omega);clear hiN;rcases hcs with rfl|rfl|rfl|rfl|rfl|rfl|rfl|rfl|rfl|rfl|rfl|rfl|rfl|rfl|rfl|rfl|rfl|rfl|rfl|rfl|rfl<;>simp only[dW,dA,cD,cS] at ho<;>subst ho<;>(try simp[Region.binds] at hall)
     ·have c62:=hF.g 1 62 rfl (by simp[hall]);have c63:=hF.g 2 63 rfl (by simp[hall]);have c64:=hF.g 3 64 rfl (by simp[hall]);refine eV (qI rfl rfl rfl c62) ?_;go_simp;go_at_call 34;refine(CT.out _ hF.st).mono ?_;rintro e w5 ⟨rfl,hb5⟩;exact hR _ _ (hF.step (by decide) rfl rfl (aC hF.st hb5))
     iterate 5 (refine eV (kS rfl) ?_;go_simp;exact hR _ _ (hF.step (by decide) rfl (by first | rfl | simp) hF.st))
     iterate 2 (refine eV (hF.on rfl rfl rfl rfl (by simp[hall]) rfl) ?_;go_simp;exact hR _ _ (hF.step (by decide) rfl (by first | rfl | simp) hF.st))
     iterate 13 exact sW (hF.off rfl rfl rfl rfl (by simp[hall]) rfl) (hR _ _ (hF.step (by decide) rfl rfl hF.st))
    intro v wz hcl hS;have hv:=nF (l:= [61,62,63,64,65,66,67,68,69,70,71,72,73,74,75,76,77,78,79,80,81]) hcl (by decide);dsimp only[lH] at hv;simp only[cE,eE,dF,eF,hv];clear hcl hv;have HJN:=hid ((HJ0.out.keep hS).toJ HZ4.out.1);clear hS;go_wp2_with fail;go_ret2;rw[<-HRQ.out];exact⟨rfl,HJN.out.less HLe.out,HH.out _ _ _ _ HJN.out⟩
   ·obtain⟨hlen,hcon⟩:=HNO.out.hit hlt;have CT:Hid (∀w',Below W3.heap.size W3 w'->Calls Tryz.prog 34 #[.pointer (some ⟨P,0,none⟩), .int .i64 (nx:Int)] w' λe w2=>e= .returned (.bool true)/\Below w'.heap.size w' w2):=hid (λw' hb=>by have:=CT0.out w' hb;rw[aN hlt] at this;exact this);obtain⟨i2,hi2⟩:=exQ<|(aZ ls nx).ind;obtain⟨bb,hbb⟩:=exQ<|decide (ind<i2);obtain⟨m2,hm2⟩:=exQ<|ls.length;obtain⟨sv5,lv5,hK5⟩:=HJ0.out;have hln2:=pA (show nx<ls.length by omega);obtain⟨g2,cz2,e9,_,hcell⟩:=hK5.lineAt hln2;subst e9;have HSC:Hid (∀w',Below W3.heap.size W3 w'->w'.cell? ⟨P,2,none⟩=some (.slice (some ⟨g2,0,none⟩) m2 cz2)/\w'.cell? ⟨g2,nx*10+3,none⟩=some (.int .i64 i2)/\w'.cell? ⟨gn,n*9+1,none⟩=some (.int .i64 ind)):=hid (λw' hb=>by have hK2:=hK5.keep hb;obtain⟨⟨_,_,c2,_⟩,_⟩:=hK2.cells;obtain⟨g3,cz3,e3,_,hcell3⟩:=hK2.lineAt hln2;have e4:=(Value.slice.inj e3).1;injection e4 with e4;injection e4 with e4;subst e4;have h3:=hcell3 3 _ (by omega) rfl;rw[hi2] at h3;simp only[hm2] at c2;exact⟨c2,h3,(HNat.out w' ls ⟨_,_,hK2⟩).2⟩);have hnx1:(nx:Int)<(m2:Int):=(by omega);have HI2:=hid (aI hi2 hbb);have HLT:=hid hlt;have HHit:=hid (aI hlen (HNO.out.ok.2 nx (by omega)));clear hK5 hcell hln2 hm2 hi2 hlen hcon CT0 hlt;have hfol:Tryz.prog.follows .mixedOrders=true:=(by kernel_rfl);refine nG hfol [61,62,63,64,65,66,67,68,69,70,71,72,73,74,75,76,77,78,79,80,81] 89 rfl (by kernel_rfl) (by kernel_rfl) (λiz=>match iz with | 0=> .bool true | 1=> .bool true | 2=> .pointer (some ⟨P,0,none⟩) | 3=> .int .i64 (nx:Int) | 4=> .bool true | 5=> .bool true | 6=> .bool true | 7=> .pointer (some ⟨P,0,none⟩) | 8=> .pointer (some ⟨P,0,none⟩) | 9=> .pointer (some ⟨P,2,none⟩) | 10=> .slice (some ⟨g2,0,none⟩) m2 cz2 | 11=> .int .i64 (nx:Int) | 12=> .pointer (some ⟨g2,nx*10,none⟩) | 13=> .pointer (some ⟨g2,nx*10+3,none⟩) | 14=> .int .i64 i2 | 15=> .pointer (some ⟨gn,n*9,none⟩) | 16=> .pointer (some ⟨gn,n*9,none⟩) | 17=> .pointer (some ⟨gn,n*9+1,none⟩) | 18=> .int .i64 ind | 19=> .bool bb | 20=> .bool bb | _=>undef) (λw'=>Below W3.heap.size W3 w') (by rw[hW3];exact aB _ _) ?_ ?_
    ·intro d a w' iq o' ho hi hall hfr hF R' hR;have hiN:iq<21:=(cM.1 ho).1;have q0:a.tmps[0]?.getD undef= .pointer (some ⟨P,0,none⟩):=aY hfr 0 (by decide);have q13:a.tmps[13]?.getD undef= .bool true:=aY hfr 13 (by decide);have q14:a.tmps[14]?.getD undef= .pointer (some ⟨gn,n*9,none⟩):=aY hfr 14 (by decide);have q15:a.tmps[15]?.getD undef= .int .i64 (nx:Int):=aY hfr 15 (by decide);have hc:=hF.all [(0,61),(1,62),(2,63),(3,64),(4,65),(5,66),(6,67),(7,68),(8,69),(9,70),(10,71),(11,72),(12,73),(13,74),(14,75),(15,76),(16,77),(17,78),(18,79),(19,80)] (by decide);dsimp only[eW] at hc;clear hfr;obtain⟨p2,l3,x3⟩:=HSC.out _ hF.st;have hcs:iq=4\/iq=0\/iq=1\/iq=5\/iq=6\/iq=20\/iq=2\/iq=3\/iq=7\/iq=8\/iq=9\/iq=10\/iq=11\/iq=12\/iq=13\/iq=14\/iq=15\/iq=16\/iq=17\/iq=18\/iq=19:=(by omega);clear hiN;rcases hcs with rfl|rfl|rfl|rfl|rfl|rfl|rfl|rfl|rfl|rfl|rfl|rfl|rfl|rfl|rfl|rfl|rfl|rfl|rfl|rfl|rfl<;>simp only[dW,dA,cD,cS] at ho<;>subst ho<;>(try simp[Region.binds] at hall)
     ·have c62:=hF.g 1 62 rfl (by simp[hall]);have c63:=hF.g 2 63 rfl (by simp[hall]);have c64:=hF.g 3 64 rfl (by simp[hall]);refine eV (qI rfl rfl rfl c62) ?_;go_simp;go_at_call 34;refine(CT.out _ hF.st).mono ?_;rintro e w5 ⟨rfl,hb5⟩;exact hR _ _ (hF.step (by decide) rfl rfl (aC hF.st hb5))
     iterate 5 (refine eV (kS rfl) ?_;go_simp;exact hR _ _ (hF.step (by decide) rfl (by first | rfl | simp) hF.st))
     iterate 15 (refine eV (hF.on rfl rfl rfl rfl (by simp[hall]) rfl) ?_;go_simp;exact hR _ _ (hF.step (by decide) rfl (by first | rfl | simp) hF.st))
    intro v wz hcl hS;have hv:=nF (l:= [61,62,63,64,65,66,67,68,69,70,71,72,73,74,75,76,77,78,79,80,81]) hcl (by decide);dsimp only[lH] at hv;simp only[cE,eE,dF,eF,hv];clear hcl hv;have HJN:=hid ((HJ0.out.keep hS).toJ HZ4.out.1);clear hS;have hbb:=HI2.out.2;have hR:=HRn.out;rw[HI2.out.1] at hR;cases bb with
    | false=>
     rw[if_neg (λe=>of_decide_eq_false hbb e.2)] at hR;have HRQ:=hid hR;clear hR hbb;go_wp2_with fail;go_ret2;rw[<-HRQ.out];exact⟨rfl,HJN.out.less HLe.out,HH.out _ _ _ _ HJN.out⟩
    | true=>
     rw[if_pos ⟨HLT.out,of_decide_eq_true hbb⟩] at hR;have HRQ:=hid hR;have CB:=hid (λw' hj=>Dg (Pr:=Pr') (w0:=w0) (P:=P) (txt:=txt) (sp:=sp) (st:=⟨ls,lS n kid s2.nodes,s2.total⟩) (a0:=0) (e0:=0) nx w' hj HLT.out (by have:=HHit.out.1;simp only[];omega) HHit.out.2 hs);simp only[HI2.out.1] at CB;have CF:=hid (λa w' hj=>pC (Pr:=Pr') (w0:=w0) (P:=P) (txt:=txt) (sp:=sp) (st:=⟨ls,lS n kid s2.nodes,s2.total⟩) (a0:=0) (e0:=0) a 2 w' hj);clear hR hbb;go_wp2_with fail;refine(CB.out _ (by first | exact HJN.out | exact HJN.out.keep (aB _ _).drew)).mono ?_;rintro e w7 ⟨rfl,hb7⟩;have HJ7:=hid (HJN.out.keep (by first | exact hb7 | exact aC (aB _ _).drew hb7));clear hb7;go_wp2_with fail;refine(CF.out _ _ (by first | exact HJ7.out | exact HJ7.out.keep (aB _ _).drew)).mono ?_;rintro e w8 ⟨rfl,hj8⟩;have HF:=hid (hj8.less HLe.out).bad;clear hj8;go_wp2_with fail;go_ret2;rw[<-HRQ.out];exact⟨⟨_,rfl⟩,HF.out⟩
theorem wS {P:Program}{f:FuncId}{fn:Func} (hf:P.funcs[f]?=some fn) (h1: ¬fn.name= "runtime.NumGoroutine") (h2:fn.body.isNone=false) (args:Array Value) (w:World):(callFunc f args).run P w= .ok (.enter f args) w:=by
 have h3: ¬fn.body=none:=by
  intro h;rw[h] at h2;cases h2
 simp[callFunc,go_sem,hf,h1,h3]
theorem Ym (args:Array Value) (w:World):(callFunc 69 args).run Tryz.prog w= .ok (.enter 69 args) w:=
 wS Tryz.func69 (of_decide_eq_false (by kernel_rfl)) (by kernel_rfl) args w
theorem Yn (args:Array Value) (w:World):(callFunc 109 args).run Tryz.prog w= .ok (.enter 109 args) w:=
 wS Tryz.func109 (of_decide_eq_false (by kernel_rfl)) (by kernel_rfl) args w
theorem Yo (w0:World) (P:Nat) (txt:aA) (sp:List (Nat×Nat)) (hsp:eJ txt sp) (hs:txt.length<=65536) (hns:sp.length<=131072) (hV:cA w0) (V:YB) (hVG:gO txt sp V) (H:List aA->World->Prop) {Pr:aK}{st:YS} (n k:Nat) (ind lev:Int) (had:List aA) (w:World) (hk:k+1=st.lines.length) (hw:dZ txt sp st) {x:aM} (hx:st.nodes[n]?=some x) (hxi:x.ind=ind) (hkids: ∀(s2:YS) kid had',gB txt V false had k st=(.ok kid s2,had')-> ∀y,s2.nodes[n]?=some y->y.kids.length<=131072)
  (hPl:P<w.heap.size) (CR:Calls Tryz.prog 69 #[.pointer (some ⟨P,0,none⟩), .int .i64 (k:Int), .int .i64 lev] w (wQ Pr w0 P txt sp H (gB txt V false had k st))):
  Calls Tryz.prog 73 #[.pointer (some ⟨P,0,none⟩), .int .i64 (n:Int), .int .i64 (k:Int), .int .i64 lev, .func (.func 69) #[.pointer (some ⟨P,0,none⟩)] #[]] w (wR Pr w0 P txt sp H (iF txt sp V false n ind had k st)):=
 Ls w0 P txt sp hsp hs hns hV V hVG H n k ind lev had _ #[.pointer (some ⟨P,0,none⟩)] #[] false Ym w hk hw hx hxi hkids hPl CR
theorem Yp (w0:World) (P:Nat) (txt:aA) (sp:List (Nat×Nat)) (hsp:eJ txt sp) (hs:txt.length<=65536) (hns:sp.length<=131072) (hV:cA w0) (V:YB) (hVG:gO txt sp V) (H:List aA->World->Prop) {Pr:aK}{st:YS} (n k:Nat) (ind lev:Int) (had:List aA) (CX CY:Nat) (w:World) (hk:k+1=st.lines.length) (hw:dZ txt sp st) {x:aM} (hx:st.nodes[n]?=some x) (hxi:x.ind=ind) (hkids: ∀(s2:YS) kid had',gB txt V true had k st=(.ok kid s2,had')-> ∀y,s2.nodes[n]?=some y->y.kids.length<=131072)
  (hPl:P<w.heap.size) (CR:Calls Tryz.prog 109 #[.int .i64 (k:Int), .int .i64 lev, .pointer (some ⟨CX,0,none⟩), .pointer (some ⟨CY,0,none⟩)] w (wQ Pr w0 P txt sp H (gB txt V true had k st))):
  Calls Tryz.prog 73 #[.pointer (some ⟨P,0,none⟩), .int .i64 (n:Int), .int .i64 (k:Int), .int .i64 lev, .func (.func 109) #[] #[.pointer (some ⟨CX,0,none⟩), .pointer (some ⟨CY,0,none⟩)]] w (wR Pr w0 P txt sp H (iF txt sp V true n ind had k st)):=
 Ls w0 P txt sp hsp hs hns hV V hVG H n k ind lev had _ #[] #[.pointer (some ⟨CX,0,none⟩), .pointer (some ⟨CY,0,none⟩)] true Yn w hk hw hx hxi hkids hPl CR
end
section
open Go.Lib
theorem Yq {s:aA}{V:YB}{map:Bool}{had had':List aA}{k:Nat}{st:YS}{R:YR} (h:gB s V map had k st=(R,had')):had'.length<=had.length+1:=by
 unfold gB at h;split at h
 ·simp only[] at h;split at h
  ·injection h with h1 h2;rw[<-h2];omega
  ·split at h
   ·injection h with h1 h2;rw[<-h2];omega
   ·injection h with h1 h2;rw[<-h2,aT];omega
 ·injection h with h1 h2;rw[<-h2];omega
theorem Yr {s:aA}{sp:List (Nat×Nat)}{V:YB} (hV:gO s sp V) {map:Bool}{n:Nat}{ind:Int}{had had':List aA}{k nx:Nat}{st s3:YS} (hw:dZ s sp st) (hk:k+1=st.lines.length) {x:aM} (hx:st.nodes[n]?=some x) (h:iF s sp V map n ind had k st= .ok nx s3 had'):
  (∃x',s3.nodes[n]?=some x'/\x'.ind=x.ind/\x'.kids.length=x.kids.length+1)/\st.nodes.length<s3.nodes.length/\had'.length<=had.length+1:=by
 have hg:=wJ hV map had hw hk;unfold iF at h;obtain⟨⟨Q,had2⟩,hQ⟩:=exQ<|gB s V map had k st;have hh:=Yq hQ;rw[hQ] at h hg;cases Q with
 | bad a e=>cases h
 | ok kid s2=>
  obtain⟨g1,⟨m1,g2n,g2⟩,_,_,_,_⟩:=(show lG s sp k st kid s2 from hg);simp only[] at h;split at h
  ·cases h
  ·split at h
   ·cases h
   ·injection h with e1 e2 e3;have hnl:=(aQ.1 hx).1;have hx2:s2.nodes[n]?=some x:=by rw[g2,mE hnl];exact hx
    have hn2:=(aQ.1 hx2).1;subst e2 e3;refine⟨?_,?_,hh⟩
    ·simp only[];unfold lS;rw[wI _ n _ x hx2,List.getElem?_set_self hn2];exact⟨_,rfl,rfl,by simp⟩
    ·simp only[];unfold lS;rw[Cv,g2,aS];have:=tJ.2 g2n;omega
theorem Ys {l:List aM}{n:Nat}{x:aM} (h:l[n]?=some x): ∃post,l=l.take n++x::post:=by
 obtain⟨h1,h2⟩:=aQ.1 h;refine⟨l.drop (n+1),?_⟩;rw[<-h2,<-iK h1,rO]
theorem Lt {s:aA}{sp:List (Nat×Nat)} (hsp:eJ s sp) {V:YB} (hV:gO s sp V) {map:Bool}{n:Nat}{ind:Int}{had had':List aA}{k nx:Nat}{st s3:YS} (hw:dZ s sp st) (hk:k+1=st.lines.length) {x:aM} (hx:st.nodes[n]?=some x) (h:iF s sp V map n ind had k st= .ok nx s3 had'):
  (∃x',s3.nodes[n]?=some x'/\x'.ind=x.ind/\x'.kids.length=x.kids.length+1)/\st.nodes.length<s3.nodes.length/\had'.length<=had.length+1/\dZ s sp s3/\nx<=sp.length/\k<nx/\(nx<sp.length->nx+1=s3.lines.length):=by
 obtain⟨h1,h2,h3⟩:=Yr hV hw hk hx h;obtain⟨post,hp⟩:=Ys hx;have hl:=(aQ.1 hx).1;have hg:=Cx hsp hV map (n:=n) ind had (k0:=k) (st0:=⟨[],st.nodes.take n,0⟩) hw hk (aE _) (by simp only[cF];omega) ⟨x,post,hp⟩ ⟨st.lines,rfl⟩;rw[h] at hg;exact⟨h1,h2,h3,hg.1.wf,hg.1.k.1,hg.2,hg.1.k.2.2⟩
theorem Dh {s:aA}{sp:List (Nat×Nat)}{V:YB}{map:Bool}{n:Nat}{ind kind:Int}{f:Nat}{had:List aA}{k:Nat}{st:YS} (h: ¬(k<sp.length/\(aZ st.lines k).ind=ind/\(aZ st.lines k).kind=kind)):kP s sp V map n ind kind f had k st= .ok n st:=by
 cases f with
 | zero=>rfl
 | succ f=>unfold kP;rw[if_neg h]
theorem Lu {s:aA}{sp:List (Nat×Nat)}{V:YB} (hV:gO s sp V) {map:Bool}{had:List aA}{k:Nat}{st:YS} (hw:dZ s sp st) (hk:k+1=st.lines.length) {n:Nat}{x:aM} (hx:st.nodes[n]?=some x) (hl:x.kids.length<=131072): ∀(s2:YS) kid had',gB s V map had k st=(.ok kid s2,had')-> ∀y,s2.nodes[n]?=some y->y.kids.length<=131072:=by
 intro s2 kid had' h y hy;have hg:=wJ hV map had hw hk;rw[h] at hg;obtain⟨g1,⟨m1,g2n,g2⟩,_⟩:=(show lG s sp k st kid s2 from hg);rw[g2,mE (aQ.1 hx).1,hx] at hy;obtain rfl:=bD hy;exact hl
end
end Go.Proofs.YtaifnmjjpddikaaGreatDoor
