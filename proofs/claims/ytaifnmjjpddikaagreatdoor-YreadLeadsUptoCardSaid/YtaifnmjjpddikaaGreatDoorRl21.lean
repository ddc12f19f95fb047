import Derived.Test.YtaifnmjjpddikaaGreatDoorRl20
import Derived.Test.YtaifnmjjpddikaaGreatDoorRl17
set_option maxRecDepth 100000
set_option maxHeartbeats 8000000
namespace Go.Proofs.YtaifnmjjpddikaaGreatDoor
set_option linter.unusedVariables false
set_option linter.unusedSimpArgs false
section
open Go.RowKit Go.Maps Go.WideMaps
open Go.Lib hiding intOf
def xD (Pr:aL) (w0:World) (P:Nat) (txt:aA) (sp:List (Nat×Nat)) (H:List aA->World->Prop) (R:YR×List aA) (e:Ending) (w':World):Prop:=match R.1 with
 | .ok n st=>e= .returned (.tuple #[.int .i64 (n:Int), .bool true])/\ ∃Pr':aL,(∀q o,Pr q=some o->Pr' q=some o)/\YJ YP Pr' w0 P txt sp st 0 0 w'/\ ∀st2 a er w2,YJ YP Pr' w0 P txt sp st2 a er w2->H R.2 w2
 | .bad a er=>(∃m:Int,e= .returned (.tuple #[.int .i64 m, .bool false]))/\gB YP Pr w0 P txt sp a er w'
theorem iD.toX {Pr:aL}{w0:World}{P:Nat}{txt:aA}{sp:List (Nat×Nat)}{R:YR}{had:List aA}{e:Ending}{w':World} (h:iD YP Pr w0 P txt sp R e w'):xD Pr w0 P txt sp (λ_ _=>True) (R,had) e w':=by
 cases R with
 | ok n st=>exact⟨h.1,Pr,λ_ _ b=>b,h.2,λ_ _ _ _ _=>trivial⟩
 | bad a er=>exact h
theorem zQ.toX {Pr:aL}{w0:World}{P:Nat}{txt:aA}{sp:List (Nat×Nat)}{b:Nat}{R:YR×List aA}{e:Ending}{w':World} (hpb:Pr b=none) (h:zQ Pr w0 P txt sp b R e w'):xD Pr w0 P txt sp (HM b) R e w':=by
 obtain⟨R,had⟩:=R;cases R with
 | bad a er=>exact h
 | ok n st=>
  obtain⟨i,j,d⟩:=(show e= .returned (.tuple #[.int .i64 (n:Int), .bool true])/\YJ YP Pr w0 P txt sp st 0 0 w'/\HM b had w' from h);obtain⟨es,c,f⟩:=d.obj;exact⟨i,Pr.put b (.map es c),aL.put_lessN hpb,j.putMap f,λst2 a er w2 g=>d.same ((g.at_ (aL.put_eq _ _ _)).trans f.symm)⟩
def xE (Pr:aL) (w0:World) (P:Nat) (txt:aA) (sp:List (Nat×Nat)) (H:List aA->World->Prop) (R:OR) (e:Ending) (w':World):Prop:=match R with
 | .ok nx st had=>e= .returned (.tuple #[.int .i64 (nx:Int), .bool true])/\YJ YP Pr w0 P txt sp st 0 0 w'/\H had w'
 | .bad a er=>(∃m:Int,e= .returned (.tuple #[.int .i64 m, .bool false]))/\gB YP Pr w0 P txt sp a er w'
def zR (B:Nat) (v:Value) (mk:Nat) (xs:List Value) (el:Array Value) (gn n til:Nat) (W0:World):Nat->Value->World->Prop
 | 0,c,w'=>cS 3 B v mk xs el gn (n*9+8) W0 0 c w'
 | 1,c,w'=>cS 3 B v mk xs el gn (n*9+8) W0 1 c w'
 | 2,c,w'=>cS 3 B v mk xs el gn (n*9+8) W0 2 c w'
 | 3,c,w'=>cS 3 B v mk xs el gn (n*9+8) W0 3 c w'
 | _,_,w'=> ∃c3 w3,cS 3 B v mk xs el gn (n*9+8) W0 3 c3 w3/\w'=w3.setCell ⟨gn,n*9+3,none⟩ (.int .i64 (til:Int))
theorem zR.lt3 {B:Nat}{v:Value}{mk:Nat}{xs:List Value}{el:Array Value}{gn n til:Nat}{W0:World}{k:Nat}{c:Value}{w':World} (hk:k<3) (h:zR B v mk xs el gn n til W0 k c w'):cS 3 B v mk xs el gn (n*9+8) W0 k c w':=by
 match k,h with
 | 0,h=>exact h
 | 1,h=>exact h
 | 2,h=>exact h
 | k+3,_=>omega
theorem Zm (kid:Nat): ∀u∈(#[.int .i64 (kid:Int)]:Array Value).toList,u.oneCell'=true:=by
 intro u b;rw[iQ.1 b];rfl
section
variable {T:TypeId}{Pr:aL}{w0 w' W0:World}{P:Nat}{txt:aA}{sp:List (Nat×Nat)}{lines:List aP}{z:List YN}{tot:Nat}{a er:Int}{sv lv:Value}{gn cn:Nat}
theorem YK.seenK (h:YK T Pr w0 P txt sp lines z tot a er sv lv (.slice (some ⟨gn,0,none⟩) z.length cn) W0) {n:Nat}{y:YN} (hy:z[n]?=some y) {el:Array Value}{k i:Nat}{c:Value} (hp:cS 3 w0.heap.size y.2 y.1.kids.length (eI y.1.kids) el gn i W0 k c w') (hk:k<3):
  w'.cell? ⟨P,3,none⟩=some (.slice (some ⟨gn,0,none⟩) z.length cn)/\ ∀(j:Nat) (x:YN) (q:Nat) (u:Value),z[j]?=some x->q<9->(jC x)[q]?=some u->w'.cell? ⟨gn,j*9+q,none⟩=some u/\w'.frozen? ⟨gn,j*9+q,none⟩=false:=by
 have b:=h.nod.kids y (aX hy);have f:=h.seenA b (Ne.symm h.ty.2.2.2) (λj o g=>(h.fr j o g).2.2.2.2 y (aX hy)) hk hp;refine⟨f.c3.1,λj x q u d e l=>?_⟩;have hn:=(aR.1 d).1;have key:w'.ownsRow w0.heap.size 62 9 (.slice (some ⟨gn,0,none⟩) z.length cn) z.length (iM z):=by
  match k,hp with
  | 0,hp=>exact jZ h.nod.row (show Below W0.heap.size W0 w' from hp)
  | 1,⟨w1,hb,_,hw⟩=>
   rw[hw];exact(jZ h.nod.row hb).alloc _
  | 2,⟨w1,hb,_,hg,_⟩=>exact(jZ h.nod.row hb).kept hg (iJ (jZ h.nod.row hb) (jZ b hb) (by decide))
  | k+3,_=>omega
 refine⟨?_,World.ownsRow.frozenAt key _⟩;rw[World.ownsRow.cellAt key _ (by omega),iM,tD _ 9 zD z j x d q e,l]
theorem YK.kidA (h:YK T Pr w0 P txt sp lines z tot a er sv lv (.slice (some ⟨gn,0,none⟩) z.length cn) W0) {n kid:Nat}{y:YN} (hy:z[n]?=some y) {c:Value} (hp:cS 3 w0.heap.size y.2 y.1.kids.length (eI y.1.kids) #[.int .i64 (kid:Int)] gn (n*9+8) W0 3 c w'):
  ∃kv,YK T Pr w0 P txt sp lines (z.set n ({ y.1 with kids:=y.1.kids++ [kid] },kv)) tot a er sv lv (.slice (some ⟨gn,0,none⟩) (z.set n ({ y.1 with kids:=y.1.kids++ [kid] },kv)).length cn) w':=by
 obtain⟨c,w2,⟨w1,e,b,f,d,_⟩,rfl⟩:=hp;exact⟨c,(h.keep e).kid hy (H:=w1.heap.size+1) (sS _) b f d⟩
end
theorem Dx {Pr:aL}{w0:World}{P:Nat}{txt:aA}{sp:List (Nat×Nat)}{st:YS}{a0 e0:Int} (k:Nat) (w:World) (h:YJ YP Pr w0 P txt sp st a0 e0 w) (hk:k<sp.length) (hkl:k<st.lines.length) (hok:wU txt (pO sp k) (aU st.lines k)) (hs:txt.length<=65536):
  Calls Tryz.prog 37 #[.pointer (some ⟨P,0,none⟩), .int .i64 (k:Int)] w λe w'=>e= .returned (.int .i64 (((pO sp k).1:Int)+(aU st.lines k).ind))/\Below w.heap.size w w':=by
 obtain⟨x,f⟩: ∃x,sp[k]?=some x:=⟨_,bE hk⟩;have c:=pP hkl;obtain⟨r,i⟩:=exQ<|aU st.lines k;rw[i] at c hok ⊢;rw[Dg f] at hok ⊢;obtain⟨h1,o,h3⟩:=hok.ind;obtain⟨z,sv,lv,nv,m,d⟩:=h;obtain⟨gs,cs,rfl,_,s0,s1⟩:=d.spanAt f;obtain⟨gl,cl,e9,_,b⟩:=d.lineAt c;subst e9;obtain⟨⟨_,c1,c2,_⟩,_⟩:=d.cells;have g3:=b 3 _ (by omega) rfl;have hPl:=d.lt;have hk0:(0:Int)<=(k:Int):=by omega
 have hk1:(k:Int)<(sp.length:Int):=by omega
 obtain⟨n,g⟩:=exQ<|st.lines.length;rw[g] at c2 hkl;have hk2:(k:Int)<(n:Int):=by omega
 obtain⟨S,l⟩:=exQ<|(x.1:Int)+r.ind;have hSw:IntKind.i64.wrap S=S:=by rw[IntKind.wrap_i64];omega
 have j:=hid (aB w.heap.size w);rw[l];clear d m b c i hok f g hk hkl o;go_enter Tryz.func37,Tryz.ntmps37;go_wp2_with fail;go_region;go_wp2_with fail;go_ret;exact⟨rfl,j.out.drew⟩
theorem Ml (w0:World) (P:Nat) (txt:aA) (sp:List (Nat×Nat)) (hsp:dH txt sp) (hs:txt.length<=65536) (hns:sp.length<=131072) (hV:bU w0) (V:YB) (hVG:gA txt sp V) (H:List aA->World->Prop) {Pr:aL}{st:YS} (n k:Nat) (ind lev:Int) (had:List aA) (f:FuncId) (A B:Array Value) (mp:Bool) (hcf: ∀(args:Array Value) (w:World),(callFunc f args).run Tryz.prog w= .ok (.enter f args) w) (w:World) (hk:k+1=st.lines.length) (hw:dI txt sp st) {x:aG} (hx:st.nodes[n]?=some x) (hxi:x.ind=ind) (hkids: ∀(s2:YS) kid had',fQ txt V mp had k st=(.ok kid s2,had')-> ∀y,s2.nodes[n]?=some y->y.kids.length<=131072)
  (hPl:P<w.heap.size) (CR:Calls Tryz.prog f (A++(#[.int .i64 (k:Int), .int .i64 lev]++B)) w (xD Pr w0 P txt sp H (fQ txt V mp had k st))):
  Calls Tryz.prog 73 #[.pointer (some ⟨P,0,none⟩), .int .i64 (n:Int), .int .i64 (k:Int), .int .i64 lev, .func (.func f) A B] w (xE Pr w0 P txt sp H (gM txt sp V mp n ind had k st)):=by
 obtain⟨R,r⟩:=exQ<|gM txt sp V mp n ind had k st;rw[r];unfold gM at r;have hg:=uZ hVG mp had hw hk;obtain⟨⟨Q,br⟩,hQ⟩:=exQ<|fQ txt V mp had k st;have au:=λs2 kid had' e=>hkids s2 kid had' e;rw[hQ] at r hg CR au;have bl:=hid CR;clear CR hkids hQ;cases Q with
 | bad a er=>
  have D:Hid (OR.bad a er=R):=hid r;clear r hg au hw hx;go_enter Tryz.func73,Tryz.ntmps73;go_wp2_with fail;refine bl.out.mono ?_;rintro e w2 ⟨⟨m,rfl⟩,G⟩;have HF:=hid G;clear G;go_wp2_with fail;go_ret2;rw[<-D.out];exact⟨⟨_,rfl⟩,HF.out⟩
 | ok kid s2=>
  obtain⟨g1,⟨m1,g2n,g2⟩,⟨m2',g3⟩,g4,g5,g6⟩:=(show kM txt sp k st kid s2 from hg);simp only[] at r;have bL:=(aR.1 hx).1;have ay:s2.nodes[n]?=some x:=by rw[g2,kP bL];exact hx
  have aj:kid<s2.nodes.length:=by
   rw[g2,aW,g1];have:=sE.2 g2n;omega
  obtain⟨xk,bd⟩: ∃xk,s2.nodes[kid]?=some xk:=⟨_,bE aj⟩;obtain⟨til,ar⟩:=exQ<|fA s2.nodes kid;have aN:xk.til=til:=by rw[<-ar,Dl bd]
  rw[ar] at r g4 g5;have aK:x.kids.length<=131072:=au s2 kid br rfl x ay;have J:=lC (k:=til) hsp g4.2 g6.ls g5;have bW:n≠kid:=by omega
  have hn2l:n<s2.nodes.length:=(aR.1 ay).1;have bT:s2.nodes.length<=4096:=by have:=g6.tot;omega
  have HG:=hid (aJ g4 (aJ g6.ls.1 bT));have E:=hid (aJ ay (aJ bd (aJ aN hxi)));obtain⟨N,hN⟩:=exQ<|gH txt sp til s2.lines;rw[hN] at r J;have HN:=hid hN;have HR:=hid r;have a3:=hid J;clear r hg au hw hx ay bd aN hxi ar hN J g1 g2 g2n g3 g4 g5 g6 aj;go_enter Tryz.func73,Tryz.ntmps73;go_wp2_with fail;refine bl.out.mono ?_;rintro e w2 ⟨rfl,Pr',bz,bJ,hH⟩;have aI:=hid bz;have HH:=hid hH;obtain⟨z,sv,lv,nv,hz,hK⟩:=bJ;have bg:z.length=s2.nodes.length:=by rw[<-hz,bK]
  obtain⟨gn,cn,cur,rfl,bR,_,_⟩:=hK.nod.form (λe=>by rw[e] at bg;simp at bg;omega);obtain⟨y,hy⟩: ∃y,z[n]?=some y:=⟨_,bE (by omega)⟩;have bf:y.1=x:=by
   have:=E.out.1;rw[<-hz,cW,hy] at this;exact bD this
  obtain⟨yk,ax⟩: ∃yk,z[kid]?=some yk:=by
   have:=E.out.2.1;rw[<-hz,cW] at this;cases hzk:z[kid]? with
   | none=>rw[hzk] at this;cases this
   | some q=>exact⟨q,rfl⟩
  have aV:yk.1=xk:=by
   have:=E.out.2.1;rw[<-hz,cW,ax] at this;exact bD this
  have bi:=hK.nod.kids y (aX hy);obtain⟨pk,ck,bp⟩: ∃p c,y.2= .slice p y.1.kids.length c:=by
   rcases bi.2 with⟨h0,h1⟩ | ⟨g,cap,cur,h1,_⟩
   ·exact⟨none,0,by rw[h0,h1]⟩
   ·exact⟨_,cap,h1⟩
  obtain⟨mk,ba⟩:=exQ<|y.1.kids.length;have hmkb:mk<=131072:=by rw[<-ba,bf];exact aK
  obtain⟨m,hm⟩:=exQ<|z.length;have hn1:(n:Int)<(m:Int):=by omega
  have hn0:(0:Int)<=(n:Int):=by omega
  have hkd0:(0:Int)<=(kid:Int):=by omega
  have hkd1:(kid:Int)<(m:Int):=by have:=(aR.1 ax).1;omega
  have c3:=hK.cells.1.2.2.2.1;have hPl2:=hK.lt;rw[hm] at c3 bR;have C:=hid (aJ hy (aJ bf (aJ ax aV)));have ad:=hid (aJ bp ba);have HM:=hid (aJ hz hm);have HK:=hid hK;clear hK hz bg hy bf ax aV bi bp ba hm bz hH aK;go_upto_region 5 with fail;clear c3;obtain⟨i0,bQ,bS,bP,bI⟩:=info_parts Tryz.infoInt;obtain⟨W0,a2⟩:=exQ<|w2.drew;have ap:=HK.out.keep (aB _ w2).drew;rw[a2] at ap;have ah:=hid ap;have av:=ap.nod.kids y (aX C.out.1);rw[ad.out.1,ad.out.2] at av;have bo:=hid av;have bX:=hid ap.bel.size;obtain⟨SA,ak⟩: ∃S:World->Prop,(λw'=>w'.cell? ⟨P,3,none⟩=some (.slice (some ⟨gn,0,none⟩) m cn)/\w'.cell? ⟨gn,kid*9+3,none⟩=some (.int .i64 (til:Int))/\w'.frozen? ⟨gn,n*9+8,none⟩=false/\w'.frozen? ⟨gn,n*9+3,none⟩=false)=S:=⟨_,rfl⟩;have aw:Hid (∀q c w',cS 3 w0.heap.size (.slice pk mk ck) mk (eI y.1.kids) #[.int .i64 (kid:Int)] gn (n*9+8) W0 q c w'->cS 3 w0.heap.size y.2 y.1.kids.length (eI y.1.kids) #[.int .i64 (kid:Int)] gn (n*9+8) W0 q c w'):=hid (λq c w' hp=>by rw[ad.out.1,ad.out.2];exact hp);have aQ:Hid (∀q c w',q<3->cS 3 w0.heap.size (.slice pk mk ck) mk (eI y.1.kids) #[.int .i64 (kid:Int)] gn (n*9+8) W0 q c w'->w'.cell? ⟨gn,n*9+8,none⟩=some (.slice pk mk ck)):=hid (λq c w' hq hp=>by obtain⟨_,h2⟩:=ah.out.seenK C.out.1 (aw.out q c w' hp) hq;have:=(h2 n y 8 y.2 C.out.1 (by omega) rfl).1;rw[ad.out.1,ad.out.2] at this;exact this);have bO:Hid (∀c w',cS 3 w0.heap.size (.slice pk mk ck) mk (eI y.1.kids) #[.int .i64 (kid:Int)] gn (n*9+8) W0 3 c w'->w'.cell? ⟨gn,n*9+3,none⟩=some (.int .i64 (y.1.til:Int))):=hid (λc w' hp=>by obtain⟨kv,F⟩:=ah.out.kidA C.out.1 (aw.out 3 c w' hp);have W:(z.set n ({ y.1 with kids:=y.1.kids++ [kid] },kv))[n]?=some ({ y.1 with kids:=y.1.kids++ [kid] },kv):=(by rw[List.getElem?_set_self (aR.1 C.out.1).1]);exact(F.nod.at_ W 3 (by omega) rfl).1);have ao:Hid (∀q c w',q<4->cS 3 w0.heap.size (.slice pk mk ck) mk (eI y.1.kids) #[.int .i64 (kid:Int)] gn (n*9+8) W0 q c w'->SA w'):=hid (λq c w' hq hp=>by
   rw[<-ak];have bx:=aw.out q c w' hp;by_cases hq3:q<3
   ·obtain⟨h1,h2⟩:=ah.out.seenK C.out.1 bx hq3;rw[HM.out.2] at h1;refine⟨h1,?_,(h2 n y 8 _ C.out.1 (by omega) rfl).2,(h2 n y 3 _ C.out.1 (by omega) rfl).2⟩;have:=(h2 kid yk 3 _ C.out.2.2.1 (by omega) rfl).1;rw[C.out.2.2.2,E.out.2.2.1] at this;exact this
   ·obtain rfl:q=3:=(by omega);obtain⟨kv,F⟩:=ah.out.kidA C.out.1 bx;have W:(z.set n ({ y.1 with kids:=y.1.kids++ [kid] },kv))[n]?=some ({ y.1 with kids:=y.1.kids++ [kid] },kv):=(by rw[List.getElem?_set_self (aR.1 C.out.1).1]);have bh:(z.set n ({ y.1 with kids:=y.1.kids++ [kid] },kv))[kid]?=some yk:=by rw[List.getElem?_set_ne bW];exact C.out.2.2.1
    have h1:=F.cells.1.2.2.2.1;rw[List.length_set,HM.out.2] at h1;refine⟨h1,?_,(F.nod.at_ W 8 (by omega) rfl).2,(F.nod.at_ W 3 (by omega) rfl).2⟩;have:=(F.nod.at_ bh 3 (by omega) rfl).1;rw[C.out.2.2.2,E.out.2.2.1] at this;exact this)
  clear ap av;have t:Tryz.prog.follows .mixedOrders=true:=by kernel_rfl
  refine lD t [some 31,some 32,some 33,some 34,some 35,some 36,some 37,some 38,some 39,some 40,some 41,some 42,some 43,some 44,some 45,some 46,some 47,some 48,some 49,none,some 50,some 51,none] [31,32,33,34,35,36,37,38,39,40,41,42,43,44,45,46,47,48,49,50,51] [7,8,19,22] 1000000 (λ_ _=>True) 89 rfl (by kernel_rfl) (by kernel_rfl) (by kernel_rfl) (λiz=>match iz with | 0=> .pointer (some ⟨gn,n*9,none⟩) | 1=> .pointer (some ⟨gn,n*9,none⟩) | 2=> .pointer (some ⟨gn,n*9,none⟩) | 3=> .pointer (some ⟨gn,n*9,none⟩) | 4=> .pointer (some ⟨gn,n*9+8,none⟩) | 5=> .slice pk mk ck | 6=> .int .i64 (kid:Int) | 9=> .pointer (some ⟨P,0,none⟩) | 10=> .pointer (some ⟨P,0,none⟩) | 11=> .pointer (some ⟨P,3,none⟩) | 12=> .slice (some ⟨gn,0,none⟩) m cn | 13=> .int .i64 (kid:Int) | 14=> .pointer (some ⟨gn,kid*9,none⟩) | 15=> .pointer (some ⟨gn,kid*9+3,none⟩) | 16=> .int .i64 (til:Int) | 17=> .pointer (some ⟨gn,n*9,none⟩) | 18=> .pointer (some ⟨gn,n*9+8,none⟩) | 20=> .pointer (some ⟨gn,n*9,none⟩) | 21=> .pointer (some ⟨gn,n*9+3,none⟩) | _=>undef) SA (zR w0.heap.size (.slice pk mk ck) mk (eI y.1.kids) #[.int .i64 (kid:Int)] gn n til W0) (by rw[a2];exact ao.out 0 undef _ (by decide) (aB _ _)) (by rw[a2];exact aB _ _) ?_ ?_
  ·intro d a w' iq o' O Y b s o R' r;have X:iq<23:=(cJ.1 O).1;have q0:a.tmps[0]?.getD undef= .pointer (some ⟨P,0,none⟩):=bA s 0 (by decide);have q12:a.tmps[12]?.getD undef= .int .i64 (kid:Int):=bA s 12 (by decide);have q14:a.tmps[14]?.getD undef= .pointer (some ⟨gn,n*9,none⟩):=bA s 14 (by decide);have hc:=o.all [(0,31),(1,32),(2,33),(3,34),(4,35),(5,36),(6,37),(9,40),(10,41),(11,42),(12,43),(13,44),(14,45),(15,46),(16,47),(17,48),(18,49),(20,50),(21,51)] (by decide);dsimp only[fC] at hc;clear s;have ha:=b;have U:=O;have Z:iq=5\/iq=7\/iq=8\/iq=19\/iq=22\/iq=0\/iq=1\/iq=2\/iq=3\/iq=4\/iq=6\/iq=9\/iq=10\/iq=11\/iq=13\/iq=14\/iq=15\/iq=17\/iq=18\/iq=20\/iq=21\/iq=12\/iq=16:=(by omega);clear X;rcases Z with rfl|rfl|rfl|rfl|rfl|rfl|rfl|rfl|rfl|rfl|rfl|rfl|rfl|rfl|rfl|rfl|rfl|rfl|rfl|rfl|rfl|rfl|rfl<;>simp only[eC,dV,cH,cN] at O<;>subst O<;>(try simp[Region.binds] at b)
   ·have c35:=o.g 4 35 rfl (by decide) (by decide) (by decide) (by simp[b]);obtain⟨kq,au,bk,bY⟩:=o.ph;have bw:kq<3:=by
     apply Classical.byContradiction;intro hge;have h1:=(bk 2 19 rfl).2 (by omega);have h2:=o.clo.reach 23 19 5 (by kernel_rfl) h1;rw[Y] at h2;cases h2
    have k36:=aQ.out kq _ _ bw (zR.lt3 bw bY);go_simp;exact r _ _ (o.pure (by kernel_rfl) U ha rfl (by decide) (by decide) (by decide) rfl)
   ·have c37:=o.g 6 37 rfl (by decide) (by decide) (by decide) (by simp[b]);have I:=o.at2 (j:=0) rfl Y (.inl rfl);have hA:Below W0.heap.size W0 w':=I;go_simp;exact r _ _ (o.eff2 (by kernel_rfl) (by decide) 0 U ha rfl Y (.inl rfl) rfl (by decide) (λ_ _ _=>trivial) (λ_=>ao.out 1 _ _ (by decide) ⟨w',hA,rfl,rfl⟩) ⟨w',hA,rfl,rfl⟩)
   ·have c36:=o.g 5 36 rfl (by decide) (by decide) (by decide) (by simp[b]);have M:d 7=true:=(by simp[b]);have I:=o.at2 (j:=1) rfl Y (.inr ⟨7,rfl,M⟩);have ca':a.tmps.getD 36 undef= .slice pk mk ck:=by rw[aO];exact c36
    exact cS.app rfl (.tmp 36) (.tmp 38) 60 rfl Tryz.underlying60 bQ bS bP bI rfl (by decide) rfl (Zm kid) bo.out (by omega) (by decide) bX.out I ca' rfl (λv' w2 hp=>r _ _ (o.eff2 (by kernel_rfl) (by decide) 1 U ha rfl Y (.inr ⟨7,rfl,M⟩) rfl (by decide) (λ_ _ _=>trivial) (λ_=>ao.out 2 _ _ (by decide) hp) hp))
   ·have c49:=o.g 18 49 rfl (by decide) (by decide) (by decide) (by simp[b]);have M:d 8=true:=(by simp[b]);have I:=o.at2 (j:=2) rfl Y (.inr ⟨8,rfl,M⟩);have L:=o.st (o.lastNot (f:=23) (i:=19) (by kernel_rfl) Y);rw[<-ak] at L;obtain⟨p3,q3,f8,f3⟩:=L;have ag:cS 3 w0.heap.size (.slice pk mk ck) mk (eI y.1.kids) #[.int .i64 (kid:Int)] gn (n*9+8) W0 2 (a.tmps.getD 39 undef) w':=I;obtain⟨gz,cz,hz⟩:=ag.form;rw[hz] at ag;have c39:a.tmps[39]?.getD undef= .slice (some ⟨gz,0,none⟩) (mk+1) cz:=by rw[<-aO];exact hz
    have k36:=aQ.out 2 _ _ (by decide) ag;go_simp;exact r undef _ (o.eff2 (by kernel_rfl) (by decide) 2 U ha rfl Y (.inr ⟨8,rfl,M⟩) rfl (by decide) (λ_ _ _=>trivial) (λ_=>ao.out 3 undef _ (by decide) ⟨_,_,ag,rfl⟩) ⟨_,_,ag,rfl⟩)
   ·have c47:=o.g 16 47 rfl (by decide) (by decide) (by decide) (by simp[b]);have c51:=o.g 21 51 rfl (by decide) (by decide) (by decide) (by simp[b]);have M:d 19=true:=by first | simp[b];done | exact ha ⟨_,_⟩ (by simp) rfl | exact o.clo.reach 23 16 19 (by kernel_rfl) (by simp[b])
    have I:=o.at2 (j:=3) rfl Y (.inr ⟨19,rfl,M⟩);have L:=o.st Y;rw[<-ak] at L;obtain⟨p3,q3,f8,f3⟩:=L;have k3:=bO.out undef _ I;go_simp;exact r undef _ (o.eff2 (by kernel_rfl) (by decide) 3 U ha rfl Y (.inr ⟨19,rfl,M⟩) rfl (by decide) (λ_ _ _=>trivial) (λh=>absurd rfl h) ⟨undef,_,I,rfl⟩)
   iterate 16 (go_simp;exact r _ _ (o.pure (by kernel_rfl) U ha rfl (by decide) (by decide) (by decide) rfl))
   all_goals
    have L:=o.early (f:=23) (by kernel_rfl) Y;rw[<-ak] at L;obtain⟨p3,q3,f8,f3⟩:=L;go_simp;exact r _ _ (o.pure (by kernel_rfl) U ha rfl (by decide) (by decide) (by decide) rfl)
  intro v wz u bj;obtain⟨c3,w3,bB,bs⟩:=(show ∃c3 w3,cS 3 w0.heap.size (.slice pk mk ck) mk (eI y.1.kids) #[.int .i64 (kid:Int)] gn (n*9+8) W0 3 c3 w3/\wz=w3.setCell ⟨gn,n*9+3,none⟩ (.int .i64 (til:Int)) from bj);obtain⟨kv,F⟩:=ah.out.kidA C.out.1 (aw.out 3 c3 w3 bB);have W:(z.set n ({ y.1 with kids:=y.1.kids++ [kid] },kv))[n]?=some ({ y.1 with kids:=y.1.kids++ [kid] },kv):=by rw[List.getElem?_set_self (aR.1 C.out.1).1]
  have aa:=F.til W til;rw[<-bs] at aa;obtain⟨z4,aq⟩:=exQ<|(z.set n ({ y.1 with kids:=y.1.kids++ [kid] },kv)).set n ({ ({ y.1 with kids:=y.1.kids++ [kid] }:aG) with til:=til },kv);rw[aq] at aa;have an:z4.map (·.1)=kK n kid s2.nodes:=by
   rw[<-aq,List.set_set,List.map_set,HM.out.1];unfold kK;rw[uY _ n _ x E.out.1,C.out.2.1];rw[Dl E.out.2.1,E.out.2.2.1]
  have ab:z4.length=m:=by rw[<-aq,List.length_set,List.length_set];exact HM.out.2
  have aD:z4[n]?=some ({ ({ y.1 with kids:=y.1.kids++ [kid] }:aG) with til:=til },kv):=by
   rw[<-aq,List.getElem?_set_self (by rw[List.length_set];exact(aR.1 C.out.1).1)]
  rw[ab] at aa;have aY:=hid (aJ an (aJ ab aD));have HK4:=hid aa;have am: ∀(w':World) (ls:List aP),jD YP Pr' w0 P txt sp ls z4 (.slice (some ⟨gn,0,none⟩) m cn) s2.total 0 0 w'->w'.cell? ⟨gn,n*9+3,none⟩=some (.int .i64 (til:Int))/\w'.cell? ⟨gn,n*9+1,none⟩=some (.int .i64 ind):=λw' ls hj=>by
   obtain⟨sv',lv',bV⟩:=hj;have al:=bV.nod;rw[<-ab] at al;have h1:=(al.at_ aD 3 (by omega) rfl).1;have h2:=(al.at_ aD 1 (by omega) rfl).1;refine⟨h1,?_⟩;rw[show ({ ({ y.1 with kids:=y.1.kids++ [kid] }:aG) with til:=til }:aG).ind=ind from by show y.1.ind=ind;rw[C.out.2.1];exact E.out.2.2.2] at h2;exact h2
  have bn:=hid am;have bc:jD YP Pr' w0 P txt sp s2.lines z4 (.slice (some ⟨gn,0,none⟩) m cn) s2.total 0 0 wz:=⟨_,_,aa⟩;have aF:=hid bc;obtain⟨k3,k1⟩:=am wz _ bc;have hPl3:=aa.lt;have CN:Hid (∀w',jD YP Pr' w0 P txt sp s2.lines z4 (.slice (some ⟨gn,0,none⟩) m cn) s2.total 0 0 w'->Calls Tryz.prog 33 #[.pointer (some ⟨P,0,none⟩), .int .i64 (til:Int)] w' (Lx YP Pr' w0 P txt sp ⟨s2.lines,kK n kid s2.nodes,s2.total⟩ z4 (.slice (some ⟨gn,0,none⟩) m cn) N)):=hid (λw' hj=>by have:=Ly (st:=⟨s2.lines,kK n kid s2.nodes,s2.total⟩) til w' hj an HG.out.1.2 HG.out.2.1 hs hns hV;simp only[HN.out] at this;exact this);clear u bj bB F W aa aq an ab aD am bc bs ao ak;simp only[cC,eJ,dO,eK];cases N with
  | bad a er=>
   have D:Hid (OR.bad a er=R):=hid HR.out;go_wp2_with fail;refine(CN.out _ (by first | exact aF.out | exact aF.out.keep (aB _ _).drew)).mono ?_;rintro e w5 ⟨⟨mm,rfl⟩,G⟩;have HF:=hid (G.less aI.out);clear G k3 k1;go_upto_region 7 with fail;obtain⟨W3,af⟩:=exQ<|w5.drew;have t:Tryz.prog.follows .mixedOrders=true:=(by kernel_rfl);refine oH t [61,62,63,64,65,66,67,68,69,70,71,72,73,74,75,76,77,78,79,80,81] 89 rfl (by kernel_rfl) (by kernel_rfl) (λiz=>match iz with | 0=> .bool false | 1=> .bool false | 2=>undef | 3=>undef | 4=>undef | 5=> .bool false | 6=> .bool false | 7=>undef | 8=>undef | 9=>undef | 10=>undef | 11=>undef | 12=>undef | 13=>undef | 14=>undef | 15=>undef | 16=>undef | 17=>undef | 18=>undef | 19=>undef | 20=> .bool false | _=>undef) (λw'=>Below W3.heap.size W3 w') (by rw[af];exact aB _ _) ?_ ?_
   ·intro d a w' iq o' O Y b s o R' r;have X:iq<21:=(cJ.1 O).1;have q0:a.tmps[0]?.getD undef= .pointer (some ⟨P,0,none⟩):=bA s 0 (by decide);have q13:a.tmps[13]?.getD undef= .bool false:=bA s 13 (by decide);have q14:a.tmps[14]?.getD undef= .pointer (some ⟨gn,n*9,none⟩):=bA s 14 (by decide);have q15:a.tmps[15]?.getD undef= .int .i64 mm:=bA s 15 (by decide);have hc:=o.all [(0,61),(1,62),(4,65),(5,66),(6,67),(19,80)] (by decide);dsimp only[fC] at hc;clear s;have Z:iq=0\/iq=1\/iq=5\/iq=6\/iq=20\/iq=2\/iq=3\/iq=4\/iq=7\/iq=8\/iq=9\/iq=10\/iq=11\/iq=12\/iq=13\/iq=14\/iq=15\/iq=16\/iq=17\/iq=18\/iq=19:=(by omega);clear X;rcases Z with rfl|rfl|rfl|rfl|rfl|rfl|rfl|rfl|rfl|rfl|rfl|rfl|rfl|rfl|rfl|rfl|rfl|rfl|rfl|rfl|rfl<;>simp only[eC,dV,cH,cN] at O<;>subst O<;>(try simp[Region.binds] at b)
    iterate 5 (refine fB (lE rfl) ?_;go_simp;exact r _ _ (o.step (by decide) rfl (by first | rfl | simp) o.st))
    iterate 16 exact tI (o.off rfl rfl rfl rfl (by simp[b]) rfl) (r _ _ (o.step (by decide) rfl rfl o.st))
   intro v wz u hS;have hv:=oF (l:= [61,62,63,64,65,66,67,68,69,70,71,72,73,74,75,76,77,78,79,80,81]) u (by decide);dsimp only[lS] at hv;simp only[cC,eJ,dO,eK,hv];clear u hv;have bM:=hid ((HF.out.keep (show Below w5.heap.size w5 W3 from by rw[<-af];exact(aB _ _).drew)).keep hS);clear hS;go_wp2_with fail;go_ret2;rw[<-D.out];exact⟨⟨_,rfl⟩,bM.out⟩
  | ok nx ls=>
   have J:=(show qR txt sp til s2.lines nx ls from a3.out);have r:=HR.out;simp only[] at r;have bC:=hid r;have hnx0:(0:Int)<=(nx:Int):=(by omega);clear r J;go_wp2_with fail;refine(CN.out _ (by first | exact aF.out | exact aF.out.keep (aB _ _).drew)).mono ?_;rintro e w5 ⟨rfl,bt⟩;have bN:=hid bt;clear bt k3 k1;go_upto_region 7 with fail;obtain⟨W3,af⟩:=exQ<|w5.drew;have a6:=bN.out.keep (aB _ w5).drew;rw[af] at a6;have az:=hid a6;have CT0:Hid (∀w',Below W3.heap.size W3 w'->Calls Tryz.prog 34 #[.pointer (some ⟨P,0,none⟩), .int .i64 (nx:Int)] w' λe w2=>e= .returned (.bool (decide (nx<sp.length)))/\Below w'.heap.size w' w2):=hid (λw' hb=>vA nx w' ((az.out.keep hb).toJ aY.out.1));clear a6;by_cases hlt:nx<sp.length;rotate_left
   ·have r:=bC.out;rw[if_neg (λe=>hlt e.1)] at r;have D:=hid r;have CT:Hid (∀w',Below W3.heap.size W3 w'->Calls Tryz.prog 34 #[.pointer (some ⟨P,0,none⟩), .int .i64 (nx:Int)] w' λe w2=>e= .returned (.bool false)/\Below w'.heap.size w' w2):=hid (λw' hb=>by have:=CT0.out w' hb;rw[aH hlt] at this;exact this);clear r hlt CT0;have t:Tryz.prog.follows .mixedOrders=true:=(by kernel_rfl);refine oH t [61,62,63,64,65,66,67,68,69,70,71,72,73,74,75,76,77,78,79,80,81] 89 rfl (by kernel_rfl) (by kernel_rfl) (λiz=>match iz with | 0=> .bool true | 1=> .bool true | 2=> .pointer (some ⟨P,0,none⟩) | 3=> .int .i64 (nx:Int) | 4=> .bool false | 5=> .bool false | 6=> .bool false | 7=>undef | 8=>undef | 9=>undef | 10=>undef | 11=>undef | 12=>undef | 13=>undef | 14=>undef | 15=>undef | 16=>undef | 17=>undef | 18=>undef | 19=>undef | 20=> .bool false | _=>undef) (λw'=>Below W3.heap.size W3 w') (by rw[af];exact aB _ _) ?_ ?_
    ·intro d a w' iq o' O Y b s o R' r;have X:iq<21:=(cJ.1 O).1;have q0:a.tmps[0]?.getD undef= .pointer (some ⟨P,0,none⟩):=bA s 0 (by decide);have q13:a.tmps[13]?.getD undef= .bool true:=bA s 13 (by decide);have q14:a.tmps[14]?.getD undef= .pointer (some ⟨gn,n*9,none⟩):=bA s 14 (by decide);have q15:a.tmps[15]?.getD undef= .int .i64 (nx:Int):=bA s 15 (by decide);have hc:=o.all [(0,61),(1,62),(2,63),(3,64),(4,65),(5,66),(6,67),(19,80)] (by decide);dsimp only[fC] at hc;clear s;have Z:iq=4\/iq=0\/iq=1\/iq=5\/iq=6\/iq=20\/iq=2\/iq=3\/iq=7\/iq=8\/iq=9\/iq=10\/iq=11\/iq=12\/iq=13\/iq=14\/iq=15\/iq=16\/iq=17\/iq=18\/iq=19:=(by omega);clear X;rcases Z with rfl|rfl|rfl|rfl|rfl|rfl|rfl|rfl|rfl|rfl|rfl|rfl|rfl|rfl|rfl|rfl|rfl|rfl|rfl|rfl|rfl<;>simp only[eC,dV,cH,cN] at O<;>subst O<;>(try simp[Region.binds] at b)
     ·have c62:=o.g 1 62 rfl (by simp[b]);have c63:=o.g 2 63 rfl (by simp[b]);have c64:=o.g 3 64 rfl (by simp[b]);refine fB (qU rfl rfl rfl c62) ?_;go_simp;go_at_call 34;refine(CT.out _ o.st).mono ?_;rintro e w5 ⟨rfl,a7⟩;exact r _ _ (o.step (by decide) rfl rfl (aC o.st a7))
     iterate 5 (refine fB (lE rfl) ?_;go_simp;exact r _ _ (o.step (by decide) rfl (by first | rfl | simp) o.st))
     iterate 2 (refine fB (o.on rfl rfl rfl rfl (by simp[b]) rfl) ?_;go_simp;exact r _ _ (o.step (by decide) rfl (by first | rfl | simp) o.st))
     iterate 13 exact tI (o.off rfl rfl rfl rfl (by simp[b]) rfl) (r _ _ (o.step (by decide) rfl rfl o.st))
    intro v wz u hS;have hv:=oF (l:= [61,62,63,64,65,66,67,68,69,70,71,72,73,74,75,76,77,78,79,80,81]) u (by decide);dsimp only[lS] at hv;simp only[cC,eJ,dO,eK,hv];clear u hv;have K:=hid ((az.out.keep hS).toJ aY.out.1);clear hS;go_wp2_with fail;go_ret2;rw[<-D.out];exact⟨rfl,K.out.less aI.out,HH.out _ _ _ _ K.out⟩
   ·obtain⟨aS,bu⟩:=a3.out.hit hlt;have CT:Hid (∀w',Below W3.heap.size W3 w'->Calls Tryz.prog 34 #[.pointer (some ⟨P,0,none⟩), .int .i64 (nx:Int)] w' λe w2=>e= .returned (.bool true)/\Below w'.heap.size w' w2):=hid (λw' hb=>by have:=CT0.out w' hb;rw[aM hlt] at this;exact this);obtain⟨i2,a8⟩:=exQ<|(aU ls nx).ind;obtain⟨bb,ae⟩:=exQ<|decide (ind<i2);obtain⟨m2,bG⟩:=exQ<|ls.length;obtain⟨sv5,lv5,a4⟩:=az.out;have ai:=pP (show nx<ls.length by omega);obtain⟨g2,cz2,e9,_,aZ⟩:=a4.lineAt ai;subst e9;have bH:Hid (∀w',Below W3.heap.size W3 w'->w'.cell? ⟨P,2,none⟩=some (.slice (some ⟨g2,0,none⟩) m2 cz2)/\w'.cell? ⟨g2,nx*10+3,none⟩=some (.int .i64 i2)/\w'.cell? ⟨gn,n*9+1,none⟩=some (.int .i64 ind)):=hid (λw' hb=>by have a5:=a4.keep hb;obtain⟨⟨_,_,c2,_⟩,_⟩:=a5.cells;obtain⟨g3,cz3,e3,_,aE⟩:=a5.lineAt ai;have e4:=(Value.slice.inj e3).1;injection e4 with e4;injection e4 with e4;subst e4;have h3:=aE 3 _ (by omega) rfl;rw[a8] at h3;simp only[bG] at c2;exact⟨c2,h3,(bn.out w' ls ⟨_,_,a5⟩).2⟩);have hnx1:(nx:Int)<(m2:Int):=(by omega);have a1:=hid (aJ a8 ae);have bF:=hid hlt;have aT:=hid (aJ aS (a3.out.ok.2 nx (by omega)));clear a4 aZ ai bG a8 aS bu CT0 hlt;have t:Tryz.prog.follows .mixedOrders=true:=(by kernel_rfl);refine oH t [61,62,63,64,65,66,67,68,69,70,71,72,73,74,75,76,77,78,79,80,81] 89 rfl (by kernel_rfl) (by kernel_rfl) (λiz=>match iz with | 0=> .bool true | 1=> .bool true | 2=> .pointer (some ⟨P,0,none⟩) | 3=> .int .i64 (nx:Int) | 4=> .bool true | 5=> .bool true | 6=> .bool true | 7=> .pointer (some ⟨P,0,none⟩) | 8=> .pointer (some ⟨P,0,none⟩) | 9=> .pointer (some ⟨P,2,none⟩) | 10=> .slice (some ⟨g2,0,none⟩) m2 cz2 | 11=> .int .i64 (nx:Int) | 12=> .pointer (some ⟨g2,nx*10,none⟩) | 13=> .pointer (some ⟨g2,nx*10+3,none⟩) | 14=> .int .i64 i2 | 15=> .pointer (some ⟨gn,n*9,none⟩) | 16=> .pointer (some ⟨gn,n*9,none⟩) | 17=> .pointer (some ⟨gn,n*9+1,none⟩) | 18=> .int .i64 ind | 19=> .bool bb | 20=> .bool bb | _=>undef) (λw'=>Below W3.heap.size W3 w') (by rw[af];exact aB _ _) ?_ ?_
    ·intro d a w' iq o' O Y b s o R' r;have X:iq<21:=(cJ.1 O).1;have q0:a.tmps[0]?.getD undef= .pointer (some ⟨P,0,none⟩):=bA s 0 (by decide);have q13:a.tmps[13]?.getD undef= .bool true:=bA s 13 (by decide);have q14:a.tmps[14]?.getD undef= .pointer (some ⟨gn,n*9,none⟩):=bA s 14 (by decide);have q15:a.tmps[15]?.getD undef= .int .i64 (nx:Int):=bA s 15 (by decide);have hc:=o.all [(0,61),(1,62),(2,63),(3,64),(4,65),(5,66),(6,67),(7,68),(8,69),(9,70),(10,71),(11,72),(12,73),(13,74),(14,75),(15,76),(16,77),(17,78),(18,79),(19,80)] (by decide);dsimp only[fC] at hc;clear s;obtain⟨p2,l3,x3⟩:=bH.out _ o.st;have Z:iq=4\/iq=0\/iq=1\/iq=5\/iq=6\/iq=20\/iq=2\/iq=3\/iq=7\/iq=8\/iq=9\/iq=10\/iq=11\/iq=12\/iq=13\/iq=14\/iq=15\/iq=16\/iq=17\/iq=18\/iq=19:=(by omega);clear X;rcases Z with rfl|rfl|rfl|rfl|rfl|rfl|rfl|rfl|rfl|rfl|rfl|rfl|rfl|rfl|rfl|rfl|rfl|rfl|rfl|rfl|rfl<;>simp only[eC,dV,cH,cN] at O<;>subst O<;>(try simp[Region.binds] at b)
     ·have c62:=o.g 1 62 rfl (by simp[b]);have c63:=o.g 2 63 rfl (by simp[b]);have c64:=o.g 3 64 rfl (by simp[b]);refine fB (qU rfl rfl rfl c62) ?_;go_simp;go_at_call 34;refine(CT.out _ o.st).mono ?_;rintro e w5 ⟨rfl,a7⟩;exact r _ _ (o.step (by decide) rfl rfl (aC o.st a7))
     iterate 5 (refine fB (lE rfl) ?_;go_simp;exact r _ _ (o.step (by decide) rfl (by first | rfl | simp) o.st))
     iterate 15 (refine fB (o.on rfl rfl rfl rfl (by simp[b]) rfl) ?_;go_simp;exact r _ _ (o.step (by decide) rfl (by first | rfl | simp) o.st))
    intro v wz u hS;have hv:=oF (l:= [61,62,63,64,65,66,67,68,69,70,71,72,73,74,75,76,77,78,79,80,81]) u (by decide);dsimp only[lS] at hv;simp only[cC,eJ,dO,eK,hv];clear u hv;have K:=hid ((az.out.keep hS).toJ aY.out.1);clear hS;have ae:=a1.out.2;have r:=bC.out;rw[a1.out.1] at r;cases bb with
    | false=>
     rw[if_neg (λe=>of_decide_eq_false ae e.2)] at r;have D:=hid r;clear r ae;go_wp2_with fail;go_ret2;rw[<-D.out];exact⟨rfl,K.out.less aI.out,HH.out _ _ _ _ K.out⟩
    | true=>
     rw[if_pos ⟨bF.out,of_decide_eq_true ae⟩] at r;have D:=hid r;have CB:=hid (λw' hj=>Dx (Pr:=Pr') (w0:=w0) (P:=P) (txt:=txt) (sp:=sp) (st:=⟨ls,kK n kid s2.nodes,s2.total⟩) (a0:=0) (e0:=0) nx w' hj bF.out (by have:=aT.out.1;simp only[];omega) aT.out.2 hs);simp only[a1.out.1] at CB;have CF:=hid (λa w' hj=>pQ (Pr:=Pr') (w0:=w0) (P:=P) (txt:=txt) (sp:=sp) (st:=⟨ls,kK n kid s2.nodes,s2.total⟩) (a0:=0) (e0:=0) a 2 w' hj);clear r ae;go_wp2_with fail;refine(CB.out _ (by first | exact K.out | exact K.out.keep (aB _ _).drew)).mono ?_;rintro e w7 ⟨rfl,a9⟩;have bq:=hid (K.out.keep (by first | exact a9 | exact aC (aB _ _).drew a9));clear a9;go_wp2_with fail;refine(CF.out _ _ (by first | exact bq.out | exact bq.out.keep (aB _ _).drew)).mono ?_;rintro e w8 ⟨rfl,bm⟩;have HF:=hid (bm.less aI.out).bad;clear bm;go_wp2_with fail;go_ret2;rw[<-D.out];exact⟨⟨_,rfl⟩,HF.out⟩
theorem xF {P:Program}{f:FuncId}{fn:Func} (hf:P.funcs[f]?=some fn) (h1: ¬fn.name= "runtime.NumGoroutine") (h2:fn.body.isNone=false) (args:Array Value) (w:World):(callFunc f args).run P w= .ok (.enter f args) w:=by
 have b: ¬fn.body=none:=by
  intro h;rw[h] at h2;cases h2
 simp[callFunc,go_sem,hf,h1,b]
theorem Zn (args:Array Value) (w:World):(callFunc 69 args).run Tryz.prog w= .ok (.enter 69 args) w:=
 xF Tryz.func69 (of_decide_eq_false (by kernel_rfl)) (by kernel_rfl) args w
theorem Zo (args:Array Value) (w:World):(callFunc 109 args).run Tryz.prog w= .ok (.enter 109 args) w:=
 xF Tryz.func109 (of_decide_eq_false (by kernel_rfl)) (by kernel_rfl) args w
theorem Zp (w0:World) (P:Nat) (txt:aA) (sp:List (Nat×Nat)) (hsp:dH txt sp) (hs:txt.length<=65536) (hns:sp.length<=131072) (hV:bU w0) (V:YB) (hVG:gA txt sp V) (H:List aA->World->Prop) {Pr:aL}{st:YS} (n k:Nat) (ind lev:Int) (had:List aA) (w:World) (hk:k+1=st.lines.length) (hw:dI txt sp st) {x:aG} (hx:st.nodes[n]?=some x) (hxi:x.ind=ind) (hkids: ∀(s2:YS) kid had',fQ txt V false had k st=(.ok kid s2,had')-> ∀y,s2.nodes[n]?=some y->y.kids.length<=131072)
  (hPl:P<w.heap.size) (CR:Calls Tryz.prog 69 #[.pointer (some ⟨P,0,none⟩), .int .i64 (k:Int), .int .i64 lev] w (xD Pr w0 P txt sp H (fQ txt V false had k st))):
  Calls Tryz.prog 73 #[.pointer (some ⟨P,0,none⟩), .int .i64 (n:Int), .int .i64 (k:Int), .int .i64 lev, .func (.func 69) #[.pointer (some ⟨P,0,none⟩)] #[]] w (xE Pr w0 P txt sp H (gM txt sp V false n ind had k st)):=
 Ml w0 P txt sp hsp hs hns hV V hVG H n k ind lev had _ #[.pointer (some ⟨P,0,none⟩)] #[] false Zn w hk hw hx hxi hkids hPl CR
theorem Zq (w0:World) (P:Nat) (txt:aA) (sp:List (Nat×Nat)) (hsp:dH txt sp) (hs:txt.length<=65536) (hns:sp.length<=131072) (hV:bU w0) (V:YB) (hVG:gA txt sp V) (H:List aA->World->Prop) {Pr:aL}{st:YS} (n k:Nat) (ind lev:Int) (had:List aA) (CX CY:Nat) (w:World) (hk:k+1=st.lines.length) (hw:dI txt sp st) {x:aG} (hx:st.nodes[n]?=some x) (hxi:x.ind=ind) (hkids: ∀(s2:YS) kid had',fQ txt V true had k st=(.ok kid s2,had')-> ∀y,s2.nodes[n]?=some y->y.kids.length<=131072)
  (hPl:P<w.heap.size) (CR:Calls Tryz.prog 109 #[.int .i64 (k:Int), .int .i64 lev, .pointer (some ⟨CX,0,none⟩), .pointer (some ⟨CY,0,none⟩)] w (xD Pr w0 P txt sp H (fQ txt V true had k st))):
  Calls Tryz.prog 73 #[.pointer (some ⟨P,0,none⟩), .int .i64 (n:Int), .int .i64 (k:Int), .int .i64 lev, .func (.func 109) #[] #[.pointer (some ⟨CX,0,none⟩), .pointer (some ⟨CY,0,none⟩)]] w (xE Pr w0 P txt sp H (gM txt sp V true n ind had k st)):=
 Ml w0 P txt sp hsp hs hns hV V hVG H n k ind lev had _ #[] #[.pointer (some ⟨CX,0,none⟩), .pointer (some ⟨CY,0,none⟩)] true Zo w hk hw hx hxi hkids hPl CR
end
section
open Go.Lib
theorem Zr {s:aA}{V:YB}{map:Bool}{had had':List aA}{k:Nat}{st:YS}{R:YR} (h:fQ s V map had k st=(R,had')):had'.length<=had.length+1:=by
 unfold fQ at h;split at h
 ·simp only[] at h;split at h
  ·injection h with c b;rw[<-b];omega
  ·split at h
   ·injection h with c b;rw[<-b];omega
   ·injection h with c b;rw[<-b,aV];omega
 ·injection h with c b;rw[<-b];omega
theorem Zs {s:aA}{sp:List (Nat×Nat)}{V:YB} (hV:gA s sp V) {map:Bool}{n:Nat}{ind:Int}{had had':List aA}{k nx:Nat}{st s3:YS} (hw:dI s sp st) (hk:k+1=st.lines.length) {x:aG} (hx:st.nodes[n]?=some x) (h:gM s sp V map n ind had k st= .ok nx s3 had'):
  (∃x',s3.nodes[n]?=some x'/\x'.ind=x.ind/\x'.kids.length=x.kids.length+1)/\st.nodes.length<s3.nodes.length/\had'.length<=had.length+1:=by
 have f:=uZ hV map had hw hk;unfold gM at h;obtain⟨⟨Q,had2⟩,g⟩:=exQ<|fQ s V map had k st;have i:=Zr g;rw[g] at h f;cases Q with
 | bad a e=>cases h
 | ok kid s2=>
  obtain⟨g1,⟨m1,g2n,g2⟩,_,_,_,_⟩:=(show kM s sp k st kid s2 from f);simp only[] at h;split at h
  ·cases h
  ·split at h
   ·cases h
   ·injection h with e1 e2 e3;have d:=(aR.1 hx).1;have b:s2.nodes[n]?=some x:=by rw[g2,kP d];exact hx
    have c:=(aR.1 b).1;subst e2 e3;refine⟨?_,?_,i⟩
    ·simp only[];unfold kK;rw[uY _ n _ x b,List.getElem?_set_self c];exact⟨_,rfl,rfl,by simp⟩
    ·simp only[];unfold kK;rw[Dk,g2,aW];have:=sE.2 g2n;omega
theorem Zt {l:List aG}{n:Nat}{x:aG} (h:l[n]?=some x): ∃post,l=l.take n++x::post:=by
 obtain⟨b,c⟩:=aR.1 h;refine⟨l.drop (n+1),?_⟩;rw[<-c,<-iH b,oR]
theorem Dy {s:aA}{sp:List (Nat×Nat)} (hsp:dH s sp) {V:YB} (hV:gA s sp V) {map:Bool}{n:Nat}{ind:Int}{had had':List aA}{k nx:Nat}{st s3:YS} (hw:dI s sp st) (hk:k+1=st.lines.length) {x:aG} (hx:st.nodes[n]?=some x) (h:gM s sp V map n ind had k st= .ok nx s3 had'):
  (∃x',s3.nodes[n]?=some x'/\x'.ind=x.ind/\x'.kids.length=x.kids.length+1)/\st.nodes.length<s3.nodes.length/\had'.length<=had.length+1/\dI s sp s3/\nx<=sp.length/\k<nx/\(nx<sp.length->nx+1=s3.lines.length):=by
 obtain⟨c,e,f⟩:=Zs hV hw hk hx h;obtain⟨post,d⟩:=Zt hx;have hl:=(aR.1 hx).1;have b:=Dm hsp hV map (n:=n) ind had (k0:=k) (st0:=⟨[],st.nodes.take n,0⟩) hw hk (aE _) (by simp only[cD];omega) ⟨x,post,d⟩ ⟨st.lines,rfl⟩;rw[h] at b;exact⟨c,e,f,b.1.wf,b.1.k.1,b.2,b.1.k.2.2⟩
theorem Dz {s:aA}{sp:List (Nat×Nat)}{V:YB}{map:Bool}{n:Nat}{ind kind:Int}{f:Nat}{had:List aA}{k:Nat}{st:YS} (h: ¬(k<sp.length/\(aU st.lines k).ind=ind/\(aU st.lines k).kind=kind)):jQ s sp V map n ind kind f had k st= .ok n st:=by
 cases f with
 | zero=>rfl
 | succ f=>unfold jQ;rw[if_neg h]
theorem Mm {s:aA}{sp:List (Nat×Nat)}{V:YB} (hV:gA s sp V) {map:Bool}{had:List aA}{k:Nat}{st:YS} (hw:dI s sp st) (hk:k+1=st.lines.length) {n:Nat}{x:aG} (hx:st.nodes[n]?=some x) (hl:x.kids.length<=131072): ∀(s2:YS) kid had',fQ s V map had k st=(.ok kid s2,had')-> ∀y,s2.nodes[n]?=some y->y.kids.length<=131072:=by
 intro s2 kid had' h y b;have c:=uZ hV map had hw hk;rw[h] at c;obtain⟨g1,⟨m1,g2n,g2⟩,_⟩:=(show kM s sp k st kid s2 from c);rw[g2,kP (aR.1 hx).1,hx] at b;obtain rfl:=bD b;exact hl
end
end Go.Proofs.YtaifnmjjpddikaaGreatDoor
