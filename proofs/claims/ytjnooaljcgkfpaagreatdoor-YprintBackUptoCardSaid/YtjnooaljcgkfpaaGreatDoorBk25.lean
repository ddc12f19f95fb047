import Derived.Test.YtjnooaljcgkfpaaGreatDoorBk24
set_option maxRecDepth 100000
set_option maxHeartbeats 8000000
namespace Go.Proofs.YtjnooaljcgkfpaaGreatDoor
set_option linter.unusedSimpArgs false
set_option linter.unusedVariables false
open Go.RowKit Go.Maps Go.WideMaps
open Go.Lib hiding intOf
def zD (Pr:aK) (w0:World) (P:Nat) (txt:aA) (sp:List (Nat×Nat)) (H:List aA->World->Prop) (R:YR×List aA) (e:Ending) (w':World):Prop:=match R.1 with
 | .ok n st=>e= .returned (.tuple #[.int .i64 (n:Int), .bool true])/\ ∃Pr':aK,(∀q o,Pr q=some o->Pr' q=some o)/\YJ YP Pr' w0 P txt sp st 0 0 w'/\ ∀st2 a er w2,YJ YP Pr' w0 P txt sp st2 a er w2->H R.2 w2
 | .bad a er=>(∃m:Int,e= .returned (.tuple #[.int .i64 m, .bool false]))/\gI YP Pr w0 P txt sp a er w'
theorem iW.toX {Pr:aK}{w0:World}{P:Nat}{txt:aA}{sp:List (Nat×Nat)}{R:YR}{had:List aA}{e:Ending}{w':World} (h:iW YP Pr w0 P txt sp R e w'):zD Pr w0 P txt sp (λ_ _=>True) (R,had) e w':=by
 cases R with
 | ok n st=>exact⟨h.1,Pr,λ_ _ b=>b,h.2,λ_ _ _ _ _=>trivial⟩
 | bad a er=>exact h
theorem Ce.toX {Pr:aK}{w0:World}{P:Nat}{txt:aA}{sp:List (Nat×Nat)}{b:Nat}{R:YR×List aA}{e:Ending}{w':World} (hpb:Pr b=none) (h:Ce Pr w0 P txt sp b R e w'):zD Pr w0 P txt sp (HM b) R e w':=by
 obtain⟨R,d⟩:=R;cases R with
 | bad a er=>exact h
 | ok n st=>
  obtain⟨j,k,g⟩:=(show e= .returned (.tuple #[.int .i64 (n:Int), .bool true])/\YJ YP Pr w0 P txt sp st 0 0 w'/\HM b d w' from h);obtain⟨es,c,f⟩:=g.obj;exact⟨j,Pr.put b (.map es c),aK.put_lessN hpb,k.putMap f,λst2 a er w2 i=>g.same ((i.at_ (aK.put_eq _ _ _)).trans f.symm)⟩
def zE (Pr:aK) (w0:World) (P:Nat) (txt:aA) (sp:List (Nat×Nat)) (H:List aA->World->Prop) (R:OR) (e:Ending) (w':World):Prop:=match R with
 | .ok nx st had=>e= .returned (.tuple #[.int .i64 (nx:Int), .bool true])/\YJ YP Pr w0 P txt sp st 0 0 w'/\H had w'
 | .bad a er=>(∃m:Int,e= .returned (.tuple #[.int .i64 m, .bool false]))/\gI YP Pr w0 P txt sp a er w'
def Cf (B:Nat) (v:Value) (mk:Nat) (xs:List Value) (el:Array Value) (gn n til:Nat) (W0:World):Nat->Value->World->Prop
 | 0,c,w'=>cS 3 B v mk xs el gn (n*9+8) W0 0 c w'
 | 1,c,w'=>cS 3 B v mk xs el gn (n*9+8) W0 1 c w'
 | 2,c,w'=>cS 3 B v mk xs el gn (n*9+8) W0 2 c w'
 | 3,c,w'=>cS 3 B v mk xs el gn (n*9+8) W0 3 c w'
 | _,_,w'=> ∃c3 w3,cS 3 B v mk xs el gn (n*9+8) W0 3 c3 w3/\w'=w3.setCell ⟨gn,n*9+3,none⟩ (.int .i64 (til:Int))
theorem Cf.lt3 {B:Nat}{v:Value}{mk:Nat}{xs:List Value}{el:Array Value}{gn n til:Nat}{W0:World}{k:Nat}{c:Value}{w':World} (hk:k<3) (h:Cf B v mk xs el gn n til W0 k c w'):cS 3 B v mk xs el gn (n*9+8) W0 k c w':=by
 match k,h with
 | 0,h=>exact h
 | 1,h=>exact h
 | 2,h=>exact h
 | k+3,_=>omega
theorem aDu (kid:Nat): ∀u∈(#[.int .i64 (kid:Int)]:Array Value).toList,u.oneCell'=true:=by
 intro u b;rw[jX.1 b];rfl
section
variable {T:TypeId}{Pr:aK}{w0 w' W0:World}{P:Nat}{txt:aA}{sp:List (Nat×Nat)}{lines:List aO}{z:List YN}{tot:Nat}{a er:Int}{sv lv:Value}{gn cn:Nat}
theorem YK.seenK (h:YK T Pr w0 P txt sp lines z tot a er sv lv (.slice (some ⟨gn,0,none⟩) z.length cn) W0) {n:Nat}{y:YN} (hy:z[n]?=some y) {el:Array Value}{k i:Nat}{c:Value} (hp:cS 3 w0.heap.size y.2 y.1.kids.length (eO y.1.kids) el gn i W0 k c w') (hk:k<3):
  w'.cell? ⟨P,3,none⟩=some (.slice (some ⟨gn,0,none⟩) z.length cn)/\ ∀(j:Nat) (x:YN) (q:Nat) (u:Value),z[j]?=some x->q<9->(kR x)[q]?=some u->w'.cell? ⟨gn,j*9+q,none⟩=some u/\w'.frozen? ⟨gn,j*9+q,none⟩=false:=by
 have b:=h.nod.kids y (bA hy);have g:=h.seenA b (Ne.symm h.ty.2.2.2) (λj o e=>(h.fr j o e).2.2.2.2 y (bA hy)) hk hp;refine⟨g.c3.1,λj x q u d l f=>?_⟩;have hn:=(aP.1 d).1;have key:w'.ownsRow w0.heap.size 100 9 (.slice (some ⟨gn,0,none⟩) z.length cn) z.length (jH z):=by
  match k,hp with
  | 0,hp=>exact kX h.nod.row (show Below W0.heap.size W0 w' from hp)
  | 1,⟨w1,hb,_,hw⟩=>
   rw[hw];exact(kX h.nod.row hb).alloc _
  | 2,⟨w1,hb,_,hg,_⟩=>exact(kX h.nod.row hb).kept hg (jA (kX h.nod.row hb) (kX b hb) (by decide))
  | k+3,_=>omega
 refine⟨?_,World.ownsRow.frozenAt key _⟩;rw[World.ownsRow.cellAt key _ (by omega),jH,uL _ 9 Bv z j x d q l,f]
theorem YK.kidA (h:YK T Pr w0 P txt sp lines z tot a er sv lv (.slice (some ⟨gn,0,none⟩) z.length cn) W0) {n kid:Nat}{y:YN} (hy:z[n]?=some y) {c:Value} (hp:cS 3 w0.heap.size y.2 y.1.kids.length (eO y.1.kids) #[.int .i64 (kid:Int)] gn (n*9+8) W0 3 c w'):
  ∃kv,YK T Pr w0 P txt sp lines (z.set n ({ y.1 with kids:=y.1.kids++ [kid] },kv)) tot a er sv lv (.slice (some ⟨gn,0,none⟩) (z.set n ({ y.1 with kids:=y.1.kids++ [kid] },kv)).length cn) w':=by
 obtain⟨c,w2,⟨w1,e,b,f,d,_⟩,rfl⟩:=hp;exact⟨c,(h.keep e).kid hy (H:=w1.heap.size+1) (tU _) b f d⟩
end
theorem Hc {Pr:aK}{w0:World}{P:Nat}{txt:aA}{sp:List (Nat×Nat)}{st:YS}{a0 e0:Int} (k:Nat) (w:World) (h:YJ YP Pr w0 P txt sp st a0 e0 w) (hk:k<sp.length) (hkl:k<st.lines.length) (hok:yG txt (fI sp k) (aR st.lines k)) (hs:txt.length<=65536):
  Calls Tryz.prog 68 #[.pointer (some ⟨P,0,none⟩), .int .i64 (k:Int)] w λe w'=>e= .returned (.int .i64 (((fI sp k).1:Int)+(aR st.lines k).ind))/\Below w.heap.size w w':=by
 obtain⟨x,f⟩: ∃x,sp[k]?=some x:=⟨_,bH hk⟩;have c:=qL hkl;obtain⟨r,i⟩:=exQ<|aR st.lines k;rw[i] at c hok ⊢;rw[Fq f] at hok ⊢;obtain⟨h1,o,h3⟩:=hok.ind;obtain⟨z,sv,lv,nv,j,d⟩:=h;obtain⟨gs,cs,rfl,_,s0,s1⟩:=d.spanAt f;obtain⟨gl,cl,e9,_,b⟩:=d.lineAt c;subst e9;obtain⟨⟨_,c1,c2,_⟩,_⟩:=d.cells;have g3:=b 3 _ (by omega) rfl;have hPl:=d.lt;have hk0:(0:Int)<=(k:Int):=by omega
 have hk1:(k:Int)<(sp.length:Int):=by omega
 obtain⟨n,g⟩:=exQ<|st.lines.length;rw[g] at c2 hkl;have hk2:(k:Int)<(n:Int):=by omega
 obtain⟨S,m⟩:=exQ<|(x.1:Int)+r.ind;have hSw:IntKind.i64.wrap S=S:=by rw[IntKind.wrap_i64];omega
 have l:=hid (aB w.heap.size w);rw[m];clear d j b c i hok f g hk hkl o;go_enter Tryz.func68,Tryz.ntmps68;go_wp2_with fail;go_region;go_wp2_with fail;go_ret;exact⟨rfl,l.out.drew⟩
theorem Rt (w0:World) (P:Nat) (txt:aA) (sp:List (Nat×Nat)) (hsp:eS txt sp) (hs:txt.length<=65536) (hns:sp.length<=131072) (hV:cG w0) (V:YB) (hVG:iD txt sp V) (H:List aA->World->Prop) {Pr:aK}{st:YS} (n k:Nat) (ind lev:Int) (had:List aA) (f:FuncId) (A B:Array Value) (mp:Bool) (hcf: ∀(args:Array Value) (w:World),(callFunc f args).run Tryz.prog w= .ok (.enter f args) w) (w:World) (hk:k+1=st.lines.length) (hw:eL txt sp st) {x:aM} (hx:st.nodes[n]?=some x) (hxi:x.ind=ind) (hkids: ∀(s2:YS) kid had',gC txt V mp had k st=(.ok kid s2,had')-> ∀y,s2.nodes[n]?=some y->y.kids.length<=131072)
  (hPl:P<w.heap.size) (CR:Calls Tryz.prog f (A++(#[.int .i64 (k:Int), .int .i64 lev]++B)) w (zD Pr w0 P txt sp H (gC txt V mp had k st))):
  Calls Tryz.prog 113 #[.pointer (some ⟨P,0,none⟩), .int .i64 (n:Int), .int .i64 (k:Int), .int .i64 lev, .func (.func f) A B] w (zE Pr w0 P txt sp H (iC txt sp V mp n ind had k st)):=by
 obtain⟨R,r⟩:=exQ<|iC txt sp V mp n ind had k st;rw[r];unfold iC at r;have hg:=yI hVG mp had hw hk;obtain⟨⟨Q,bF⟩,hQ⟩:=exQ<|gC txt V mp had k st;have ap:=λs2 kid had' e=>hkids s2 kid had' e;rw[hQ] at r hg CR ap;have bt:=hid CR;clear CR hkids hQ;cases Q with
 | bad a er=>
  have D:Hid (OR.bad a er=R):=hid r;clear r hg ap hw hx;go_enter Tryz.func113,Tryz.ntmps113;go_wp2_with fail;refine bt.out.mono ?_;rintro e w2 ⟨⟨m,rfl⟩,J⟩;have HF:=hid J;clear J;go_wp2_with fail;go_ret2;rw[<-D.out];exact⟨⟨_,rfl⟩,HF.out⟩
 | ok kid s2=>
  obtain⟨g1,⟨m1,g2n,g2⟩,⟨m2',g3⟩,g4,g5,g6⟩:=(show mO txt sp k st kid s2 from hg);simp only[] at r;have bS:=(aP.1 hx).1;have ay:s2.nodes[n]?=some x:=by rw[g2,oL bS];exact hx
  have ah:kid<s2.nodes.length:=by
   rw[g2,aI,g1];have:=mX.2 g2n;omega
  obtain⟨xk,aZ⟩: ∃xk,s2.nodes[kid]?=some xk:=⟨_,bH ah⟩;obtain⟨til,aj⟩:=exQ<|gB s2.nodes kid;have aQ:xk.til=til:=by rw[<-aj,Fx aZ]
  rw[aj] at r g4 g5;have aV:x.kids.length<=131072:=ap s2 kid bF rfl x ay;have G:=oV (k:=til) hsp g4.2 g6.ls g5;have bL:n≠kid:=by omega
  have hn2l:n<s2.nodes.length:=(aP.1 ay).1;have bI:s2.nodes.length<=4096:=by have:=g6.tot;omega
  have HG:=hid (aT g4 (aT g6.ls.1 bI));have C:=hid (aT ay (aT aZ (aT aQ hxi)));obtain⟨N,hN⟩:=exQ<|gA txt sp til s2.lines;rw[hN] at r G;have HN:=hid hN;have HR:=hid r;have a4:=hid G;clear r hg ap hw hx ay aZ aQ hxi aj hN G g1 g2 g2n g3 g4 g5 g6 ah;go_enter Tryz.func113,Tryz.ntmps113;go_wp2_with fail;refine bt.out.mono ?_;rintro e w2 ⟨rfl,Pr',bz,bQ,hH⟩;have aD:=hid bz;have HH:=hid hH;obtain⟨z,sv,lv,nv,hz,hK⟩:=bQ;have a3:z.length=s2.nodes.length:=by rw[<-hz,cA]
  obtain⟨gn,cn,cur,rfl,bV,_,_⟩:=hK.nod.form (λe=>by rw[e] at a3;simp at a3;omega);obtain⟨y,hy⟩: ∃y,z[n]?=some y:=⟨_,bH (by omega)⟩;have a2:y.1=x:=by
   have:=C.out.1;rw[<-hz,cW,hy] at this;exact bC this
  obtain⟨yk,aG⟩: ∃yk,z[kid]?=some yk:=by
   have:=C.out.2.1;rw[<-hz,cW] at this;cases hzk:z[kid]? with
   | none=>rw[hzk] at this;cases this
   | some q=>exact⟨q,rfl⟩
  have aW:yk.1=xk:=by
   have:=C.out.2.1;rw[<-hz,cW,aG] at this;exact bC this
  have bq:=hK.nod.kids y (bA hy);obtain⟨pk,ck,bu⟩: ∃p c,y.2= .slice p y.1.kids.length c:=by
   rcases bq.2 with⟨h0,h1⟩ | ⟨g,cap,cur,h1,_⟩
   ·exact⟨none,0,by rw[h0,h1]⟩
   ·exact⟨_,cap,h1⟩
  obtain⟨mk,a6⟩:=exQ<|y.1.kids.length;have hmkb:mk<=131072:=by rw[<-a6,a2];exact aV
  obtain⟨m,hm⟩:=exQ<|z.length;have hn1:(n:Int)<(m:Int):=by omega
  have hn0:(0:Int)<=(n:Int):=by omega
  have hkd0:(0:Int)<=(kid:Int):=by omega
  have hkd1:(kid:Int)<(m:Int):=by have:=(aP.1 aG).1;omega
  have c3:=hK.cells.1.2.2.2.1;have hPl2:=hK.lt;rw[hm] at c3 bV;have E:=hid (aT hy (aT a2 (aT aG aW)));have af:=hid (aT bu a6);have HM:=hid (aT hz hm);have HK:=hid hK;clear hK hz a3 hy a2 aG aW bq bu a6 hm bz hH aV;go_upto_region 5 with fail;clear c3;obtain⟨i0,bK,bR,bX,bN⟩:=info_parts Tryz.infoInt;obtain⟨W0,ba⟩:=exQ<|w2.drew;have au:=HK.out.keep (aB _ w2).drew;rw[ba] at au;have ag:=hid au;have an:=au.nod.kids y (bA E.out.1);rw[af.out.1,af.out.2] at an;have bs:=hid an;have bO:=hid au.bel.size;obtain⟨SA,ak⟩: ∃S:World->Prop,(λw'=>w'.cell? ⟨P,3,none⟩=some (.slice (some ⟨gn,0,none⟩) m cn)/\w'.cell? ⟨gn,kid*9+3,none⟩=some (.int .i64 (til:Int))/\w'.frozen? ⟨gn,n*9+8,none⟩=false/\w'.frozen? ⟨gn,n*9+3,none⟩=false)=S:=⟨_,rfl⟩;have aw:Hid (∀q c w',cS 3 w0.heap.size (.slice pk mk ck) mk (eO y.1.kids) #[.int .i64 (kid:Int)] gn (n*9+8) W0 q c w'->cS 3 w0.heap.size y.2 y.1.kids.length (eO y.1.kids) #[.int .i64 (kid:Int)] gn (n*9+8) W0 q c w'):=hid (λq c w' hp=>by rw[af.out.1,af.out.2];exact hp);have aS:Hid (∀q c w',q<3->cS 3 w0.heap.size (.slice pk mk ck) mk (eO y.1.kids) #[.int .i64 (kid:Int)] gn (n*9+8) W0 q c w'->w'.cell? ⟨gn,n*9+8,none⟩=some (.slice pk mk ck)):=hid (λq c w' hq hp=>by obtain⟨_,h2⟩:=ag.out.seenK E.out.1 (aw.out q c w' hp) hq;have:=(h2 n y 8 y.2 E.out.1 (by omega) rfl).1;rw[af.out.1,af.out.2] at this;exact this);have bT:Hid (∀c w',cS 3 w0.heap.size (.slice pk mk ck) mk (eO y.1.kids) #[.int .i64 (kid:Int)] gn (n*9+8) W0 3 c w'->w'.cell? ⟨gn,n*9+3,none⟩=some (.int .i64 (y.1.til:Int))):=hid (λc w' hp=>by obtain⟨kv,F⟩:=ag.out.kidA E.out.1 (aw.out 3 c w' hp);have aa:(z.set n ({ y.1 with kids:=y.1.kids++ [kid] },kv))[n]?=some ({ y.1 with kids:=y.1.kids++ [kid] },kv):=(by rw[List.getElem?_set_self (aP.1 E.out.1).1]);exact(F.nod.at_ aa 3 (by omega) rfl).1);have aq:Hid (∀q c w',q<4->cS 3 w0.heap.size (.slice pk mk ck) mk (eO y.1.kids) #[.int .i64 (kid:Int)] gn (n*9+8) W0 q c w'->SA w'):=hid (λq c w' hq hp=>by
   rw[<-ak];have bi:=aw.out q c w' hp;by_cases hq3:q<3
   ·obtain⟨h1,h2⟩:=ag.out.seenK E.out.1 bi hq3;rw[HM.out.2] at h1;refine⟨h1,?_,(h2 n y 8 _ E.out.1 (by omega) rfl).2,(h2 n y 3 _ E.out.1 (by omega) rfl).2⟩;have:=(h2 kid yk 3 _ E.out.2.2.1 (by omega) rfl).1;rw[E.out.2.2.2,C.out.2.2.1] at this;exact this
   ·obtain rfl:q=3:=(by omega);obtain⟨kv,F⟩:=ag.out.kidA E.out.1 bi;have aa:(z.set n ({ y.1 with kids:=y.1.kids++ [kid] },kv))[n]?=some ({ y.1 with kids:=y.1.kids++ [kid] },kv):=(by rw[List.getElem?_set_self (aP.1 E.out.1).1]);have bk:(z.set n ({ y.1 with kids:=y.1.kids++ [kid] },kv))[kid]?=some yk:=by rw[List.getElem?_set_ne bL];exact E.out.2.2.1
    have h1:=F.cells.1.2.2.2.1;rw[List.length_set,HM.out.2] at h1;refine⟨h1,?_,(F.nod.at_ aa 8 (by omega) rfl).2,(F.nod.at_ aa 3 (by omega) rfl).2⟩;have:=(F.nod.at_ bk 3 (by omega) rfl).1;rw[E.out.2.2.2,C.out.2.2.1] at this;exact this)
  clear au an;have t:Tryz.prog.follows .mixedOrders=true:=by kernel_rfl
  refine nL t [some 31,some 32,some 33,some 34,some 35,some 36,some 37,some 38,some 39,some 40,some 41,some 42,some 43,some 44,some 45,some 46,some 47,some 48,some 49,none,some 50,some 51,none] [31,32,33,34,35,36,37,38,39,40,41,42,43,44,45,46,47,48,49,50,51] [7,8,19,22] 1000000 (λ_ _=>True) 89 rfl (by kernel_rfl) (by kernel_rfl) (by kernel_rfl) (λiz=>match iz with | 0=> .pointer (some ⟨gn,n*9,none⟩) | 1=> .pointer (some ⟨gn,n*9,none⟩) | 2=> .pointer (some ⟨gn,n*9,none⟩) | 3=> .pointer (some ⟨gn,n*9,none⟩) | 4=> .pointer (some ⟨gn,n*9+8,none⟩) | 5=> .slice pk mk ck | 6=> .int .i64 (kid:Int) | 9=> .pointer (some ⟨P,0,none⟩) | 10=> .pointer (some ⟨P,0,none⟩) | 11=> .pointer (some ⟨P,3,none⟩) | 12=> .slice (some ⟨gn,0,none⟩) m cn | 13=> .int .i64 (kid:Int) | 14=> .pointer (some ⟨gn,kid*9,none⟩) | 15=> .pointer (some ⟨gn,kid*9+3,none⟩) | 16=> .int .i64 (til:Int) | 17=> .pointer (some ⟨gn,n*9,none⟩) | 18=> .pointer (some ⟨gn,n*9+8,none⟩) | 20=> .pointer (some ⟨gn,n*9,none⟩) | 21=> .pointer (some ⟨gn,n*9+3,none⟩) | _=>undef) SA (Cf w0.heap.size (.slice pk mk ck) mk (eO y.1.kids) #[.int .i64 (kid:Int)] gn n til W0) (by rw[ba];exact aq.out 0 undef _ (by decide) (aB _ _)) (by rw[ba];exact aB _ _) ?_ ?_
  ·intro d a w' iq o' O U b s o R' r;have W:iq<23:=(dW.1 O).1;have q0:a.tmps[0]?.getD undef= .pointer (some ⟨P,0,none⟩):=bD s 0 (by decide);have q12:a.tmps[12]?.getD undef= .int .i64 (kid:Int):=bD s 12 (by decide);have q14:a.tmps[14]?.getD undef= .pointer (some ⟨gn,n*9,none⟩):=bD s 14 (by decide);have hc:=o.all [(0,31),(1,32),(2,33),(3,34),(4,35),(5,36),(6,37),(9,40),(10,41),(11,42),(12,43),(13,44),(14,45),(15,46),(16,47),(17,48),(18,49),(20,50),(21,51)] (by decide);dsimp only[fU] at hc;clear s;have ha:=b;have Z:=O;have X:iq=5\/iq=7\/iq=8\/iq=19\/iq=22\/iq=0\/iq=1\/iq=2\/iq=3\/iq=4\/iq=6\/iq=9\/iq=10\/iq=11\/iq=13\/iq=14\/iq=15\/iq=17\/iq=18\/iq=20\/iq=21\/iq=12\/iq=16:=(by omega);clear W;rcases X with rfl|rfl|rfl|rfl|rfl|rfl|rfl|rfl|rfl|rfl|rfl|rfl|rfl|rfl|rfl|rfl|rfl|rfl|rfl|rfl|rfl|rfl|rfl<;>simp only[fN,dG,bM,cP] at O<;>subst O<;>(try simp[Region.binds] at b)
   ·have c35:=o.g 4 35 rfl (by decide) (by decide) (by decide) (by simp[b]);obtain⟨kq,ap,bg,bJ⟩:=o.ph;have bh:kq<3:=by
     apply Classical.byContradiction;intro hge;have h1:=(bg 2 19 rfl).2 (by omega);have h2:=o.clo.reach 23 19 5 (by kernel_rfl) h1;rw[U] at h2;cases h2
    have k36:=aS.out kq _ _ bh (Cf.lt3 bh bJ);go_simp;exact r _ _ (o.pure (by kernel_rfl) Z ha rfl (by decide) (by decide) (by decide) rfl)
   ·have c37:=o.g 6 37 rfl (by decide) (by decide) (by decide) (by simp[b]);have I:=o.at2 (j:=0) rfl U (.inl rfl);have hA:Below W0.heap.size W0 w':=I;go_simp;exact r _ _ (o.eff2 (by kernel_rfl) (by decide) 0 Z ha rfl U (.inl rfl) rfl (by decide) (λ_ _ _=>trivial) (λ_=>aq.out 1 _ _ (by decide) ⟨w',hA,rfl,rfl⟩) ⟨w',hA,rfl,rfl⟩)
   ·have c36:=o.g 5 36 rfl (by decide) (by decide) (by decide) (by simp[b]);have L:d 7=true:=(by simp[b]);have I:=o.at2 (j:=1) rfl U (.inr ⟨7,rfl,L⟩);have ca':a.tmps.getD 36 undef= .slice pk mk ck:=by rw[aU];exact c36
    exact cS.app rfl (.tmp 36) (.tmp 38) 98 rfl Tryz.underlying98 bK bR bX bN rfl (by decide) rfl (aDu kid) bs.out (by omega) (by decide) bO.out I ca' rfl (λv' w2 hp=>r _ _ (o.eff2 (by kernel_rfl) (by decide) 1 Z ha rfl U (.inr ⟨7,rfl,L⟩) rfl (by decide) (λ_ _ _=>trivial) (λ_=>aq.out 2 _ _ (by decide) hp) hp))
   ·have c49:=o.g 18 49 rfl (by decide) (by decide) (by decide) (by simp[b]);have L:d 8=true:=(by simp[b]);have I:=o.at2 (j:=2) rfl U (.inr ⟨8,rfl,L⟩);have K:=o.st (o.lastNot (f:=23) (i:=19) (by kernel_rfl) U);rw[<-ak] at K;obtain⟨p3,q3,f8,f3⟩:=K;have al:cS 3 w0.heap.size (.slice pk mk ck) mk (eO y.1.kids) #[.int .i64 (kid:Int)] gn (n*9+8) W0 2 (a.tmps.getD 39 undef) w':=I;obtain⟨gz,cz,hz⟩:=al.form;rw[hz] at al;have c39:a.tmps[39]?.getD undef= .slice (some ⟨gz,0,none⟩) (mk+1) cz:=by rw[<-aU];exact hz
    have k36:=aS.out 2 _ _ (by decide) al;go_simp;exact r undef _ (o.eff2 (by kernel_rfl) (by decide) 2 Z ha rfl U (.inr ⟨8,rfl,L⟩) rfl (by decide) (λ_ _ _=>trivial) (λ_=>aq.out 3 undef _ (by decide) ⟨_,_,al,rfl⟩) ⟨_,_,al,rfl⟩)
   ·have c47:=o.g 16 47 rfl (by decide) (by decide) (by decide) (by simp[b]);have c51:=o.g 21 51 rfl (by decide) (by decide) (by decide) (by simp[b]);have L:d 19=true:=by first | simp[b];done | exact ha ⟨_,_⟩ (by simp) rfl | exact o.clo.reach 23 16 19 (by kernel_rfl) (by simp[b])
    have I:=o.at2 (j:=3) rfl U (.inr ⟨19,rfl,L⟩);have K:=o.st U;rw[<-ak] at K;obtain⟨p3,q3,f8,f3⟩:=K;have k3:=bT.out undef _ I;go_simp;exact r undef _ (o.eff2 (by kernel_rfl) (by decide) 3 Z ha rfl U (.inr ⟨19,rfl,L⟩) rfl (by decide) (λ_ _ _=>trivial) (λh=>absurd rfl h) ⟨undef,_,I,rfl⟩)
   iterate 16 (go_simp;exact r _ _ (o.pure (by kernel_rfl) Z ha rfl (by decide) (by decide) (by decide) rfl))
   all_goals
    have K:=o.early (f:=23) (by kernel_rfl) U;rw[<-ak] at K;obtain⟨p3,q3,f8,f3⟩:=K;go_simp;exact r _ _ (o.pure (by kernel_rfl) Z ha rfl (by decide) (by decide) (by decide) rfl)
  intro v wz u bB;obtain⟨c3,w3,bj,bw⟩:=(show ∃c3 w3,cS 3 w0.heap.size (.slice pk mk ck) mk (eO y.1.kids) #[.int .i64 (kid:Int)] gn (n*9+8) W0 3 c3 w3/\wz=w3.setCell ⟨gn,n*9+3,none⟩ (.int .i64 (til:Int)) from bB);obtain⟨kv,F⟩:=ag.out.kidA E.out.1 (aw.out 3 c3 w3 bj);have aa:(z.set n ({ y.1 with kids:=y.1.kids++ [kid] },kv))[n]?=some ({ y.1 with kids:=y.1.kids++ [kid] },kv):=by rw[List.getElem?_set_self (aP.1 E.out.1).1]
  have Y:=F.til aa til;rw[<-bw] at Y;obtain⟨z4,ao⟩:=exQ<|(z.set n ({ y.1 with kids:=y.1.kids++ [kid] },kv)).set n ({ ({ y.1 with kids:=y.1.kids++ [kid] }:aM) with til:=til },kv);rw[ao] at Y;have am:z4.map (·.1)=mL n kid s2.nodes:=by
   rw[<-ao,List.set_set,List.map_set,HM.out.1];unfold mL;rw[yH _ n _ x C.out.1,E.out.2.1];rw[Fx C.out.2.1,C.out.2.2.1]
  have ab:z4.length=m:=by rw[<-ao,List.length_set,List.length_set];exact HM.out.2
  have ax:z4[n]?=some ({ ({ y.1 with kids:=y.1.kids++ [kid] }:aM) with til:=til },kv):=by
   rw[<-ao,List.getElem?_set_self (by rw[List.length_set];exact(aP.1 E.out.1).1)]
  rw[ab] at Y;have a1:=hid (aT am (aT ab ax));have HK4:=hid Y;have av: ∀(w':World) (ls:List aO),kF YP Pr' w0 P txt sp ls z4 (.slice (some ⟨gn,0,none⟩) m cn) s2.total 0 0 w'->w'.cell? ⟨gn,n*9+3,none⟩=some (.int .i64 (til:Int))/\w'.cell? ⟨gn,n*9+1,none⟩=some (.int .i64 ind):=λw' ls hj=>by
   obtain⟨sv',lv',bW⟩:=hj;have ar:=bW.nod;rw[<-ab] at ar;have h1:=(ar.at_ ax 3 (by omega) rfl).1;have h2:=(ar.at_ ax 1 (by omega) rfl).1;refine⟨h1,?_⟩;rw[show ({ ({ y.1 with kids:=y.1.kids++ [kid] }:aM) with til:=til }:aM).ind=ind from by show y.1.ind=ind;rw[E.out.2.1];exact C.out.2.2.2] at h2;exact h2
  have bx:=hid av;have a5:kF YP Pr' w0 P txt sp s2.lines z4 (.slice (some ⟨gn,0,none⟩) m cn) s2.total 0 0 wz:=⟨_,_,Y⟩;have aE:=hid a5;obtain⟨k3,k1⟩:=av wz _ a5;have hPl3:=Y.lt;have CN:Hid (∀w',kF YP Pr' w0 P txt sp s2.lines z4 (.slice (some ⟨gn,0,none⟩) m cn) s2.total 0 0 w'->Calls Tryz.prog 64 #[.pointer (some ⟨P,0,none⟩), .int .i64 (til:Int)] w' (Rd YP Pr' w0 P txt sp ⟨s2.lines,mL n kid s2.nodes,s2.total⟩ z4 (.slice (some ⟨gn,0,none⟩) m cn) N)):=hid (λw' hj=>by have:=Re (st:=⟨s2.lines,mL n kid s2.nodes,s2.total⟩) til w' hj am HG.out.1.2 HG.out.2.1 hs hns hV;simp only[HN.out] at this;exact this);clear u bB bj F aa Y ao am ab ax av a5 bw aq ak;simp only[cV,fO,eP,fP];cases N with
  | bad a er=>
   have D:Hid (OR.bad a er=R):=hid HR.out;go_wp2_with fail;refine(CN.out _ (by first | exact aE.out | exact aE.out.keep (aB _ _).drew)).mono ?_;rintro e w5 ⟨⟨mm,rfl⟩,J⟩;have HF:=hid (J.less aD.out);clear J k3 k1;go_upto_region 7 with fail;obtain⟨W3,ad⟩:=exQ<|w5.drew;have t:Tryz.prog.follows .mixedOrders=true:=(by kernel_rfl);refine pB t [61,62,63,64,65,66,67,68,69,70,71,72,73,74,75,76,77,78,79,80,81] 89 rfl (by kernel_rfl) (by kernel_rfl) (λiz=>match iz with | 0=> .bool false | 1=> .bool false | 2=>undef | 3=>undef | 4=>undef | 5=> .bool false | 6=> .bool false | 7=>undef | 8=>undef | 9=>undef | 10=>undef | 11=>undef | 12=>undef | 13=>undef | 14=>undef | 15=>undef | 16=>undef | 17=>undef | 18=>undef | 19=>undef | 20=> .bool false | _=>undef) (λw'=>Below W3.heap.size W3 w') (by rw[ad];exact aB _ _) ?_ ?_
   ·intro d a w' iq o' O U b s o R' r;have W:iq<21:=(dW.1 O).1;have q0:a.tmps[0]?.getD undef= .pointer (some ⟨P,0,none⟩):=bD s 0 (by decide);have q13:a.tmps[13]?.getD undef= .bool false:=bD s 13 (by decide);have q14:a.tmps[14]?.getD undef= .pointer (some ⟨gn,n*9,none⟩):=bD s 14 (by decide);have q15:a.tmps[15]?.getD undef= .int .i64 mm:=bD s 15 (by decide);have hc:=o.all [(0,61),(1,62),(4,65),(5,66),(6,67),(19,80)] (by decide);dsimp only[fU] at hc;clear s;have X:iq=0\/iq=1\/iq=5\/iq=6\/iq=20\/iq=2\/iq=3\/iq=4\/iq=7\/iq=8\/iq=9\/iq=10\/iq=11\/iq=12\/iq=13\/iq=14\/iq=15\/iq=16\/iq=17\/iq=18\/iq=19:=(by omega);clear W;rcases X with rfl|rfl|rfl|rfl|rfl|rfl|rfl|rfl|rfl|rfl|rfl|rfl|rfl|rfl|rfl|rfl|rfl|rfl|rfl|rfl|rfl<;>simp only[fN,dG,bM,cP] at O<;>subst O<;>(try simp[Region.binds] at b)
    iterate 5 (refine fF (mB rfl) ?_;go_simp;exact r _ _ (o.step (by decide) rfl (by first | rfl | simp) o.st))
    iterate 16 exact uP (o.off rfl rfl rfl rfl (by simp[b]) rfl) (r _ _ (o.step (by decide) rfl rfl o.st))
   intro v wz u hS;have hv:=pA (l:= [61,62,63,64,65,66,67,68,69,70,71,72,73,74,75,76,77,78,79,80,81]) u (by decide);dsimp only[mQ] at hv;simp only[cV,fO,eP,fP,hv];clear u hv;have bU:=hid ((HF.out.keep (show Below w5.heap.size w5 W3 from by rw[<-ad];exact(aB _ _).drew)).keep hS);clear hS;go_wp2_with fail;go_ret2;rw[<-D.out];exact⟨⟨_,rfl⟩,bU.out⟩
  | ok nx ls=>
   have G:=(show rL txt sp til s2.lines nx ls from a4.out);have r:=HR.out;simp only[] at r;have bn:=hid r;have hnx0:(0:Int)<=(nx:Int):=(by omega);clear r G;go_wp2_with fail;refine(CN.out _ (by first | exact aE.out | exact aE.out.keep (aB _ _).drew)).mono ?_;rintro e w5 ⟨rfl,bm⟩;have bG:=hid bm;clear bm k3 k1;go_upto_region 7 with fail;obtain⟨W3,ad⟩:=exQ<|w5.drew;have a7:=bG.out.keep (aB _ w5).drew;rw[ad] at a7;have aF:=hid a7;have CT0:Hid (∀w',Below W3.heap.size W3 w'->Calls Tryz.prog 65 #[.pointer (some ⟨P,0,none⟩), .int .i64 (nx:Int)] w' λe w2=>e= .returned (.bool (decide (nx<sp.length)))/\Below w'.heap.size w' w2):=hid (λw' hb=>wI nx w' ((aF.out.keep hb).toJ a1.out.1));clear a7;by_cases hlt:nx<sp.length;rotate_left
   ·have r:=bn.out;rw[if_neg (λe=>hlt e.1)] at r;have D:=hid r;have CT:Hid (∀w',Below W3.heap.size W3 w'->Calls Tryz.prog 65 #[.pointer (some ⟨P,0,none⟩), .int .i64 (nx:Int)] w' λe w2=>e= .returned (.bool false)/\Below w'.heap.size w' w2):=hid (λw' hb=>by have:=CT0.out w' hb;rw[aJ hlt] at this;exact this);clear r hlt CT0;have t:Tryz.prog.follows .mixedOrders=true:=(by kernel_rfl);refine pB t [61,62,63,64,65,66,67,68,69,70,71,72,73,74,75,76,77,78,79,80,81] 89 rfl (by kernel_rfl) (by kernel_rfl) (λiz=>match iz with | 0=> .bool true | 1=> .bool true | 2=> .pointer (some ⟨P,0,none⟩) | 3=> .int .i64 (nx:Int) | 4=> .bool false | 5=> .bool false | 6=> .bool false | 7=>undef | 8=>undef | 9=>undef | 10=>undef | 11=>undef | 12=>undef | 13=>undef | 14=>undef | 15=>undef | 16=>undef | 17=>undef | 18=>undef | 19=>undef | 20=> .bool false | _=>undef) (λw'=>Below W3.heap.size W3 w') (by rw[ad];exact aB _ _) ?_ ?_
    ·intro d a w' iq o' O U b s o R' r;have W:iq<21:=(dW.1 O).1;have q0:a.tmps[0]?.getD undef= .pointer (some ⟨P,0,none⟩):=bD s 0 (by decide);have q13:a.tmps[13]?.getD undef= .bool true:=bD s 13 (by decide);have q14:a.tmps[14]?.getD undef= .pointer (some ⟨gn,n*9,none⟩):=bD s 14 (by decide);have q15:a.tmps[15]?.getD undef= .int .i64 (nx:Int):=bD s 15 (by decide);have hc:=o.all [(0,61),(1,62),(2,63),(3,64),(4,65),(5,66),(6,67),(19,80)] (by decide);dsimp only[fU] at hc;clear s;have X:iq=4\/iq=0\/iq=1\/iq=5\/iq=6\/iq=20\/iq=2\/iq=3\/iq=7\/iq=8\/iq=9\/iq=10\/iq=11\/iq=12\/iq=13\/iq=14\/iq=15\/iq=16\/iq=17\/iq=18\/iq=19:=(by omega);clear W;rcases X with rfl|rfl|rfl|rfl|rfl|rfl|rfl|rfl|rfl|rfl|rfl|rfl|rfl|rfl|rfl|rfl|rfl|rfl|rfl|rfl|rfl<;>simp only[fN,dG,bM,cP] at O<;>subst O<;>(try simp[Region.binds] at b)
     ·have c62:=o.g 1 62 rfl (by simp[b]);have c63:=o.g 2 63 rfl (by simp[b]);have c64:=o.g 3 64 rfl (by simp[b]);refine fF (rS rfl rfl rfl c62) ?_;go_simp;go_at_call 65;refine(CT.out _ o.st).mono ?_;rintro e w5 ⟨rfl,aY⟩;exact r _ _ (o.step (by decide) rfl rfl (aC o.st aY))
     iterate 5 (refine fF (mB rfl) ?_;go_simp;exact r _ _ (o.step (by decide) rfl (by first | rfl | simp) o.st))
     iterate 2 (refine fF (o.on rfl rfl rfl rfl (by simp[b]) rfl) ?_;go_simp;exact r _ _ (o.step (by decide) rfl (by first | rfl | simp) o.st))
     iterate 13 exact uP (o.off rfl rfl rfl rfl (by simp[b]) rfl) (r _ _ (o.step (by decide) rfl rfl o.st))
    intro v wz u hS;have hv:=pA (l:= [61,62,63,64,65,66,67,68,69,70,71,72,73,74,75,76,77,78,79,80,81]) u (by decide);dsimp only[mQ] at hv;simp only[cV,fO,eP,fP,hv];clear u hv;have M:=hid ((aF.out.keep hS).toJ a1.out.1);clear hS;go_wp2_with fail;go_ret2;rw[<-D.out];exact⟨rfl,M.out.less aD.out,HH.out _ _ _ _ M.out⟩
   ·obtain⟨aH,bo⟩:=a4.out.hit hlt;have CT:Hid (∀w',Below W3.heap.size W3 w'->Calls Tryz.prog 65 #[.pointer (some ⟨P,0,none⟩), .int .i64 (nx:Int)] w' λe w2=>e= .returned (.bool true)/\Below w'.heap.size w' w2):=hid (λw' hb=>by have:=CT0.out w' hb;rw[aN hlt] at this;exact this);obtain⟨i2,aX⟩:=exQ<|(aR ls nx).ind;obtain⟨bb,ae⟩:=exQ<|decide (ind<i2);obtain⟨m2,bp⟩:=exQ<|ls.length;obtain⟨sv5,lv5,bc⟩:=aF.out;have ai:=qL (show nx<ls.length by omega);obtain⟨g2,cz2,e9,_,bd⟩:=bc.lineAt ai;subst e9;have bP:Hid (∀w',Below W3.heap.size W3 w'->w'.cell? ⟨P,2,none⟩=some (.slice (some ⟨g2,0,none⟩) m2 cz2)/\w'.cell? ⟨g2,nx*10+3,none⟩=some (.int .i64 i2)/\w'.cell? ⟨gn,n*9+1,none⟩=some (.int .i64 ind)):=hid (λw' hb=>by have a8:=bc.keep hb;obtain⟨⟨_,_,c2,_⟩,_⟩:=a8.cells;obtain⟨g3,cz3,e3,_,az⟩:=a8.lineAt ai;have e4:=(Value.slice.inj e3).1;injection e4 with e4;injection e4 with e4;subst e4;have h3:=az 3 _ (by omega) rfl;rw[aX] at h3;simp only[bp] at c2;exact⟨c2,h3,(bx.out w' ls ⟨_,_,a8⟩).2⟩);have hnx1:(nx:Int)<(m2:Int):=(by omega);have a9:=hid (aT aX ae);have bl:=hid hlt;have aL:=hid (aT aH (a4.out.ok.2 nx (by omega)));clear bc bd ai bp aX aH bo CT0 hlt;have t:Tryz.prog.follows .mixedOrders=true:=(by kernel_rfl);refine pB t [61,62,63,64,65,66,67,68,69,70,71,72,73,74,75,76,77,78,79,80,81] 89 rfl (by kernel_rfl) (by kernel_rfl) (λiz=>match iz with | 0=> .bool true | 1=> .bool true | 2=> .pointer (some ⟨P,0,none⟩) | 3=> .int .i64 (nx:Int) | 4=> .bool true | 5=> .bool true | 6=> .bool true | 7=> .pointer (some ⟨P,0,none⟩) | 8=> .pointer (some ⟨P,0,none⟩) | 9=> .pointer (some ⟨P,2,none⟩) | 10=> .slice (some ⟨g2,0,none⟩) m2 cz2 | 11=> .int .i64 (nx:Int) | 12=> .pointer (some ⟨g2,nx*10,none⟩) | 13=> .pointer (some ⟨g2,nx*10+3,none⟩) | 14=> .int .i64 i2 | 15=> .pointer (some ⟨gn,n*9,none⟩) | 16=> .pointer (some ⟨gn,n*9,none⟩) | 17=> .pointer (some ⟨gn,n*9+1,none⟩) | 18=> .int .i64 ind | 19=> .bool bb | 20=> .bool bb | _=>undef) (λw'=>Below W3.heap.size W3 w') (by rw[ad];exact aB _ _) ?_ ?_
    ·intro d a w' iq o' O U b s o R' r;have W:iq<21:=(dW.1 O).1;have q0:a.tmps[0]?.getD undef= .pointer (some ⟨P,0,none⟩):=bD s 0 (by decide);have q13:a.tmps[13]?.getD undef= .bool true:=bD s 13 (by decide);have q14:a.tmps[14]?.getD undef= .pointer (some ⟨gn,n*9,none⟩):=bD s 14 (by decide);have q15:a.tmps[15]?.getD undef= .int .i64 (nx:Int):=bD s 15 (by decide);have hc:=o.all [(0,61),(1,62),(2,63),(3,64),(4,65),(5,66),(6,67),(7,68),(8,69),(9,70),(10,71),(11,72),(12,73),(13,74),(14,75),(15,76),(16,77),(17,78),(18,79),(19,80)] (by decide);dsimp only[fU] at hc;clear s;obtain⟨p2,l3,x3⟩:=bP.out _ o.st;have X:iq=4\/iq=0\/iq=1\/iq=5\/iq=6\/iq=20\/iq=2\/iq=3\/iq=7\/iq=8\/iq=9\/iq=10\/iq=11\/iq=12\/iq=13\/iq=14\/iq=15\/iq=16\/iq=17\/iq=18\/iq=19:=(by omega);clear W;rcases X with rfl|rfl|rfl|rfl|rfl|rfl|rfl|rfl|rfl|rfl|rfl|rfl|rfl|rfl|rfl|rfl|rfl|rfl|rfl|rfl|rfl<;>simp only[fN,dG,bM,cP] at O<;>subst O<;>(try simp[Region.binds] at b)
     ·have c62:=o.g 1 62 rfl (by simp[b]);have c63:=o.g 2 63 rfl (by simp[b]);have c64:=o.g 3 64 rfl (by simp[b]);refine fF (rS rfl rfl rfl c62) ?_;go_simp;go_at_call 65;refine(CT.out _ o.st).mono ?_;rintro e w5 ⟨rfl,aY⟩;exact r _ _ (o.step (by decide) rfl rfl (aC o.st aY))
     iterate 5 (refine fF (mB rfl) ?_;go_simp;exact r _ _ (o.step (by decide) rfl (by first | rfl | simp) o.st))
     iterate 15 (refine fF (o.on rfl rfl rfl rfl (by simp[b]) rfl) ?_;go_simp;exact r _ _ (o.step (by decide) rfl (by first | rfl | simp) o.st))
    intro v wz u hS;have hv:=pA (l:= [61,62,63,64,65,66,67,68,69,70,71,72,73,74,75,76,77,78,79,80,81]) u (by decide);dsimp only[mQ] at hv;simp only[cV,fO,eP,fP,hv];clear u hv;have M:=hid ((aF.out.keep hS).toJ a1.out.1);clear hS;have ae:=a9.out.2;have r:=bn.out;rw[a9.out.1] at r;cases bb with
    | false=>
     rw[if_neg (λe=>of_decide_eq_false ae e.2)] at r;have D:=hid r;clear r ae;go_wp2_with fail;go_ret2;rw[<-D.out];exact⟨rfl,M.out.less aD.out,HH.out _ _ _ _ M.out⟩
    | true=>
     rw[if_pos ⟨bl.out,of_decide_eq_true ae⟩] at r;have D:=hid r;have CB:=hid (λw' hj=>Hc (Pr:=Pr') (w0:=w0) (P:=P) (txt:=txt) (sp:=sp) (st:=⟨ls,mL n kid s2.nodes,s2.total⟩) (a0:=0) (e0:=0) nx w' hj bl.out (by have:=aL.out.1;simp only[];omega) aL.out.2 hs);simp only[a9.out.1] at CB;have CF:=hid (λa w' hj=>qR (Pr:=Pr') (w0:=w0) (P:=P) (txt:=txt) (sp:=sp) (st:=⟨ls,mL n kid s2.nodes,s2.total⟩) (a0:=0) (e0:=0) a 2 w' hj);clear r ae;go_wp2_with fail;refine(CB.out _ (by first | exact M.out | exact M.out.keep (aB _ _).drew)).mono ?_;rintro e w7 ⟨rfl,bf⟩;have bE:=hid (M.out.keep (by first | exact bf | exact aC (aB _ _).drew bf));clear bf;go_wp2_with fail;refine(CF.out _ _ (by first | exact bE.out | exact bE.out.keep (aB _ _).drew)).mono ?_;rintro e w8 ⟨rfl,br⟩;have HF:=hid (br.less aD.out).bad;clear br;go_wp2_with fail;go_ret2;rw[<-D.out];exact⟨⟨_,rfl⟩,HF.out⟩
theorem Ru {P:Program}{f:FuncId}{fn:Func} (hf:P.funcs[f]?=some fn) (h1: ¬fn.name= "runtime.NumGoroutine") (h2:fn.body.isNone=false) (args:Array Value) (w:World):(callFunc f args).run P w= .ok (.enter f args) w:=by
 have b: ¬fn.body=none:=by
  intro h;rw[h] at h2;cases h2
 simp[callFunc,go_sem,hf,h1,b]
theorem aDv (args:Array Value) (w:World):(callFunc 109 args).run Tryz.prog w= .ok (.enter 109 args) w:=
 Ru Tryz.func109 (of_decide_eq_false (by kernel_rfl)) (by kernel_rfl) args w
theorem aDw (args:Array Value) (w:World):(callFunc 141 args).run Tryz.prog w= .ok (.enter 141 args) w:=
 Ru Tryz.func141 (of_decide_eq_false (by kernel_rfl)) (by kernel_rfl) args w
theorem aDx (w0:World) (P:Nat) (txt:aA) (sp:List (Nat×Nat)) (hsp:eS txt sp) (hs:txt.length<=65536) (hns:sp.length<=131072) (hV:cG w0) (V:YB) (hVG:iD txt sp V) (H:List aA->World->Prop) {Pr:aK}{st:YS} (n k:Nat) (ind lev:Int) (had:List aA) (w:World) (hk:k+1=st.lines.length) (hw:eL txt sp st) {x:aM} (hx:st.nodes[n]?=some x) (hxi:x.ind=ind) (hkids: ∀(s2:YS) kid had',gC txt V false had k st=(.ok kid s2,had')-> ∀y,s2.nodes[n]?=some y->y.kids.length<=131072)
  (hPl:P<w.heap.size) (CR:Calls Tryz.prog 109 #[.pointer (some ⟨P,0,none⟩), .int .i64 (k:Int), .int .i64 lev] w (zD Pr w0 P txt sp H (gC txt V false had k st))):
  Calls Tryz.prog 113 #[.pointer (some ⟨P,0,none⟩), .int .i64 (n:Int), .int .i64 (k:Int), .int .i64 lev, .func (.func 109) #[.pointer (some ⟨P,0,none⟩)] #[]] w (zE Pr w0 P txt sp H (iC txt sp V false n ind had k st)):=
 Rt w0 P txt sp hsp hs hns hV V hVG H n k ind lev had _ #[.pointer (some ⟨P,0,none⟩)] #[] false aDv w hk hw hx hxi hkids hPl CR
theorem aDy (w0:World) (P:Nat) (txt:aA) (sp:List (Nat×Nat)) (hsp:eS txt sp) (hs:txt.length<=65536) (hns:sp.length<=131072) (hV:cG w0) (V:YB) (hVG:iD txt sp V) (H:List aA->World->Prop) {Pr:aK}{st:YS} (n k:Nat) (ind lev:Int) (had:List aA) (CX CY:Nat) (w:World) (hk:k+1=st.lines.length) (hw:eL txt sp st) {x:aM} (hx:st.nodes[n]?=some x) (hxi:x.ind=ind) (hkids: ∀(s2:YS) kid had',gC txt V true had k st=(.ok kid s2,had')-> ∀y,s2.nodes[n]?=some y->y.kids.length<=131072)
  (hPl:P<w.heap.size) (CR:Calls Tryz.prog 141 #[.int .i64 (k:Int), .int .i64 lev, .pointer (some ⟨CX,0,none⟩), .pointer (some ⟨CY,0,none⟩)] w (zD Pr w0 P txt sp H (gC txt V true had k st))):
  Calls Tryz.prog 113 #[.pointer (some ⟨P,0,none⟩), .int .i64 (n:Int), .int .i64 (k:Int), .int .i64 lev, .func (.func 141) #[] #[.pointer (some ⟨CX,0,none⟩), .pointer (some ⟨CY,0,none⟩)]] w (zE Pr w0 P txt sp H (iC txt sp V true n ind had k st)):=
 Rt w0 P txt sp hsp hs hns hV V hVG H n k ind lev had _ #[] #[.pointer (some ⟨CX,0,none⟩), .pointer (some ⟨CY,0,none⟩)] true aDw w hk hw hx hxi hkids hPl CR
end Go.Proofs.YtjnooaljcgkfpaaGreatDoor
