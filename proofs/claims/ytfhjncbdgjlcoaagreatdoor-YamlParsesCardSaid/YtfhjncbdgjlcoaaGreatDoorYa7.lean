import Derived.Test.YtfhjncbdgjlcoaaGreatDoorYa6
set_option maxRecDepth 100000
set_option maxHeartbeats 8000000
set_option linter.unusedVariables false
set_option linter.unusedSimpArgs false
namespace Go.Proofs.YtfhjncbdgjlcoaaGreatDoor
open Go.RowKit Go.Maps Go.WideMaps
open Go.Lib hiding intOf
theorem qP {w:World}{B:Nat}{e:TypeId}{s:Nat}{v:Value}{n:Nat}{xs:List Value} (h:w.ownsRow B e s v (n+1) xs): ∃g cap,v= .slice (some ⟨g,0,none⟩) (n+1) cap:=by
 rcases h.2 with⟨_,h1⟩ | ⟨g,cap,cur,rfl,_⟩
 ·omega
 ·exact⟨g,cap,rfl⟩
theorem zN (f:aH->aH): ∀(n:Nat) (l:List aH) (x:aH),l[n]?=some x->lK f n l=l.set n (f x)
 | n,[],x,h=>by simp at h
 | 0,y::l,x,h=>by
  obtain rfl:y=x:=r_
  rfl
 | n+1,y::l,x,h=>by
  rw[bZ] at h;rw[lK,zN f n l x h];rfl
def JZ (B P:Nat) (txt:List UInt8) (rest:List aN) (l:Sp) (z:List ND) (nv:Value) (w:World):Prop:= ∃rv,cZ w P txt rv l nv 0 0/\TV w rv rest/\cD B z nv w/\B<=P
theorem J.toZ {B P:Nat}{txt:List UInt8}{rest:List aN}{l:Sp}{nodes:List aH}{w:World} (h:J B P txt rest l nodes w): ∃z nv,z.map (·.1)=nodes/\JZ B P txt rest l z nv w:=by
 obtain⟨rv,z,nv,f,b,c,e,a⟩:=h;exact⟨z,nv,c,rv,f,b,e,a⟩
theorem JZ.toJ {B P:Nat}{txt:List UInt8}{rest:List aN}{l:Sp}{z:List ND}{nv:Value}{w:World} (h:JZ B P txt rest l z nv w):J B P txt rest l (z.map (·.1)) w:=by
 obtain⟨rv,c,a,b,e⟩:=h;exact⟨rv,z,nv,c,a,rfl,b,e⟩
theorem JZ.cells {B P:Nat}{txt:List UInt8}{rest:List aN}{l:Sp}{z:List ND}{nv:Value}{w:World} (h:JZ B P txt rest l z nv w):w.cell? ⟨P,3,none⟩=some (.int .i64 (l.2:Int))/\w.cell? ⟨P,4,none⟩=some nv/\P<w.heap.size:=by
 obtain⟨rv,a,h2,h3,h4⟩:=h;exact⟨a.cells.2.2.2.1,a.cells.2.2.2.2.1,a.lt⟩
theorem JZ.form {B P:Nat}{txt:List UInt8}{rest:List aN}{l:Sp}{z:List ND}{nv:Value}{w:World} (h:JZ B P txt rest l z nv w) (hz:z≠ []): ∃g cap,nv= .slice (some ⟨g,0,none⟩) z.length cap/\z.length<=cap:=by
 obtain⟨rv,h1,h2,a,h4⟩:=h;obtain⟨g,cap,cur,e1,e2,_⟩:=a.form hz;exact⟨g,cap,e1,e2⟩
theorem JZ.keep {B P:Nat}{txt:List UInt8}{rest:List aN}{l:Sp}{z:List ND}{nv:Value}{w w':World} (h:JZ B P txt rest l z nv w) (hb:Below w.heap.size w w'):JZ B P txt rest l z nv w':=by
 obtain⟨rv,c,a,b,e⟩:=h;exact⟨rv,c.keep hb,a.keep hb,b.keep hb,e⟩
section
variable {B P:Nat}{txt:List UInt8}{rest:List aN}{l:Sp}{z:List ND}{w w1:World}{g cap:Nat}
theorem JZ.at_ (h:JZ B P txt rest l z (.slice (some ⟨g,0,none⟩) z.length cap) w):cD B z (.slice (some ⟨g,0,none⟩) z.length cap) w:=by
 obtain⟨rv,h1,h2,a,h4⟩:=h;exact a
theorem JZ.kid (h:JZ B P txt rest l z (.slice (some ⟨g,0,none⟩) z.length cap) w) {n k:Nat}{y:ND} (hy:z[n]?=some y) {kv:Value}{H:Nat} (hH:w.heap.size<=H) (hB:B<=w.heap.size)
  (hr:w1.ownsRow B 3 1 kv (y.1.kids.length+1) (dJ y.1.kids++ [.int .i64 (k:Int)])) (hg:w.grownBy w1 y.2.1.ownBlock) (hat:kv.ownBlock=y.2.1.ownBlock\/kv.ownBlock=some H):
  JZ B P txt rest l (z.set n ({ y.1 with kids:=y.1.kids++ [k] },kv,y.2.2)) (.slice (some ⟨g,0,none⟩) (z.set n ({ y.1 with kids:=y.1.kids++ [k] },kv,y.2.2)).length cap) (w1.setCell ⟨g,n*7+5,none⟩ kv)/\Fr B P w (w1.setCell ⟨g,n*7+5,none⟩ kv):=by
 have BO:=trivial;exact um
theorem JZ.pc (h:JZ B P txt rest l z (.slice (some ⟨g,0,none⟩) z.length cap) w) {n:Nat}{k:Sp}{y:ND} (hy:z[n]?=some y) {kv:Value}{H:Nat} (hH:w.heap.size<=H) (hB:B<=w.heap.size)
  (hr:w1.ownsRow B 42 2 kv (y.1.pcs.length+1) (kU y.1.pcs++ [.int .i64 (k.1:Int), .int .i64 (k.2:Int)])) (hg:w.grownBy w1 y.2.2.ownBlock) (hat:kv.ownBlock=y.2.2.ownBlock\/kv.ownBlock=some H):
  JZ B P txt rest l (z.set n ({ y.1 with pcs:=y.1.pcs++ [k] },y.2.1,kv)) (.slice (some ⟨g,0,none⟩) (z.set n ({ y.1 with pcs:=y.1.pcs++ [k] },y.2.1,kv)).length cap) (w1.setCell ⟨g,n*7+6,none⟩ kv)/\Fr B P w (w1.setCell ⟨g,n*7+6,none⟩ kv):=um
end
theorem Df {z:List ND}{n k:Nat}{pc:Sp}{y:ND}{u v:Value} (hy:z[n]?=some y):
  ((z.set n ({ y.1 with kids:=y.1.kids++ [k] },u,y.2.2)).set n ({ y.1 with kids:=y.1.kids++ [k],pcs:=y.1.pcs++ [pc] },u,v)).map (·.1)=eM n k pc (z.map (·.1)):=by
 unfold eM;rw[zN _ n _ y.1 (by rw[dE,hy];rfl),List.map_set,List.map_set,List.set_set]
def restN (P:Nat) (w:World):Nat:=match w.cell? ⟨P,1,none⟩ with
 | some (.slice _ n _)=>n
 | _=>0
theorem J.restN {B P:Nat}{txt:List UInt8}{rest:List aN}{l:Sp}{nodes:List aH}{w:World} (h:J B P txt rest l nodes w):restN P w=rest.length:=by
 obtain⟨rv,z,nv,b,a,h3,h4,h5⟩:=h;obtain⟨p,c,rfl,_⟩:=a;have:=b.cells.2.1;unfold Go.Proofs.YtfhjncbdgjlcoaaGreatDoor.restN;rw[this]
theorem J.cast {B P:Nat}{txt:List UInt8}{rest:List aN}{l:Sp}{nodes nodes2:List aH}{w:World} (h:J B P txt rest l nodes w) (e:nodes=nodes2):J B P txt rest l nodes2 w:=e ▸ h
theorem Sv (w0:World) (P:Nat) (txt:List UInt8) (lv:Nat) (IH:VC w0 P txt lv) (w:World) (rest:List aN) (l:Sp) (pre:List aH) (x:aH) (post nodes:List aH) (lev:Int)
  (h:J w0.heap.size P txt rest l nodes w) (hmid:fW pre x post nodes) (hb:Below w0.heap.size w0 w) (ht:TB txt rest) (hN:nodes.length+rest.length<=131074) (hl:lev+1=33-(lv:Int)) (hlev:0<=lev/\lev<=32) (hs:txt.length<=65536):
  Calls Tryz.prog 189 #[some P,pre.length,lev,(5:Int), .func (.func 190) #[some P] #[]] w
   (VE w0.heap.size P txt (gG txt (bI txt lv) 5 false pre.length rest l nodes) w):=by
 have wk:=trivial;exact p8
theorem J.apart {B P:Nat}{txt:List UInt8}{rest:List aN}{l:Sp}{nodes:List aH}{w:World} (h:J B P txt rest l nodes w) {X:Nat}{cs:Array Value}{t:TypeId} (hX:w.heap[X]?=some (.cells cs t)) (ht:t≠179):X≠P:=by
 obtain⟨rv,z,nv,a,_⟩:=h;intro e;subst e;unfold cZ at a;rw[hX] at a;injection a with a;injection a with _ a _;exact ht a
theorem HM.apart {b:Nat}{had:List (List UInt8)}{w:World} (h:HM b had w) {X:Nat}{cs:Array Value}{t:TypeId} (hX:w.heap[X]?=some (.cells cs t)):X≠b:=by
 obtain⟨es,c,a⟩:=h.obj;intro e;subst e;rw[hX] at a;cases a
theorem lQ {w:World}{X:Nat}{u:Value}{t:TypeId} (h:w.heap[X]?=some (.cells #[u] t)):w.cell? ⟨X,0,none⟩=some u/\X<w.heap.size:=by
 refine⟨?_,aF h⟩;have:=World.news_of_block h 0 u rfl;have a:((⟨X,0,none⟩:Addr).add 0)=⟨X,0,none⟩:=by unfold Addr.add;split<;>simp_all
 rw[a] at this;exact this
theorem Sw {txt:List UInt8}{V:VF}{had:List (List UInt8)}{rest:List aN}{last:Sp}{nodes:List aH}{r:List aN}{l:Sp}{ns:List aH}{had':List (List UInt8)}
  (h:gF txt V true had rest last nodes=(.ok r l ns,had')):had'.length<=had.length+1:=by
 unfold gF at h;rw[if_neg b_] at h;split at h
 ·exact ae
 ·split at h
  ·exact ae
  ·split at h
   ·exact ae
   ·split at h
    ·exact ae
    ·split at h
     ·exact ae
     ·injection h with _ h;rw[<-h];simp
def KE (B P b:Nat) (txt:List UInt8) (r:JR) (w:World) (e:Ending) (w':World):Prop:=match r with
 | .ok rr l ns=>e= .returned (.bool true)/\J B P txt rr l ns w'/\jT B P b w w'
 | .bad a er=>e= .returned (.bool false)/\tW B P (nodesN P w) a er w'/\jT B P b w w'
theorem Sx (w0:World) (P:Nat) (txt:List UInt8) (lv:Nat) (IH:VC w0 P txt lv) (b X Y:Nat) (w:World) (rest:List aN) (l:Sp) (pre:List aH) (x:aH) (post nodes:List aH) (lev:Int)
  (h:J w0.heap.size P txt rest l nodes w) (hmid:fW pre x post nodes) (hb:Below w0.heap.size w0 w) (ht:TB txt rest) (hN:nodes.length+rest.length<=131074) (hl:lev+1=33-(lv:Int)) (hlev:0<=lev/\lev<=32) (hs:txt.length<=65536)
  (hX:w.heap[X]?=some (.cells #[some P] 177)) (hY:w.heap[Y]?=some (.cells #[.map (some b)] 124)) (hm:HM b [] w) (hBb:w0.heap.size<=b) (hSV:eB w0) (hT:cW w0):
  Calls Tryz.prog 189 #[some P,pre.length,lev,(3:Int), .func (.func 191) #[] #[some X,some Y]] w
   (KE w0.heap.size P b txt (gG txt (bI txt lv) 3 true pre.length rest l nodes) w):=by
 have wl:=trivial;exact p8
def W1 (w:World) (P:Nat) (key:Sp):World:=(w.alloc (.cells #[some P] 177)).alloc (.cells #[key.1,key.2] 42)
theorem W1.bel (w:World) (P:Nat) (key:Sp):Below w.heap.size w (W1 w P key):=(aL w _).trans ((aL _ _).mono e_)
theorem W1.X (w:World) (P:Nat) (key:Sp):(W1 w P key).heap[w.heap.size]?=some (.cells #[some P] 177):=by
 have h:=(aL (w.alloc (.cells #[some P] 177)) (.cells #[key.1,key.2] 42)).block w.heap.size e_;exact h.trans (heap_alloc_new w _)
theorem W1.Y (w:World) (P:Nat) (key:Sp):(W1 w P key).heap[w.heap.size+1]?=some (.cells #[key.1,key.2] 42):=by
 have h:=heap_alloc_new (w.alloc (.cells #[some P] 177)) (.cells #[key.1,key.2] 42);have e:(w.alloc (.cells #[some P] 177)).heap.size=w.heap.size+1:=e_
 rw[e] at h;exact h
theorem pP {w:World}{X:Nat}{u v:Value}{t:TypeId} (h:w.heap[X]?=some (.cells #[u,v] t)):w.cell? ⟨X,0,none⟩=some u/\w.cell? ⟨X,1,none⟩=some v:=by
 have a:=World.news_of_block h 0 u rfl;have b:=World.news_of_block h 1 v rfl;have c:((⟨X,0,none⟩:Addr).add 0)=⟨X,0,none⟩:=by unfold Addr.add;split<;>simp_all
 have e:((⟨X,0,none⟩:Addr).add 1)=⟨X,1,none⟩:=by unfold Addr.add;split<;>simp_all
 rw[c] at a;rw[e] at b;exact⟨a,b⟩
theorem VE.bad_of {B P:Nat}{txt:List UInt8}{a:Nat}{er:Int}{w w1 w':World}{e:Ending} (h:Dc B P a er w1 e w') (hn:nodesN P w<=nodesN P w1) (hf:Fr B P w w1):VE B P txt (.bad a er) w e w':=
 ⟨h.1,h.2.1.mono hn,hf.trans h.2.2⟩
theorem Jb (w0:World) (P:Nat) (txt:List UInt8) (hs:txt.length<=65536) (w:World) (rest:List aN) (l:Sp) (nodes:List aH) (key:Sp) (lev:Int) (h:J w0.heap.size P txt rest l nodes w) (hb:Below w0.heap.size w0 w) (hr:rest.length<=65537)
  (hk:dO (dI rest)=0):
  Calls Tryz.prog 151 #[some P,lev, .agg #[key.1,key.2]] w (VE w0.heap.size P txt (.bad (cA txt.length rest) 2) w):=by
 have zz:=trivial;exact ry
theorem Sy (w0:World) (P:Nat) (txt:List UInt8) (hs:txt.length<=65536) (w:World) (rest:List aN) (l:Sp) (nodes:List aH) (key:Sp) (lev:Int) (h:J w0.heap.size P txt rest l nodes w) (hb:Below w0.heap.size w0 w) (hr:rest.length<=65537)
  (hk:dO (dI rest)≠0) (hlev:32<lev):
  Calls Tryz.prog 151 #[some P,lev, .agg #[key.1,key.2]] w (VE w0.heap.size P txt (.bad (cA txt.length rest) 5) w):=by
 have zx:=trivial;exact ry
theorem Sz (w0:World) (P:Nat) (txt:List UInt8) (hs:txt.length<=65536) (w:World) (rest:List aN) (l:Sp) (nodes:List aH) (key:Sp) (lev:Int) (h:J w0.heap.size P txt rest l nodes w) (hb:Below w0.heap.size w0 w) (hr:rest.length<=65537)
  (hk:dO (dI rest)≠0) (hlev:lev<=32) (hm:nodes.length=4096):
  Calls Tryz.prog 151 #[some P,lev, .agg #[key.1,key.2]] w (VE w0.heap.size P txt (.bad (cA txt.length rest) 6) w):=by
 have zy:=trivial;exact ry
def KO (B P:Nat) (txt:List UInt8) (n:Nat) (R:JR) (b:Bool) (w:World):Prop:=match R with
 | .ok rr l ns=>b=true/\J B P txt rr l ns w/\n<ns.length
 | .bad a er=>b=false/\tW B P (n+1) a er w
theorem cD.to {B P:Nat}{txt:List UInt8}{rv nv:Value}{l:Sp}{a:Nat}{er:Int}{z:List ND}{w:World}{n:Nat} (hb:cZ w P txt rv l nv a er) (h:cD B z nv w) (hn:n<z.length):
  ∃g cap y,nv= .slice (some ⟨g,0,none⟩) z.length cap/\z[n]?=some y/\w.cell? ⟨g,n*7+2,none⟩=some (.int .i64 (y.1.st:Int))/\w.frozen? ⟨g,n*7+2,none⟩=false/\(∀X cs t,w.heap[X]?=some (.cells cs t (0,0))->167≠t->X≠g)/\
   cZ (w.setCell ⟨g,n*7+2,none⟩ (.int .i64 (l.2:Int))) P txt rv l nv a er/\(∀rest,TV w rv rest->TV (w.setCell ⟨g,n*7+2,none⟩ (.int .i64 (l.2:Int))) rv rest)/\
   cD B (z.set n ({ y.1 with st:=l.2 },y.2)) nv (w.setCell ⟨g,n*7+2,none⟩ (.int .i64 (l.2:Int)))/\ ∀P',Fr B P' w (w.setCell ⟨g,n*7+2,none⟩ (.int .i64 (l.2:Int))):=by
 obtain⟨g,cap,dL,rfl,_,zq,fB⟩:=h.form (λe=>by rw[e] at hn;simp at hn);have hy:z[n]?=some z[n]:=bC hn;obtain⟨c1,c2⟩:=h.at_ hy 2 a_ rfl;have hf:=h.field (y':=({ z[n].1 with st:=l.2 },z[n].2)) hy 2 a_ (.int .i64 (l.2:Int)) rfl rfl rfl rfl;rw[List.length_set] at hf;have hk:=λrest (ht:TV w rv rest)=>vR hb ht (cT w g (n*7+2) (.int .i64 (l.2:Int))) (λk hk=>by have e:g=k:=aV hk;subst e;exact⟨dL,_,fB,b_,b_⟩);refine⟨g,cap,z[n],rfl,hy,c1,c2,λX cs t hX ga e=>?_,?_,λrest ht=>(hk rest ht).2,hf,λP'=>Fr.setM fB b_ zq⟩
 ·subst e;rw[hX] at fB;injection fB with fB;injection fB with _ fB;exact ga fB.symm
 ·refine((cT w g (n*7+2) (.int .i64 (l.2:Int))).block P hb.lt (λe=>?_)).trans hb;have e:P=g:=aV e;subst e;unfold cZ at hb;rw[fB] at hb;exact fx
theorem KO.fin {B P:Nat}{txt:List UInt8}{n:Nat}{R:JR}{b:Bool}{w:World} (h:KO B P txt n R b w): ∃(lt g cap len st:Nat),w.cell? ⟨P,3,none⟩=some (.int .i64 (lt:Int))/\w.cell? ⟨P,4,none⟩=some (.slice (some ⟨g,0,none⟩) len cap)/\n<len/\
  w.cell? ⟨g,n*7+2,none⟩=some (.int .i64 (st:Int))/\w.frozen? ⟨g,n*7+2,none⟩=false/\(∀X cs t,w.heap[X]?=some (.cells cs t (0,0))->167≠t->X≠g)/\P≠g/\
  (∀w00,nodesN P w00<=n+1->Fr B P w00 w->VE B P txt (tO n R) w00 (.returned (.bool b)) (w.setCell ⟨g,n*7+2,none⟩ (.int .i64 (lt:Int)))):=by
 cases R with
 | ok rr l ns=>
  obtain⟨rfl,⟨rv,z,nv,c,p,rfl,m,k⟩,i⟩:=h;rw[bR] at i;obtain⟨g,cap,y,rfl,o,c1,c2,f,a1,a2,a3,a4⟩:=cD.to c m i;obtain⟨_,_,_,e3,e4,_⟩:=c.cells;refine⟨l.2,g,cap,z.length,y.1.st,e3,e4,i,c1,c2,f,f P _ _ c b_,λw00 _ j=>⟨rfl,⟨rv,_,_,a1,a2 _ p,?_,a3,k⟩,j.trans (a4 P)⟩⟩;unfold lL;rw[zN _ n _ y.1 (by rw[dE,o];rfl),List.map_set]
 | bad a er=>
  obtain⟨rfl,e,rv,l,z,nv,c,m,k,i⟩:=h;obtain⟨g,cap,y,rfl,o,c1,c2,f,a1,a2,a3,a4⟩:=cD.to c m (show n<z.length by omega);obtain⟨_,_,_,e3,e4,_⟩:=c.cells;exact⟨l.2,g,cap,z.length,y.1.st,e3,e4,a_,c1,c2,f,f P _ _ c b_,λw00 hn j=>⟨rfl,⟨e,rv,l,_,_,a1,a3,k,by rw[List.length_set];omega⟩,j.trans (a4 P)⟩⟩
theorem Jc {k:Nat} (h4:k≠4) (h2:k≠2):dO k≠5/\dO k≠6:=by
 unfold dO;rw[if_neg h4,if_neg h2];constructor<;>(repeat' split)<;>decide
theorem fW.lt {pre:List aH}{x:aH}{post nodes:List aH} (h:fW pre x post nodes):pre.length<nodes.length:=by
 rw[h.1,aT,bH];omega
theorem KO.of {B P:Nat}{txt:List UInt8}{n:Nat}{R:JR}{w w':World}{e:Ending} (h:VE B P txt R w e w') (hn:nodesN P w=n+1) (hl: ∀rr l ns,R= .ok rr l ns->n<ns.length):
  ∃b,e= .returned (.bool b)/\KO B P txt n R b w'/\Fr B P w w':=jo
theorem KO.ofX {B P b0:Nat}{txt:List UInt8}{n:Nat}{R:JR}{w w':World}{e:Ending} (h:KE B P b0 txt R w e w') (hn:nodesN P w=n+1) (hl: ∀rr l ns,R= .ok rr l ns->n<ns.length):
  ∃b,e= .returned (.bool b)/\KO B P txt n R b w'/\jT B P b0 w w':=jo
theorem VE.drew {B P:Nat}{txt:List UInt8}{R:JR}{w w':World}{e:Ending} (h:VE B P txt R w e w'):VE B P txt R w e w'.drew:=by
 cases R with
 | ok rr l ns=>exact⟨h.1,h.2.1.keep (aB _ _).drew,h.2.2.trans (Fr.of_below (aB _ _).drew (by have:=h.2.1.box;omega))⟩
 | bad a er=>
  obtain⟨f,⟨b,rv,l,z,nv,j1,j2,j3,j4⟩,c⟩:=h;exact⟨f,⟨b,rv,l,z,nv,j1.keep (aB _ _).drew,j2.keep (aB _ _).drew,j3,j4⟩,c.trans (Fr.of_below (aB _ _).drew (by have:=j1.lt;omega))⟩
def WM (w:World):World:=(w.alloc (.map #[] 0)).alloc (.cells #[.map (some w.heap.size)] 124)
theorem WM.facts (w:World):Below w.heap.size w (WM w)/\HM w.heap.size [] (WM w)/\(WM w).heap[w.heap.size+1]?=some (.cells #[.map (some w.heap.size)] 124):=by
 have b1:=aL w (.map #[] 0);have b2:=aL (w.alloc (.map #[] 0)) (.cells #[.map (some w.heap.size)] 124);have b:(w.alloc (.map #[] 0)).heap.size=w.heap.size+1:=e_
 have a:=heap_alloc_new (w.alloc (.map #[] 0)) (.cells #[.map (some w.heap.size)] 124);rw[b] at a;exact⟨b1.trans (b2.mono e_),World.ownsMap.alloc (World.ownsMap_made w _ _ _) _,a⟩
structure PF (val:Nat->Value) (S:World->Prop) (W0:World) (ob:Obj) (Own:Value->World->Prop) (P:Nat) (d:Nat->Bool) (v:Nat->Value) (w':World):Prop where
 cl: ∀i,i<19->i≠16->d i=true->v (38+i)=val i
 st:S w'
 up:d 16=true->d 15=true/\d 4=true
 up2:d 19=true->d 16=true
 w0:d 15=false->w'=W0
 w1:d 15=true->d 16=false->w'=W0.alloc ob
 w2:d 16=true->d 19=false->Own (v 54) w'
 w3:d 19=true-> ∃nv w1,Own nv w1/\w'=w1.setCell ⟨P,4,none⟩ nv
section
variable {val:Nat->Value}{S:World->Prop}{W0:World}{ob:Obj}{Own:Value->World->Prop}{P:Nat}{d:Nat->Bool}{v:Nat->Value}{w':World}
theorem zO {d:Nat->Bool}{i j:Nat} (h:aY d i j=true):j=i\/d j=true:=by
 unfold aY at h;by_cases hj:j=i
 ·exact .inl hj
 ·rw[if_neg hj] at h;exact .inr h
theorem uA {v:Nat->Value}{k:Nat}{x:Value}:cB v (some k) x k=x:=if_pos rfl
theorem uB {v:Nat->Value}{k j:Nat}{x:Value} (h:j≠k):cB v (some k) x j=v j:=if_neg h
theorem PF.clSet (h:PF val S W0 ob Own P d v w') {i k:Nat} (hk:k=38+i) {x:Value} (hx:i=16\/x=val i): ∀j,j<19->j≠16->aY d i j=true->cB v (some k) x (38+j)=val j:=by
 subst hk;intro j c a b;by_cases hji:j=i
 ·subst hji;rw[uA];exact hx.resolve_left a
 ·rw[uB a_];exact h.cl j c a ((zO b).resolve_left hji)
theorem PF.pure (h:PF val S W0 ob Own P d v w') {i k:Nat} (hk:k=38+i) {x:Value} (hx:x=val i) (h15:i≠15) (h16:i≠16) (h19:i≠19):PF val S W0 ob Own P (aY d i) (cB v (some k) x) w':=by
 have e:aY d i 15=d 15:=cL (Ne.symm h15);have c:aY d i 16=d 16:=cL (Ne.symm h16);have f:aY d i 19=d 19:=cL (Ne.symm h19);refine⟨h.clSet hk (.inr hx),h.st,λa=>?_,λa=>?_,λa=>?_,λa b=>?_,λa b=>?_,λa=>?_⟩
 ·rw[c] at a;obtain⟨a1,a2⟩:=h.up a;refine⟨by rw[e];exact a1,?_⟩;by_cases h4:4=i
  ·rw[h4];exact kC
  ·rw[cL h4];exact a2
 ·rw[f] at a;rw[c];exact h.up2 a
 ·rw[e] at a;exact h.w0 a
 ·rw[e] at a;rw[c] at b;exact h.w1 a b
 ·rw[c] at a;rw[f] at b;rw[uB a_];exact h.w2 a b
 ·rw[f] at a;exact h.w3 a
theorem PF.mk' (h:PF val S W0 ob Own P d v w') (hd:d 15=false) {x:Value} (hx:x=val 15) (hS:S (W0.alloc ob)):PF val S W0 ob Own P (aY d 15) (cB v (some 53) x) (W0.alloc ob):=by
 have f:aY d 15 16=d 16:=cL b_;have e:aY d 15 19=d 19:=cL b_;have h16:d 16=false:=by
  cases hc:d 16 with
  | false=>rfl
  | true=>have:=(h.up hc).1;rw[hd] at this;cases this
 have c:d 19=false:=mv;refine⟨h.clSet rfl (.inr hx),hS,λa=>?_,λa=>?_,λa=>?_,λ_ _=>rfl,λa=>?_,λa=>?_⟩
 ·rw[f,h16] at a;cases a
 ·rw[e,c] at a;cases a
 ·rw[kC] at a;cases a
 ·rw[f,h16] at a;cases a
 ·rw[e,c] at a;cases a
theorem PF.app (h:PF val S W0 ob Own P d v w') (h15:d 15=true) (h4:d 4=true) (h16:d 16=false) {x:Value}{w2:World} (hS:S w2) (ho:Own x w2):PF val S W0 ob Own P (aY d 16) (cB v (some 54) x) w2:=by
 have i:aY d 16 15=d 15:=cL b_;have e4:aY d 16 4=d 4:=cL b_;have e:aY d 16 19=d 19:=cL b_;have c:d 19=false:=mv;refine⟨h.clSet rfl (.inl rfl),hS,λa=>⟨by rw[i];exact h15,by rw[e4];exact h4⟩,λa=>kC,λa=>?_,λa b=>?_,λa b=>?_,λa=>?_⟩
 ·rw[i,h15] at a;cases a
 ·rw[kC] at b;cases b
 ·rw[uA];exact ho
 ·rw[e,c] at a;cases a
theorem PF.sto (h:PF val S W0 ob Own P d v w') (h16:d 16=true) (h19:d 19=false) {x:Value}{k:Option Tmp} (hk:k=none) (hS:S (w'.setCell ⟨P,4,none⟩ (v 54))):PF val S W0 ob Own P (aY d 19) (cB v k x) (w'.setCell ⟨P,4,none⟩ (v 54)):=by
 subst hk;have e:aY d 19 15=d 15:=cL b_;have e4:aY d 19 4=d 4:=cL b_;have c:aY d 19 16=d 16:=cL b_;refine⟨λj i m f=>?_,hS,λa=>?_,λa=>by rw[c];exact h16,λa=>?_,λa b=>?_,λa b=>?_,λa=>⟨v 54,w',h.w2 h16 h19,rfl⟩⟩
 ·rw[cL a_] at f;exact h.cl j i m f
 ·rw[e,e4];exact h.up h16
 ·rw[e,(h.up h16).1] at a;cases a
 ·rw[c,h16] at b;cases b
 ·rw[kC] at b;cases b
end
theorem Jd {o:Oper}{a:Act}{K:Act->World->Prop}{Q:Exit->Act->World->Prop} (hgd:o.guard=none) (s x:Operand)
  (ho:o.op= .call { callee:= .builtin .append,args:= #[s,x],argTypes:= #[132,132] })
  (B:Nat) (w:World) (v:Value) (z:List ND) (y:aH) (cs:Array Value) (hcs:cs.toList=gA (y, .slice none 0 0, .slice none 0 0)) (hs:a.eval s=v) (hown:w.ownsRow B 167 7 v z.length (iZ z)) (hx:a.eval x= .slice (some ⟨w.heap.size,0,none⟩) 1 1) (hl:z.length<=4294967295) (hB:B<=w.heap.size)
  (hK: ∀nv w',w'.ownsRow B 167 7 nv (z.length+1) (iZ z++gA (y, .slice none 0 0, .slice none 0 0))->w.grownBy w' v.ownBlock->K (a.put o.dst nv) w'):
  Oper.wp Tryz.prog o a (w.alloc (.cells cs 167)) K Q:=by
 have h:=St (ops:= #[]) (Q:=Q) (E:=True) hgd s x ho B w v z y cs hcs hs hown hx hl hB hK;rw[if_pos (by simp[Region.wanted,hgd])] at h;exact h
theorem Ta {i:Nat} (h:i<20):i=0\/i=1\/i=2\/i=3\/i=4\/i=5\/i=6\/i=7\/i=8\/i=9\/i=10\/i=11\/i=12\/i=13\/i=14\/i=15\/i=16\/i=17\/i=18\/i=19:=a_
def Je (P:Nat) (p0:Option Addr) (nodes:List aH) (c0 q g o:Nat) (r:List aN) (c:Nat) (t:aN) (key:Sp) (H:Nat):Nat->Value
 | 0=> .pointer (some ⟨P,0,none⟩)
 | 1=> .pointer (some ⟨P,0,none⟩)
 | 2=> .pointer (some ⟨P,0,none⟩)
 | 3=> .pointer (some ⟨P,4,none⟩)
 | 4=> .slice p0 nodes.length c0
 | 5=> .int .i64 (q:Int)
 | 6=> .pointer (some ⟨P,0,none⟩)
 | 7=> .pointer (some ⟨P,0,none⟩)
 | 8=> .pointer (some ⟨P,1,none⟩)
 | 9=> .slice (some ⟨g,o,none⟩) (r.length+1) c
 | 10=> .pointer (some ⟨g,o,none⟩)
 | 11=> .pointer (some ⟨g,o+1,none⟩)
 | 12=> .agg #[t.sf,t.st]
 | 13=> .agg #[key.1,key.2]
 | 14=> .agg #[q,t.sf,t.st,key.1,key.2,(),()]
 | 15=> .slice (some ⟨H,0,none⟩) 1 1
 | 17=> .pointer (some ⟨P,0,none⟩)
 | 18=> .pointer (some ⟨P,4,none⟩)
 | _=>undef
def SP (W0:World) (X Y g P:Nat) (rv:Value) (w':World):Prop:=(w'.heap[X]?=W0.heap[X]?/\w'.heap[Y]?=W0.heap[Y]?/\w'.heap[g]?=W0.heap[g]?)/\w'.cell? ⟨P,1,none⟩=some rv
theorem cZ.nodes {w:World}{P:Nat}{txt:List UInt8}{rv nv:Value}{l:Sp}{a:Nat}{er:Int} (h:cZ w P txt rv l nv a er) (nv2:Value):cZ (w.setCell ⟨P,4,none⟩ nv2) P txt rv l nv2 a er:=eo
theorem TV.head' {w:World}{v:Value}{t:aN}{r:List aN} (h:TV w v (t::r)): ∃g o c,v= .slice (some ⟨g,o,none⟩) (r.length+1) c/\r.length+1<=c/\w.cell? ⟨g,o,none⟩=some (.int .i64 t.kind)/\w.cell? ⟨g,o+1,none⟩=some (.int .i64 t.sf)/\w.cell? ⟨g,o+2,none⟩=some (.int .i64 t.st)/\
  ∃cur,w.heap[g]?=some (.cells cur 163 (0,0)):=by
 obtain⟨p,c,f,e,b⟩:=h;rcases b with b | ⟨g,o,cur,rfl,j,i⟩
 ·cases b
 ·simp only[bH] at f e;have a:=i 0 t rfl;rw[Nat.zero_mul,Nat.add_zero] at a;exact⟨g,o,c,f,e,a.1,a.2.1,a.2.2,cur,j⟩
theorem JZ.node {B P:Nat}{txt:List UInt8}{rest:List aN}{l:Sp}{z:List ND}{nv:Value}{w w2:World} (h:JZ B P txt rest l z nv w) {x:aH} (hk:x.kids= []) (hp:x.pcs= []) (hB:B<=w.heap.size) {nv2:Value}
  (hr:w2.ownsRow B 167 7 nv2 (z.length+1) (iZ z++gA (x, .slice none 0 0, .slice none 0 0))) (hg:w.grownBy w2 nv.ownBlock):
  J B P txt rest l (z.map (·.1)++ [x]) (w2.setCell ⟨P,4,none⟩ nv2)/\Fr B P w (w2.setCell ⟨P,4,none⟩ nv2):=by
 obtain⟨rv,n,m,c,i⟩:=h;obtain⟨a1,a2⟩:=vR n m hg (λk hk=>by obtain⟨b,j⟩:=kO c.row k hk;exact⟨b,_,j,b_,b_⟩);have f:=c.push hk hp hr hg;refine⟨⟨rv,z++ [(x, .slice none 0 0, .slice none 0 0)],nv2,a1.nodes nv2,?_,e_,f.other a1 b_ b_ b_ (cT w2 P 4 nv2),i⟩,(Fr.grown c.row b_ hg hB).trans (Fr.setP i)⟩;exact a2.same (λg b a=>(cT w2 P 4 nv2).block g (aF a) (λe=>by have e2:g=P:=aV e;subst e2;unfold cZ at a1;rw[a1] at a;injection a with a;injection a with _ a;exact absurd a b_))
theorem Tb (w0:World) (P:Nat) (txt:List UInt8) (hs:txt.length<=65536) (w:World) (t:aN) (r:List aN) (l:Sp) (nodes:List aH) (key:Sp) (lev:Int) (h:J w0.heap.size P txt (t::r) l nodes w) (hb:Below w0.heap.size w0 w) (hr:r.length<=65537)
  (hk:dO t.kind≠0) (lv:Nat) (IH:VC w0 P txt lv) (hlev:lev+1=33-(lv:Int)) (hlev0:0<=lev/\lev<=32) (hm:nodes.length≠4096) (hN:nodes.length+(r.length+1)<=131074) (ht:TB txt (t::r)) (hSV:eB w0) (hT:cW w0):
  Calls Tryz.prog 151 #[some P,lev, .agg #[key.1,key.2]] w (VE w0.heap.size P txt (bI txt (lv+1) (t::r) l nodes key) w):=by
 have yn:=trivial;exact qr
theorem Jf (w0:World) (P:Nat) (txt:List UInt8) (hs:txt.length<=65536) (hSV:eB w0) (hT:cW w0): ∀lv,lv<=32->VC w0 P txt lv
 | 0,_=>λw rest l nodes key lev h hb ht hN hl=>by
  unfold bI;by_cases hk:dO (dI rest)=0
  ·rw[if_pos hk];exact Jb w0 P txt hs w rest l nodes key lev h hb ht.1 hk
  ·rw[if_neg hk];exact Sy w0 P txt hs w rest l nodes key lev h hb ht.1 hk a_
 | lv+1,hlv=>λw rest l nodes key lev h hb ht hN hl=>by
  by_cases hk:dO (dI rest)=0
  ·have e:bI txt (lv+1) rest l nodes key= .bad (cA txt.length rest) 2:=by unfold bI;rw[if_pos hk]
   rw[e];exact Jb w0 P txt hs w rest l nodes key lev h hb ht.1 hk
  by_cases hm:nodes.length=4096
  ·have e:bI txt (lv+1) rest l nodes key= .bad (cA txt.length rest) 6:=by unfold bI;rw[if_neg hk,if_pos hm]
   rw[e];exact Sz w0 P txt hs w rest l nodes key lev h hb ht.1 hk a_ hm
  ·cases rest with
   | nil=>exact absurd rfl hk
   | cons t r=>
    have a:=ht.1;simp only[bH] at hN a;exact Tb w0 P txt hs w t r l nodes key lev h hb a_ hk lv (Jf w0 P txt hs hSV hT lv a_) a_ a_ hm hN ht hSV hT
end Go.Proofs.YtfhjncbdgjlcoaaGreatDoor
