import Derived.Test.YtfhjncbdgjlcoaaGreatDoorYn6
set_option linter.unusedVariables false
set_option linter.unusedSimpArgs false
set_option maxRecDepth 100000
set_option maxHeartbeats 8000000
namespace Go.Proofs.YtfhjncbdgjlcoaaGreatDoor
open Tryz
open Go.RowKit Go.Maps Go.WideMaps
open Go.Lib hiding intOf
theorem rN {w:World}{B:Nat}{e:TypeId}{s:Nat}{v:Value}{n:Nat}{xs:List Value} (h:w.ownsRow B e s v (n+1) xs): ∃g cap,v= .slice (some ⟨g,0,none⟩) (n+1) cap:=by
 rcases h.2 with⟨_,h1⟩ | ⟨g,cap,cur,rfl,_⟩
 .omega
 .exact⟨g,cap,rfl⟩
theorem Ah (f:aM->aM): ∀(n:Nat) (l:List aM) (x:aM),l[n]?=some x->mM f n l=l.set n (f x)
 | n,[],x,h=>by simp at h
 | 0,y::l,x,h=>by
  obtain rfl:y=x:=s'
  rfl
 | n+1,y::l,x,h=>by
  rw[bY] at h;rw[mM,Ah f n l x h];rfl
def JZ (B P:Nat) (txt:aC) (rest:List aR) (l:Sp) (z:List ND) (nv:Value) (w:World):Prop:= ∃rv,dO w P txt rv l nv 0 0/\TV w rv rest/\cK B z nv w/\B<=P
theorem J.toZ {B P:Nat}{txt:aC}{rest:List aR}{l:Sp}{nodes:List aM}{w:World} (h:J B P txt rest l nodes w): ∃z nv,z.map (·.1)=nodes/\JZ B P txt rest l z nv w:=by
 obtain⟨rv,z,nv,c,a,f,b,e⟩:=h;exact⟨z,nv,f,rv,c,a,b,e⟩
theorem JZ.toJ {B P:Nat}{txt:aC}{rest:List aR}{l:Sp}{z:List ND}{nv:Value}{w:World} (h:JZ B P txt rest l z nv w):J B P txt rest l (z.map (·.1)) w:=by
 obtain⟨rv,a,c,b,e⟩:=h;exact⟨rv,z,nv,a,c,rfl,b,e⟩
theorem JZ.cells {B P:Nat}{txt:aC}{rest:List aR}{l:Sp}{z:List ND}{nv:Value}{w:World} (h:JZ B P txt rest l z nv w):w.cell? (P,3)=some (.int .i64 (l.2:Int))/\w.cell? (P,4)=some nv/\P<w.heap.size:=by
 obtain⟨rv,a,h2,h3,h4⟩:=h;exact⟨a.cells.2.2.2.1,a.cells.2.2.2.2.1,a.lt⟩
theorem JZ.form {B P:Nat}{txt:aC}{rest:List aR}{l:Sp}{z:List ND}{nv:Value}{w:World} (h:JZ B P txt rest l z nv w) (hz:z≠ []): ∃g cap,nv= .slice (some ⟨g,0,none⟩) z.length cap/\z.length<=cap:=by
 obtain⟨rv,h1,h2,a,h4⟩:=h;obtain⟨g,cap,cur,e1,e2,_⟩:=a.form hz;exact⟨g,cap,e1,e2⟩
theorem JZ.keep {B P:Nat}{txt:aC}{rest:List aR}{l:Sp}{z:List ND}{nv:Value}{w w':World} (h:JZ B P txt rest l z nv w) (hb:aA w w'):JZ B P txt rest l z nv w':=by
 obtain⟨rv,a,c,b,e⟩:=h;exact⟨rv,a.keep hb,c.keep hb,b.keep hb,e⟩
section
variable {B P:Nat}{txt:aC}{rest:List aR}{l:Sp}{z:List ND}{w w1:World}{g cap:Nat}
theorem JZ.at_ (h:JZ B P txt rest l z (.slice (some ⟨g,0,none⟩) z.length cap) w):cK B z (.slice (some ⟨g,0,none⟩) z.length cap) w:=by
 obtain⟨rv,h1,h2,a,h4⟩:=h;exact a
theorem JZ.kid (h:JZ B P txt rest l z (.slice (some ⟨g,0,none⟩) z.length cap) w) {n k:Nat}{y:ND} (hy:z[n]?=some y) {kv:Value}{H:Nat} (hH:w.heap.size<=H) (hB:B<=w.heap.size)
  (hr:w1.ownsRow B 3 1 kv (y.1.kids.length+1) (dH y.1.kids++ [.int .i64 (k:Int)])) (hg:w.grownBy w1 y.2.1.ownBlock) (hat:kv.ownBlock=y.2.1.ownBlock\/kv.ownBlock=some H):
  JZ B P txt rest l (z.set n ({ y.1 with kids:=y.1.kids++ [k] },kv,y.2.2)) (.slice (some ⟨g,0,none⟩) (z.set n ({ y.1 with kids:=y.1.kids++ [k] },kv,y.2.2)).length cap) (w1.setCell ⟨g,n*7+5,none⟩ kv)/\Fr B P w (w1.setCell ⟨g,n*7+5,none⟩ kv):=by
 have OA:=trivial;exact JL
theorem JZ.pc (h:JZ B P txt rest l z (.slice (some ⟨g,0,none⟩) z.length cap) w) {n:Nat}{k:Sp}{y:ND} (hy:z[n]?=some y) {kv:Value}{H:Nat} (hH:w.heap.size<=H) (hB:B<=w.heap.size)
  (hr:w1.ownsRow B 42 2 kv (y.1.pcs.length+1) (lS y.1.pcs++ [.int .i64 (k.1:Int), .int .i64 (k.2:Int)])) (hg:w.grownBy w1 y.2.2.ownBlock) (hat:kv.ownBlock=y.2.2.ownBlock\/kv.ownBlock=some H):
  JZ B P txt rest l (z.set n ({ y.1 with pcs:=y.1.pcs++ [k] },y.2.1,kv)) (.slice (some ⟨g,0,none⟩) (z.set n ({ y.1 with pcs:=y.1.pcs++ [k] },y.2.1,kv)).length cap) (w1.setCell ⟨g,n*7+6,none⟩ kv)/\Fr B P w (w1.setCell ⟨g,n*7+6,none⟩ kv):=JL
end
theorem Ec {z:List ND}{n k:Nat}{pc:Sp}{y:ND}{u v:Value} (hy:z[n]?=some y):
  ((z.set n ({ y.1 with kids:=y.1.kids++ [k] },u,y.2.2)).set n ({ y.1 with kids:=y.1.kids++ [k],pcs:=y.1.pcs++ [pc] },u,v)).map (·.1)=fB n k pc (z.map (·.1)):=by
 unfold fB;rw[Ah _ n _ y.1 (by rw[cF,hy];rfl),List.map_set,List.map_set,List.set_set]
def restN (P:Nat) (w:World):Nat:=match w.cell? (P,1) with
 | some (.slice _ n _)=>n
 | _=>0
theorem J.restN {B P:Nat}{txt:aC}{rest:List aR}{l:Sp}{nodes:List aM}{w:World} (h:J B P txt rest l nodes w):restN P w=rest.length:=by
 obtain⟨rv,z,nv,b,a,h3,h4,h5⟩:=h;obtain⟨p,c,rfl,_⟩:=a;have:=b.cells.2.1;unfold Go.Proofs.YtfhjncbdgjlcoaaGreatDoor.restN;rw[this]
theorem J.cast {B P:Nat}{txt:aC}{rest:List aR}{l:Sp}{nodes nodes2:List aM}{w:World} (h:J B P txt rest l nodes w) (e:nodes=nodes2):J B P txt rest l nodes2 w:=e ▸ h
theorem Up (w0:World) (P:Nat) (txt:aC) (lv:Nat) (IH:VC w0 P txt lv) (w:World) (rest:List aR) (l:Sp) (pre:List aM) (x:aM) (post nodes:List aM) (lev:Int)
  (h:J w0.heap.size P txt rest l nodes w) (hmid:gK pre x post nodes) (hb:aA w0 w) (ht:TB txt rest) (hN:nodes.length+rest.length<=131074) (hl:lev+1=33-(lv:Int)) (hlev:0<=lev/\lev<=32) (hs:txt.length<=65536):
  Calls prog 189 #[some P,pre.length,lev,(5:Int), .func (.func 190) #[some P] #[]] w
   (VE w0.heap.size P txt (gV txt (bS txt lv) 5 false pre.length rest l nodes) w):=by
 have KL:=trivial;exact GL
theorem J.apart {B P:Nat}{txt:aC}{rest:List aR}{l:Sp}{nodes:List aM}{w:World} (h:J B P txt rest l nodes w) {X:Nat}{cs:Array Value}{t:TypeId} (hX:w.heap[X]?=some (.cells cs t)) (ht:t≠179):X≠P:=by
 obtain⟨rv,z,nv,a,_⟩:=h;intro e;subst e;unfold dO at a;rw[hX] at a;injection a with a;injection a with _ a _;exact ht a
theorem HM.apart {b:Nat}{had:List aC}{w:World} (h:HM b had w) {X:Nat}{cs:Array Value}{t:TypeId} (hX:w.heap[X]?=some (.cells cs t)):X≠b:=by
 obtain⟨es,c,a⟩:=h.obj;intro e;subst e;rw[hX] at a;cases a
theorem mQ {w:World}{X:Nat}{u:Value}{t:TypeId} (h:w.heap[X]?=some (.cells #[u] t)):w.cell? (X,0)=some u/\X<w.heap.size:=by
 refine⟨?_,aG h⟩;have:=World.news_of_block h 0 u rfl;have a:((⟨X,0,none⟩:Addr).add 0)=⟨X,0,none⟩:=by unfold Addr.add;split<;>simp_all
 rw[a] at this;exact this
theorem Uq {txt:aC}{V:VF}{had:List aC}{rest:List aR}{last:Sp}{nodes:List aM}{r:List aR}{l:Sp}{ns:List aM}{had':List aC}
  (h:gU txt V true had rest last nodes=(.ok r l ns,had')):had'.length<=had.length+1:=by
 unfold gU at h;rw[if_neg b_] at h;split at h
 .exact ae
 .split at h
  .exact ae
  .split at h
   .exact ae
   .split at h
    .exact ae
    .split at h
     .exact ae
     .injection h with _ h;rw[<-h];simp
def KE (B P b:Nat) (txt:aC) (r:JR) (w:World) (e:Ending) (w':World):Prop:=match r with
 | .ok rr l ns=>e= .returned (.bool true)/\J B P txt rr l ns w'/\kL B P b w w'
 | .bad a er=>e= .returned (.bool false)/\uP B P (nodesN P w) a er w'/\kL B P b w w'
theorem Ur (w0:World) (P:Nat) (txt:aC) (lv:Nat) (IH:VC w0 P txt lv) (b X Y:Nat) (w:World) (rest:List aR) (l:Sp) (pre:List aM) (x:aM) (post nodes:List aM) (lev:Int)
  (h:J w0.heap.size P txt rest l nodes w) (hmid:gK pre x post nodes) (hb:aA w0 w) (ht:TB txt rest) (hN:nodes.length+rest.length<=131074) (hl:lev+1=33-(lv:Int)) (hlev:0<=lev/\lev<=32) (hs:txt.length<=65536)
  (hX:w.heap[X]?=some (.cells #[some P] 177)) (hY:w.heap[Y]?=some (.cells #[.map (some b)] 124)) (hm:HM b [] w) (hBb:w0.heap.size<=b) (hSV:eQ w0) (hT:dE w0):
  Calls prog 189 #[some P,pre.length,lev,(3:Int), .func (.func 191) #[] #[some X,some Y]] w
   (KE w0.heap.size P b txt (gV txt (bS txt lv) 3 true pre.length rest l nodes) w):=by
 have KM:=trivial;exact GL
def W1 (w:World) (P:Nat) (key:Sp):World:=(w.alloc (.cells #[some P] 177)).alloc (.cells #[key.1,key.2] 42)
theorem W1.bel (w:World) (P:Nat) (key:Sp):aA w (W1 w P key):=(aL w _).trans ((aL _ _).mono e_)
theorem W1.X (w:World) (P:Nat) (key:Sp):(W1 w P key).heap[w.heap.size]?=some (.cells #[some P] 177):=by
 have h:=(aL (w.alloc (.cells #[some P] 177)) (.cells #[key.1,key.2] 42)).block w.heap.size e_;exact h.trans (heap_alloc_new w _)
theorem W1.Y (w:World) (P:Nat) (key:Sp):(W1 w P key).heap[w.heap.size+1]?=some (.cells #[key.1,key.2] 42):=by
 have h:=heap_alloc_new (w.alloc (.cells #[some P] 177)) (.cells #[key.1,key.2] 42);have e:(w.alloc (.cells #[some P] 177)).heap.size=w.heap.size+1:=e_
 rw[e] at h;exact h
theorem qO {w:World}{X:Nat}{u v:Value}{t:TypeId} (h:w.heap[X]?=some (.cells #[u,v] t)):w.cell? (X,0)=some u/\w.cell? (X,1)=some v:=by
 have b:=World.news_of_block h 0 u rfl;have a:=World.news_of_block h 1 v rfl;have c:((⟨X,0,none⟩:Addr).add 0)=⟨X,0,none⟩:=by unfold Addr.add;split<;>simp_all
 have e:((⟨X,0,none⟩:Addr).add 1)=⟨X,1,none⟩:=by unfold Addr.add;split<;>simp_all
 rw[c] at b;rw[e] at a;exact⟨b,a⟩
theorem VE.bad_of {B P:Nat}{txt:aC}{a:Nat}{er:Int}{w w1 w':World}{e:Ending} (h:Dz B P a er w1 e w') (hn:nodesN P w<=nodesN P w1) (hf:Fr B P w w1):VE B P txt (.bad a er) w e w':=
 ⟨h.1,h.2.1.mono hn,hf.trans h.2.2⟩
theorem Kd (w0:World) (P:Nat) (txt:aC) (hs:txt.length<=65536) (w:World) (rest:List aR) (l:Sp) (nodes:List aM) (key:Sp) (lev:Int) (h:J w0.heap.size P txt rest l nodes w) (hb:aA w0 w) (hr:rest.length<=65537)
  (hk:eD (dY rest)=0):
  Calls prog 151 #[some P,lev, .agg #[key.1,key.2]] w (VE w0.heap.size P txt (.bad (cH txt.length rest) 2) w):=by
 have MR:=trivial;exact IL
theorem Us (w0:World) (P:Nat) (txt:aC) (hs:txt.length<=65536) (w:World) (rest:List aR) (l:Sp) (nodes:List aM) (key:Sp) (lev:Int) (h:J w0.heap.size P txt rest l nodes w) (hb:aA w0 w) (hr:rest.length<=65537)
  (hk:eD (dY rest)≠0) (hlev:32<lev):
  Calls prog 151 #[some P,lev, .agg #[key.1,key.2]] w (VE w0.heap.size P txt (.bad (cH txt.length rest) 5) w):=by
 have MP:=trivial;exact IL
theorem Ut (w0:World) (P:Nat) (txt:aC) (hs:txt.length<=65536) (w:World) (rest:List aR) (l:Sp) (nodes:List aM) (key:Sp) (lev:Int) (h:J w0.heap.size P txt rest l nodes w) (hb:aA w0 w) (hr:rest.length<=65537)
  (hk:eD (dY rest)≠0) (hlev:lev<=32) (hm:nodes.length=4096):
  Calls prog 151 #[some P,lev, .agg #[key.1,key.2]] w (VE w0.heap.size P txt (.bad (cH txt.length rest) 6) w):=by
 have MQ:=trivial;exact IL
def KO (B P:Nat) (txt:aC) (n:Nat) (R:JR) (b:Bool) (w:World):Prop:=match R with
 | .ok rr l ns=>b=true/\J B P txt rr l ns w/\n<ns.length
 | .bad a er=>b=false/\uP B P (n+1) a er w
theorem cK.to {B P:Nat}{txt:aC}{rv nv:Value}{l:Sp}{a:Nat}{er:Int}{z:List ND}{w:World}{n:Nat} (hb:dO w P txt rv l nv a er) (h:cK B z nv w) (hn:n<z.length):
  ∃g cap y,nv= .slice (some ⟨g,0,none⟩) z.length cap/\z[n]?=some y/\w.cell? ⟨g,n*7+2,none⟩=some (.int .i64 (y.1.st:Int))/\w.frozen? ⟨g,n*7+2,none⟩=false/\(∀X cs t,w.heap[X]?=some (.cells cs t (0,0))->167≠t->X≠g)/\
   dO (w.setCell ⟨g,n*7+2,none⟩ (.int .i64 (l.2:Int))) P txt rv l nv a er/\(∀rest,TV w rv rest->TV (w.setCell ⟨g,n*7+2,none⟩ (.int .i64 (l.2:Int))) rv rest)/\
   cK B (z.set n ({ y.1 with st:=l.2 },y.2)) nv (w.setCell ⟨g,n*7+2,none⟩ (.int .i64 (l.2:Int)))/\ ∀P',Fr B P' w (w.setCell ⟨g,n*7+2,none⟩ (.int .i64 (l.2:Int))):=by
 obtain⟨g,cap,ec,rfl,_,A1,gT⟩:=h.form (λe=>by rw[e] at hn;simp at hn);have hy:z[n]?=some z[n]:=bI hn;obtain⟨c1,c2⟩:=h.at_ hy 2 a_ rfl;have hf:=h.field (y':=({ z[n].1 with st:=l.2 },z[n].2)) hy 2 a_ (.int .i64 (l.2:Int)) rfl rfl rfl rfl;rw[List.length_set] at hf;have hk:=λrest (ht:TV w rv rest)=>wB hb ht (dP w g (n*7+2) (.int .i64 (l.2:Int))) (λk hk=>by have e:g=k:=bA hk;subst e;exact⟨ec,_,gT,b_,b_⟩);refine⟨g,cap,z[n],rfl,hy,c1,c2,λX cs t hX gj e=>?_,?_,λrest ht=>(hk rest ht).2,hf,λP'=>Fr.setM gT b_ A1⟩
 .subst e;rw[hX] at gT;injection gT with gT;injection gT with _ gT;exact gj gT.symm
 .refine((dP w g (n*7+2) (.int .i64 (l.2:Int))).block P hb.lt (λe=>?_)).trans hb;have e:P=g:=bA e;subst e;unfold dO at hb;rw[gT] at hb;exact gr
theorem KO.fin {B P:Nat}{txt:aC}{n:Nat}{R:JR}{b:Bool}{w:World} (h:KO B P txt n R b w): ∃(lt g cap len st:Nat),w.cell? (P,3)=some (.int .i64 (lt:Int))/\w.cell? (P,4)=some (.slice (some ⟨g,0,none⟩) len cap)/\n<len/\
  w.cell? (g,n*7+2)=some (.int .i64 (st:Int))/\w.frozen? ⟨g,n*7+2,none⟩=false/\(∀X cs t,w.heap[X]?=some (.cells cs t (0,0))->167≠t->X≠g)/\P≠g/\
  (∀w00,nodesN P w00<=n+1->Fr B P w00 w->VE B P txt (uI n R) w00 (.returned (.bool b)) (w.setCell ⟨g,n*7+2,none⟩ (.int .i64 (lt:Int)))):=by
 cases R with
 | ok rr l ns=>
  obtain⟨rfl,⟨rv,z,nv,c,p,rfl,k,m⟩,i⟩:=h;rw[bP] at i;obtain⟨g,cap,y,rfl,o,c1,c2,e,a1,a2,a3,a4⟩:=cK.to c k i;obtain⟨_,_,_,e3,e4,_⟩:=c.cells;refine⟨l.2,g,cap,z.length,y.1.st,e3,e4,i,c1,c2,e,e P _ _ c b_,λw00 _ j=>⟨rfl,⟨rv,_,_,a1,a2 _ p,?_,a3,m⟩,j.trans (a4 P)⟩⟩;unfold mN;rw[Ah _ n _ y.1 (by rw[cF,o];rfl),List.map_set]
 | bad a er=>
  obtain⟨rfl,f,rv,l,z,nv,c,k,m,i⟩:=h;obtain⟨g,cap,y,rfl,o,c1,c2,e,a1,a2,a3,a4⟩:=cK.to c k (show n<z.length by omega);obtain⟨_,_,_,e3,e4,_⟩:=c.cells;exact⟨l.2,g,cap,z.length,y.1.st,e3,e4,a_,c1,c2,e,e P _ _ c b_,λw00 hn j=>⟨rfl,⟨f,rv,l,_,_,a1,a3,m,by rw[List.length_set];omega⟩,j.trans (a4 P)⟩⟩
theorem Ke {k:Nat} (h4:k≠4) (h2:k≠2):eD k≠5/\eD k≠6:=by
 unfold eD;rw[if_neg h4,if_neg h2];constructor<;>(repeat' split)<;>decide
theorem gK.lt {pre:List aM}{x:aM}{post nodes:List aM} (h:gK pre x post nodes):pre.length<nodes.length:=by
 rw[h.1,aZ,bM];omega
theorem KO.of {B P:Nat}{txt:aC}{n:Nat}{R:JR}{w w':World}{e:Ending} (h:VE B P txt R w e w') (hn:nodesN P w=n+1) (hl: ∀rr l ns,R= .ok rr l ns->n<ns.length):
  ∃b,e= .returned (.bool b)/\KO B P txt n R b w'/\Fr B P w w':=j6
theorem KO.ofX {B P b0:Nat}{txt:aC}{n:Nat}{R:JR}{w w':World}{e:Ending} (h:KE B P b0 txt R w e w') (hn:nodesN P w=n+1) (hl: ∀rr l ns,R= .ok rr l ns->n<ns.length):
  ∃b,e= .returned (.bool b)/\KO B P txt n R b w'/\kL B P b0 w w':=j6
theorem VE.drew {B P:Nat}{txt:aC}{R:JR}{w w':World}{e:Ending} (h:VE B P txt R w e w'):VE B P txt R w e w'.drew:=by
 cases R with
 | ok rr l ns=>exact⟨h.1,h.2.1.keep (aD _ _).drew,h.2.2.trans (Fr.of_below (aD _ _).drew (by have:=h.2.1.box;omega))⟩
 | bad a er=>
  obtain⟨c,⟨b,rv,l,z,nv,j1,j2,j3,j4⟩,f⟩:=h;exact⟨c,⟨b,rv,l,z,nv,j1.keep (aD _ _).drew,j2.keep (aD _ _).drew,j3,j4⟩,f.trans (Fr.of_below (aD _ _).drew (by have:=j1.lt;omega))⟩
def WM (w:World):World:=(w.alloc (.map #[] 0)).alloc (.cells #[.map (some w.heap.size)] 124)
theorem WM.facts (w:World):aA w (WM w)/\HM w.heap.size [] (WM w)/\(WM w).heap[w.heap.size+1]?=some (.cells #[.map (some w.heap.size)] 124):=by
 have b1:=aL w (.map #[] 0);have b2:=aL (w.alloc (.map #[] 0)) (.cells #[.map (some w.heap.size)] 124);have b:(w.alloc (.map #[] 0)).heap.size=w.heap.size+1:=e_
 have a:=heap_alloc_new (w.alloc (.map #[] 0)) (.cells #[.map (some w.heap.size)] 124);rw[b] at a;exact⟨b1.trans (b2.mono e_),World.ownsMap.alloc (World.ownsMap_made w _ _ _) _,a⟩
structure PF (val:Nat->Value) (S:World->Prop) (W0:World) (ob:Obj) (Own:Value->World->Prop) (P:Nat) (d:Nat->Bool) (v:Nat->Value) (w':World):Prop where
 cl: ∀i,i<19->i≠16->d i=true->v (38+i)=val i
 st:S w'
 up:d 16=true->d 15=true/\d 4=true
 up2:d 19=true->d 16=true
 w0:d 15=false->w'=W0
 w1:d 15=true->d 16=false->w'=W0.alloc ob
 w2:d 16=true->d 19=false->Own (v 54) w'
 w3:d 19=true-> ∃nv w1,Own nv w1/\w'=w1.setCell ⟨P,4,none⟩ nv
section
variable {val:Nat->Value}{S:World->Prop}{W0:World}{ob:Obj}{Own:Value->World->Prop}{P:Nat}{d:Nat->Bool}{v:Nat->Value}{w':World}
theorem Ai {d:Nat->Bool}{i j:Nat} (h:bE d i j=true):j=i\/d j=true:=by
 unfold bE at h;by_cases hj:j=i
 .exact .inl hj
 .rw[if_neg hj] at h;exact .inr h
theorem uT {v:Nat->Value}{k:Nat}{x:Value}:cE v (some k) x k=x:=if_pos rfl
theorem uU {v:Nat->Value}{k j:Nat}{x:Value} (h:j≠k):cE v (some k) x j=v j:=if_neg h
theorem PF.clSet (h:PF val S W0 ob Own P d v w') {i k:Nat} (hk:k=38+i) {x:Value} (hx:i=16\/x=val i): ∀j,j<19->j≠16->bE d i j=true->cE v (some k) x (38+j)=val j:=by
 subst hk;intro j b a c;by_cases hji:j=i
 .subst hji;rw[uT];exact hx.resolve_left a
 .rw[uU a_];exact h.cl j b a ((Ai c).resolve_left hji)
theorem PF.pure (h:PF val S W0 ob Own P d v w') {i k:Nat} (hk:k=38+i) {x:Value} (hx:x=val i) (h15:i≠15) (h16:i≠16) (h19:i≠19):PF val S W0 ob Own P (bE d i) (cE v (some k) x) w':=by
 have f:bE d i 15=d 15:=cV (Ne.symm h15);have c:bE d i 16=d 16:=cV (Ne.symm h16);have e:bE d i 19=d 19:=cV (Ne.symm h19);refine⟨h.clSet hk (.inr hx),h.st,λa=>?_,λa=>?_,λa=>?_,λa b=>?_,λa b=>?_,λa=>?_⟩
 .rw[c] at a;obtain⟨a1,a2⟩:=h.up a;refine⟨by rw[f];exact a1,?_⟩;by_cases h4:4=i
  .rw[h4];exact kU
  .rw[cV h4];exact a2
 .rw[e] at a;rw[c];exact h.up2 a
 .rw[f] at a;exact h.w0 a
 .rw[f] at a;rw[c] at b;exact h.w1 a b
 .rw[c] at a;rw[e] at b;rw[uU a_];exact h.w2 a b
 .rw[e] at a;exact h.w3 a
theorem PF.mk' (h:PF val S W0 ob Own P d v w') (hd:d 15=false) {x:Value} (hx:x=val 15) (hS:S (W0.alloc ob)):PF val S W0 ob Own P (bE d 15) (cE v (some 53) x) (W0.alloc ob):=by
 have i:bE d 15 16=d 16:=cV b_;have e:bE d 15 19=d 19:=cV b_;have h16:d 16=false:=by
  cases hc:d 16 with
  | false=>rfl
  | true=>have:=(h.up hc).1;rw[hd] at this;cases this
 have c:d 19=false:=nw;refine⟨h.clSet rfl (.inr hx),hS,λa=>?_,λa=>?_,λa=>?_,λ_ _=>rfl,λa=>?_,λa=>?_⟩
 .rw[i,h16] at a;cases a
 .rw[e,c] at a;cases a
 .rw[kU] at a;cases a
 .rw[i,h16] at a;cases a
 .rw[e,c] at a;cases a
theorem PF.app (h:PF val S W0 ob Own P d v w') (h15:d 15=true) (h4:d 4=true) (h16:d 16=false) {x:Value}{w2:World} (hS:S w2) (ho:Own x w2):PF val S W0 ob Own P (bE d 16) (cE v (some 54) x) w2:=by
 have f:bE d 16 15=d 15:=cV b_;have e4:bE d 16 4=d 4:=cV b_;have e:bE d 16 19=d 19:=cV b_;have c:d 19=false:=nw;refine⟨h.clSet rfl (.inl rfl),hS,λa=>⟨by rw[f];exact h15,by rw[e4];exact h4⟩,λa=>kU,λa=>?_,λa b=>?_,λa b=>?_,λa=>?_⟩
 .rw[f,h15] at a;cases a
 .rw[kU] at b;cases b
 .rw[uT];exact ho
 .rw[e,c] at a;cases a
theorem PF.sto (h:PF val S W0 ob Own P d v w') (h16:d 16=true) (h19:d 19=false) {x:Value}{k:Option Tmp} (hk:k=none) (hS:S (w'.setCell ⟨P,4,none⟩ (v 54))):PF val S W0 ob Own P (bE d 19) (cE v k x) (w'.setCell ⟨P,4,none⟩ (v 54)):=by
 subst hk;have c:bE d 19 15=d 15:=cV b_;have e4:bE d 19 4=d 4:=cV b_;have e:bE d 19 16=d 16:=cV b_;refine⟨λj i m f=>?_,hS,λa=>?_,λa=>by rw[e];exact h16,λa=>?_,λa b=>?_,λa b=>?_,λa=>⟨v 54,w',h.w2 h16 h19,rfl⟩⟩
 .rw[cV a_] at f;exact h.cl j i m f
 .rw[c,e4];exact h.up h16
 .rw[c,(h.up h16).1] at a;cases a
 .rw[e,h16] at b;cases b
 .rw[kU] at b;cases b
end
theorem Kf {o:Oper}{a:Act}{K:Act->World->Prop}{Q:Exit->Act->World->Prop} (hgd:o.guard=none) (s x:Operand)
  (ho:o.op= .call { callee:= .builtin .append,args:= #[s,x],argTypes:= #[132,132] })
  (B:Nat) (w:World) (v:Value) (z:List ND) (y:aM) (cs:Array Value) (hcs:cs.toList=gP (y, .slice none 0 0, .slice none 0 0)) (hs:a.eval s=v) (hown:w.ownsRow B 167 7 v z.length (jR z)) (hx:a.eval x= .slice (some ⟨w.heap.size,0,none⟩) 1 1) (hl:z.length<=4294967295) (hB:B<=w.heap.size)
  (hK: ∀nv w',w'.ownsRow B 167 7 nv (z.length+1) (jR z++gP (y, .slice none 0 0, .slice none 0 0))->w.grownBy w' v.ownBlock->K (a.put o.dst nv) w'):
  Oper.wp prog o a (w.alloc (.cells cs 167)) K Q:=by
 have h:=Un (ops:= #[]) (Q:=Q) (E:=True) hgd s x ho B w v z y cs hcs hs hown hx hl hB hK;rw[if_pos (by simp[Region.wanted,hgd])] at h;exact h
theorem Uu {i:Nat} (h:i<20):i=0\/i=1\/i=2\/i=3\/i=4\/i=5\/i=6\/i=7\/i=8\/i=9\/i=10\/i=11\/i=12\/i=13\/i=14\/i=15\/i=16\/i=17\/i=18\/i=19:=a_
def Kg (P:Nat) (p0:Option Addr) (nodes:List aM) (c0 q g o:Nat) (r:List aR) (c:Nat) (t:aR) (key:Sp) (H:Nat):Nat->Value
 | 0=> .pointer (some ⟨P,0,none⟩)
 | 1=> .pointer (some ⟨P,0,none⟩)
 | 2=> .pointer (some ⟨P,0,none⟩)
 | 3=> .pointer (some ⟨P,4,none⟩)
 | 4=> .slice p0 nodes.length c0
 | 5=> .int .i64 (q:Int)
 | 6=> .pointer (some ⟨P,0,none⟩)
 | 7=> .pointer (some ⟨P,0,none⟩)
 | 8=> .pointer (some ⟨P,1,none⟩)
 | 9=> .slice (some ⟨g,o,none⟩) (r.length+1) c
 | 10=> .pointer (some ⟨g,o,none⟩)
 | 11=> .pointer (some ⟨g,o+1,none⟩)
 | 12=> .agg #[t.sf,t.st]
 | 13=> .agg #[key.1,key.2]
 | 14=> .agg #[q,t.sf,t.st,key.1,key.2,(),()]
 | 15=> .slice (some ⟨H,0,none⟩) 1 1
 | 17=> .pointer (some ⟨P,0,none⟩)
 | 18=> .pointer (some ⟨P,4,none⟩)
 | _=>undef
def SP (W0:World) (X Y g P:Nat) (rv:Value) (w':World):Prop:=(w'.heap[X]?=W0.heap[X]?/\w'.heap[Y]?=W0.heap[Y]?/\w'.heap[g]?=W0.heap[g]?)/\w'.cell? (P,1)=some rv
theorem dO.nodes {w:World}{P:Nat}{txt:aC}{rv nv:Value}{l:Sp}{a:Nat}{er:Int} (h:dO w P txt rv l nv a er) (nv2:Value):dO (w.setCell ⟨P,4,none⟩ nv2) P txt rv l nv2 a er:=D8
theorem TV.head' {w:World}{v:Value}{t:aR}{r:List aR} (h:TV w v (t::r)): ∃g o c,v= .slice (some ⟨g,o,none⟩) (r.length+1) c/\r.length+1<=c/\w.cell? ⟨g,o,none⟩=some (.int .i64 t.kind)/\w.cell? ⟨g,o+1,none⟩=some (.int .i64 t.sf)/\w.cell? ⟨g,o+2,none⟩=some (.int .i64 t.st)/\
  ∃cur,w.heap[g]?=some (.cells cur 163 (0,0)):=by
 obtain⟨p,c,f,e,b⟩:=h;rcases b with b | ⟨g,o,cur,rfl,i,j⟩
 .cases b
 .simp only[bM] at f e;have a:=j 0 t rfl;rw[Nat.zero_mul,Nat.add_zero] at a;exact⟨g,o,c,f,e,a.1,a.2.1,a.2.2,cur,i⟩
theorem JZ.node {B P:Nat}{txt:aC}{rest:List aR}{l:Sp}{z:List ND}{nv:Value}{w w2:World} (h:JZ B P txt rest l z nv w) {x:aM} (hk:x.kids= []) (hp:x.pcs= []) (hB:B<=w.heap.size) {nv2:Value}
  (hr:w2.ownsRow B 167 7 nv2 (z.length+1) (jR z++gP (x, .slice none 0 0, .slice none 0 0))) (hg:w.grownBy w2 nv.ownBlock):
  J B P txt rest l (z.map (·.1)++ [x]) (w2.setCell ⟨P,4,none⟩ nv2)/\Fr B P w (w2.setCell ⟨P,4,none⟩ nv2):=by
 obtain⟨rv,m,j,c,i⟩:=h;obtain⟨a1,a2⟩:=wB m j hg (λk hk=>by obtain⟨b,n⟩:=lI c.row k hk;exact⟨b,_,n,b_,b_⟩);have f:=c.push hk hp hr hg;refine⟨⟨rv,z++ [(x, .slice none 0 0, .slice none 0 0)],nv2,a1.nodes nv2,?_,e_,f.other a1 b_ b_ b_ (dP w2 P 4 nv2),i⟩,(Fr.grown c.row b_ hg hB).trans (Fr.setP i)⟩;exact a2.same (λg b a=>(dP w2 P 4 nv2).block g (aG a) (λe=>by have e2:g=P:=bA e;subst e2;unfold dO at a1;rw[a1] at a;injection a with a;injection a with _ a;exact absurd a b_))
theorem Uv (w0:World) (P:Nat) (txt:aC) (hs:txt.length<=65536) (w:World) (t:aR) (r:List aR) (l:Sp) (nodes:List aM) (key:Sp) (lev:Int) (h:J w0.heap.size P txt (t::r) l nodes w) (hb:aA w0 w) (hr:r.length<=65537)
  (hk:eD t.kind≠0) (lv:Nat) (IH:VC w0 P txt lv) (hlev:lev+1=33-(lv:Int)) (hlev0:0<=lev/\lev<=32) (hm:nodes.length≠4096) (hN:nodes.length+(r.length+1)<=131074) (ht:TB txt (t::r)) (hSV:eQ w0) (hT:dE w0):
  Calls prog 151 #[some P,lev, .agg #[key.1,key.2]] w (VE w0.heap.size P txt (bS txt (lv+1) (t::r) l nodes key) w):=by
 have RX:=trivial;exact PU
theorem Kh (w0:World) (P:Nat) (txt:aC) (hs:txt.length<=65536) (hSV:eQ w0) (hT:dE w0): ∀lv,lv<=32->VC w0 P txt lv
 | 0,_=>λw rest l nodes key lev h hb ht hN hl=>by
  unfold bS;by_cases hk:eD (dY rest)=0
  .rw[if_pos hk];exact Kd w0 P txt hs w rest l nodes key lev h hb ht.1 hk
  .rw[if_neg hk];exact Us w0 P txt hs w rest l nodes key lev h hb ht.1 hk a_
 | lv+1,hlv=>λw rest l nodes key lev h hb ht hN hl=>by
  by_cases hk:eD (dY rest)=0
  .have e:bS txt (lv+1) rest l nodes key= .bad (cH txt.length rest) 2:=by unfold bS;rw[if_pos hk]
   rw[e];exact Kd w0 P txt hs w rest l nodes key lev h hb ht.1 hk
  by_cases hm:nodes.length=4096
  .have e:bS txt (lv+1) rest l nodes key= .bad (cH txt.length rest) 6:=by unfold bS;rw[if_neg hk,if_pos hm]
   rw[e];exact Ut w0 P txt hs w rest l nodes key lev h hb ht.1 hk a_ hm
  .cases rest with
   | nil=>exact absurd rfl hk
   | cons t r=>
    have a:=ht.1;simp only[bM] at hN a;exact Uv w0 P txt hs w t r l nodes key lev h hb a_ hk lv (Kh w0 P txt hs hSV hT lv a_) a_ a_ hm hN ht hSV hT
end Go.Proofs.YtfhjncbdgjlcoaaGreatDoor
