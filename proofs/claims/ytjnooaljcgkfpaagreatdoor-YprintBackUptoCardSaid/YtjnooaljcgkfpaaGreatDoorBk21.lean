import Derived.Test.YtjnooaljcgkfpaaGreatDoorBk17
import Derived.Test.YtjnooaljcgkfpaaGreatDoorBk4
import Derived.Test.YtjnooaljcgkfpaaGreatDoorBk16
import Derived.Test.YtjnooaljcgkfpaaGreatDoorBk12
import Derived.Test.YtjnooaljcgkfpaaGreatDoorBk15
import Derived.Test.YtjnooaljcgkfpaaGreatDoorBk5
namespace Go.Proofs.YtjnooaljcgkfpaaGreatDoor
set_option linter.unusedVariables false
set_option linter.unusedSimpArgs false
section
open Go.RowKit
open Go.Lib hiding intOf
theorem uL {α:Type} (f:α->List Value) (m:Nat) (hf: ∀x,(f x).length=m): ∀(z:List α) (j:Nat) (y:α),z[j]?=some y-> ∀i,i<m->(z.flatMap f)[j*m+i]?=(f y)[i]?
 | [],j,y,h,i,hi=>by simp at h
 | x::z,0,y,h,i,hi=>by
  obtain rfl:x=y:=by simpa using h
  rw[List.flatMap_cons,Nat.zero_mul,Nat.zero_add,oL (by rw[hf];exact hi)]
 | x::z,j+1,y,h,i,hi=>by
  rw[bM] at h;have:=uL f m hf z j y h i hi;rw[List.flatMap_cons,jO (by rw[hf,Nat.succ_mul];omega),<-this];congr 1;rw[hf,Nat.succ_mul];omega
theorem Bu {α:Type} (f:α->List Value) (m:Nat) (hf: ∀x,(f x).length=m): ∀(z:List α) (j:Nat) (y y':α),z[j]?=some y-> ∀i u,i<m->(f y).set i u=f y'->(z.flatMap f).set (j*m+i) u=(z.set j y').flatMap f
 | [],j,y,y',h,i,u,hi,hu=>by simp at h
 | x::z,0,y,y',h,i,u,hi,hu=>by
  obtain rfl:x=y:=by simpa using h
  rw[List.flatMap_cons,Nat.zero_mul,Nat.zero_add,List.set_append_left _ _ (by rw[hf];exact hi),hu];rfl
 | x::z,j+1,y,y',h,i,u,hi,hu=>by
  rw[bM] at h;have:=Bu f m hf z j y y' h i u hi hu;rw[List.flatMap_cons,List.set_append_right _ _ (by rw[hf,Nat.succ_mul];omega),eP,List.flatMap_cons,<-this];congr 2;rw[hf,Nat.succ_mul];omega
def uM (r:aO):List Value:= [.int .i64 r.kind, .int .i64 r.sf, .int .i64 r.st, .int .i64 r.ind, .int .i64 r.kf, .int .i64 r.kt, .int .i64 r.rf, .int .i64 r.rt, .int .i64 r.nf, .int .i64 r.nt]
def kE (l:List aO):List Value:=l.flatMap uM
abbrev YN:=aM×Value
def kR (y:YN):List Value:= [.int .i64 (y.1.kind:Int), .int .i64 y.1.ind, .int .i64 (y.1.fr:Int), .int .i64 (y.1.til:Int), .int .i64 y.1.kf, .int .i64 y.1.kt, .int .i64 y.1.rf, .int .i64 y.1.rt,y.2]
def jH (z:List YN):List Value:=z.flatMap kR
theorem Qv (r:aO):(uM r).length=10:=rfl
theorem Bv (y:YN):(kR y).length=9:=rfl
def uN (z:List YN):Prop:= ∀(i j:Nat) (yi yj:YN),i≠j->z[i]?=some yi->z[j]?=some yj->yi.2.ownBlock=none\/yi.2.ownBlock≠yj.2.ownBlock
theorem uN.push {z:List YN}{y:YN} (h:uN z) (hy:y.2.ownBlock=none):uN (z++ [y]):=by
 have key: ∀(j:Nat) (yj:YN),(z++ [y])[j]?=some yj->z[j]?=some yj\/(j=z.length/\yj=y):=by
  intro j yj b;by_cases h2:j<z.length
  ·rw[oL h2] at b;exact .inl b
  ·have f:=(aP.1 b).1;rw[aI,dQ] at f;rw[jO (by omega),show j-z.length=0 by omega] at b;simp only[dG,cP] at b;exact .inr ⟨by omega,b.symm⟩
 intro i j yi yj e c b;rcases key i yi c with c | ⟨c,rfl⟩
 ·rcases key j yj b with b | ⟨b,rfl⟩
  ·exact h i j yi yj e c b
  ·by_cases hn:yi.2.ownBlock=none
   ·exact .inl hn
   ·exact .inr (by rw[hy];exact hn)
 ·exact .inl hy
theorem uN.set {z:List YN}{n:Nat}{y y':YN} (h:uN z) (hn:z[n]?=some y) (hb:y'.2.ownBlock=y.2.ownBlock\/ ∀(j:Nat) (yj:YN),z[j]?=some yj->yj.2.ownBlock≠y'.2.ownBlock):uN (z.set n y'):=by
 intro i j yi yj b e c;rw[List.getElem?_set] at e c;by_cases h1:n=i
 ·subst h1;rw[if_pos rfl,if_pos (aP.1 hn).1] at e;obtain rfl:=bC e;rw[if_neg b] at c;rcases hb with hb | hb
  ·rw[hb];exact h n j y yj b hn c
  ·exact .inr (Ne.symm (hb j yj c))
 ·rw[if_neg h1] at e;by_cases h2:n=j
  ·subst h2;rw[if_pos rfl,if_pos (aP.1 hn).1] at c;obtain rfl:=bC c;rcases hb with hb | hb
   ·rw[hb];exact h i n yi y b e hn
   ·exact .inr (hb i yi e)
  ·rw[if_neg h2] at c;exact h i j yi yj b e c
structure eT (B:Nat) (z:List YN) (nv:Value) (w:World):Prop where
 row:w.ownsRow B 100 9 nv z.length (jH z)
 kids: ∀y∈z,w.ownsRow B 3 1 y.2 y.1.kids.length (eO y.1.kids)
 ak:uN z
theorem eT.nil (B:Nat) (w:World):eT B [] (.slice none 0 0) w:=
 ⟨⟨rfl, .inl ⟨rfl,rfl⟩⟩,λy b=>(by cases b),λi j yi yj _ h=>(by simp at h)⟩
section
variable {B:Nat}{z:List YN}{nv:Value}{w w' w1:World}
theorem eT.keep (h:eT B z nv w) (hb:Below w.heap.size w w'):eT B z nv w':=
 ⟨kX h.row hb,λy b=>kX (h.kids y b) hb,h.ak⟩
theorem eT.other (h:eT B z nv w) {X:Nat}{cs:Array Value}{t:TypeId}{fz:Nat×Nat} (hX:w.heap[X]?=some (.cells cs t fz)) (h1:100≠t) (h2:3≠t) (hg:w.grownBy w' (some X)):eT B z nv w':=
 ⟨h.row.kept hg (dM h.row hX h1),λy b=>(h.kids y b).kept hg (dM (h.kids y b) hX h2),h.ak⟩
theorem eT.grow (h:eT B z nv w) {B2 s n:Nat}{e:TypeId}{v:Value}{xs:List Value} (hr:w.ownsRow B2 e s v n xs) (h1:100≠e) (h2:3≠e) (hg:w.grownBy w' v.ownBlock):eT B z nv w':=
 ⟨h.row.kept hg (jA h.row hr h1),λy b=>(h.kids y b).kept hg (jA (h.kids y b) hr h2),h.ak⟩
theorem eT.push (h:eT B z nv w) {nv':Value}{x:aM} (hk:x.kids= []) (hr:w'.ownsRow B 100 9 nv' (z.length+1) (jH z++kR (x, .slice none 0 0))) (hg:w.grownBy w' nv.ownBlock):
  eT B (z++ [(x, .slice none 0 0)]) nv' w':=by
 refine⟨?_,λy b=>?_,h.ak.push rfl⟩
 ·have e:jH (z++ [(x, .slice none 0 0)])=jH z++kR (x, .slice none 0 0):=by unfold jH;simp
  rw[e,aI];exact hr
 ·rcases mZ.1 b with b | b
  ·exact(h.kids y b).kept hg (jA (h.kids y b) h.row (by decide))
  ·rw[jX.1 b];simp only[];rw[hk];exact⟨rfl, .inl ⟨rfl,rfl⟩⟩
theorem eT.form (h:eT B z nv w) (hz:z≠ []): ∃g cap cur,nv= .slice (some ⟨g,0,none⟩) z.length cap/\z.length<=cap/\B<=g/\w.heap[g]?=some (.cells cur 100 (0,0)):=by
 rcases h.row.2 with⟨_,b⟩ | ⟨g,cap,cur,b,c,e,f,_⟩
 ·exact absurd (List.length_eq_zero_iff.1 b) hz
 ·exact⟨g,cap,cur,b,f,c,e⟩
theorem eT.at_ {g cap:Nat} (h:eT B z (.slice (some ⟨g,0,none⟩) z.length cap) w) {n:Nat}{y:YN} (hy:z[n]?=some y) (i:Nat) (hi:i<9) {u:Value} (hu:(kR y)[i]?=some u):
  w.cell? ⟨g,n*9+i,none⟩=some u/\w.frozen? ⟨g,n*9+i,none⟩=false:=by
 have hn:=(aP.1 hy).1;refine⟨?_,World.ownsRow.frozenAt h.row _⟩;rw[World.ownsRow.cellAt h.row _ (by omega),jH,uL _ 9 Bv z n y hy i hi,hu]
theorem eT.field {g cap:Nat} (h:eT B z (.slice (some ⟨g,0,none⟩) z.length cap) w) {n:Nat}{y y':YN} (hy:z[n]?=some y) (i:Nat) (hi:i<9) (u:Value) (hu:(kR y).set i u=kR y') (hk:y'.1.kids=y.1.kids) (h1:y'.2=y.2):
  eT B (z.set n y') (.slice (some ⟨g,0,none⟩) (z.set n y').length cap) (w.setCell ⟨g,n*9+i,none⟩ u):=by
 obtain⟨l,m⟩:=World.ownsRow.stored h.row (n*9+i) u;obtain⟨g',cap',cur,e,_,_,b⟩:=h.form (λe=>by rw[e] at hy;simp at hy);have j:g=g':=by injection e with e;injection e with e;injection e
 subst j;rw[jH,Bu _ 9 Bv z n y y' hy i u hi hu] at l;have f: ∀x∈z.set n y',x=y'\/x∈z:=λx c=>(List.mem_or_eq_of_mem_set c).symm;refine⟨by rw[List.length_set];exact l,λx c=>?_,?_⟩
 ·rcases f x c with rfl | c
  ·rw[hk,h1];have k:=h.kids y (bA hy);exact k.kept m (dM k b (by decide))
  ·exact(h.kids x c).kept m (dM (h.kids x c) b (by decide))
 ·exact h.ak.set hy (.inl (by rw[h1]))
theorem eT.kid {g cap:Nat} (h:eT B z (.slice (some ⟨g,0,none⟩) z.length cap) w) {n k:Nat}{y:YN} (hy:z[n]?=some y) {kv:Value}{H:Nat} (hH:w.heap.size<=H)
  (hr:w1.ownsRow B 3 1 kv (y.1.kids.length+1) (eO y.1.kids++ [.int .i64 (k:Int)])) (hg:w.grownBy w1 y.2.ownBlock) (hat:kv.ownBlock=y.2.ownBlock\/kv.ownBlock=some H):
  eT B (z.set n ({ y.1 with kids:=y.1.kids++ [k] },kv)) (.slice (some ⟨g,0,none⟩) (z.set n ({ y.1 with kids:=y.1.kids++ [k] },kv)).length cap) (w1.setCell ⟨g,n*9+8,none⟩ kv):=by
 have o:=h.kids y (bA hy);have i:=h.row.kept hg (jA h.row o (by decide));obtain⟨p,m⟩:=World.ownsRow.stored i (n*9+8) kv;obtain⟨g',cap',cur,e,_,_,b⟩:=h.form (λe=>by rw[e] at hy;simp at hy);have r:g=g':=by injection e with e;injection e with e;injection e
 subst r;have c:w1.heap[g]?=some (.cells cur 100 (0,0)):=by
  rw[hg.block g (aE b) (λe=>by
   rcases dM o b (by decide) with l | l
   ·rw[l] at e;cases e
   ·exact l e.symm)]
  exact b
 rw[jH,Bu _ 9 Bv z n y ({ y.1 with kids:=y.1.kids++ [k] },kv) hy 8 kv (by omega) rfl] at p;refine⟨by rw[List.length_set];exact p,λx s=>?_,?_⟩
 ·obtain⟨j,f⟩:=List.getElem?_of_mem s;rw[List.getElem?_set] at f;by_cases hnj:n=j
  ·subst hnj;rw[if_pos rfl,if_pos (aP.1 hy).1] at f;obtain rfl:=bC f;have e:eO (y.1.kids++ [k])=eO y.1.kids++ [.int .i64 (k:Int)]:=by unfold eO;simp
   simp only[e,aI,dQ];exact hr.kept m (dM hr c (by decide))
  ·rw[if_neg hnj] at f;have q:=h.kids x (bA f);have l:=q.kept hg (h.ak j n x y (Ne.symm hnj) f hy);exact l.kept m (dM l c (by decide))
 ·refine h.ak.set hy ?_;rcases hat with hat | hat
  ·exact .inl hat
  ·refine .inr (λj yj f e=>?_);have q:=h.kids yj (bA f);simp only[] at e;rw[hat] at e;have:=(World.ownsRow.lt q H e).2;omega
end
abbrev aK:=Nat->Option Obj
def aK.put (Pr:aK) (X:Nat) (o:Obj):aK:=λk=>if k=X then some o else Pr k
theorem aK.put_eq (Pr:aK) (X:Nat) (o:Obj):Pr.put X o X=some o:=if_pos rfl
theorem aK.put_ne (Pr:aK) {X k:Nat} (o:Obj) (h:k≠X):Pr.put X o k=Pr k:=if_neg h
structure YK (T:TypeId) (Pr:aK) (w0:World) (P:Nat) (txt:aA) (sp:List (Nat×Nat)) (lines:List aO) (z:List YN) (tot:Nat) (a er:Int) (sv lv nv:Value) (w:World):Prop where
 box:w.heap[P]?=some (.cells #[.string (bs txt),sv,lv,nv, .int .i64 (tot:Int), .int .i64 a, .int .i64 er] T (0,0))
 spr:w.ownsRow w0.heap.size 76 2 sv sp.length (oR sp)
 lnr:w.ownsRow w0.heap.size 143 10 lv lines.length (kE lines)
 nod:eT w0.heap.size z nv w
 hB:w0.heap.size<=P
 ty:T≠76/\T≠143/\T≠100/\T≠3
 bel:Below w0.heap.size w0 w
 fr: ∀k o,Pr k=some o->w.heap[k]?=some o/\k≠P/\lv.ownBlock≠some k/\nv.ownBlock≠some k/\ ∀y∈z,y.2.ownBlock≠some k
section
variable {T:TypeId}{Pr:aK}{w0 w w' w1:World}{P:Nat}{txt:aA}{sp:List (Nat×Nat)}{lines:List aO}{z:List YN}{tot:Nat}{a er:Int}{sv lv nv:Value}
theorem YK.keep (h:YK T Pr w0 P txt sp lines z tot a er sv lv nv w) (hb:Below w.heap.size w w'):YK T Pr w0 P txt sp lines z tot a er sv lv nv w':=
 ⟨(hb.block P (aE h.box)).trans h.box,kX h.spr hb,kX h.lnr hb,h.nod.keep hb,h.hB,h.ty,h.bel.trans (hb.mono h.bel.size),λk o c=>by obtain⟨b,e⟩:=h.fr k o c;exact⟨(hb.block k (aE b)).trans b,e⟩⟩
theorem YK.lt (h:YK T Pr w0 P txt sp lines z tot a er sv lv nv w):P<w.heap.size:=aE h.box
theorem YK.cells (h:YK T Pr w0 P txt sp lines z tot a er sv lv nv w):(w.cell? ⟨P,0,none⟩=some (.string (bs txt))/\w.cell? ⟨P,1,none⟩=some sv/\w.cell? ⟨P,2,none⟩=some lv/\w.cell? ⟨P,3,none⟩=some nv/\w.cell? ⟨P,4,none⟩=some (.int .i64 (tot:Int))/\w.cell? ⟨P,5,none⟩=some (.int .i64 a)/\w.cell? ⟨P,6,none⟩=some (.int .i64 er))/\
  w.frozen? ⟨P,2,none⟩=false/\w.frozen? ⟨P,3,none⟩=false/\w.frozen? ⟨P,4,none⟩=false/\w.frozen? ⟨P,5,none⟩=false/\w.frozen? ⟨P,6,none⟩=false:=by
 have b:=h.box;refine⟨⟨?_,?_,?_,?_,?_,?_,?_⟩,?_,?_,?_,?_,?_⟩<;>simp[World.cell?,World.frozen?,b]
theorem YK.put (h:YK T Pr w0 P txt sp lines z tot a er sv lv nv w) (hb:Below w.heap.size w w') {X:Nat}{o:Obj} (hX:w.heap.size<=X) (ho:w'.heap[X]?=some o):YK T (Pr.put X o) w0 P txt sp lines z tot a er sv lv nv w':=by
 have b:=h.keep hb;refine⟨b.box,b.spr,b.lnr,b.nod,b.hB,b.ty,b.bel,λk o' c=>?_⟩;by_cases hkX:k=X
 ·subst hkX;rw[aK.put_eq] at c;obtain rfl:=bC c;have hP:=aE h.box;refine⟨ho,by omega,λe=>?_,λe=>?_,λy f e=>?_⟩
  ·have:=(World.ownsRow.lt h.lnr k e).2;omega
  ·have:=(World.ownsRow.lt h.nod.row k e).2;omega
  ·have:=(World.ownsRow.lt (h.nod.kids y f) k e).2;omega
 ·rw[aK.put_ne _ _ hkX] at c;exact b.fr k o' c
theorem YK.frLt (h:YK T Pr w0 P txt sp lines z tot a er sv lv nv w) {k:Nat}{o:Obj} (hk:Pr k=some o):k<w.heap.size:=aE (h.fr k o hk).1
theorem YK.less {Pr':aK} (h:YK T Pr w0 P txt sp lines z tot a er sv lv nv w) (hp: ∀k o,Pr' k=some o->Pr k=some o):YK T Pr' w0 P txt sp lines z tot a er sv lv nv w:=
 ⟨h.box,h.spr,h.lnr,h.nod,h.hB,h.ty,h.bel,λk o b=>h.fr k o (hp k o b)⟩
theorem aK.put_less {N X:Nat}{o:Obj} (hp: ∀k o',Pr k=some o'->k<N) (hX:N<=X): ∀k o',Pr k=some o'->Pr.put X o k=some o':=λk o' b=>by
 have:=hp k o' b;rw[aK.put_ne _ _ (by omega)];exact b
theorem YK.boxed (h:YK T Pr w0 P txt sp lines z tot a er sv lv nv w) (i:Nat) (u:Value) {tot':Nat}{a' er':Int} (hu:([.string (bs txt),sv,lv,nv, .int .i64 (tot:Int), .int .i64 a, .int .i64 er]:List Value).set i u= [.string (bs txt),sv,lv,nv, .int .i64 (tot':Int), .int .i64 a', .int .i64 er']):
  YK T Pr w0 P txt sp lines z tot' a' er' sv lv nv (w.setCell ⟨P,i,none⟩ u):=by
 have c:=h.box;have g:=iB w P i u;have b: ∀ {e:TypeId}{s n:Nat}{v:Value}{xs:List Value},w.ownsRow w0.heap.size e s v n xs->e≠T->(w.setCell ⟨P,i,none⟩ u).ownsRow w0.heap.size e s v n xs:=λf j=>f.kept g (dM f c j);obtain⟨t1,t2,t3,t4⟩:=h.ty;refine⟨?_,b h.spr (Ne.symm t1),b h.lnr (Ne.symm t2),h.nod.other c (Ne.symm t3) (Ne.symm t4) g,h.hB,h.ty,h.bel.setCell (p:=⟨P,i,none⟩) h.hB u,λk o l=>?_⟩
 ·simp[World.setCell,Array.getElem?_modify,c,hu]
 ·obtain⟨f1,f2,f3⟩:=h.fr k o l;exact⟨by rw[eQ w ⟨P,i,none⟩ u k f2];exact f1,f2,f3⟩
theorem YK.fail (h:YK T Pr w0 P txt sp lines z tot a er sv lv nv w) (a2 e2:Int):YK T Pr w0 P txt sp lines z tot a2 e2 sv lv nv ((w.setCell ⟨P,5,none⟩ (.int .i64 a2)).setCell ⟨P,6,none⟩ (.int .i64 e2)):=
 (h.boxed 5 (.int .i64 a2) (tot':=tot) (a':=a2) (er':=er) rfl).boxed 6 (.int .i64 e2) rfl
theorem YK.count (h:YK T Pr w0 P txt sp lines z tot a er sv lv nv w) (t2:Nat):YK T Pr w0 P txt sp lines z t2 a er sv lv nv (w.setCell ⟨P,4,none⟩ (.int .i64 (t2:Int))):=
 h.boxed 4 (.int .i64 (t2:Int)) rfl
theorem YK.box_grown (h:YK T Pr w0 P txt sp lines z tot a er sv lv nv w) {B2 s n:Nat}{e:TypeId}{v:Value}{xs:List Value} (hr:w.ownsRow B2 e s v n xs) (he:e≠T) (hg:w.grownBy w1 v.ownBlock):w1.heap[P]?=some (.cells #[.string (bs txt),sv,lv,nv, .int .i64 (tot:Int), .int .i64 a, .int .i64 er] T (0,0)):=by
 rw[hg.block P h.lt (λe2=>by
  rcases dM hr h.box he with b | b
  ·rw[b] at e2;cases e2
  ·exact b e2.symm)]
 exact h.box
theorem Gs {v v':Value}{H N k:Nat} (hat:v'.ownBlock=v.ownBlock\/v'.ownBlock=some H) (hH:N<=H) (hk:k<N) (hv:v.ownBlock≠some k):v'.ownBlock≠some k:=by
 rcases hat with e | e
 ·rw[e];exact hv
 ·rw[e];intro e2;have:=bC e2;omega
theorem rR {k:Nat}{o:Obj}{r:Option Nat} (hg:w.grownBy w1 r) (hk:w.heap[k]?=some o) (hr:r≠some k):w1.heap[k]?=some o:=by
 rw[hg.block k (aE hk) (λe=>hr e.symm)];exact hk
theorem YK.line (h:YK T Pr w0 P txt sp lines z tot a er sv lv nv w) {lv':Value}{r:aO}{H:Nat} (hH:w.heap.size<=H) (hr:w1.ownsRow w0.heap.size 143 10 lv' (lines.length+1) (kE lines++uM r)) (hg:w.grownBy w1 lv.ownBlock) (hat:lv'.ownBlock=lv.ownBlock\/lv'.ownBlock=some H):
  YK T Pr w0 P txt sp (lines++ [r]) z tot a er sv lv' nv (w1.setCell ⟨P,2,none⟩ lv'):=by
 obtain⟨t1,t2,t3,t4⟩:=h.ty;have c:=h.box_grown h.lnr (Ne.symm t2) hg;have b:=iB w1 P 2 lv';have e:kE (lines++ [r])=kE lines++uM r:=by unfold kE;simp
 have f:=h.nod.grow h.lnr (by decide) (by decide) hg;refine⟨?_,?_,?_,f.other c (Ne.symm t3) (Ne.symm t4) b,h.hB,h.ty,?_,λk o g=>?_⟩
 ·simp[World.setCell,Array.getElem?_modify,c]
 ·have i:=h.spr.kept hg (jA h.spr h.lnr (by decide));exact i.kept b (dM i c (Ne.symm t1))
 ·rw[e,aI];exact hr.kept b (dM hr c (Ne.symm t2))
 ·exact(h.bel.grown hg h.bel.size (λk g=>(World.ownsRow.lt h.lnr k g).1)).setCell (p:=⟨P,2,none⟩) h.hB lv'
 ·obtain⟨f1,f2,f3,f4,f5⟩:=h.fr k o g;refine⟨?_,f2,Gs hat hH (aE f1) f3,f4,f5⟩;rw[eQ w1 ⟨P,2,none⟩ lv' k f2];exact rR hg f1 f3
theorem YK.node (h:YK T Pr w0 P txt sp lines z tot a er sv lv nv w) {nv':Value}{x:aM} (hx:x.kids= []) {H:Nat} (hH:w.heap.size<=H) (hr:w1.ownsRow w0.heap.size 100 9 nv' (z.length+1) (jH z++kR (x, .slice none 0 0))) (hg:w.grownBy w1 nv.ownBlock) (hat:nv'.ownBlock=nv.ownBlock\/nv'.ownBlock=some H):
  YK T Pr w0 P txt sp lines (z++ [(x, .slice none 0 0)]) tot a er sv lv nv' (w1.setCell ⟨P,3,none⟩ nv'):=by
 obtain⟨t1,t2,t3,t4⟩:=h.ty;have g:=h.box_grown h.nod.row (Ne.symm t3) hg;have b:=iB w1 P 3 nv';have i:=h.nod.push hx hr hg;refine⟨?_,?_,?_,i.other g (Ne.symm t3) (Ne.symm t4) b,h.hB,h.ty,?_,λk o j=>?_⟩
 ·simp[World.setCell,Array.getElem?_modify,g]
 ·have c:=h.spr.kept hg (jA h.spr h.nod.row (by decide));exact c.kept b (dM c g (Ne.symm t1))
 ·have c:=h.lnr.kept hg (jA h.lnr h.nod.row (by decide));exact c.kept b (dM c g (Ne.symm t2))
 ·exact(h.bel.grown hg h.bel.size (λk j=>(World.ownsRow.lt h.nod.row k j).1)).setCell (p:=⟨P,3,none⟩) h.hB nv'
 ·obtain⟨f1,f2,f3,f4,f5⟩:=h.fr k o j;refine⟨?_,f2,f3,Gs hat hH (aE f1) f4,λy f=>?_⟩
  ·rw[eQ w1 ⟨P,3,none⟩ nv' k f2];exact rR hg f1 f4
  ·rcases mZ.1 f with f | f
   ·exact f5 y f
   ·rw[jX.1 f];exact λe=>by cases e
theorem YK.kid {g cap:Nat} (h:YK T Pr w0 P txt sp lines z tot a er sv lv (.slice (some ⟨g,0,none⟩) z.length cap) w) {n k:Nat}{y:YN} (hy:z[n]?=some y) {kv:Value}{H:Nat} (hH:w.heap.size<=H)
  (hr:w1.ownsRow w0.heap.size 3 1 kv (y.1.kids.length+1) (eO y.1.kids++ [.int .i64 (k:Int)])) (hg:w.grownBy w1 y.2.ownBlock) (hat:kv.ownBlock=y.2.ownBlock\/kv.ownBlock=some H):
  YK T Pr w0 P txt sp lines (z.set n ({ y.1 with kids:=y.1.kids++ [k] },kv)) tot a er sv lv (.slice (some ⟨g,0,none⟩) (z.set n ({ y.1 with kids:=y.1.kids++ [k] },kv)).length cap) (w1.setCell ⟨g,n*9+8,none⟩ kv):=by
 obtain⟨t1,t2,t3,t4⟩:=h.ty;have f:=h.nod.kids y (bA hy);have t:=h.box_grown f (Ne.symm t4) hg;obtain⟨g',cap',cur,e,_,l,c⟩:=h.nod.form (λe=>by rw[e] at hy;simp at hy);have r:g=g':=by injection e with e;injection e with e;injection e
 subst r;have b:w1.heap[g]?=some (.cells cur 100 (0,0)):=rR hg c (λe=>by
  rcases dM f c (by decide) with i | i
  ·rw[i] at e;cases e
  ·exact i e)
 have j:=iB w1 g (n*9+8) kv;have q:P≠g:=λe=>by
  subst e;rw[t] at b;injection b with b;injection b with _ b;exact t3 b
 refine⟨?_,?_,?_,h.nod.kid hy hH hr hg hat,h.hB,h.ty,?_,λk o s=>?_⟩
 ·rw[eQ w1 ⟨g,n*9+8,none⟩ kv P q,List.length_set];exact t
 ·have i:=h.spr.kept hg (jA h.spr f (by decide));exact i.kept j (dM i b (by decide))
 ·have i:=h.lnr.kept hg (jA h.lnr f (by decide));exact i.kept j (dM i b (by decide))
 ·exact(h.bel.grown hg h.bel.size (λk s=>(World.ownsRow.lt f k s).1)).setCell (p:=⟨g,n*9+8,none⟩) l kv
 ·obtain⟨f1,f2,f3,f4,f5⟩:=h.fr k o s;have fy:=f5 y (bA hy);refine⟨?_,f2,f3,f4,λx m=>?_⟩
  ·rw[eQ w1 ⟨g,n*9+8,none⟩ kv k (λe=>f4 (by rw[e];rfl))];exact rR hg f1 fy
  ·rcases List.mem_or_eq_of_mem_set m with m | rfl
   ·exact f5 x m
   ·exact Gs hat hH (aE f1) fy
theorem YK.til {g cap:Nat} (h:YK T Pr w0 P txt sp lines z tot a er sv lv (.slice (some ⟨g,0,none⟩) z.length cap) w) {n:Nat}{y:YN} (hy:z[n]?=some y) (e:Nat):
  YK T Pr w0 P txt sp lines (z.set n ({ y.1 with til:=e },y.2)) tot a er sv lv (.slice (some ⟨g,0,none⟩) (z.set n ({ y.1 with til:=e },y.2)).length cap) (w.setCell ⟨g,n*9+3,none⟩ (.int .i64 (e:Int))):=by
 obtain⟨t1,t2,t3,t4⟩:=h.ty;obtain⟨g',cap',cur,e',_,f,b⟩:=h.nod.form (λe=>by rw[e] at hy;simp at hy);have l:g=g':=by injection e' with e;injection e with e;injection e
 subst l;have c:=iB w g (n*9+3) (.int .i64 (e:Int));have j:P≠g:=λe=>by
  have m:=h.box;subst e;rw[m] at b;injection b with b;injection b with _ b;exact t3 b
 refine⟨?_,h.spr.kept c (dM h.spr b (by decide)),h.lnr.kept c (dM h.lnr b (by decide)),h.nod.field hy 3 (by omega) _ rfl rfl rfl,h.hB,h.ty,h.bel.setCell (p:=⟨g,n*9+3,none⟩) f _,λk o q=>?_⟩
 ·rw[eQ w ⟨g,n*9+3,none⟩ _ P j,List.length_set];exact h.box
 ·obtain⟨f1,f2,f3,f4,f5⟩:=h.fr k o q;refine⟨?_,f2,f3,f4,λx i=>?_⟩
  ·rw[eQ w ⟨g,n*9+3,none⟩ _ k (λe=>f4 (by rw[e];rfl))];exact f1
  ·rcases List.mem_or_eq_of_mem_set i with i | rfl
   ·exact f5 x i
   ·exact f5 y (bA hy)
theorem YK.lineAt (h:YK T Pr w0 P txt sp lines z tot a er sv lv nv w) {k:Nat}{r:aO} (hr:lines[k]?=some r): ∃g cap,lv= .slice (some ⟨g,0,none⟩) lines.length cap/\lines.length<=cap/\ ∀i u,i<10->(uM r)[i]?=some u->w.cell? ⟨g,k*10+i,none⟩=some u:=by
 have hl:=(aP.1 hr).1;rcases h.lnr.2 with⟨_,c⟩ | ⟨g,cap,cur,c,h2,h3,e,_⟩
 ·omega
 ·refine⟨g,cap,c,e,λi u f j=>?_⟩;have b:=h.lnr;rw[c] at b;rw[World.ownsRow.cellAt b _ (by omega),kE,uL _ 10 Qv lines k r hr i f,j]
theorem YK.lnSlice (h:YK T Pr w0 P txt sp lines z tot a er sv lv nv w): ∃p cap,lv= .slice p lines.length cap:=by
 rcases h.lnr.2 with⟨c,b⟩ | ⟨g,cap,cur,b,h2,h3,h4,_⟩
 ·exact⟨none,0,by rw[c,b]⟩
 ·exact⟨_,cap,b⟩
theorem Gt (p:Nat×Nat):([.int .i64 (p.1:Int), .int .i64 (p.2:Int)]:List Value).length=2:=rfl
theorem YK.spanAt (h:YK T Pr w0 P txt sp lines z tot a er sv lv nv w) {k:Nat}{r:Nat×Nat} (hr:sp[k]?=some r): ∃g cap,sv= .slice (some ⟨g,0,none⟩) sp.length cap/\sp.length<=cap/\w.cell? ⟨g,k*2,none⟩=some (.int .i64 (r.1:Int))/\w.cell? ⟨g,k*2+1,none⟩=some (.int .i64 (r.2:Int)):=by
 have hl:=(aP.1 hr).1;rcases h.spr.2 with⟨_,c⟩ | ⟨g,cap,cur,c,h2,h3,e,_⟩
 ·omega
 ·have b:=h.spr;rw[c] at b;have key:=uL (λp:Nat×Nat=>([.int .i64 (p.1:Int), .int .i64 (p.2:Int)]:List Value)) 2 Gt sp k r hr;refine⟨g,cap,c,e,?_,?_⟩
  ·have:=key 0 (by omega);rw[Nat.add_zero] at this;rw[World.ownsRow.cellAt b _ (by omega)];exact this
  ·rw[World.ownsRow.cellAt b _ (by omega)];exact key 1 (by omega)
theorem YK.spSlice (h:YK T Pr w0 P txt sp lines z tot a er sv lv nv w): ∃p cap,sv= .slice p sp.length cap:=by
 rcases h.spr.2 with⟨c,b⟩ | ⟨g,cap,cur,b,h2,h3,h4,_⟩
 ·exact⟨none,0,by rw[c,b]⟩
 ·exact⟨_,cap,b⟩
end
def YJ (T:TypeId) (Pr:aK) (w0:World) (P:Nat) (txt:aA) (sp:List (Nat×Nat)) (st:YS) (a er:Int) (w:World):Prop:= ∃z sv lv nv,z.map (·.1)=st.nodes/\YK T Pr w0 P txt sp st.lines z st.total a er sv lv nv w
def gI (T:TypeId) (Pr:aK) (w0:World) (P:Nat) (txt:aA) (sp:List (Nat×Nat)) (a er:Int) (w:World):Prop:= ∃st,YJ T Pr w0 P txt sp st a er w
def Bw (T:TypeId) (Pr:aK) (w0:World) (P:Nat) (txt:aA) (sp:List (Nat×Nat)) (st:YS) (R:NX) (e:Ending) (w':World):Prop:=match R with
 | .ok k ls=>e= .returned (.tuple #[.int .i64 (k:Int), .bool true])/\YJ T Pr w0 P txt sp ⟨ls,st.nodes,st.total⟩ 0 0 w'
 | .bad a er=>(∃m:Int,e= .returned (.tuple #[.int .i64 m, .bool false]))/\gI T Pr w0 P txt sp a er w'
def iW (T:TypeId) (Pr:aK) (w0:World) (P:Nat) (txt:aA) (sp:List (Nat×Nat)) (R:YR) (e:Ending) (w':World):Prop:=match R with
 | .ok n st=>e= .returned (.tuple #[.int .i64 (n:Int), .bool true])/\YJ T Pr w0 P txt sp st 0 0 w'
 | .bad a er=>(∃m:Int,e= .returned (.tuple #[.int .i64 m, .bool false]))/\gI T Pr w0 P txt sp a er w'
section
variable {T:TypeId}{Pr Pr':aK}{w0 w w':World}{P:Nat}{txt:aA}{sp:List (Nat×Nat)}{st:YS}{a er:Int}
theorem YJ.keep (h:YJ T Pr w0 P txt sp st a er w) (hb:Below w.heap.size w w'):YJ T Pr w0 P txt sp st a er w':=by
 obtain⟨z,sv,lv,nv,b,c⟩:=h;exact⟨z,sv,lv,nv,b,c.keep hb⟩
theorem YJ.put (h:YJ T Pr w0 P txt sp st a er w) (hb:Below w.heap.size w w') {X:Nat}{o:Obj} (hX:w.heap.size<=X) (ho:w'.heap[X]?=some o):YJ T (Pr.put X o) w0 P txt sp st a er w':=by
 obtain⟨z,sv,lv,nv,b,c⟩:=h;exact⟨z,sv,lv,nv,b,c.put hb hX ho⟩
theorem YJ.less (h:YJ T Pr w0 P txt sp st a er w) (hp: ∀k o,Pr' k=some o->Pr k=some o):YJ T Pr' w0 P txt sp st a er w:=by
 obtain⟨z,sv,lv,nv,b,c⟩:=h;exact⟨z,sv,lv,nv,b,c.less hp⟩
theorem YJ.bel (h:YJ T Pr w0 P txt sp st a er w):Below w0.heap.size w0 w:=by
 obtain⟨z,sv,lv,nv,h1,b⟩:=h;exact b.bel
theorem YJ.at_ (h:YJ T Pr w0 P txt sp st a er w) {k:Nat}{o:Obj} (hk:Pr k=some o):w.heap[k]?=some o:=by
 obtain⟨z,sv,lv,nv,h1,b⟩:=h;exact(b.fr k o hk).1
theorem YJ.frLt (h:YJ T Pr w0 P txt sp st a er w): ∀k o,Pr k=some o->k<w.heap.size:=by
 obtain⟨z,sv,lv,nv,h1,b⟩:=h;exact λk o c=>b.frLt c
theorem YJ.lt (h:YJ T Pr w0 P txt sp st a er w):P<w.heap.size:=by
 obtain⟨z,sv,lv,nv,h1,b⟩:=h;exact b.lt
theorem YJ.fail (h:YJ T Pr w0 P txt sp st a er w) (a2 e2:Int):YJ T Pr w0 P txt sp st a2 e2 ((w.setCell ⟨P,5,none⟩ (.int .i64 a2)).setCell ⟨P,6,none⟩ (.int .i64 e2)):=by
 obtain⟨z,sv,lv,nv,b,c⟩:=h;exact⟨z,sv,lv,nv,b,c.fail a2 e2⟩
theorem YJ.bad (h:YJ T Pr w0 P txt sp st a er w):gI T Pr w0 P txt sp a er w:=⟨st,h⟩
theorem gI.keep (h:gI T Pr w0 P txt sp a er w) (hb:Below w.heap.size w w'):gI T Pr w0 P txt sp a er w':=by
 obtain⟨st,h⟩:=h;exact⟨st,h.keep hb⟩
theorem gI.less (h:gI T Pr w0 P txt sp a er w) (hp: ∀k o,Pr' k=some o->Pr k=some o):gI T Pr' w0 P txt sp a er w:=by
 obtain⟨st,h⟩:=h;exact⟨st,h.less hp⟩
theorem iW.less {R:YR}{e:Ending} (h:iW T Pr w0 P txt sp R e w) (hp: ∀k o,Pr' k=some o->Pr k=some o):iW T Pr' w0 P txt sp R e w:=by
 cases R with
 | ok n st=>exact⟨h.1,h.2.less hp⟩
 | bad a er=>exact⟨h.1,h.2.less hp⟩
end
abbrev YP:TypeId:=74
section
variable {Pr:aK}{w0:World}{P:Nat}{txt:aA}{sp:List (Nat×Nat)}{st:YS}{a0 e0:Int}
theorem Qw (r:aO) (w:World):Calls Tryz.prog 108 #[gG r] w λe w'=>e= .returned (.bool (iV r))/\Below w.heap.size w w':=by
 have b:=hid (aH w (.cells #[.int .i64 r.kind, .int .i64 r.sf, .int .i64 r.st, .int .i64 r.ind, .int .i64 r.kf, .int .i64 r.kt, .int .i64 r.rf, .int .i64 r.rt, .int .i64 r.nf, .int .i64 r.nt] 143));unfold gG iV;by_cases h3:3<=r.kind
 ·have d3:decide (3<=r.kind)=true:=aN h3;go_enter Tryz.func108,Tryz.ntmps108;go_wp2_with fail;go_ret;exact⟨by simp[h3],b.out⟩
 ·have d3:decide (3<=r.kind)=false:=aJ h3;go_enter Tryz.func108,Tryz.ntmps108;go_wp2_with fail;go_ret;exact⟨by simp[h3],b.out⟩
theorem qR (a er:Int) (w:World) (h:YJ YP Pr w0 P txt sp st a0 e0 w):
  Calls Tryz.prog 67 #[.pointer (some ⟨P,0,none⟩), .int .i64 a, .int .i64 er] w λe w'=>e= .returned (.bool false)/\YJ YP Pr w0 P txt sp st a er w':=by
 have c:=hid (h.fail a er);obtain⟨z,sv,lv,nv,_,b⟩:=h;obtain⟨⟨c0,c1,c2,c3,c4,c5,c6⟩,f2,f3,f4,f5,f6⟩:=b.cells;clear b;go_enter Tryz.func67,Tryz.ntmps67;go_wp2_with fail;go_ret;exact⟨rfl,c.out⟩
theorem wI (k:Nat) (w:World) (h:YJ YP Pr w0 P txt sp st a0 e0 w):
  Calls Tryz.prog 65 #[.pointer (some ⟨P,0,none⟩), .int .i64 (k:Int)] w λe w'=>e= .returned (.bool (decide (k<sp.length)))/\Below w.heap.size w w':=by
 have c:=hid (aB w.heap.size w);obtain⟨z,sv,lv,nv,_,b⟩:=h;obtain⟨⟨c0,c1,c2,c3,c4,c5,c6⟩,f2,f3,f4,f5,f6⟩:=b.cells;obtain⟨p,cap,rfl⟩:=b.spSlice;clear b;go_enter Tryz.func65,Tryz.ntmps65;go_wp2_with fail;go_ret;exact⟨by simp,c.out⟩
theorem By (x y:Int) (w:World) (h:YJ YP Pr w0 P txt sp st a0 e0 w) (h0:0<=x) (h1:x<=y) (h2:y<=(txt.length:Int)) (hs:txt.length<=1073741824):
  Calls Tryz.prog 140 #[.pointer (some ⟨P,0,none⟩), .agg #[.int .i64 x, .int .i64 y]] w λe w'=>e= .returned (.string (bs (fD txt x y)))/\Below w.heap.size w w':=by
 have sl:=aQ txt;obtain⟨x,rfl⟩: ∃k:Nat,x=k:=⟨x.toNat,by omega⟩;obtain⟨y,rfl⟩: ∃k:Nat,y=k:=⟨y.toNat,by omega⟩;have hex:(bs txt).extract x y=bs (fD txt x y):=by
  rw[mT,aW];rfl
 have b0:=aH w (.cells #[.int .i64 (x:Int), .int .i64 (y:Int)] 76);have i:=hid b0;have b:=heap_alloc_new w (.cells #[.int .i64 (x:Int), .int .i64 (y:Int)] 76);obtain⟨K,f⟩:=exQ<|w.heap.size;obtain⟨W1,c⟩:=exQ<|w.alloc (.cells #[.int .i64 (x:Int), .int .i64 (y:Int)] 76);rw[c] at b0 b i;have j:=h.keep b0;rw[f] at b;obtain⟨x0,x1⟩:=sJ b;obtain⟨z,sv,lv,nv,_,g⟩:=j;obtain⟨⟨c0,c1,c2,c3,c4,c5,c6⟩,f2,f3,f4,f5,f6⟩:=g.cells;have hPl:=g.lt;clear g h b0;have hKl:=aE b;clear b;go_enter Tryz.func140,Tryz.ntmps140;go_upto_region 1 with fail;clear c f;go_wp2_with fail;go_region;go_wp2_with fail;go_ret;exact⟨rfl,i.out.drew⟩
end
end
section
def Bz (ops:Array Oper):Bool:=(List.range ops.size).all λi=>match ops[i]? with
 | some o=>o.after.toList.all (λe=>!Region.binds .any e||decide (e.on<i))
 | none=>true
theorem Qx {ops:Array Oper} (h:Bz ops=true) {i:Nat}{o:Oper} (ho:ops[i]?=some o): ∀e∈o.after,Region.binds .any e=true->e.on<i:=by
 have c:=(dW.1 ho).1;have:=eH.1 h i (List.mem_range.2 c);rw[ho] at this;intro e b f;have:=eH.1 this e (Array.mem_toList_iff.2 b);rw[f,Bool.not_true,Bool.false_or] at this;exact of_decide_eq_true this
theorem aCM {ops:Array Oper} (h:Bz ops=true) {L:Array Bool} (hL:L.size=ops.size) (hr:Region.ready .any ops L= []): ∀i,i<ops.size->L.getD i false=true:=by
 intro i
 induction i using Nat.strongRecOn with
 | _ i ih=>
  intro j;obtain⟨o,b⟩: ∃o,ops[i]?=some o:=⟨_,Array.getElem?_eq_getElem j⟩;cases hc:L.getD i false with
  | true=>rfl
  | false=>
   have f:i∈Region.ready .any ops L:=mem_ready.2 ⟨by rw[aU,Array.getElem?_eq_getElem (by omega)] at hc ⊢;simpa using hc,o,b,λe c g=>ih _ (Qx h b e c g) (by have:=Qx h b e c g;omega)⟩;rw[hr] at f;cases f
theorem aCN {P:Program}{ops:Array Oper}{Q:Exit->Act->World->Prop}{id:Nat}{a0:Act}{w0:World} (hm:P.follows .mixedOrders=true) (K:List Nat) (n:Nat) (hn:a0.tmps.size=n) (hback:Bz ops=true) (hdst:vG ops K n=true)
  (F:(Nat->Bool)->(Nat->Value)->World->Prop) (h0:F (λ_=>false) (λk=>a0.tmps.getD k undef) w0.drew)
  (hs: ∀(d:Nat->Bool) (a:Act) (w:World) (i:Nat) (o:Oper),ops[i]?=some o->d i=false->(∀e∈o.after,Region.binds .any e=true->d e.on=true)->(∀k,k ∉ K->a.tmps.getD k undef=a0.tmps.getD k undef)->F d (λk=>a.tmps.getD k undef) w->
   ∀R:Act->World->Prop,(∀x w',F (bK d i) (dH (λk=>a.tmps.getD k undef) o.dst x) w'->R (a.put o.dst x) w')->if Region.wanted o (yielded ops a.tmps)=true then o.wp P a w R Q else R (a.put o.dst undef) w)
  (hd: ∀(v:Nat->Value) (w:World),F (λi=>decide (i<ops.size)) v w->Q .normal { a0 with tmps:=cV a0.tmps v K } w):(Code.region id ops true).wp P Q a0 w0:=by
 subst hn;refine Jv hm (λL a w=>(a.defers=a0.defers/\a.tmps.size=a0.tmps.size/\ ∀k,k ∉ K->a.tmps.getD k undef=a0.tmps.getD k undef)/\F (λi=>L.getD i false) (λk=>a.tmps.getD k undef) w) ⟨⟨rfl,rfl,λk _=>rfl⟩,?_⟩ ?_ ?_
 ·have:(λi=>(Array.replicate ops.size false).getD i false)=λ_=>false:=by
   funext i;rw[aU,Array.getElem?_replicate];split<;>rfl
  rw[this];exact h0
 ·intro L a w i o C q g b A R I;obtain⟨⟨s,f,l⟩,u⟩:=A;have p:i<L.size:=by rw[C];exact(dW.1 q).1
  refine hs (λi=>L.getD i false) a w i o q ?_ b l u R λx w' D=>I _ _ ⟨⟨?_,?_,λk y=>?_⟩,?_⟩
  ·rw[aU,Array.getElem?_eq_getElem p] at g ⊢;simpa using g
  ·unfold Act.put;cases o.dst<;>exact s
  ·unfold Act.put;cases o.dst
   ·exact f
   ·rw[Array.size_setIfInBounds];exact f
  ·rw[<-l k y];have E:=congrFun (Ae a o.dst x (λt r=>by rw[f];exact(vH hdst q t r).2)) k;have e: ∀t,o.dst=t->dH (λk=>a.tmps.getD k undef) t x k=a.tmps.getD k undef:=λt r=>by
    cases t with
    | none=>rfl
    | some t=>exact if_neg (λh=>y (by rw[h];exact(vH hdst q t r).1))
   exact E.trans (e _ rfl)
  ·rw[Jy L i p,Ae a o.dst x (λt r=>by rw[f];exact(vH hdst q t r).2)];exact D
 ·intro L a w C A H;obtain⟨⟨s,f,l⟩,u⟩:=A;have b:=aCM hback C H;have m:(λi=>L.getD i false)=λi=>decide (i<ops.size):=by
   funext i;by_cases g:i<ops.size
   ·rw[b i g,aN g]
   ·rw[aJ g,aU,Array.getElem?_eq_none (by omega)];rfl
  rw[m] at u;have:=hd _ w u;have G:a= { a0 with tmps:=cV a0.tmps (λk=>a.tmps.getD k undef) K }:=by
   cases a with
   | mk tmps defers=>
    simp only at s f l ⊢;rw[s];congr 1;refine Array.ext_getElem? λj=>?_;by_cases hj:j<a0.tmps.size
    ·rw[Dn _ _ j hj];have c:tmps[j]?=some (tmps.getD j undef):=by rw[aU,Array.getElem?_eq_getElem (by omega)];rfl
     split
     ·exact c
     ·rename_i y;rw[c,l j y,aU,Array.getElem?_eq_getElem hj];rfl
    ·rw[Array.getElem?_eq_none (by omega),Array.getElem?_eq_none (by rw[Ad];omega)]
  rw[G];exact this
end
section
open Go.RowKit
def gU (sl:List (Option Nat)) (i:Nat):Option Nat:=match sl[i]? with
 | some (some k)=>some k
 | _=>none
def uO (sl:List (Option Nat)):Bool:=(List.range sl.length).all λi=>(List.range sl.length).all λj=>i==j||gU sl i==none||gU sl i !=gU sl j
theorem Qy {sl:List (Option Nat)}{i k:Nat} (h:gU sl i=some k):i<sl.length:=by
 unfold gU at h;cases hs:sl[i]? with
 | none=>rw[hs] at h;cases h
 | some q=>exact(aP.1 hs).1
theorem aCO {sl:List (Option Nat)} (h:uO sl=true) {i j k:Nat} (hi:gU sl i=some k) (hj:gU sl j=some k):i=j:=by
 have b:=eH.1 (eH.1 h i (List.mem_range.2 (Qy hi))) j (List.mem_range.2 (Qy hj));rw[hi,hj] at b;simpa using b
def fT (sl:List (Option Nat)) (v:Nat->Value) (e:Nat):Value:=match gU sl e with
 | some k=>v k
 | none=>undef
def qT (eff:List Nat) (sl:List (Option Nat)) (fr:Nat) (v:Nat->Value):Nat->Value
 | 0=>undef
 | k+1=>match eff[k]? with
  | some e=>match gU sl e with
   | some _=>fT sl v e
   | none=>fT sl v fr
  | none=>undef
theorem yX (eff:List Nat) (sl:List (Option Nat)) (fr:Nat) (v:Nat->Value) (k:Nat):qT eff sl fr v (k+1)=match eff[k]? with
  | some e=>match gU sl e with
   | some _=>fT sl v e
   | none=>fT sl v fr
  | none=>undef:=rfl
theorem aCP {l:List Nat} (h:l.Nodup) {i j a:Nat} (hi:l[i]?=some a) (hj:l[j]?=some a):i=j:=by
 obtain⟨f,g⟩:=aP.1 hi;obtain⟨m,k⟩:=aP.1 hj;have n:=List.pairwise_iff_getElem.1 h;rcases Nat.lt_trichotomy i j with c | b | e
 ·exact absurd (g.trans k.symm) (n i j f m c)
 ·exact b
 ·exact absurd (k.trans g.symm) (n j i m f e)
theorem Gu {l:List Nat} (h:l≠ []):l.getLastD 0∈l:=by
 rw[List.getLastD_eq_getLast?,List.getLast?_eq_some_getLast h];exact List.getLast_mem h
structure eN (ops:Array Oper) (sl:List (Option Nat)) (eff:List Nat) (fr:Nat) (Fb:Value->World->Prop) (val:Nat->Value) (S:World->Prop) (Ph:Nat->Value->World->Prop) (d:Nat->Bool) (v:Nat->Value) (w':World):Prop where
 cl: ∀i,i<sl.length->i ∉ eff->i≠fr->d i=true->fT sl v i=val i
 clo:tL ops d
 st:d (eff.getLastD 0)=false->S w'
 fb:d (eff.getLastD 0)=false->d fr=true->Fb (fT sl v fr) w'
 ph: ∃k,k<=eff.length/\(∀j e,eff[j]?=some e->(d e=true↔j<k))/\Ph k (qT eff sl fr v k) w'
section
variable {ops:Array Oper}{sl:List (Option Nat)}{eff:List Nat}{fr:Nat}{Fb:Value->World->Prop}{val:Nat->Value}{S:World->Prop}{Ph:Nat->Value->World->Prop}{d:Nat->Bool}{v:Nat->Value}{w' w2:World}
theorem Ca {i k:Nat} (hk:gU sl i=some k) (x:Value):fT sl (dH v (some k) x) i=x:=by
 unfold fT;rw[hk];exact if_pos rfl
theorem oZ (hnd:uO sl=true) {i k:Nat} (hk:gU sl i=some k) (x:Value) {j:Nat} (hj:j≠i):fT sl (dH v (some k) x) j=fT sl v j:=by
 unfold fT;cases hs:gU sl j with
 | none=>rfl
 | some q=>
  exact if_neg (λe=>hj (aCO hnd hs (by rw[e];exact hk)))
theorem Qz {v v2:Nat->Value} (h: ∀e∈eff,fT sl v2 e=fT sl v e) (hf:fT sl v2 fr=fT sl v fr): ∀k,qT eff sl fr v2 k=qT eff sl fr v k
 | 0=>rfl
 | k+1=>by
  rw[yX,yX];cases he:eff[k]? with
  | none=>rfl
  | some e=>
   simp only[];cases hs:gU sl e with
   | none=>exact hf
   | some q=>exact h e (bA he)
theorem eN.pure (h:eN ops sl eff fr Fb val S Ph d v w') (hnd:uO sl=true) {i k:Nat}{o:Oper} (ho:ops[i]?=some o) (hall: ∀e∈o.after,Region.binds .any e=true->d e.on=true) (hk:gU sl i=some k) (hne:i ∉ eff) (hfr:i≠fr) (hel:eff≠ []) {x:Value} (hx:x=val i):eN ops sl eff fr Fb val S Ph (bK d i) (dH v (some k) x) w':=by
 have c: ∀e∈eff,fT sl (dH v (some k) x) e=fT sl v e:=λe f=>oZ hnd hk x (λe2=>hne (e2 ▸ f));have r: ∀e∈eff,bK d i e=d e:=λe f=>iA (λe2=>hne (e2 ▸ f));have b:bK d i (eff.getLastD 0)=d (eff.getLastD 0):=r _ (Gu hel);refine⟨λj s m n g=>?_,h.clo.step ho hall,λl=>h.st (by rw[<-b];exact l),λl p=>?_,?_⟩
 ·by_cases hji:j=i
  ·subst hji;rw[Ca hk];exact hx
  ·rw[oZ hnd hk x hji];rw[iA hji] at g;exact h.cl j s m n g
 ·rw[oZ hnd hk x (Ne.symm hfr)];rw[iA (Ne.symm hfr)] at p;exact h.fb (by rw[<-b];exact l) p
 ·obtain⟨q,u,y,t⟩:=h.ph;refine⟨q,u,λj e f=>?_,?_⟩
  ·rw[r e (bA f)];exact y j e f
  ·rw[Qz c (oZ hnd hk x (Ne.symm hfr))];exact t
theorem eN.free (h:eN ops sl eff fr Fb val S Ph d v w') (hnd:uO sl=true) {i k:Nat}{o:Oper} (ho:ops[i]?=some o) (hall: ∀e∈o.after,Region.binds .any e=true->d e.on=true) (hk:gU sl i=some k) (hne:i ∉ eff) (hfr:i=fr) (hel:eff≠ []) (hsl:eff.all (λe=>e==eff.getLastD 0||(gU sl e).isSome)=true) (hnl:eff.Nodup) (hdl:d (eff.getLastD 0)=false) {x:Value} (hS:S w'->S w2) (hP: ∀k c,Ph k c w'->Ph k c w2) (hx:Fb x w2):eN ops sl eff fr Fb val S Ph (bK d i) (dH v (some k) x) w2:=by
 subst hfr;have g: ∀e∈eff,fT sl (dH v (some k) x) e=fT sl v e:=λe b=>oZ hnd hk x (λe2=>hne (e2 ▸ b));have r: ∀e∈eff,bK d i e=d e:=λe b=>iA (λe2=>hne (e2 ▸ b));have hlast:bK d i (eff.getLastD 0)=d (eff.getLastD 0):=r _ (Gu hel);refine⟨λj s n l m=>?_,h.clo.step ho hall,λu=>hS (h.st hdl),λu hf=>by rw[Ca hk];exact hx,?_⟩
 ·rw[oZ hnd hk x l];rw[iA l] at m;exact h.cl j s n l m
 ·obtain⟨q,y,p,t⟩:=h.ph;refine⟨q,y,λj e b=>?_,?_⟩
  ·rw[r e (bA b)];exact p j e b
  ·have A:qT eff sl i (dH v (some k) x) q=qT eff sl i v q:=by
    cases q with
    | zero=>rfl
    | succ q=>
     rw[yX,yX];cases b:eff[q]? with
     | none=>rfl
     | some e=>
      simp only[];cases hs:gU sl e with
      | some z=>exact g e (bA b)
      | none=>
       have f:=eH.1 hsl e (bA b);rw[Bool.or_eq_true] at f;rcases f with f | f
       ·have f:e=eff.getLastD 0:=(by simpa using f);have:=(p q e b).2 (jY _);rw[f,hdl] at this;cases this
       ·rw[hs] at f;cases f
   rw[A];exact hP _ _ t
theorem eN.at_ (h:eN ops sl eff fr Fb val S Ph d v w') {j e:Nat} (he:eff[j]?=some e) (hi:d e=false) (hp: ∀j' e',j=j'+1->eff[j']?=some e'->d e'=true):Ph j (qT eff sl fr v j) w':=by
 obtain⟨q,hq,c,f⟩:=h.ph;have h4: ¬j<q:=λb=>by rw[(c j e he).2 b] at hi;cases hi
 obtain rfl:j=q:=by
  cases j with
  | zero=>omega
  | succ j'=>
   have hj':=(aP.1 he).1;have h5:=(c j' _ (bH (by omega))).1 (hp j' _ rfl (bH (by omega)));omega
 exact f
theorem eN.eff_ (h:eN ops sl eff fr Fb val S Ph d v w') (hnd:uO sl=true) (hne:eff.Nodup) {i j:Nat}{o:Oper} (ho:ops[i]?=some o) (hall: ∀e∈o.after,Region.binds .any e=true->d e.on=true) (he:eff[j]?=some i) (hi:d i=false) (hp: ∀j' e',j=j'+1->eff[j']?=some e'->d e'=true)
  {dst:Option Nat} (hk:gU sl i=dst) (hfr:i≠fr) {x:Value} (hF:i≠eff.getLastD 0-> ∀x,Fb x w'->Fb x w2) (hS:i≠eff.getLastD 0->S w2) (hP:Ph (j+1) (match dst with | some _=>x | none=>fT sl v fr) w2):eN ops sl eff fr Fb val S Ph (bK d i) (dH v dst x) w2:=by
 obtain⟨q,hq,u,h3⟩:=h.ph;have y:=(aP.1 he).1;obtain rfl:j=q:=by
  have h4: ¬j<q:=λt=>by rw[(u j i he).2 t] at hi;cases hi
  cases j with
  | zero=>omega
  | succ j'=>
   have h5:=(u j' _ (bH (by omega))).1 (hp j' _ rfl (bH (by omega)));omega
 have f: ∀m,m≠i->fT sl (dH v dst x) m=fT sl v m:=λm c=>by
  cases dst with
  | none=>rfl
  | some k=>exact oZ hnd hk x c
 have g: ∀(b:bK d i (eff.getLastD 0)=false),i≠eff.getLastD 0/\d (eff.getLastD 0)=false:=λb=>by
  have hne:i≠eff.getLastD 0:=λe=>by rw[<-e,Af] at b;cases b
  exact⟨hne,by rw[iA (Ne.symm hne)] at b;exact b⟩
 refine⟨λm c n s l=>?_,h.clo.step ho hall,λb=>?_,λb A=>?_,j+1,y,λm e c=>?_,?_⟩
 ·have p:m≠i:=λe=>n (e ▸ bA he);rw[f m p];rw[iA p] at l;exact h.cl m c n s l
 ·exact hS (g b).1
 ·rw[f fr (Ne.symm hfr)];rw[iA (Ne.symm hfr)] at A;exact hF (g b).1 _ (h.fb (g b).2 A)
 ·by_cases hmj:m=j
  ·subst hmj;rw[he] at c;injection c with c;subst c;rw[Af];exact⟨λ_=>jY _,λ_=>rfl⟩
  ·have r:e≠i:=λe2=>hmj (aCP hne (by rw[<-e2];exact c) he);rw[iA r,u m e c];omega
 ·rw[yX,he];simp only[hk];cases dst with
  | none=>exact hP
  | some k=>
   simp only[];rw[Ca hk];exact hP
theorem eN.fin (h:eN ops sl eff fr Fb val S Ph d v w') (hd: ∀e∈eff,d e=true):Ph eff.length (qT eff sl fr v eff.length) w':=by
 obtain⟨q,hq,b,c⟩:=h.ph;by_cases hlt:q<eff.length
 ·have:=(b q _ (bH hlt)).1 (hd _ (List.getElem_mem hlt));omega
 ·obtain rfl:q=eff.length:=by omega
  exact c
theorem eN.early (h:eN ops sl eff fr Fb val S Ph d v w') {f i:Nat} (hr:sG ops f (eff.getLastD 0) i=true) (hi:d i=false):S w':=by
 refine h.st ?_;cases hc:d (eff.getLastD 0) with
 | false=>rfl
 | true=>rw[h.clo.reach f _ _ hr hc] at hi;cases hi
end
section
variable {ops:Array Oper}{sl:List (Option Nat)}{eff:List Nat}{fr:Nat}{Fb:Value->World->Prop}{val:Nat->Value}{S:World->Prop}{Ph:Nat->Value->World->Prop}{d:Nat->Bool}{v:Nat->Value}{w' w2:World}
theorem Ra {j:Nat} (hp:j=0\/ ∃e',eff[j-1]?=some e'/\d e'=true): ∀j' e',j=j'+1->eff[j']?=some e'->d e'=true:=by
 rintro j' e' rfl e;rcases hp with h | ⟨e2,b,c⟩
 ·omega
 ·rw[Nat.add_sub_cancel,e] at b;injection b with b;rw[b];exact c
theorem eN.at2 (h:eN ops sl eff fr Fb val S Ph d v w') {j e:Nat} (he:eff[j]?=some e) (hi:d e=false) (hp:j=0\/ ∃e',eff[j-1]?=some e'/\d e'=true):Ph j (qT eff sl fr v j) w':=h.at_ he hi (Ra hp)
theorem eN.eff2 (h:eN ops sl eff fr Fb val S Ph d v w') (hnd:uO sl=true) (hne:eff.Nodup) {i:Nat} (j:Nat) {o:Oper} (ho:ops[i]?=some o) (hall: ∀e∈o.after,Region.binds .any e=true->d e.on=true) (he:eff[j]?=some i) (hi:d i=false) (hp:j=0\/ ∃e',eff[j-1]?=some e'/\d e'=true)
  {dst:Option Nat} (hk:gU sl i=dst) (hfr:i≠fr) {x:Value} (hF:i≠eff.getLastD 0-> ∀x,Fb x w'->Fb x w2) (hS:i≠eff.getLastD 0->S w2) (hP:Ph (j+1) (match dst with | some _=>x | none=>fT sl v fr) w2):eN ops sl eff fr Fb val S Ph (bK d i) (dH v dst x) w2:=h.eff_ hnd hne ho hall he hi (Ra hp) hk hfr hF hS hP
end
theorem eN.lastNot {ops:Array Oper}{sl:List (Option Nat)}{eff:List Nat}{fr:Nat}{Fb:Value->World->Prop}{val:Nat->Value}{S:World->Prop}{Ph:Nat->Value->World->Prop}{d:Nat->Bool}{v:Nat->Value}{w':World} (h:eN ops sl eff fr Fb val S Ph d v w') {f i:Nat} (hr:sG ops f (eff.getLastD 0) i=true) (hi:d i=false):d (eff.getLastD 0)=false:=by
 cases hc:d (eff.getLastD 0) with
 | false=>rfl
 | true=>rw[h.clo.reach f _ _ hr hc] at hi;cases hi
theorem eN.g {ops:Array Oper}{sl:List (Option Nat)}{eff:List Nat}{fr:Nat}{Fb:Value->World->Prop}{val:Nat->Value}{S:World->Prop}{Ph:Nat->Value->World->Prop}{d:Nat->Bool}{a:Array Value}{w':World} (h:eN ops sl eff fr Fb val S Ph d (λk=>a.getD k undef) w') (i k:Nat) (hs:gU sl i=some k) (hl:i<sl.length) (h1:i ∉ eff) (h2:i≠fr) (hd:d i=true):a[k]?.getD undef=val i:=by
 have:=h.cl i hl h1 h2 hd;unfold fT at this;rw[hs] at this;rw[<-aU];exact this
theorem nL {P:Program}{ops:Array Oper}{Q:Exit->Act->World->Prop}{id:Nat}{a0:Act}{w0:World} (hm:P.follows .mixedOrders=true) (sl:List (Option Nat)) (K:List Nat) (eff:List Nat) (fr:Nat) (Fb:Value->World->Prop) (n:Nat) (hn:a0.tmps.size=n) (hback:xB ops=true) (hdst:vG ops K n=true) (heff:eff.all (λe=>decide (e<ops.size))=true)
  (val:Nat->Value) (S:World->Prop) (Ph:Nat->Value->World->Prop) (h0:S w0.drew) (hP:Ph 0 undef w0.drew)
  (hs: ∀(d:Nat->Bool) (a:Act) (w:World) (i:Nat) (o:Oper),ops[i]?=some o->d i=false->(∀e∈o.after,Region.binds .any e=true->d e.on=true)->(∀k,k ∉ K->a.tmps.getD k undef=a0.tmps.getD k undef)->eN ops sl eff fr Fb val S Ph d (λk=>a.tmps.getD k undef) w->
   ∀R:Act->World->Prop,(∀x w',eN ops sl eff fr Fb val S Ph (bK d i) (dH (λk=>a.tmps.getD k undef) o.dst x) w'->R (a.put o.dst x) w')->o.wp P a w R Q)
  (hd: ∀(v:Nat->Value) (w:World),(∀i,i<sl.length->i<ops.size->i ∉ eff->i≠fr->fT sl v i=val i)->Ph eff.length (qT eff sl fr v eff.length) w->Q .normal { a0 with tmps:=cV a0.tmps v K } w):(Code.region id ops true).wp P Q a0 w0:=by
 refine Do hm K n hn hback hdst (λd v w'=>eN ops sl eff fr Fb val S Ph d v w') ?_ hs (λv w h=>hd v w (λi b c f g=>h.cl i b f g (aN c)) (h.fin (λe l=>?_)))
 ·exact⟨λ_ _ _ _ h=>Bool.noConfusion h,λ_ _ _ h=>Bool.noConfusion h,λ_=>h0,λ_ h=>Bool.noConfusion h,0,cH _,λj e _=>⟨λh=>Bool.noConfusion h,λh=>absurd h (tN _)⟩,hP⟩
 ·exact eH.1 heff e l
end
end Go.Proofs.YtjnooaljcgkfpaaGreatDoor
