import Derived.Test.YtaifnmjjpddikaaGreatDoorRf1
import Derived.Lib.AppendStr
import Derived.Lib.UnsafeStr
import Derived.Deep.AppendLies
import Derived.Laws.IdiomStrings
import Derived.Laws.BytesArg
import Derived.Laws.BitsAllLaws
import Derived.Deep.DeepCutAuto
import Derived.Test.YtaifnmjjpddikaaGreatDoorRf3
import Derived.Orders
import Derived.RegionTactic
namespace Go.Proofs.YtaifnmjjpddikaaGreatDoor
set_option linter.unusedVariables false
set_option linter.unusedSimpArgs false
section
open Go.RowKit
open Go.Lib hiding intOf
def rS (w:World):Prop:=w.cell? ⟨7,15,none⟩=some (.int .u8 4)
theorem rS.keep {w w':World} (h:rS w) (hb:Below w.heap.size w w'):rS w':=by
 unfold rS at h ⊢;rw[hb.cell (p:=⟨_,_,none⟩) (rK h),h]
theorem Rl {A B:World} (h:Below A.heap.size A B):A.grownBy B none:=⟨h.os,h.tape,h.output,h.size,λi hi _=>h.block i hi⟩
theorem jQ {B size:Nat}{e:TypeId}{A W:World}{v:Value}{n:Nat}{xs:List Value} (h:A.ownsRow B e size v n xs) (hb:Below A.heap.size A W):W.ownsRow B e size v n xs:=
 h.kept (Rl hb) (by cases h:v.ownBlock with
  | none=>exact .inl rfl
  | some k=>exact .inr (by simp))
theorem iC {w:World}{B1 B2:Nat}{e1 e2:TypeId}{s1 s2:Nat}{v1 v2:Value}{n1 n2:Nat}{x1 x2:List Value} (h1:w.ownsRow B1 e1 s1 v1 n1 x1) (h2:w.ownsRow B2 e2 s2 v2 n2 x2) (he:e1≠e2):v1.ownBlock=none\/v1.ownBlock≠v2.ownBlock:=by
 rcases h1.2 with⟨rfl,_⟩ | ⟨g,cap,cur,rfl,_,hg,_⟩
 ·exact .inl rfl
 ·right;rcases h2.2 with⟨rfl,_⟩ | ⟨g2,cap2,cur2,rfl,_,hg2,_⟩
  ·intro h;cases h
  ·intro h;have hgg:g=g2:=bD h;subst hgg;rw[hg] at hg2;injection hg2 with hg2;injection hg2 with _ hg2;exact he hg2
theorem cY {w:World}{B:Nat}{e t:TypeId}{s:Nat}{v:Value}{n:Nat}{xs:List Value}{X:Nat}{cs:Array Value}{fz:Nat×Nat} (h:w.ownsRow B e s v n xs) (hX:w.heap[X]?=some (.cells cs t fz)) (he:e≠t):v.ownBlock=none\/v.ownBlock≠some X:=by
 rcases h.2 with⟨rfl,_⟩ | ⟨g,cap,cur,rfl,_,hg,_⟩
 ·exact .inl rfl
 ·refine .inr λhh=>?_;have hgg:g=X:=bD hh;subst hgg;rw[hg] at hX;injection hX with hX;injection hX with _ hX;exact he hX
def cK (w:World) (P:Nat) (txt:List UInt8) (rv:Value) (l:Sp) (nv:Value) (a:Nat) (er:Int):Prop:=
 w.heap[P]?=some (.cells #[.string (bs txt),rv, .int .i64 l.1, .int .i64 l.2,nv, .int .i64 a, .int .i64 er] 75 (0,0))
abbrev Rm (w:World) (P:Nat) (txt:List UInt8) (rv:Value) (l:Sp) (nv:Value) (a:Nat) (er:Int):Prop:=
 w.cell? ⟨P,0,none⟩=some (.string (bs txt))/\w.cell? ⟨P,1,none⟩=some rv/\w.cell? ⟨P,2,none⟩=some (.int .i64 l.1)/\w.cell? ⟨P,3,none⟩=some (.int .i64 l.2)/\w.cell? ⟨P,4,none⟩=some nv/\
 w.cell? ⟨P,5,none⟩=some (.int .i64 a)/\w.cell? ⟨P,6,none⟩=some (.int .i64 er)/\
 w.frozen? ⟨P,1,none⟩=false/\w.frozen? ⟨P,2,none⟩=false/\w.frozen? ⟨P,3,none⟩=false/\w.frozen? ⟨P,4,none⟩=false/\w.frozen? ⟨P,5,none⟩=false/\w.frozen? ⟨P,6,none⟩=false
section
variable {w w':World}{P:Nat}{txt:List UInt8}{rv nv:Value}{l:Sp}{a:Nat}{er:Int}
theorem cK.cells (h:cK w P txt rv l nv a er):Rm w P txt rv l nv a er:=by
 unfold cK at h;refine⟨?_,?_,?_,?_,?_,?_,?_,?_,?_,?_,?_,?_,?_⟩<;>simp[World.cell?,World.frozen?,h]
theorem cK.lt (h:cK w P txt rv l nv a er):P<w.heap.size:=aF h
theorem cK.keep (h:cK w P txt rv l nv a er) (hb:Below w.heap.size w w'):cK w' P txt rv l nv a er:=(hb.block P h.lt).trans h
end
def TV (w:World) (v:Value) (ts:List aL):Prop:= ∃p c,v= .slice p ts.length c/\ts.length<=c/\(ts= []\/ ∃g o cur,p=some ⟨g,o,none⟩/\w.heap[g]?=some (.cells cur 77 (0,0))/\
 ∀(j:Nat) (t:aL),ts[j]?=some t->w.cell? ⟨g,o+j*3,none⟩=some (.int .i64 t.kind)/\w.cell? ⟨g,o+j*3+1,none⟩=some (.int .i64 t.sf)/\w.cell? ⟨g,o+j*3+2,none⟩=some (.int .i64 t.st))
theorem fX {w w':World}{g:Nat} (h:w'.heap[g]?=w.heap[g]?) (o:Nat):w'.cell? ⟨g,o,none⟩=w.cell? ⟨g,o,none⟩:=by
 unfold World.cell?;simp only[h]
theorem TV.same {w w':World}{v:Value}{ts:List aL} (h:TV w v ts) (hs: ∀(g:Nat) (cur:Array Value),w.heap[g]?=some (.cells cur 77 (0,0))->w'.heap[g]?=w.heap[g]?):TV w' v ts:=by
 obtain⟨p,c,h1,h2,h3⟩:=h;refine⟨p,c,h1,h2,?_⟩;rcases h3 with h3 | ⟨g,o,cur,h3,h4,h5⟩
 ·exact .inl h3
 ·have e:=hs g cur h4;refine .inr ⟨g,o,cur,h3,e.trans h4,λj t ht=>?_⟩;rw[fX e,fX e,fX e];exact h5 j t ht
theorem TV.keep {w w':World}{v:Value}{ts:List aL} (h:TV w v ts) (hb:Below w.heap.size w w'):TV w' v ts:=h.same (λg cur hg=>hb.block g (aF hg))
theorem TV.head {w:World}{v:Value}{t:aL}{r:List aL} (h:TV w v (t::r)): ∃g o c,v= .slice (some ⟨g,o,none⟩) (r.length+1) c/\r.length+1<=c/\w.cell? ⟨g,o,none⟩=some (.int .i64 t.kind)/\w.cell? ⟨g,o+1,none⟩=some (.int .i64 t.sf)/\w.cell? ⟨g,o+2,none⟩=some (.int .i64 t.st)/\
  TV w (.slice (if c=1 then some ⟨g,o,none⟩ else some ⟨g,o+3,none⟩) r.length (c-1)) r:=by
 obtain⟨p,c,h1,h2,h3⟩:=h;rcases h3 with h3 | ⟨g,o,cur,rfl,h4,h5⟩
 ·cases h3
 ·simp only[aT] at h1 h2;have h0:=h5 0 t rfl;rw[Nat.zero_mul,Nat.add_zero] at h0;refine⟨g,o,c,h1,h2,h0.1,h0.2.1,h0.2.2,_,_,rfl,by omega,?_⟩;cases r with
  | nil=>exact .inl rfl
  | cons u r=>
   refine .inr ⟨g,o+3,cur,if_neg (by simp only[aT] at h2;omega),h4,λj t ht=>?_⟩;have:=h5 (j+1) t (by simpa using ht);rw[show o+(j+1)*3=o+3+j*3 by omega] at this;exact this
theorem TV.empty {w:World}{v:Value} (h:TV w v []): ∃p c,v= .slice p 0 c:=by
 obtain⟨p,c,h1,_⟩:=h;exact⟨p,c,h1⟩
abbrev ND:=aD×Value×Value
def dV (l:List Nat):List Value:=l.map fun(k:Nat)=>Value.int .i64 (k:Int)
def lN (l:List Sp):List Value:=l.flatMap λs=> [.int .i64 (s.1:Int), .int .i64 (s.2:Int)]
def fN (y:ND):List Value:= [.int .i64 (y.1.kind:Int), .int .i64 (y.1.sf:Int), .int .i64 (y.1.st:Int), .int .i64 (y.1.key.1:Int), .int .i64 (y.1.key.2:Int),y.2.1,y.2.2]
def iW (z:List ND):List Value:=z.flatMap fN
theorem vE (y:ND) (z:List ND):iW (y::z)=fN y++iW z:=rfl
theorem vF: ∀(z:List ND) (j:Nat) (y:ND),z[j]?=some y-> ∀i,i<7->(iW z)[j*7+i]?=(fN y)[i]?
 | [],j,y,h,i,hi=>by simp at h
 | x::z,0,y,h,i,hi=>by
  obtain rfl:x=y:=by simpa using h
  rw[vE,Nat.zero_mul,Nat.zero_add,mE (by simpa [fN] using hi)]
 | x::z,j+1,y,h,i,hi=>by
  rw[cD] at h;have:=vF z j y h i hi;rw[vE,kX (by simp[fN];omega),<-this];congr 1;simp[fN];omega
theorem xL: ∀(z:List ND) (j:Nat) (y y':ND),z[j]?=some y-> ∀i u,i<7->(fN y).set i u=fN y'->(iW z).set (j*7+i) u=iW (z.set j y')
 | [],j,y,y',h,i,u,hi,hu=>by simp at h
 | x::z,0,y,y',h,i,u,hi,hu=>by
  obtain rfl:x=y:=by simpa using h
  rw[vE,Nat.zero_mul,Nat.zero_add,List.set_append_left _ _ (by simpa [fN] using hi),hu];rfl
 | x::z,j+1,y,y',h,i,u,hi,hu=>by
  rw[cD] at h;have:=xL z j y y' h i u hi hu;rw[vE,List.set_append_right _ _ (by simp[fN];omega),dF,vE,<-this];congr 2;simp[fN];omega
def qR (f:ND->Value) (z:List ND):Prop:= ∀(i j:Nat) (yi yj:ND),i≠j->z[i]?=some yi->z[j]?=some yj->(f yi).ownBlock=none\/(f yi).ownBlock≠(f yj).ownBlock
theorem qR.push {f:ND->Value}{z:List ND}{y:ND} (h:qR f z) (hy:(f y).ownBlock=none):qR f (z++ [y]):=by
 have key: ∀(j:Nat) (yj:ND),(z++ [y])[j]?=some yj->z[j]?=some yj\/(j=z.length/\yj=y):=by
  intro j yj hj;by_cases h2:j<z.length
  ·rw[mE h2] at hj;exact .inl hj
  ·have hl:=(aQ.1 hj).1;rw[aS,eD] at hl;rw[kX (by omega),show j-z.length=0 by omega] at hj;simp only[dA,cS] at hj;exact .inr ⟨by omega,hj.symm⟩
 intro i j yi yj hij hi hj;rcases key i yi hi with hi | ⟨hi,rfl⟩
 ·rcases key j yj hj with hj | ⟨hj,rfl⟩
  ·exact h i j yi yj hij hi hj
  ·by_cases hn:(f yi).ownBlock=none
   ·exact .inl hn
   ·exact .inr (by rw[hy];exact hn)
 ·exact .inl hy
theorem qR.set {f:ND->Value}{z:List ND}{n:Nat}{y y':ND} (h:qR f z) (hn:z[n]?=some y) (hb:(f y').ownBlock=(f y).ownBlock\/ ∀(j:Nat) (yj:ND),z[j]?=some yj->(f yj).ownBlock≠(f y').ownBlock):qR f (z.set n y'):=by
 intro i j yi yj hij hi hj;rw[List.getElem?_set] at hi hj;by_cases h1:n=i
 ·subst h1;rw[if_pos rfl,if_pos (aQ.1 hn).1] at hi;obtain rfl:=bD hi;rw[if_neg hij] at hj;rcases hb with hb | hb
  ·rw[hb];exact h n j y yj hij hn hj
  ·exact .inr (Ne.symm (hb j yj hj))
 ·rw[if_neg h1] at hi;by_cases h2:n=j
  ·subst h2;rw[if_pos rfl,if_pos (aQ.1 hn).1] at hj;obtain rfl:=bD hj;rcases hb with hb | hb
   ·rw[hb];exact h i n yi y hij hi hn
   ·exact .inr (hb i yi hi)
  ·rw[if_neg h2] at hj;exact h i j yi yj hij hi hj
structure cH (B:Nat) (z:List ND) (nv:Value) (w:World):Prop where
 row:w.ownsRow B 81 7 nv z.length (iW z)
 kids: ∀y∈z,w.ownsRow B 3 1 y.2.1 y.1.kids.length (dV y.1.kids)
 pcs: ∀y∈z,w.ownsRow B 59 2 y.2.2 y.1.pcs.length (lN y.1.pcs)
 ak:qR (λy=>y.2.1) z
 ap:qR (λy=>y.2.2) z
section
variable {B:Nat}{z:List ND}{nv:Value}{w w' w1:World}
theorem cH.keep (h:cH B z nv w) (hb:Below w.heap.size w w'):cH B z nv w':=
 ⟨jQ h.row hb,λy hy=>jQ (h.kids y hy) hb,λy hy=>jQ (h.pcs y hy) hb,h.ak,h.ap⟩
theorem cH.other (h:cH B z nv w) {X:Nat}{cs:Array Value}{t:TypeId}{fz:Nat×Nat} (hX:w.heap[X]?=some (.cells cs t fz)) (h1:81≠t) (h2:3≠t) (h3:59≠t) (hg:w.grownBy w' (some X)):cH B z nv w':=
 ⟨h.row.kept hg (cY h.row hX h1),λy hy=>(h.kids y hy).kept hg (cY (h.kids y hy) hX h2),λy hy=>(h.pcs y hy).kept hg (cY (h.pcs y hy) hX h3),h.ak,h.ap⟩
theorem cH.nil (B:Nat) (w:World):cH B [] (.slice none 0 0) w:=
 ⟨⟨rfl, .inl ⟨rfl,rfl⟩⟩,λy hy=>(by cases hy),λy hy=>(by cases hy),λi j yi yj _ h=>(by simp at h),λi j yi yj _ h=>(by simp at h)⟩
theorem cH.push (h:cH B z nv w) {nv':Value}{x:aD} (hk:x.kids= []) (hp:x.pcs= []) (hr:w'.ownsRow B 81 7 nv' (z.length+1) (iW z++fN (x, .slice none 0 0, .slice none 0 0))) (hg:w.grownBy w' nv.ownBlock):
  cH B (z++ [(x, .slice none 0 0, .slice none 0 0)]) nv' w':=by
 refine⟨?_,λy hy=>?_,λy hy=>?_,h.ak.push rfl,h.ap.push rfl⟩
 ·have e:iW (z++ [(x, .slice none 0 0, .slice none 0 0)])=iW z++fN (x, .slice none 0 0, .slice none 0 0):=by unfold iW;simp
  rw[e,aS];exact hr
 ·rcases pP.1 hy with hy | hy
  ·exact(h.kids y hy).kept hg (iC (h.kids y hy) h.row (by decide))
  ·rw[kH.1 hy];simp only[];rw[hk];exact⟨rfl, .inl ⟨rfl,rfl⟩⟩
 ·rcases pP.1 hy with hy | hy
  ·exact(h.pcs y hy).kept hg (iC (h.pcs y hy) h.row (by decide))
  ·rw[kH.1 hy];simp only[];rw[hp];exact⟨rfl, .inl ⟨rfl,rfl⟩⟩
theorem cH.form (h:cH B z nv w) (hz:z≠ []): ∃g cap cur,nv= .slice (some ⟨g,0,none⟩) z.length cap/\z.length<=cap/\B<=g/\w.heap[g]?=some (.cells cur 81 (0,0)):=by
 rcases h.row.2 with⟨_,h1⟩ | ⟨g,cap,cur,h1,h2,h3,h4,_⟩
 ·exact absurd (List.length_eq_zero_iff.1 h1) hz
 ·exact⟨g,cap,cur,h1,h4,h2,h3⟩
theorem cH.slice (h:cH B z nv w): ∃p cap,nv= .slice p z.length cap:=by
 rcases h.row.2 with⟨h0,h1⟩ | ⟨g,cap,cur,h1,h2,h3,h4,_⟩
 ·exact⟨none,0,by rw[h0,h1]⟩
 ·exact⟨_,cap,h1⟩
theorem cH.at_ {g cap:Nat} (h:cH B z (.slice (some ⟨g,0,none⟩) z.length cap) w) {n:Nat}{y:ND} (hy:z[n]?=some y) (i:Nat) (hi:i<7) {u:Value} (hu:(fN y)[i]?=some u):
  w.cell? ⟨g,n*7+i,none⟩=some u/\w.frozen? ⟨g,n*7+i,none⟩=false:=by
 have hn:=(aQ.1 hy).1;refine⟨?_,World.ownsRow.frozenAt h.row _⟩;rw[World.ownsRow.cellAt h.row _ (by omega),vF z n y hy i hi,hu]
theorem cH.field {g cap:Nat} (h:cH B z (.slice (some ⟨g,0,none⟩) z.length cap) w) {n:Nat}{y y':ND} (hy:z[n]?=some y) (i:Nat) (hi:i<7) (u:Value) (hu:(fN y).set i u=fN y') (hk:y'.1.kids=y.1.kids) (hp:y'.1.pcs=y.1.pcs) (h1:y'.2=y.2):
  cH B (z.set n y') (.slice (some ⟨g,0,none⟩) (z.set n y').length cap) (w.setCell ⟨g,n*7+i,none⟩ u):=by
 obtain⟨hr,hg⟩:=World.ownsRow.stored h.row (n*7+i) u;obtain⟨g',cap',cur,e,_,_,hcur⟩:=h.form (λe=>by rw[e] at hy;simp at hy);have hgg:g=g':=by injection e with e;injection e with e;injection e
 subst hgg;rw[xL z n y y' hy i u hi hu] at hr;have hmem: ∀x∈z.set n y',x=y'\/x∈z:=λx hx=>(List.mem_or_eq_of_mem_set hx).symm;refine⟨by rw[List.length_set];exact hr,λx hx=>?_,λx hx=>?_,?_,?_⟩
 ·rcases hmem x hx with rfl | hx
  ·rw[hk,h1];have hm:=h.kids y (aX hy);exact hm.kept hg (cY hm hcur (by decide))
  ·exact(h.kids x hx).kept hg (cY (h.kids x hx) hcur (by decide))
 ·rcases hmem x hx with rfl | hx
  ·rw[hp,h1];have hm:=h.pcs y (aX hy);exact hm.kept hg (cY hm hcur (by decide))
  ·exact(h.pcs x hx).kept hg (cY (h.pcs x hx) hcur (by decide))
 ·exact h.ak.set hy (.inl (by rw[h1]))
 ·exact h.ap.set hy (.inl (by rw[h1]))
theorem cH.kid {g cap:Nat} (h:cH B z (.slice (some ⟨g,0,none⟩) z.length cap) w) {n k:Nat}{y:ND} (hy:z[n]?=some y) {kv:Value}{H:Nat} (hH:w.heap.size<=H)
  (hr:w1.ownsRow B 3 1 kv (y.1.kids.length+1) (dV y.1.kids++ [.int .i64 (k:Int)])) (hg:w.grownBy w1 y.2.1.ownBlock) (hat:kv.ownBlock=y.2.1.ownBlock\/kv.ownBlock=some H):
  cH B (z.set n ({ y.1 with kids:=y.1.kids++ [k] },kv,y.2.2)) (.slice (some ⟨g,0,none⟩) (z.set n ({ y.1 with kids:=y.1.kids++ [k] },kv,y.2.2)).length cap) (w1.setCell ⟨g,n*7+5,none⟩ kv):=by
 have hkm:=h.kids y (aX hy);have hrow1:=h.row.kept hg (iC h.row hkm (by decide));obtain⟨hr2,hg2⟩:=World.ownsRow.stored hrow1 (n*7+5) kv;obtain⟨g',cap',cur,e,_,_,hcur0⟩:=h.form (λe=>by rw[e] at hy;simp at hy);have hgg:g=g':=by injection e with e;injection e with e;injection e
 subst hgg;have hcur:w1.heap[g]?=some (.cells cur 81 (0,0)):=by
  rw[hg.block g (aF hcur0) (λe=>by
   rcases cY hkm hcur0 (by decide) with h1 | h1
   ·rw[h1] at e;cases e
   ·exact h1 e.symm)]
  exact hcur0
 rw[xL z n y ({ y.1 with kids:=y.1.kids++ [k] },kv,y.2.2) hy 5 kv (by omega) rfl] at hr2;refine⟨by rw[List.length_set];exact hr2,λx hx=>?_,λx hx=>?_,?_,?_⟩
 ·obtain⟨j,hj⟩:=List.getElem?_of_mem hx;rw[List.getElem?_set] at hj;by_cases hnj:n=j
  ·subst hnj;rw[if_pos rfl,if_pos (aQ.1 hy).1] at hj;obtain rfl:=bD hj;have e:dV (y.1.kids++ [k])=dV y.1.kids++ [.int .i64 (k:Int)]:=by unfold dV;simp
   simp only[e,aS,eD];exact hr.kept hg2 (cY hr hcur (by decide))
  ·rw[if_neg hnj] at hj;have hm:=h.kids x (aX hj);have h1:=hm.kept hg (h.ak j n x y (Ne.symm hnj) hj hy);exact h1.kept hg2 (cY h1 hcur (by decide))
 ·have key: ∀x∈z,(w1.setCell ⟨g,n*7+5,none⟩ kv).ownsRow B 59 2 x.2.2 x.1.pcs.length (lN x.1.pcs):=λx hx=>by
   have hm:=h.pcs x hx;have h1:=hm.kept hg (iC hm hkm (by decide));exact h1.kept hg2 (cY h1 hcur (by decide))
  rcases List.mem_or_eq_of_mem_set hx with hx | rfl
  ·exact key x hx
  ·exact key y (aX hy)
 ·refine h.ak.set hy ?_;rcases hat with hat | hat
  ·exact .inl hat
  ·refine .inr (λj yj hj e=>?_);have hm:=h.kids yj (aX hj);simp only[] at e;rw[hat] at e;have:=(World.ownsRow.lt hm H e).2;omega
 ·exact h.ap.set hy (.inl rfl)
theorem cH.pc {g cap:Nat} (h:cH B z (.slice (some ⟨g,0,none⟩) z.length cap) w) {n:Nat}{k:Sp}{y:ND} (hy:z[n]?=some y) {kv:Value}{H:Nat} (hH:w.heap.size<=H)
  (hr:w1.ownsRow B 59 2 kv (y.1.pcs.length+1) (lN y.1.pcs++ [.int .i64 (k.1:Int), .int .i64 (k.2:Int)])) (hg:w.grownBy w1 y.2.2.ownBlock) (hat:kv.ownBlock=y.2.2.ownBlock\/kv.ownBlock=some H):
  cH B (z.set n ({ y.1 with pcs:=y.1.pcs++ [k] },y.2.1,kv)) (.slice (some ⟨g,0,none⟩) (z.set n ({ y.1 with pcs:=y.1.pcs++ [k] },y.2.1,kv)).length cap) (w1.setCell ⟨g,n*7+6,none⟩ kv):=by
 have hkm:=h.pcs y (aX hy);have hrow1:=h.row.kept hg (iC h.row hkm (by decide));obtain⟨hr2,hg2⟩:=World.ownsRow.stored hrow1 (n*7+6) kv;obtain⟨g',cap',cur,e,_,_,hcur0⟩:=h.form (λe=>by rw[e] at hy;simp at hy);have hgg:g=g':=by injection e with e;injection e with e;injection e
 subst hgg;have hcur:w1.heap[g]?=some (.cells cur 81 (0,0)):=by
  rw[hg.block g (aF hcur0) (λe=>by
   rcases cY hkm hcur0 (by decide) with h1 | h1
   ·rw[h1] at e;cases e
   ·exact h1 e.symm)]
  exact hcur0
 rw[xL z n y ({ y.1 with pcs:=y.1.pcs++ [k] },y.2.1,kv) hy 6 kv (by omega) rfl] at hr2;refine⟨by rw[List.length_set];exact hr2,λx hx=>?_,λx hx=>?_,?_,?_⟩
 ·have key: ∀x∈z,(w1.setCell ⟨g,n*7+6,none⟩ kv).ownsRow B 3 1 x.2.1 x.1.kids.length (dV x.1.kids):=λx hx=>by
   have hm:=h.kids x hx;have h1:=hm.kept hg (iC hm hkm (by decide));exact h1.kept hg2 (cY h1 hcur (by decide))
  rcases List.mem_or_eq_of_mem_set hx with hx | rfl
  ·exact key x hx
  ·exact key y (aX hy)
 ·obtain⟨j,hj⟩:=List.getElem?_of_mem hx;rw[List.getElem?_set] at hj;by_cases hnj:n=j
  ·subst hnj;rw[if_pos rfl,if_pos (aQ.1 hy).1] at hj;obtain rfl:=bD hj;have e:lN (y.1.pcs++ [k])=lN y.1.pcs++ [.int .i64 (k.1:Int), .int .i64 (k.2:Int)]:=by unfold lN;simp
   simp only[e,aS,eD];exact hr.kept hg2 (cY hr hcur (by decide))
  ·rw[if_neg hnj] at hj;have hm:=h.pcs x (aX hj);have h1:=hm.kept hg (h.ap j n x y (Ne.symm hnj) hj hy);exact h1.kept hg2 (cY h1 hcur (by decide))
 ·exact h.ak.set hy (.inl rfl)
 ·refine h.ap.set hy ?_;rcases hat with hat | hat
  ·exact .inl hat
  ·refine .inr (λj yj hj e=>?_);have hm:=h.pcs yj (aX hj);simp only[] at e;rw[hat] at e;have:=(World.ownsRow.lt hm H e).2;omega
end
def Ao (t:TypeId):Bool:=t==81||t==3||t==59
def xM (o:Obj):Prop:=match o with
 | .cells _ t _=>Ao t=false
 | _=>True
structure Fr (B P:Nat) (w w':World):Prop where
 bel:Below B w w'
 sz:w.heap.size<=w'.heap.size
 blk: ∀(k:Nat) (o:Obj),w.heap[k]?=some o->k≠P->xM o->w'.heap[k]?=some o
theorem Fr.trans {B P:Nat}{w w1 w2:World} (h1:Fr B P w w1) (h2:Fr B P w1 w2):Fr B P w w2:=
 ⟨h1.bel.trans h2.bel,aW h1.sz h2.sz,λk o hk hP hs=>h2.blk k o (h1.blk k o hk hP hs) hP hs⟩
theorem Fr.refl (B P:Nat) (w:World):Fr B P w w:=⟨aB _ _,aE _,λ_ _ h _ _=>h⟩
theorem Fr.of_below {B P:Nat}{w w':World} (h:Below w.heap.size w w') (hB:B<=w.heap.size):Fr B P w w':=
 ⟨h.mono hB,h.size,λk o hk _ _=>by rw[h.block k (aF hk)];exact hk⟩
theorem Fr.setP {B P i:Nat}{w:World}{u:Value} (hP:B<=P):Fr B P w (w.setCell ⟨P,i,none⟩ u):=
 ⟨(aB B w).setCell (p:=⟨P,i,none⟩) hP u,by simp[World.setCell],λk o hk hne _=>by rw[dC _ _ _ k hne];exact hk⟩
theorem Fr.setM {B P X i:Nat}{w:World}{u:Value}{cs:Array Value}{t:TypeId}{fz:Nat×Nat} (hX:w.heap[X]?=some (.cells cs t fz)) (ht:Ao t=true) (hB:B<=X):Fr B P w (w.setCell ⟨X,i,none⟩ u):=
 ⟨(aB B w).setCell (p:=⟨X,i,none⟩) hB u,by simp[World.setCell],λk o hk hne hs=>by rw[dC _ _ _ k (λe=>by subst e;rw[hk] at hX;obtain rfl:=bD hX;unfold xM at hs;simp only[] at hs;rw[ht] at hs;cases hs)];exact hk⟩
theorem Fr.grown {B P:Nat}{w w':World}{e:TypeId}{s:Nat}{v:Value}{n:Nat}{xs:List Value} (hr:w.ownsRow B e s v n xs) (ht:Ao e=true) (hg:w.grownBy w' v.ownBlock) (hB:B<=w.heap.size):Fr B P w w':=
 ⟨(aB B w).grown hg hB (λk hk=>(World.ownsRow.lt hr k hk).1),hg.size,λk o hk hne hs=>by
  rw[hg.block k (aF hk) (λe=>by
   rcases hr.2 with⟨rfl,_⟩ | ⟨g,cap,cur,rfl,_,hgc,_⟩
   ·cases e
   ·obtain rfl:k=g:=bD e;rw[hk] at hgc;obtain rfl:=bD hgc;unfold xM at hs;simp only[] at hs;rw[ht] at hs;cases hs)]
  exact hk⟩
end
section
open Go.RowKit
section
variable {P:Program}{ops:Array Oper}{Q:Exit->Act->World->Prop}{md:Region.Mode}
theorem xN (L:Array Bool) (i:Nat) (h:L.getD i true=false):(L.setIfInBounds i true).toList.countP (λb=>!b)+1=L.toList.countP (λb=>!b):=by
 have hi:i<L.toList.length:=by
  rw[Array.length_toList];by_cases hi:i<L.size
  ·exact hi
  ·rw[aO,Array.getElem?_eq_none (by omega)] at h;cases h
 have hv:L.toList[i]=false:=by
  rw[aO,Array.getElem?_eq_getElem (by simpa using hi)] at h;simpa using h
 rw[Array.toList_setIfInBounds,List.countP_set hi,hv];have:0<L.toList.countP (λb=>!b):=List.countP_pos_iff.2 ⟨false,by rw[<-hv];exact List.getElem_mem hi,rfl⟩;simp only[Bool.not_false,Bool.not_true,if_true,Bool.false_eq_true,if_false];omega
theorem Rn (Inv:Array Bool->Act->World->Prop)
  (hs: ∀(L:Array Bool) (a:Act) (w:World) (i:Nat) (o:Oper),L.size=ops.size->ops[i]?=some o->L.getD i true=false->(∀e∈o.after,Region.binds md e=true->L.getD e.on false=true)->Inv L a w->
   ∀K:Act->World->Prop,(∀a' w',Inv (L.setIfInBounds i true) a' w'->K a' w')->if Region.wanted o (yielded ops a.tmps)=true then o.wp P a w K Q else K (a.put o.dst undef) w)
  (hd: ∀(L:Array Bool) (a:Act) (w:World),L.size=ops.size->Inv L a w->Region.ready md ops L= []->Q .normal a w):
  ∀(fuel:Nat) (L:Array Bool) (a:Act) (w:World),L.size=ops.size->L.toList.countP (λb=>!b)<=fuel->Inv L a w->wpAny P md ops Q fuel L a w:=by
 intro fuel
 induction fuel with
 | zero=>
  intro L a w hL hc hI;have hr:Region.ready md ops L= []:=by
   rw[List.eq_nil_iff_forall_not_mem];intro i hi;have:=xN L i (mem_ready.1 hi).1;omega
  exact⟨hr,hd L a w hL hI hr⟩
 | succ fuel ih=>
  intro L a w hL hc hI;refine⟨λhr=>hd L a w hL hI hr,λi hi=>?_⟩;obtain⟨h0,o,ho,hall⟩:=mem_ready.1 hi;refine wpOp_step ho λK hK=>hs L a w i o hL ho h0 hall hI K λa' w' h=>hK a' w' (ih _ _ _ (by simpa using hL) ?_ h);have:=xN L i h0;omega
theorem Gx {id:Nat}{a:Act}{w:World} (hm:P.follows .mixedOrders=true) (Inv:Array Bool->Act->World->Prop)
  (h0:Inv (Array.replicate ops.size false) a w.drew)
  (hs: ∀(L:Array Bool) (a:Act) (w:World) (i:Nat) (o:Oper),L.size=ops.size->ops[i]?=some o->L.getD i true=false->(∀e∈o.after,Region.binds .any e=true->L.getD e.on false=true)->Inv L a w->
   ∀K:Act->World->Prop,(∀a' w',Inv (L.setIfInBounds i true) a' w'->K a' w')->if Region.wanted o (yielded ops a.tmps)=true then o.wp P a w K Q else K (a.put o.dst undef) w)
  (hd: ∀(L:Array Bool) (a:Act) (w:World),L.size=ops.size->Inv L a w->Region.ready .any ops L= []->Q .normal a w):(Code.region id ops true).wp P Q a w:=by
 refine wp_region_any hm (Rn Inv hs hd ops.size _ a _ (by simp) ?_ h0);rw[Array.toList_replicate,List.countP_replicate];split<;>omega
end
def pR (ops:Array Oper):Bool:=(List.range ops.size).all λi=>match ops[i]? with
 | some o=>o.after.toList.all (λe=>!Region.binds .any e||decide (e.on<i))&&o.guard.isNone
 | none=>true
theorem xO {ops:Array Oper} (h:pR ops=true) {i:Nat}{o:Oper} (ho:ops[i]?=some o):(∀e∈o.after,Region.binds .any e=true->e.on<i)/\o.guard=none:=by
 have hi:=(cM.1 ho).1;have:=fG.1 h i (List.mem_range.2 hi);rw[ho] at this;simp only[fB] at this;refine⟨λe he hb=>?_,Option.isNone_iff_eq_none.1 this.2⟩;have:=fG.1 this.1 e (Array.mem_toList_iff.2 he);rw[hb,Bool.not_true,Bool.false_or] at this;exact of_decide_eq_true this
theorem Gy {ops:Array Oper} (h:pR ops=true) {L:Array Bool} (hL:L.size=ops.size) (hr:Region.ready .any ops L= []): ∀i,i<ops.size->L.getD i false=true:=by
 intro i
 induction i using Nat.strongRecOn with
 | _ i ih=>
  intro hi;obtain⟨o,ho⟩: ∃o,ops[i]?=some o:=⟨_,Array.getElem?_eq_getElem hi⟩;cases hc:L.getD i false with
  | true=>rfl
  | false=>
   have hm:i∈Region.ready .any ops L:=mem_ready.2 ⟨by rw[aO,Array.getElem?_eq_getElem (by omega)] at hc ⊢;simpa using hc,o,ho,λe he hb=>ih _ ((xO h ho).1 e he hb) (by have:=(xO h ho).1 e he hb;omega)⟩;rw[hr] at hm;cases hm
def cE (t:Array Value) (v:Nat->Value):List Nat->Array Value
 | []=>t
 | k::ks=>(cE t v ks).setIfInBounds k (v k)
theorem vG (t:Array Value) (v:Nat->Value): ∀ks,(cE t v ks).size=t.size
 | []=>rfl
 | k::ks=>by rw[cE,Array.size_setIfInBounds,vG t v ks]
theorem xP (t:Array Value) (v:Nat->Value) (j:Nat) (hj:j<t.size): ∀ks,(cE t v ks)[j]?=if j∈ks then some (v j) else t[j]?
 | []=>by simp[cE]
 | k ::ks=>by
  rw[cE,tQ];by_cases h:k=j
  ·subst h;rw[if_pos rfl,vG,if_pos hj,if_pos iB]
  ·rw[if_neg h,xP t v j hj ks];by_cases hm:j∈ks
   ·rw[if_pos hm,if_pos (List.mem_cons_of_mem _ hm)]
   ·rw[if_neg hm,if_neg (by
     rw[dN];rintro(h2 | h2)
     ·exact h h2.symm
     ·exact hm h2)]
def bI (d:Nat->Bool) (i:Nat):Nat->Bool:=λj=>if j=i then true else d j
def bZ (v:Nat->Value) (t:Option Tmp) (x:Value):Nat->Value:=match t with
 | some t=>λk=>if k=t then x else v k
 | none=>v
theorem tR (a:Act) (t:Option Tmp) (x:Value) (ht: ∀k,t=some k->k<a.tmps.size):(λk=>(a.put t x).tmps.getD k undef)=bZ (λk=>a.tmps.getD k undef) t x:=by
 funext k;cases t with
 | none=>rfl
 | some t=>
  show (a.tmps.setIfInBounds t x).getD k undef=if k=t then x else a.tmps.getD k undef;rw[aO,tQ];by_cases h:t=k
  ·subst h;rw[if_pos rfl,if_pos (ht t rfl),if_pos rfl];rfl
  ·rw[if_neg h,if_neg (Ne.symm h),aO]
theorem Ap (L:Array Bool) (i:Nat) (hi:i<L.size):(λj=>(L.setIfInBounds i true).getD j false)=bI (λj=>L.getD j false) i:=by
 funext j;unfold bI;rw[aO,tQ];by_cases h:i=j
 ·subst h;rw[if_pos rfl,if_pos hi,if_pos rfl];rfl
 ·rw[if_neg h,if_neg (Ne.symm h)];show _=L.getD j false;rw[aO]
def nV (ops:Array Oper) (K:List Nat) (n:Nat):Bool:=ops.toList.all λo=>match o.dst with
 | some t=>K.contains t&&decide (t<n)
 | none=>true
theorem pS {ops:Array Oper}{K:List Nat}{n:Nat} (h:nV ops K n=true) {i:Nat}{o:Oper} (ho:ops[i]?=some o): ∀t,o.dst=some t->t∈K/\t<n:=by
 intro t ht;have:=fG.1 h o (Array.mem_toList_iff.2 (Array.mem_of_getElem? ho));rw[ht] at this;simp only[fB,kY] at this;exact⟨by simpa using this.1,this.2⟩
theorem vH {P:Program}{ops:Array Oper}{Q:Exit->Act->World->Prop}{id:Nat}{a0:Act}{w0:World} (hm:P.follows .mixedOrders=true) (K:List Nat) (n:Nat) (hn:a0.tmps.size=n) (hback:pR ops=true) (hdst:nV ops K n=true)
  (F:(Nat->Bool)->(Nat->Value)->World->Prop) (h0:F (λ_=>false) (λk=>a0.tmps.getD k undef) w0.drew)
  (hs: ∀(d:Nat->Bool) (a:Act) (w:World) (i:Nat) (o:Oper),ops[i]?=some o->d i=false->(∀e∈o.after,Region.binds .any e=true->d e.on=true)->(∀k,k ∉ K->a.tmps.getD k undef=a0.tmps.getD k undef)->F d (λk=>a.tmps.getD k undef) w->
   ∀R:Act->World->Prop,(∀x w',F (bI d i) (bZ (λk=>a.tmps.getD k undef) o.dst x) w'->R (a.put o.dst x) w')->o.wp P a w R Q)
  (hd: ∀(v:Nat->Value) (w:World),F (λi=>decide (i<ops.size)) v w->Q .normal { a0 with tmps:=cE a0.tmps v K } w):(Code.region id ops true).wp P Q a0 w0:=by
 subst hn;refine Gx hm (λL a w=>(a.defers=a0.defers/\a.tmps.size=a0.tmps.size/\ ∀k,k ∉ K->a.tmps.getD k undef=a0.tmps.getD k undef)/\F (λi=>L.getD i false) (λk=>a.tmps.getD k undef) w) ⟨⟨rfl,rfl,λk _=>rfl⟩,?_⟩ ?_ ?_
 ·have:(λi=>(Array.replicate ops.size false).getD i false)=λ_=>false:=by
   funext i;rw[aO,Array.getElem?_replicate];split<;>rfl
  rw[this];exact h0
 ·intro L a w i o hL ho hi hall hI R hR;obtain⟨⟨h1,h2,h3⟩,hF⟩:=hI;have hlt:i<L.size:=by rw[hL];exact(cM.1 ho).1
  have hw:Region.wanted o (yielded ops a.tmps)=true:=by simp[Region.wanted,(xO hback ho).2]
  rw[if_pos hw];refine hs (λi=>L.getD i false) a w i o ho ?_ hall h3 hF R λx w' hx=>hR _ _ ⟨⟨?_,?_,λk hk=>?_⟩,?_⟩
  ·rw[aO,Array.getElem?_eq_getElem hlt] at hi ⊢;simpa using hi
  ·unfold Act.put;cases o.dst<;>exact h1
  ·unfold Act.put;cases o.dst
   ·exact h2
   ·rw[Array.size_setIfInBounds];exact h2
  ·rw[<-h3 k hk];have hg:=congrFun (tR a o.dst x (λt ht=>by rw[h2];exact(pS hdst ho t ht).2)) k;have e: ∀t,o.dst=t->bZ (λk=>a.tmps.getD k undef) t x k=a.tmps.getD k undef:=λt ht=>by
    cases t with
    | none=>rfl
    | some t=>exact if_neg (λh=>hk (by rw[h];exact(pS hdst ho t ht).1))
   exact hg.trans (e _ rfl)
  ·rw[Ap L i hlt,tR a o.dst x (λt ht=>by rw[h2];exact(pS hdst ho t ht).2)];exact hx
 ·intro L a w hL hI hr;obtain⟨⟨h1,h2,h3⟩,hF⟩:=hI;have hall:=Gy hback hL hr;have hfun:(λi=>L.getD i false)=λi=>decide (i<ops.size):=by
   funext i;by_cases hi:i<ops.size
   ·rw[hall i hi,aN hi]
   ·rw[aJ hi,aO,Array.getElem?_eq_none (by omega)];rfl
  rw[hfun] at hF;have:=hd _ w hF;have ha:a= { a0 with tmps:=cE a0.tmps (λk=>a.tmps.getD k undef) K }:=by
   cases a with
   | mk tmps defers=>
    simp only at h1 h2 h3 ⊢;rw[h1];congr 1;refine Array.ext_getElem? λj=>?_;by_cases hj:j<a0.tmps.size
    ·rw[xP _ _ j hj];have hget:tmps[j]?=some (tmps.getD j undef):=by rw[aO,Array.getElem?_eq_getElem (by omega)];rfl
     split
     ·exact hget
     ·rename_i hk;rw[hget,h3 j hk,aO,Array.getElem?_eq_getElem hj];rfl
    ·rw[Array.getElem?_eq_none (by omega),Array.getElem?_eq_none (by rw[vG];omega)]
  rw[ha];exact this
section
variable {dst dead:Nat->Nat}{own:Nat->Bool}{claim:Nat->Value->World->Prop}{B:Nat}{w0 w w':World}{d:Nat->Bool}{v:Nat->Value}
theorem lO {d:Nat->Bool}{i j:Nat} (h:j≠i):bI d i j=d j:=if_neg h
theorem vI {d:Nat->Bool}{i:Nat}:bI d i i=true:=if_pos rfl
end
end
end Go.Proofs.YtaifnmjjpddikaaGreatDoor
