import Derived.Test.YtfhjncbdgjlcoaaGreatDoorYa3
import Derived.Deep.AppendLies
set_option linter.unusedVariables false
set_option linter.unusedSimpArgs false
namespace Go.Proofs.YtfhjncbdgjlcoaaGreatDoor
section
open Go.Lib
def fZ (txt:List UInt8) (s:Sp):aA:=if s.2<s.1\/txt.length<s.2 then [] else(txt.take s.2).drop s.1
def nT (k:Nat) (s:aA):aA:=if k=2 then s else if k=3 then kB (dP s).1 else if k=4 then(dR s).1 else []
def eN (txt:List UInt8) (ns:List aH) (k:Nat):aA:=match ns[k]? with
 | some x=>(dR (fZ txt x.key)).1
 | none=> []
def bE (txt:List UInt8) (ns:List aH):Nat->Nat->VT
 | 0,_=> .mk 0 [] [] []
 | f+1,k=>match ns[k]? with
  | none=> .mk 0 [] [] []
  | some x=> .mk (x.kind:Int) (nT x.kind (fZ txt (x.sf,x.st))) (if x.kind=6 then x.kids.map (eN txt ns) else []) (x.kids.map (bE txt ns f))
def gY (P:Nat->Nat->Prop):List Nat->Nat->Nat->Prop
 | [],a,hi=>a=hi
 | kid::l,a,hi=>kid=a/\ ∃m,P kid m/\gY P l m hi
theorem gY.snoc {P:Nat->Nat->Prop}{hi:Nat}: ∀ {l:List Nat}{a k:Nat},gY P l a k->P k hi->gY P (l++ [k]) a hi
 | [],a,k,h,hp=>by
  have e:a=k:=h;exact⟨e.symm,hi,hp,rfl⟩
 | x::l,a,k,h,hp=>by
  obtain⟨b,m,c,f⟩:=h;exact⟨b,m,c,f.snoc hp⟩
def fF (ns:List aH):Nat->Nat->Nat->Prop
 | 0,_,_=>False
 | lv+1,k,hi=> ∃x,ns[k]?=some x/\gY (fF ns lv) x.kids (k+1) hi
theorem gY.imp {P Q:Nat->Nat->Prop} (hi:Nat) (hlt: ∀k m,P k m->k<m): ∀ {l:List Nat}{a:Nat},gY P l a hi->(∀k m,a<=k->m<=hi->P k m->Q k m)->gY Q l a hi
 | [],a,h,_=>h
 | x::l,a,h,hq=>by
  obtain⟨rfl,m,h2,h3⟩:=h;have b: ∀ {l:List Nat}{a:Nat},gY P l a hi->a<=hi:=by
   intro l
   induction l with
   | nil=>intro a h;exact mW h
   | cons y l ih=>
    intro a h;obtain⟨rfl,m,h2,h3⟩:=h;have:=ih h3;have:=hlt _ _ h2;omega
  have h4:=hlt _ _ h2;exact⟨rfl,m,hq _ _ (aD _) (b h3) h2,h3.imp hi hlt (λk m' h5 c e=>hq k m' a_ c e)⟩
theorem fF.lt {ns:List aH}: ∀ {lv k hi:Nat},fF ns lv k hi->k<hi
 | lv+1,k,hi,h=>by
  obtain⟨x,hx,h2⟩:=h;have: ∀(l:List Nat) (a:Nat),gY (fF ns lv) l a hi->a<=hi:=by
   intro l
   induction l with
   | nil=>intro a h;exact mW h
   | cons y l ih=>
    intro a h;obtain⟨rfl,m,h2,b⟩:=h;have:=ih m b;have:=fF.lt h2;omega
  have:=this _ _ h2;omega
theorem fF.mono {ns ns':List aH}: ∀ {lv k hi:Nat},fF ns lv k hi->(∀j y,k<=j->j<hi->ns[j]?=some y-> ∃y',ns'[j]?=some y'/\y'.kids=y.kids)->fF ns' lv k hi
 | lv+1,k,hi,h,hs=>by
  have hlt:=h.lt;obtain⟨x,g,e⟩:=h;obtain⟨x',b,f⟩:=hs k x (aD _) hlt g;refine⟨x',b,?_⟩;rw[f];exact e.imp hi (λ_ _=>fF.lt) (λa m h3 h4 c=>c.mono (λj y h6 h7=>hs j y a_ a_))
def zF (lv:Nat) (V:VF):Prop:= ∀rest last nodes key r l ns,V rest last nodes key= .ok r l ns->fF ns lv nodes.length ns.length
theorem Se {txt:List UInt8}{V:VF}{lv:Nat} (hV:zF lv V) {obj:Bool}{had had':List (List UInt8)}{rest r:List aN}{last l:Sp}{nodes ns:List aH} (h:gF txt V obj had rest last nodes=(.ok r l ns,had')):fF ns lv nodes.length ns.length:=by
 unfold gF at h;split at h
 ·exact gu
 ·split at h
  ·exact ae
  ·split at h
   ·exact ae
   ·split at h
    ·exact ae
    ·split at h
     ·exact ae
     ·split at h
      ·exact ae
      ·exact gu
theorem Cu {txt:List UInt8}{V:VF}{lv:Nat} (hV:zF lv V) (hE:rS V) {closing:Nat}{obj:Bool}{pre:List aH}: ∀(f:Nat) {had:List (List UInt8)}{rest:List aN}{last:Sp}{nodes:List aH}{r:List aN}{l:Sp}{ns:List aH}{x:aH}{post:List aH},
  fW pre x post nodes->gY (fF nodes lv) x.kids (pre.length+1) nodes.length->iP txt V closing obj pre.length f had rest last nodes= .ok r l ns-> ∃x' post',fW pre x' post' ns/\gY (fF ns lv) x'.kids (pre.length+1) ns.length
 | 0,_,_,_,_,_,_,_,_,_,_,_,h=>by cases h
 | f +1,had,rest,last,nodes,r,l,ns,x,post,hm,hK,h=>by
  unfold iP at h;split at h
  ·cases h
  ·rename_i r1 l1 ns1 had1 hk;have ht:=Se hV hk;obtain⟨b,rfl,s,h3,⟨kk,h4⟩,q⟩:=yW hE hk;split at h
   ·cases h
   ·rename_i t r';have n:=hm.add q s nodes.length (last.2,t.sf);have g: ∀j y,pre.length+1<=j->(nodes++b)[j]?=some y-> ∃y',(eM pre.length nodes.length (last.2,t.sf) (nodes++b))[j]?=some y'/\y'.kids=y.kids:=by
     intro j y hj u;unfold eM;rw[yV,if_neg a_];exact⟨y,u,rfl⟩
    have hml:=Rw hm;have e:gY (fF (eM pre.length nodes.length (last.2,t.sf) (nodes++b)) lv) (x.kids++ [nodes.length]) (pre.length+1) (eM pre.length nodes.length (last.2,t.sf) (nodes++b)).length:=by
     have i:(eM pre.length nodes.length (last.2,t.sf) (nodes++b)).length=(nodes++b).length:=lM _ _ _;rw[i];refine gY.snoc (hK.imp _ (λ_ _=>fF.lt) (λk m h6 h7 A=>A.mono (λj y p o c=>?_))) (ht.mono (λj y p o c=>g j y a_ c));exact g j y a_ (by rw[qO a_];exact c)
    split at h
    ·injection h with e1 e2 e3;subst e3;exact⟨_,_,n,e⟩
    ·split at h
     ·exact Cu hV hE f n e h
     ·cases h
theorem Ii {txt:List UInt8}{V:VF}{lv:Nat} (hV:zF lv V) (hE:rS V) {closing:Nat}{obj:Bool}{pre:List aH}{rest:List aN}{last:Sp}{nodes:List aH}{r:List aN}{l:Sp}{ns:List aH}{x:aH}{post:List aH}
  (hm:fW pre x post nodes) (hK:gY (fF nodes lv) x.kids (pre.length+1) nodes.length) (h:gG txt V closing obj pre.length rest last nodes= .ok r l ns): ∃x' post',fW pre x' post' ns/\gY (fF ns lv) x'.kids (pre.length+1) ns.length:=by
 unfold gG at h;split at h
 ·exact Cu hV hE _ hm hK h
 ·split at h
  ·injection h with h1 h2 b;subst b;exact⟨x,post,hm,hK⟩
  ·exact Cu hV hE _ hm hK h
theorem Ij (txt:List UInt8): ∀lv,zF lv (bI txt lv)
 | 0=>λrest last nodes key r l ns h=>by
  unfold bI at h;split at h<;>cases h
 | lv +1=>λrest last nodes key r l ns h=>by
  have ih:=Ij txt lv;have ie:=mV txt lv;cases rest with
  | nil=>
   unfold bI at h;rw[if_pos (show dO (dI [])=0 from rfl)] at h;cases h
  | cons t q=>
   unfold bI at h;split at h
   ·cases h
   ·split at h
    ·cases h
    ·simp only[] at h;obtain⟨c,n,rfl⟩:=Hv h;have f:fW nodes ⟨dO t.kind,t.sf,t.st,key,[],[]⟩ [] (nodes++ [⟨dO t.kind,t.sf,t.st,key,[],[]⟩]):=⟨rfl,aD _,aD _,λy s=>by cases s⟩;have g:gY (fF (nodes++ [(⟨dO t.kind,t.sf,t.st,key,[],[]⟩:aH)]) lv) ([]:List Nat) (nodes.length+1) (nodes++ [(⟨dO t.kind,t.sf,t.st,key,[],[]⟩:aH)]).length:=by
      show nodes.length+1=_;rw[aT,dS]
     have e: ∀ {x':aH}{b:List aH},fW nodes x' b c->gY (fF c lv) x'.kids (nodes.length+1) c.length->fF (lL nodes.length l.2 c) (lv+1) nodes.length (lL nodes.length l.2 c).length:=by
      intro x' b C A;have i:(lL nodes.length l.2 c).length=c.length:=lM _ _ _;have p:=Rv C;refine⟨{ x' with st:=l.2 },?_,?_⟩
      ·unfold lL;rw[yV,if_pos rfl,p];rfl
      ·rw[i];refine A.imp _ (λ_ _=>fF.lt) (λk m h6 h7 u=>u.mono (λj y h9 h10 o=>?_));refine⟨y,?_,rfl⟩;unfold lL;rw[yV,if_neg a_];exact o
     split at n
     ·obtain⟨x',b,i1,i2⟩:=Ii ih ie f g n;exact e i1 i2
     ·split at n
      ·obtain⟨x',b,i1,i2⟩:=Ii ih ie f g n;exact e i1 i2
      ·injection n with h2 h3 x;subst x;exact e f g
theorem Cv {s:List UInt8}{ns:List aH}{n:Int} (h:fP s=(ns,n,0)):fF ns 32 0 ns.length:=by
 obtain⟨hs,T,l,ns',hT,c,b⟩:=Ru (s:=s) (by rw[h]);rw[h] at b;injection b with e1 e2;subst e1;exact Ij s 32 _ _ _ _ _ _ _ c
theorem gY.mem {P:Nat->Nat->Prop}{hi:Nat}: ∀ {l:List Nat}{a:Nat},gY P l a hi-> ∀k∈l,∃m,P k m
 | [],_,_,k,hk=>by cases hk
 | x::l,a,h,k,hk=>by
  obtain⟨rfl,m,h2,h3⟩:=h;rcases fY.1 hk with rfl | hk
  ·exact⟨m,h2⟩
  ·exact h3.mem k hk
theorem fF.kid {ns:List aH}{lv k hi:Nat} (h:fF ns (lv+1) k hi) {x:aH} (hx:ns[k]?=some x) {q:Nat} (hq:q∈x.kids):(∃m,fF ns lv q m)/\q<ns.length:=by
 obtain⟨x',b,f⟩:=h;rw[hx] at b;injection b with e;subst e;obtain⟨m,c⟩:=f.mem q hq;refine⟨⟨m,c⟩,?_⟩;cases lv with
 | zero=>exact c.elim
 | succ lv=>
  obtain⟨y,g,_⟩:=c;exact(aR.1 g).1
end
section
open Go.RowKit
open Go.Lib hiding intOf
def tP (w:World):Prop:=w.cell? ⟨5,15,none⟩=some (.int .u8 4)
theorem tP.keep {w w':World} (h:tP w) (hb:Below w.heap.size w w'):tP w':=by
 unfold tP at h ⊢;rw[hb.cell (p:=⟨_,_,none⟩) (vE h),h]
theorem Sf {A B:World} (h:Below A.heap.size A B):A.grownBy B none:=⟨h.os,h.tape,h.output,h.size,λi b _=>h.block i b⟩
theorem gH {B size:Nat}{e:TypeId}{A W:World}{v:Value}{n:Nat}{xs:List Value} (h:A.ownsRow B e size v n xs) (hb:Below A.heap.size A W):W.ownsRow B e size v n xs:=
 h.kept (Sf hb) (by cases h:v.ownBlock with
  | none=>exact .inl rfl
  | some k=>exact .inr e_)
theorem gI {w:World}{B1 B2:Nat}{e1 e2:TypeId}{s1 s2:Nat}{v1 v2:Value}{n1 n2:Nat}{x1 x2:List Value} (h1:w.ownsRow B1 e1 s1 v1 n1 x1) (h2:w.ownsRow B2 e2 s2 v2 n2 x2) (he:e1≠e2):v1.ownBlock=none\/v1.ownBlock≠v2.ownBlock:=by
 rcases h1.2 with⟨rfl,_⟩ | ⟨g,cap,cur,rfl,_,e,_⟩
 ·exact .inl rfl
 ·right;rcases h2.2 with⟨rfl,_⟩ | ⟨g2,cap2,cur2,rfl,_,b,_⟩
  ·intro h;cases h
  ·intro h;have c:g=g2:=aV h;subst c;rw[e] at b;injection b with b;injection b with _ b;exact he b
theorem cQ {w:World}{B:Nat}{e t:TypeId}{s:Nat}{v:Value}{n:Nat}{xs:List Value}{X:Nat}{cs:Array Value}{fz:Nat×Nat} (h:w.ownsRow B e s v n xs) (hX:w.heap[X]?=some (.cells cs t fz)) (he:e≠t):v.ownBlock=none\/v.ownBlock≠some X:=by
 rcases h.2 with⟨rfl,_⟩ | ⟨g,cap,cur,rfl,_,f,_⟩
 ·exact .inl rfl
 ·refine .inr λc=>?_;have b:g=X:=aV c;subst b;rw[f] at hX;injection hX with hX;injection hX with _ hX;exact he hX
def cZ (w:World) (P:Nat) (txt:List UInt8) (rv:Value) (l:Sp) (nv:Value) (a:Nat) (er:Int):Prop:=
 w.heap[P]?=some (.cells #[bs txt,rv,l.1,l.2,nv,a,er] 179 (0,0))
abbrev Sg (w:World) (P:Nat) (txt:List UInt8) (rv:Value) (l:Sp) (nv:Value) (a:Nat) (er:Int):Prop:=
 w.cell? ⟨P,0,none⟩=some (.string (bs txt))/\w.cell? ⟨P,1,none⟩=some rv/\w.cell? ⟨P,2,none⟩=some (.int .i64 l.1)/\w.cell? ⟨P,3,none⟩=some (.int .i64 l.2)/\w.cell? ⟨P,4,none⟩=some nv/\
 w.cell? ⟨P,5,none⟩=some (.int .i64 a)/\w.cell? ⟨P,6,none⟩=some (.int .i64 er)/\
 w.frozen? ⟨P,1,none⟩=false/\w.frozen? ⟨P,2,none⟩=false/\w.frozen? ⟨P,3,none⟩=false/\w.frozen? ⟨P,4,none⟩=false/\w.frozen? ⟨P,5,none⟩=false/\w.frozen? ⟨P,6,none⟩=false
section
variable {w w':World}{P:Nat}{txt:List UInt8}{rv nv:Value}{l:Sp}{a:Nat}{er:Int}
theorem cZ.cells (h:cZ w P txt rv l nv a er):Sg w P txt rv l nv a er:=by
 unfold cZ at h;refine⟨?_,?_,?_,?_,?_,?_,?_,?_,?_,?_,?_,?_,?_⟩<;>simp[World.cell?,World.frozen?,h]
theorem cZ.lt (h:cZ w P txt rv l nv a er):P<w.heap.size:=aF h
theorem cZ.keep (h:cZ w P txt rv l nv a er) (hb:Below w.heap.size w w'):cZ w' P txt rv l nv a er:=(hb.block P h.lt).trans h
end
def TV (w:World) (v:Value) (ts:List aN):Prop:= ∃p c,v= .slice p ts.length c/\ts.length<=c/\(ts= []\/ ∃g o cur,p=some ⟨g,o,none⟩/\w.heap[g]?=some (.cells cur 163 (0,0))/\
 ∀(j:Nat) (t:aN),ts[j]?=some t->w.cell? ⟨g,o+j*3,none⟩=some (.int .i64 t.kind)/\w.cell? ⟨g,o+j*3+1,none⟩=some (.int .i64 t.sf)/\w.cell? ⟨g,o+j*3+2,none⟩=some (.int .i64 t.st))
theorem iY {w w':World}{g:Nat} (h:w'.heap[g]?=w.heap[g]?) (o:Nat):w'.cell? ⟨g,o,none⟩=w.cell? ⟨g,o,none⟩:=by
 unfold World.cell?;simp only[h]
theorem TV.same {w w':World}{v:Value}{ts:List aN} (h:TV w v ts) (hs: ∀(g:Nat) (cur:Array Value),w.heap[g]?=some (.cells cur 163 (0,0))->w'.heap[g]?=w.heap[g]?):TV w' v ts:=by
 obtain⟨p,c,n,k,b⟩:=h;refine⟨p,c,n,k,?_⟩;rcases b with b | ⟨g,o,cur,b,f,i⟩
 ·exact .inl b
 ·have e:=hs g cur f;refine .inr ⟨g,o,cur,b,e.trans f,λj t m=>?_⟩;rw[iY e,iY e,iY e];exact i j t m
theorem TV.keep {w w':World}{v:Value}{ts:List aN} (h:TV w v ts) (hb:Below w.heap.size w w'):TV w' v ts:=h.same (λg cur b=>hb.block g (aF b))
theorem TV.head {w:World}{v:Value}{t:aN}{r:List aN} (h:TV w v (t::r)): ∃g o c,v= .slice (some ⟨g,o,none⟩) (r.length+1) c/\r.length+1<=c/\w.cell? ⟨g,o,none⟩=some (.int .i64 t.kind)/\w.cell? ⟨g,o+1,none⟩=some (.int .i64 t.sf)/\w.cell? ⟨g,o+2,none⟩=some (.int .i64 t.st)/\
  TV w (.slice (if c=1 then some ⟨g,o,none⟩ else some ⟨g,o+3,none⟩) r.length (c-1)) r:=by
 obtain⟨p,c,m,e,f⟩:=h;rcases f with f | ⟨g,o,i,rfl,n,k⟩
 ·cases f
 ·simp only[bH] at m e;have b:=k 0 t rfl;rw[Nat.zero_mul,Nat.add_zero] at b;refine⟨g,o,c,m,e,b.1,b.2.1,b.2.2,_,_,rfl,a_,?_⟩;cases r with
  | nil=>exact .inl rfl
  | cons u r=>
   refine .inr ⟨g,o+3,i,if_neg (by simp only[bH] at e;omega),n,λj t q=>?_⟩;have:=k (j+1) t (by simpa using q);rw[show o+(j+1)*3=o+3+j*3 by omega] at this;exact this
theorem TV.empty {w:World}{v:Value} (h:TV w v []): ∃p c,v= .slice p 0 c:=by
 obtain⟨p,c,b,_⟩:=h;exact⟨p,c,b⟩
abbrev ND:=aH×Value×Value
def dJ (l:List Nat):List Value:=l.map fun(k:Nat)=>Value.int .i64 (k:Int)
def kU (l:List Sp):List Value:=l.flatMap λs=> [s.1,s.2]
def gA (y:ND):List Value:= [y.1.kind,y.1.sf,y.1.st,y.1.key.1,y.1.key.2,y.2.1,y.2.2]
def iZ (z:List ND):List Value:=z.flatMap gA
theorem xC (y:ND) (z:List ND):iZ (y::z)=gA y++iZ z:=rfl
theorem xD: ∀(z:List ND) (j:Nat) (y:ND),z[j]?=some y-> ∀i,i<7->(iZ z)[j*7+i]?=(gA y)[i]?
 | [],j,y,h,i,hi=>by simp at h
 | x::z,0,y,h,i,hi=>by
  obtain rfl:x=y:=r_
  rw[xC,Nat.zero_mul,Nat.zero_add,qO (by simpa [gA] using hi)]
 | x::z,j+1,y,h,i,hi=>by
  rw[bZ] at h;have:=xD z j y h i hi;rw[xC,kT (by simp[gA];omega),<-this];congr 1;simp[gA];omega
theorem zG: ∀(z:List ND) (j:Nat) (y y':ND),z[j]?=some y-> ∀i u,i<7->(gA y).set i u=gA y'->(iZ z).set (j*7+i) u=iZ (z.set j y')
 | [],j,y,y',h,i,u,hi,hu=>by simp at h
 | x::z,0,y,y',h,i,u,hi,hu=>by
  obtain rfl:x=y:=r_
  rw[xC,Nat.zero_mul,Nat.zero_add,List.set_append_left _ _ (by simpa [gA] using hi),hu];rfl
 | x::z,j+1,y,y',h,i,u,hi,hu=>by
  rw[bZ] at h;have:=zG z j y y' h i u hi hu;rw[xC,List.set_append_right _ _ (by simp[gA];omega),cP,xC,<-this];congr 2;simp[gA];omega
def rU (f:ND->Value) (z:List ND):Prop:= ∀(i j:Nat) (yi yj:ND),i≠j->z[i]?=some yi->z[j]?=some yj->(f yi).ownBlock=none\/(f yi).ownBlock≠(f yj).ownBlock
theorem rU.push {f:ND->Value}{z:List ND}{y:ND} (h:rU f z) (hy:(f y).ownBlock=none):rU f (z++ [y]):=by
 have DL:=trivial;exact vj
theorem rU.set {f:ND->Value}{z:List ND}{n:Nat}{y y':ND} (h:rU f z) (hn:z[n]?=some y) (hb:(f y').ownBlock=(f y).ownBlock\/ ∀(j:Nat) (yj:ND),z[j]?=some yj->(f yj).ownBlock≠(f y').ownBlock):rU f (z.set n y'):=sg
structure cD (B:Nat) (z:List ND) (nv:Value) (w:World):Prop where
 row:w.ownsRow B 167 7 nv z.length (iZ z)
 kids: ∀y∈z,w.ownsRow B 3 1 y.2.1 y.1.kids.length (dJ y.1.kids)
 pcs: ∀y∈z,w.ownsRow B 42 2 y.2.2 y.1.pcs.length (kU y.1.pcs)
 ak:rU (λy=>y.2.1) z
 ap:rU (λy=>y.2.2) z
section
variable {B:Nat}{z:List ND}{nv:Value}{w w' w1:World}
theorem cD.keep (h:cD B z nv w) (hb:Below w.heap.size w w'):cD B z nv w':=
 ⟨gH h.row hb,λy b=>gH (h.kids y b) hb,λy b=>gH (h.pcs y b) hb,h.ak,h.ap⟩
theorem cD.other (h:cD B z nv w) {X:Nat}{cs:Array Value}{t:TypeId}{fz:Nat×Nat} (hX:w.heap[X]?=some (.cells cs t fz)) (h1:167≠t) (h2:3≠t) (h3:42≠t) (hg:w.grownBy w' (some X)):cD B z nv w':=
 ⟨h.row.kept hg (cQ h.row hX h1),λy b=>(h.kids y b).kept hg (cQ (h.kids y b) hX h2),λy b=>(h.pcs y b).kept hg (cQ (h.pcs y b) hX h3),h.ak,h.ap⟩
theorem cD.nil (B:Nat) (w:World):cD B [] (.slice none 0 0) w:=
 ⟨⟨rfl, .inl ⟨rfl,rfl⟩⟩,λy b=>(by cases b),λy b=>(by cases b),λi j yi yj _ h=>(by simp at h),λi j yi yj _ h=>(by simp at h)⟩
theorem cD.push (h:cD B z nv w) {nv':Value}{x:aH} (hk:x.kids= []) (hp:x.pcs= []) (hr:w'.ownsRow B 167 7 nv' (z.length+1) (iZ z++gA (x, .slice none 0 0, .slice none 0 0))) (hg:w.grownBy w' nv.ownBlock):
  cD B (z++ [(x, .slice none 0 0, .slice none 0 0)]) nv' w':=by
 refine⟨?_,λy b=>?_,λy b=>?_,h.ak.push rfl,h.ap.push rfl⟩
 ·have e:iZ (z++ [(x, .slice none 0 0, .slice none 0 0)])=iZ z++gA (x, .slice none 0 0, .slice none 0 0):=by unfold iZ;simp
  rw[e,aT];exact hr
 ·exact jv
 ·rcases rT.1 b with b | b
  ·exact(h.pcs y b).kept hg (gI (h.pcs y b) h.row b_)
  ·rw[mX.1 b];simp only[];rw[hp];exact⟨rfl, .inl ⟨rfl,rfl⟩⟩
theorem cD.form (h:cD B z nv w) (hz:z≠ []): ∃g cap cur,nv= .slice (some ⟨g,0,none⟩) z.length cap/\z.length<=cap/\B<=g/\w.heap[g]?=some (.cells cur 167 (0,0)):=jz
theorem cD.slice (h:cD B z nv w): ∃p cap,nv= .slice p z.length cap:=by
 rcases h.row.2 with⟨h0,h1⟩ | ⟨g,cap,dL,h1,h2,h3,h4,_⟩
 ·exact ax
 ·exact ay
theorem cD.at_ {g cap:Nat} (h:cD B z (.slice (some ⟨g,0,none⟩) z.length cap) w) {n:Nat}{y:ND} (hy:z[n]?=some y) (i:Nat) (hi:i<7) {u:Value} (hu:(gA y)[i]?=some u):
  w.cell? ⟨g,n*7+i,none⟩=some u/\w.frozen? ⟨g,n*7+i,none⟩=false:=by
 have hn:=(aR.1 hy).1;refine⟨?_,World.ownsRow.frozenAt h.row _⟩;rw[World.ownsRow.cellAt h.row _ a_,xD z n y hy i hi,hu]
theorem cD.field {g cap:Nat} (h:cD B z (.slice (some ⟨g,0,none⟩) z.length cap) w) {n:Nat}{y y':ND} (hy:z[n]?=some y) (i:Nat) (hi:i<7) (u:Value) (hu:(gA y).set i u=gA y') (hk:y'.1.kids=y.1.kids) (hp:y'.1.pcs=y.1.pcs) (h1:y'.2=y.2):
  cD B (z.set n y') (.slice (some ⟨g,0,none⟩) (z.set n y').length cap) (w.setCell ⟨g,n*7+i,none⟩ u):=by
 have A5:=trivial;exact tu
theorem cD.kid {g cap:Nat} (h:cD B z (.slice (some ⟨g,0,none⟩) z.length cap) w) {n k:Nat}{y:ND} (hy:z[n]?=some y) {kv:Value}{H:Nat} (hH:w.heap.size<=H)
  (hr:w1.ownsRow B 3 1 kv (y.1.kids.length+1) (dJ y.1.kids++ [.int .i64 (k:Int)])) (hg:w.grownBy w1 y.2.1.ownBlock) (hat:kv.ownBlock=y.2.1.ownBlock\/kv.ownBlock=some H):
  cD B (z.set n ({ y.1 with kids:=y.1.kids++ [k] },kv,y.2.2)) (.slice (some ⟨g,0,none⟩) (z.set n ({ y.1 with kids:=y.1.kids++ [k] },kv,y.2.2)).length cap) (w1.setCell ⟨g,n*7+5,none⟩ kv):=by
 have zo:=trivial;exact rp
theorem cD.pc {g cap:Nat} (h:cD B z (.slice (some ⟨g,0,none⟩) z.length cap) w) {n:Nat}{k:Sp}{y:ND} (hy:z[n]?=some y) {kv:Value}{H:Nat} (hH:w.heap.size<=H)
  (hr:w1.ownsRow B 42 2 kv (y.1.pcs.length+1) (kU y.1.pcs++ [.int .i64 (k.1:Int), .int .i64 (k.2:Int)])) (hg:w.grownBy w1 y.2.2.ownBlock) (hat:kv.ownBlock=y.2.2.ownBlock\/kv.ownBlock=some H):
  cD B (z.set n ({ y.1 with pcs:=y.1.pcs++ [k] },y.2.1,kv)) (.slice (some ⟨g,0,none⟩) (z.set n ({ y.1 with pcs:=y.1.pcs++ [k] },y.2.1,kv)).length cap) (w1.setCell ⟨g,n*7+6,none⟩ kv):=by
 have zq:=trivial;exact rp
end
def zH (t:TypeId):Bool:=t==167||t==3||t==42
def zI (o:Obj):Prop:=match o with
 | .cells _ t _=>zH t=false
 | _=>True
structure Fr (B P:Nat) (w w':World):Prop where
 bel:Below B w w'
 sz:w.heap.size<=w'.heap.size
 blk: ∀(k:Nat) (o:Obj),w.heap[k]?=some o->k≠P->zI o->w'.heap[k]?=some o
theorem Fr.trans {B P:Nat}{w w1 w2:World} (h1:Fr B P w w1) (h2:Fr B P w1 w2):Fr B P w w2:=
 ⟨h1.bel.trans h2.bel,aZ h1.sz h2.sz,λk o c hP b=>h2.blk k o (h1.blk k o c hP b) hP b⟩
theorem Fr.refl (B P:Nat) (w:World):Fr B P w w:=⟨aB _ _,aD _,λ_ _ h _ _=>h⟩
theorem Fr.of_below {B P:Nat}{w w':World} (h:Below w.heap.size w w') (hB:B<=w.heap.size):Fr B P w w':=
 ⟨h.mono hB,h.size,λk o b _ _=>by rw[h.block k (aF b)];exact b⟩
theorem Fr.setP {B P i:Nat}{w:World}{u:Value} (hP:B<=P):Fr B P w (w.setCell ⟨P,i,none⟩ u):=
 ⟨(aB B w).setCell (p:=⟨P,i,none⟩) hP u,by simp[World.setCell],λk o c b _=>by rw[eC _ _ _ k b];exact c⟩
theorem Fr.setM {B P X i:Nat}{w:World}{u:Value}{cs:Array Value}{t:TypeId}{fz:Nat×Nat} (hX:w.heap[X]?=some (.cells cs t fz)) (ht:zH t=true) (hB:B<=X):Fr B P w (w.setCell ⟨X,i,none⟩ u):=
 ⟨(aB B w).setCell (p:=⟨X,i,none⟩) hB u,by simp[World.setCell],λk o c hne b=>by rw[eC _ _ _ k (λe=>by subst e;rw[c] at hX;obtain rfl:=aV hX;unfold zI at b;simp only[] at b;rw[ht] at b;cases b)];exact c⟩
theorem Fr.grown {B P:Nat}{w w':World}{e:TypeId}{s:Nat}{v:Value}{n:Nat}{xs:List Value} (hr:w.ownsRow B e s v n xs) (ht:zH e=true) (hg:w.grownBy w' v.ownBlock) (hB:B<=w.heap.size):Fr B P w w':=
 ⟨(aB B w).grown hg hB (λk c=>(World.ownsRow.lt hr k c).1),hg.size,λk o c hne f=>by
  rw[hg.block k (aF c) (λe=>by
   rcases hr.2 with⟨rfl,_⟩ | ⟨g,cap,cur,rfl,_,b,_⟩
   ·cases e
   ·obtain rfl:k=g:=aV e;rw[c] at b;obtain rfl:=aV b;unfold zI at f;simp only[] at f;rw[ht] at f;cases f)]
  exact c⟩
end
section
open Go.RowKit
section
variable {P:Program}{ops:Array Oper}{Q:Exit->Act->World->Prop}{md:Region.Mode}
theorem Ik (L:Array Bool) (i:Nat) (h:L.getD i true=false):(L.setIfInBounds i true).toList.countP (λb=>!b)+1=L.toList.countP (λb=>!b):=by
 have c:i<L.toList.length:=by
  rw[Array.length_toList];by_cases c:i<L.size
  ·exact c
  ·rw[aI,Array.getElem?_eq_none a_] at h;cases h
 have e:L.toList[i]=false:=by
  rw[aI,Array.getElem?_eq_getElem (by simpa using c)] at h;simpa using h
 rw[Array.toList_setIfInBounds,List.countP_set c,e];have:0<L.toList.countP (λb=>!b):=List.countP_pos_iff.2 ⟨false,by rw[<-e];exact List.getElem_mem c,rfl⟩;simp only[Bool.not_false,Bool.not_true,if_true,Bool.false_eq_true,if_false];omega
theorem Sh (Inv:Array Bool->Act->World->Prop)
  (hs: ∀(L:Array Bool) (a:Act) (w:World) (i:Nat) (o:Oper),L.size=ops.size->ops[i]?=some o->L.getD i true=false->(∀e∈o.after,Region.binds md e=true->L.getD e.on false=true)->Inv L a w->
   ∀K:Act->World->Prop,(∀a' w',Inv (L.setIfInBounds i true) a' w'->K a' w')->if Region.wanted o (yielded ops a.tmps)=true then o.wp P a w K Q else K (a.put o.dst undef) w)
  (hd: ∀(L:Array Bool) (a:Act) (w:World),L.size=ops.size->Inv L a w->Region.ready md ops L= []->Q .normal a w):
  ∀(fuel:Nat) (L:Array Bool) (a:Act) (w:World),L.size=ops.size->L.toList.countP (λb=>!b)<=fuel->Inv L a w->wpAny P md ops Q fuel L a w:=by
 intro fuel
 induction fuel with
 | zero=>
  intro L a w c p j;have g:Region.ready md ops L= []:=by
   rw[List.eq_nil_iff_forall_not_mem];intro i k;have:=Ik L i (mem_ready.1 k).1;omega
  exact⟨g,hd L a w c j g⟩
 | succ fuel ih=>
  intro L a w c p j;refine⟨λg=>hd L a w c j g,λi k=>?_⟩;obtain⟨m,o,n,f⟩:=mem_ready.1 k;refine wpOp_step n λK q=>hs L a w i o c n m f j K λa' w' h=>q a' w' (ih _ _ _ (by simpa using c) ?_ h);have:=Ik L i m;omega
theorem Il {id:Nat}{a:Act}{w:World} (hm:P.follows .mixedOrders=true) (Inv:Array Bool->Act->World->Prop)
  (h0:Inv (Array.replicate ops.size false) a w.drew)
  (hs: ∀(L:Array Bool) (a:Act) (w:World) (i:Nat) (o:Oper),L.size=ops.size->ops[i]?=some o->L.getD i true=false->(∀e∈o.after,Region.binds .any e=true->L.getD e.on false=true)->Inv L a w->
   ∀K:Act->World->Prop,(∀a' w',Inv (L.setIfInBounds i true) a' w'->K a' w')->if Region.wanted o (yielded ops a.tmps)=true then o.wp P a w K Q else K (a.put o.dst undef) w)
  (hd: ∀(L:Array Bool) (a:Act) (w:World),L.size=ops.size->Inv L a w->Region.ready .any ops L= []->Q .normal a w):(Code.region id ops true).wp P Q a w:=by
 refine wp_region_any hm (Sh Inv hs hd ops.size _ a _ e_ ?_ h0);rw[Array.toList_replicate,List.countP_replicate];split<;>omega
end
def tQ (ops:Array Oper):Bool:=(List.range ops.size).all λi=>match ops[i]? with
 | some o=>o.after.toList.all (λe=>!Region.binds .any e||decide (e.on<i))&&o.guard.isNone
 | none=>true
theorem Cw {ops:Array Oper} (h:tQ ops=true) {i:Nat}{o:Oper} (ho:ops[i]?=some o):(∀e∈o.after,Region.binds .any e=true->e.on<i)/\o.guard=none:=by
 have b:=(lI.1 ho).1;have:=gW.1 h i (List.mem_range.2 b);rw[ho] at this;simp only[fK] at this;refine⟨λe c f=>?_,Option.isNone_iff_eq_none.1 this.2⟩;have:=gW.1 this.1 e (Array.mem_toList_iff.2 c);exact oa
theorem Si {ops:Array Oper} (h:tQ ops=true) {L:Array Bool} (hL:L.size=ops.size) (hr:Region.ready .any ops L= []): ∀i,i<ops.size->L.getD i false=true:=by
 have DC:=trivial;exact u7
def cS (t:Array Value) (v:Nat->Value):List Nat->Array Value
 | []=>t
 | k::ks=>(cS t v ks).setIfInBounds k (v k)
theorem zJ (t:Array Value) (v:Nat->Value): ∀ks,(cS t v ks).size=t.size
 | []=>rfl
 | k::ks=>by rw[cS,Array.size_setIfInBounds,zJ t v ks]
theorem Cx (t:Array Value) (v:Nat->Value) (j:Nat) (hj:j<t.size): ∀ks,(cS t v ks)[j]?=if j∈ks then some (v j) else t[j]?
 | []=>by simp[cS]
 | k ::ks=>by
  rw[cS,Im];by_cases h:k=j
  ·subst h;rw[if_pos rfl,zJ,if_pos hj,if_pos lN]
  ·rw[if_neg h,Cx t v j hj ks];by_cases hm:j∈ks
   ·rw[if_pos hm,if_pos (List.mem_cons_of_mem _ hm)]
   ·rw[if_neg hm,if_neg (by
     rw[fY];rintro(h2 | h2)
     ·exact h h2.symm
     ·exact hm h2)]
def aY (d:Nat->Bool) (i:Nat):Nat->Bool:=λj=>if j=i then true else d j
def cB (v:Nat->Value) (t:Option Tmp) (x:Value):Nat->Value:=match t with
 | some t=>λk=>if k=t then x else v k
 | none=>v
theorem zK (a:Act) (t:Option Tmp) (x:Value) (ht: ∀k,t=some k->k<a.tmps.size):(λk=>(a.put t x).tmps.getD k undef)=cB (λk=>a.tmps.getD k undef) t x:=by
 funext k;cases t with
 | none=>rfl
 | some t=>
  show (a.tmps.setIfInBounds t x).getD k undef=if k=t then x else a.tmps.getD k undef;rw[aI,Im];by_cases h:t=k
  ·subst h;rw[if_pos rfl,if_pos (ht t rfl),if_pos rfl];rfl
  ·rw[if_neg h,if_neg (Ne.symm h),aI]
theorem In (L:Array Bool) (i:Nat) (hi:i<L.size):(λj=>(L.setIfInBounds i true).getD j false)=aY (λj=>L.getD j false) i:=by
 funext j;unfold aY;rw[aI,Im];by_cases h:i=j
 ·subst h;rw[if_pos rfl,if_pos hi,if_pos rfl];rfl
 ·rw[if_neg h,if_neg (Ne.symm h)];show _=L.getD j false;rw[aI]
def rV (ops:Array Oper) (K:List Nat) (n:Nat):Bool:=ops.toList.all λo=>match o.dst with
 | some t=>K.contains t&&decide (t<n)
 | none=>true
theorem vO {ops:Array Oper}{K:List Nat}{n:Nat} (h:rV ops K n=true) {i:Nat}{o:Oper} (ho:ops[i]?=some o): ∀t,o.dst=some t->t∈K/\t<n:=by
 intro t b;have:=gW.1 h o (Array.mem_toList_iff.2 (Array.mem_of_getElem? ho));rw[b] at this;simp only[fK,jS] at this;exact⟨by simpa using this.1,this.2⟩
theorem tR {P:Program}{ops:Array Oper}{Q:Exit->Act->World->Prop}{id:Nat}{a0:Act}{w0:World} (hm:P.follows .mixedOrders=true) (K:List Nat) (n:Nat) (hn:a0.tmps.size=n) (hback:tQ ops=true) (hdst:rV ops K n=true)
  (F:(Nat->Bool)->(Nat->Value)->World->Prop) (h0:F (λ_=>false) (λk=>a0.tmps.getD k undef) w0.drew)
  (hs: ∀(d:Nat->Bool) (a:Act) (w:World) (i:Nat) (o:Oper),ops[i]?=some o->d i=false->(∀e∈o.after,Region.binds .any e=true->d e.on=true)->(∀k,k ∉ K->a.tmps.getD k undef=a0.tmps.getD k undef)->F d (λk=>a.tmps.getD k undef) w->
   ∀R:Act->World->Prop,(∀x w',F (aY d i) (cB (λk=>a.tmps.getD k undef) o.dst x) w'->R (a.put o.dst x) w')->o.wp P a w R Q)
  (hd: ∀(v:Nat->Value) (w:World),F (λi=>decide (i<ops.size)) v w->Q .normal { a0 with tmps:=cS a0.tmps v K } w):(Code.region id ops true).wp P Q a0 w0:=by
 have ym:=trivial;exact qq
section
variable {dst dead:Nat->Nat}{own:Nat->Bool}{claim:Nat->Value->World->Prop}{B:Nat}{w0 w w':World}{d:Nat->Bool}{v:Nat->Value}
theorem cL {d:Nat->Bool}{i j:Nat} (h:j≠i):aY d i j=d j:=if_neg h
theorem kC {d:Nat->Bool}{i:Nat}:aY d i i=true:=if_pos rfl
end
end
end Go.Proofs.YtfhjncbdgjlcoaaGreatDoor
