import Derived.Test.YtfhjncbdgjlcoaaGreatDoorYn3
import Derived.Deep.AppendLies
set_option linter.unusedVariables false
set_option linter.unusedSimpArgs false
namespace Go.Proofs.YtfhjncbdgjlcoaaGreatDoor
open Tryz
section
open Go.Lib
def gL (txt:aC) (s:Sp):aB:=if s.2<s.1\/txt.length<s.2 then [] else(txt.take s.2).drop s.1
def nZ (k:Nat) (s:aB):aB:=if k=2 then s else if k=3 then kS (eF s).1 else if k=4 then(eH s).1 else []
def eS (txt:aC) (ns:List aM) (k:Nat):aB:=match ns[k]? with
 | some x=>(eH (gL txt x.key)).1
 | none=> []
def bJ (txt:aC) (ns:List aM):Nat->Nat->VT
 | 0,_=> .mk 0 [] [] []
 | f+1,k=>match ns[k]? with
  | none=> .mk 0 [] [] []
  | some x=> .mk (x.kind:Int) (nZ x.kind (gL txt (x.sf,x.st))) (if x.kind=6 then x.kids.map (eS txt ns) else []) (x.kids.map (bJ txt ns f))
def eV (P:Nat->Nat->Prop):List Nat->Nat->Nat->Prop
 | [],a,hi=>a=hi
 | kid::l,a,hi=>kid=a/\ ∃m,P kid m/\eV P l m hi
theorem eV.snoc {P:Nat->Nat->Prop}{hi:Nat}: ∀ {l:List Nat}{a k:Nat},eV P l a k->P k hi->eV P (l++ [k]) a hi
 | [],a,k,h,hp=>by
  have e:a=k:=h;exact⟨e.symm,hi,hp,rfl⟩
 | x::l,a,k,h,hp=>by
  obtain⟨b,m,f,c⟩:=h;exact⟨b,m,f,c.snoc hp⟩
def fR (ns:List aM):Nat->Nat->Nat->Prop
 | 0,_,_=>False
 | lv+1,k,hi=> ∃x,ns[k]?=some x/\eV (fR ns lv) x.kids (k+1) hi
theorem eV.imp {P Q:Nat->Nat->Prop} (hi:Nat) (hlt: ∀k m,P k m->k<m): ∀ {l:List Nat}{a:Nat},eV P l a hi->(∀k m,a<=k->m<=hi->P k m->Q k m)->eV Q l a hi
 | [],a,h,_=>h
 | x::l,a,h,hq=>by
  obtain⟨rfl,m,h2,h3⟩:=h;have b: ∀ {l:List Nat}{a:Nat},eV P l a hi->a<=hi:=by
   intro l
   induction l with
   | nil=>intro a h;exact mP h
   | cons y l ih=>
    intro a h;obtain⟨rfl,m,h2,h3⟩:=h;have:=ih h3;have:=hlt _ _ h2;omega
  have h4:=hlt _ _ h2;exact⟨rfl,m,hq _ _ (aF _) (b h3) h2,h3.imp hi hlt (λk m' h5 c e=>hq k m' a_ c e)⟩
theorem fR.lt {ns:List aM}: ∀ {lv k hi:Nat},fR ns lv k hi->k<hi
 | lv+1,k,hi,h=>by
  obtain⟨x,hx,h2⟩:=h;have: ∀(l:List Nat) (a:Nat),eV (fR ns lv) l a hi->a<=hi:=by
   intro l
   induction l with
   | nil=>intro a h;exact mP h
   | cons y l ih=>
    intro a h;obtain⟨rfl,m,h2,b⟩:=h;have:=ih m b;have:=fR.lt h2;omega
  have:=this _ _ h2;omega
theorem fR.mono {ns ns':List aM}: ∀ {lv k hi:Nat},fR ns lv k hi->(∀j y,k<=j->j<hi->ns[j]?=some y-> ∃y',ns'[j]?=some y'/\y'.kids=y.kids)->fR ns' lv k hi
 | lv+1,k,hi,h,hs=>by
  have hlt:=h.lt;obtain⟨x,e,c⟩:=h;obtain⟨x',b,f⟩:=hs k x (aF _) hlt e;refine⟨x',b,?_⟩;rw[f];exact c.imp hi (λ_ _=>fR.lt) (λa m h3 h4 g=>g.mono (λj y h6 h7=>hs j y a_ a_))
def zY (lv:Nat) (V:VF):Prop:= ∀rest last nodes key r l ns,V rest last nodes key= .ok r l ns->fR ns lv nodes.length ns.length
theorem Tz {txt:aC}{V:VF}{lv:Nat} (hV:zY lv V) {obj:Bool}{had had':List aC}{rest r:List aR}{last l:Sp}{nodes ns:List aM} (h:gU txt V obj had rest last nodes=(.ok r l ns,had')):fR ns lv nodes.length ns.length:=by
 unfold gU at h;split at h
 .exact ii
 .split at h
  .exact ae
  .split at h
   .exact ae
   .split at h
    .exact ae
    .split at h
     .exact ae
     .split at h
      .exact ae
      .exact ii
theorem Ds {txt:aC}{V:VF}{lv:Nat} (hV:zY lv V) (hE:sV V) {closing:Nat}{obj:Bool}{pre:List aM}: ∀(f:Nat) {had:List aC}{rest:List aR}{last:Sp}{nodes:List aM}{r:List aR}{l:Sp}{ns:List aM}{x:aM}{post:List aM},
  gK pre x post nodes->eV (fR nodes lv) x.kids (pre.length+1) nodes.length->jF txt V closing obj pre.length f had rest last nodes= .ok r l ns-> ∃x' post',gK pre x' post' ns/\eV (fR ns lv) x'.kids (pre.length+1) ns.length
 | 0,_,_,_,_,_,_,_,_,_,_,_,h=>by cases h
 | f +1,had,rest,last,nodes,r,l,ns,x,post,hm,hK,h=>by
  unfold jF at h;split at h
  .cases h
  .rename_i r1 l1 ns1 had1 hk;have ht:=Tz hV hk;obtain⟨b,rfl,s,h3,⟨kk,h4⟩,A⟩:=zP hE hk;split at h
   .cases h
   .rename_i t r';have n:=hm.add A s nodes.length (last.2,t.sf);have g: ∀j y,pre.length+1<=j->(nodes++b)[j]?=some y-> ∃y',(fB pre.length nodes.length (last.2,t.sf) (nodes++b))[j]?=some y'/\y'.kids=y.kids:=by
     intro j y hj q;unfold fB;rw[zO,if_neg a_];exact⟨y,q,rfl⟩
    have hml:=Tr hm;have i:eV (fR (fB pre.length nodes.length (last.2,t.sf) (nodes++b)) lv) (x.kids++ [nodes.length]) (pre.length+1) (fB pre.length nodes.length (last.2,t.sf) (nodes++b)).length:=by
     have e:(fB pre.length nodes.length (last.2,t.sf) (nodes++b)).length=(nodes++b).length:=mO _ _ _;rw[e];refine eV.snoc (hK.imp _ (λ_ _=>fR.lt) (λk m h6 h7 p=>p.mono (λj y u o c=>?_))) (ht.mono (λj y u o c=>g j y a_ c));exact g j y a_ (by rw[oV a_];exact c)
    split at h
    .injection h with e1 e2 e3;subst e3;exact⟨_,_,n,i⟩
    .split at h
     .exact Ds hV hE f n i h
     .cases h
theorem Jj {txt:aC}{V:VF}{lv:Nat} (hV:zY lv V) (hE:sV V) {closing:Nat}{obj:Bool}{pre:List aM}{rest:List aR}{last:Sp}{nodes:List aM}{r:List aR}{l:Sp}{ns:List aM}{x:aM}{post:List aM}
  (hm:gK pre x post nodes) (hK:eV (fR nodes lv) x.kids (pre.length+1) nodes.length) (h:gV txt V closing obj pre.length rest last nodes= .ok r l ns): ∃x' post',gK pre x' post' ns/\eV (fR ns lv) x'.kids (pre.length+1) ns.length:=by
 unfold gV at h;split at h
 .exact Ds hV hE _ hm hK h
 .split at h
  .injection h with h1 h2 b;subst b;exact⟨x,post,hm,hK⟩
  .exact Ds hV hE _ hm hK h
theorem Jk (txt:aC): ∀lv,zY lv (bS txt lv)
 | 0=>λrest last nodes key r l ns h=>by
  unfold bS at h;split at h<;>cases h
 | lv +1=>λrest last nodes key r l ns h=>by
  have ih:=Jk txt lv;have ie:=nY txt lv;cases rest with
  | nil=>
   unfold bS at h;rw[if_pos (show eD (dY [])=0 from rfl)] at h;cases h
  | cons t q=>
   unfold bS at h;split at h
   .cases h
   .split at h
    .cases h
    .simp only[] at h;obtain⟨c,i,rfl⟩:=Iv h;have g:gK nodes ⟨eD t.kind,t.sf,t.st,key,[],[]⟩ [] (nodes++ [⟨eD t.kind,t.sf,t.st,key,[],[]⟩]):=⟨rfl,aF _,aF _,λy u=>by cases u⟩;have e:eV (fR (nodes++ [(⟨eD t.kind,t.sf,t.st,key,[],[]⟩:aM)]) lv) ([]:List Nat) (nodes.length+1) (nodes++ [(⟨eD t.kind,t.sf,t.st,key,[],[]⟩:aM)]).length:=by
      show nodes.length+1=_;rw[aZ,dF]
     have f: ∀ {x':aM}{b:List aM},gK nodes x' b c->eV (fR c lv) x'.kids (nodes.length+1) c.length->fR (mN nodes.length l.2 c) (lv+1) nodes.length (mN nodes.length l.2 c).length:=by
      intro x' b x A;have n:(mN nodes.length l.2 c).length=c.length:=mO _ _ _;have o:=Tq x;refine⟨{ x' with st:=l.2 },?_,?_⟩
      .unfold mN;rw[zO,if_pos rfl,o];rfl
      .rw[n];refine A.imp _ (λ_ _=>fR.lt) (λk m h6 h7 s=>s.mono (λj y h9 h10 p=>?_));refine⟨y,?_,rfl⟩;unfold mN;rw[zO,if_neg a_];exact p
     split at i
     .obtain⟨x',b,i1,i2⟩:=Jj ih ie g e i;exact f i1 i2
     .split at i
      .obtain⟨x',b,i1,i2⟩:=Jj ih ie g e i;exact f i1 i2
      .injection i with h2 h3 C;subst C;exact f g e
theorem zZ {s:aC}{ns:List aM}{n:Int} (h:gE s=(ns,n,0)):fR ns 32 0 ns.length:=by
 obtain⟨hs,T,l,ns',hT,c,b⟩:=Iz (s:=s) (by rw[h]);rw[h] at b;injection b with e1 e2;subst e1;exact Jk s 32 _ _ _ _ _ _ _ c
theorem eV.mem {P:Nat->Nat->Prop}{hi:Nat}: ∀ {l:List Nat}{a:Nat},eV P l a hi-> ∀k∈l,∃m,P k m
 | [],_,_,k,hk=>by cases hk
 | x::l,a,h,k,hk=>by
  obtain⟨rfl,m,h2,h3⟩:=h;rcases fT.1 hk with rfl | hk
  .exact⟨m,h2⟩
  .exact h3.mem k hk
theorem fR.kid {ns:List aM}{lv k hi:Nat} (h:fR ns (lv+1) k hi) {x:aM} (hx:ns[k]?=some x) {q:Nat} (hq:q∈x.kids):(∃m,fR ns lv q m)/\q<ns.length:=by
 obtain⟨x',b,f⟩:=h;rw[hx] at b;injection b with e;subst e;obtain⟨m,c⟩:=f.mem q hq;refine⟨⟨m,c⟩,?_⟩;cases lv with
 | zero=>exact c.elim
 | succ lv=>
  obtain⟨y,g,_⟩:=c;exact(aW.1 g).1
end
section
open Go.RowKit
open Go.Lib hiding intOf
def uJ (w:World):Prop:=w.cell? (5,15)=some (.int .u8 4)
theorem uJ.keep {w w':World} (h:uJ w) (hb:aA w w'):uJ w':=by
 unfold uJ at h ⊢;rw[hb.cell (p:=⟨_,_,none⟩) (vP h),h]
theorem Ua {A B:World} (h:aA A B):A.grownBy B none:=⟨h.os,h.tape,h.output,h.size,λi b _=>h.block i b⟩
theorem iP {B size:Nat}{e:TypeId}{A W:World}{v:Value}{n:Nat}{xs:List Value} (h:A.ownsRow B e size v n xs) (hb:aA A W):W.ownsRow B e size v n xs:=
 h.kept (Ua hb) (by cases h:v.ownBlock with
  | none=>exact .inl rfl
  | some k=>exact .inr e_)
theorem gW {w:World}{B1 B2:Nat}{e1 e2:TypeId}{s1 s2:Nat}{v1 v2:Value}{n1 n2:Nat}{x1 x2:List Value} (h1:w.ownsRow B1 e1 s1 v1 n1 x1) (h2:w.ownsRow B2 e2 s2 v2 n2 x2) (he:e1≠e2):v1.ownBlock=none\/v1.ownBlock≠v2.ownBlock:=by
 rcases h1.2 with⟨rfl,_⟩ | ⟨g,cap,cur,rfl,_,e,_⟩
 .exact .inl rfl
 .right;rcases h2.2 with⟨rfl,_⟩ | ⟨g2,cap2,cur2,rfl,_,b,_⟩
  .intro h;cases h
  .intro h;have c:g=g2:=bA h;subst c;rw[e] at b;injection b with b;injection b with _ b;exact he b
theorem dG {w:World}{B:Nat}{e t:TypeId}{s:Nat}{v:Value}{n:Nat}{xs:List Value}{X:Nat}{cs:Array Value}{fz:Nat×Nat} (h:w.ownsRow B e s v n xs) (hX:w.heap[X]?=some (.cells cs t fz)) (he:e≠t):v.ownBlock=none\/v.ownBlock≠some X:=by
 rcases h.2 with⟨rfl,_⟩ | ⟨g,cap,cur,rfl,_,f,_⟩
 .exact .inl rfl
 .refine .inr λc=>?_;have b:g=X:=bA c;subst b;rw[f] at hX;injection hX with hX;injection hX with _ hX;exact he hX
def dO (w:World) (P:Nat) (txt:aC) (rv:Value) (l:Sp) (nv:Value) (a:Nat) (er:Int):Prop:=
 w.heap[P]?=some (.cells #[bs txt,rv,l.1,l.2,nv,a,er] 179 (0,0))
abbrev Ub (w:World) (P:Nat) (txt:List UInt8) (rv:Value) (l:Sp) (nv:Value) (a:Nat) (er:Int):Prop:=
 w.cell? (P,0)=some (.string (bs txt))/\w.cell? (P,1)=some rv/\w.cell? (P,2)=some (.int .i64 l.1)/\w.cell? (P,3)=some (.int .i64 l.2)/\w.cell? (P,4)=some nv/\
 w.cell? (P,5)=some (.int .i64 a)/\w.cell? (P,6)=some (.int .i64 er)/\
 w.frozen? ⟨P,1,none⟩=false/\w.frozen? ⟨P,2,none⟩=false/\w.frozen? ⟨P,3,none⟩=false/\w.frozen? ⟨P,4,none⟩=false/\w.frozen? ⟨P,5,none⟩=false/\w.frozen? ⟨P,6,none⟩=false
section
variable {w w':World}{P:Nat}{txt:aC}{rv nv:Value}{l:Sp}{a:Nat}{er:Int}
theorem dO.cells (h:dO w P txt rv l nv a er):Ub w P txt rv l nv a er:=by
 unfold dO at h;refine⟨?_,?_,?_,?_,?_,?_,?_,?_,?_,?_,?_,?_,?_⟩<;>simp[World.cell?,World.frozen?,h]
theorem dO.lt (h:dO w P txt rv l nv a er):P<w.heap.size:=aG h
theorem dO.keep (h:dO w P txt rv l nv a er) (hb:aA w w'):dO w' P txt rv l nv a er:=(hb.block P h.lt).trans h
end
def TV (w:World) (v:Value) (ts:List aR):Prop:= ∃p c,v= .slice p ts.length c/\ts.length<=c/\(ts= []\/ ∃g o cur,p=some ⟨g,o,none⟩/\w.heap[g]?=some (.cells cur 163 (0,0))/\
 ∀(j:Nat) (t:aR),ts[j]?=some t->w.cell? ⟨g,o+j*3,none⟩=some (.int .i64 t.kind)/\w.cell? ⟨g,o+j*3+1,none⟩=some (.int .i64 t.sf)/\w.cell? ⟨g,o+j*3+2,none⟩=some (.int .i64 t.st))
theorem jQ {w w':World}{g:Nat} (h:w'.heap[g]?=w.heap[g]?) (o:Nat):w'.cell? (g,o)=w.cell? (g,o):=by
 unfold World.cell?;simp only[h]
theorem TV.same {w w':World}{v:Value}{ts:List aR} (h:TV w v ts) (hs: ∀(g:Nat) (cur:Array Value),w.heap[g]?=some (.cells cur 163 (0,0))->w'.heap[g]?=w.heap[g]?):TV w' v ts:=by
 obtain⟨p,c,k,i,b⟩:=h;refine⟨p,c,k,i,?_⟩;rcases b with b | ⟨g,o,cur,b,f,m⟩
 .exact .inl b
 .have e:=hs g cur f;refine .inr ⟨g,o,cur,b,e.trans f,λj t n=>?_⟩;rw[jQ e,jQ e,jQ e];exact m j t n
theorem TV.keep {w w':World}{v:Value}{ts:List aR} (h:TV w v ts) (hb:aA w w'):TV w' v ts:=h.same (λg cur b=>hb.block g (aG b))
theorem TV.head {w:World}{v:Value}{t:aR}{r:List aR} (h:TV w v (t::r)): ∃g o c,v= .slice (some ⟨g,o,none⟩) (r.length+1) c/\r.length+1<=c/\w.cell? ⟨g,o,none⟩=some (.int .i64 t.kind)/\w.cell? ⟨g,o+1,none⟩=some (.int .i64 t.sf)/\w.cell? ⟨g,o+2,none⟩=some (.int .i64 t.st)/\
  TV w (.slice (if c=1 then some ⟨g,o,none⟩ else some ⟨g,o+3,none⟩) r.length (c-1)) r:=by
 obtain⟨p,c,k,f,i⟩:=h;rcases i with i | ⟨g,o,e,rfl,n,m⟩
 .cases i
 .simp only[bM] at k f;have b:=m 0 t rfl;rw[Nat.zero_mul,Nat.add_zero] at b;refine⟨g,o,c,k,f,b.1,b.2.1,b.2.2,_,_,rfl,a_,?_⟩;cases r with
  | nil=>exact .inl rfl
  | cons u r=>
   refine .inr ⟨g,o+3,e,if_neg (by simp only[bM] at f;omega),n,λj t q=>?_⟩;have:=m (j+1) t (by simpa using q);rw[show o+(j+1)*3=o+3+j*3 by omega] at this;exact this
theorem TV.empty {w:World}{v:Value} (h:TV w v []): ∃p c,v= .slice p 0 c:=by
 obtain⟨p,c,b,_⟩:=h;exact⟨p,c,b⟩
abbrev ND:=aM×Value×Value
def dH (l:List Nat):List Value:=l.map fun(k:Nat)=>Value.int .i64 (k:Int)
def lS (l:List Sp):List Value:=l.flatMap λs=> [s.1,s.2]
def gP (y:ND):List Value:= [y.1.kind,y.1.sf,y.1.st,y.1.key.1,y.1.key.2,y.2.1,y.2.2]
def jR (z:List ND):List Value:=z.flatMap gP
theorem xR (y:ND) (z:List ND):jR (y::z)=gP y++jR z:=rfl
theorem xS: ∀(z:List ND) (j:Nat) (y:ND),z[j]?=some y-> ∀i,i<7->(jR z)[j*7+i]?=(gP y)[i]?
 | [],j,y,h,i,hi=>by simp at h
 | x::z,0,y,h,i,hi=>by
  obtain rfl:x=y:=s'
  rw[xR,Nat.zero_mul,Nat.zero_add,oV (by simpa [gP] using hi)]
 | x::z,j+1,y,h,i,hi=>by
  rw[bY] at h;have:=xS z j y h i hi;rw[xR,lR (by simp[gP];omega),<-this];congr 1;simp[gP];omega
theorem Aa: ∀(z:List ND) (j:Nat) (y y':ND),z[j]?=some y-> ∀i u,i<7->(gP y).set i u=gP y'->(jR z).set (j*7+i) u=jR (z.set j y')
 | [],j,y,y',h,i,u,hi,hu=>by simp at h
 | x::z,0,y,y',h,i,u,hi,hu=>by
  obtain rfl:x=y:=s'
  rw[xR,Nat.zero_mul,Nat.zero_add,List.set_append_left _ _ (by simpa [gP] using hi),hu];rfl
 | x::z,j+1,y,y',h,i,u,hi,hu=>by
  rw[bY] at h;have:=Aa z j y y' h i u hi hu;rw[xR,List.set_append_right _ _ (by simp[gP];omega),cQ,xR,<-this];congr 2;simp[gP];omega
def sX (f:ND->Value) (z:List ND):Prop:= ∀(i j:Nat) (yi yj:ND),i≠j->z[i]?=some yi->z[j]?=some yj->(f yi).ownBlock=none\/(f yi).ownBlock≠(f yj).ownBlock
theorem sX.push {f:ND->Value}{z:List ND}{y:ND} (h:sX f z) (hy:(f y).ownBlock=none):sX f (z++ [y]):=by
 have DR:=trivial;exact wa
theorem sX.set {f:ND->Value}{z:List ND}{n:Nat}{y y':ND} (h:sX f z) (hn:z[n]?=some y) (hb:(f y').ownBlock=(f y).ownBlock\/ ∀(j:Nat) (yj:ND),z[j]?=some yj->(f yj).ownBlock≠(f y').ownBlock):sX f (z.set n y'):=IT
structure cK (B:Nat) (z:List ND) (nv:Value) (w:World):Prop where
 row:w.ownsRow B 167 7 nv z.length (jR z)
 kids: ∀y∈z,w.ownsRow B 3 1 y.2.1 y.1.kids.length (dH y.1.kids)
 pcs: ∀y∈z,w.ownsRow B 42 2 y.2.2 y.1.pcs.length (lS y.1.pcs)
 ak:sX (λy=>y.2.1) z
 ap:sX (λy=>y.2.2) z
section
variable {B:Nat}{z:List ND}{nv:Value}{w w' w1:World}
theorem cK.keep (h:cK B z nv w) (hb:aA w w'):cK B z nv w':=
 ⟨iP h.row hb,λy b=>iP (h.kids y b) hb,λy b=>iP (h.pcs y b) hb,h.ak,h.ap⟩
theorem cK.other (h:cK B z nv w) {X:Nat}{cs:Array Value}{t:TypeId}{fz:Nat×Nat} (hX:w.heap[X]?=some (.cells cs t fz)) (h1:167≠t) (h2:3≠t) (h3:42≠t) (hg:w.grownBy w' (some X)):cK B z nv w':=
 ⟨h.row.kept hg (dG h.row hX h1),λy b=>(h.kids y b).kept hg (dG (h.kids y b) hX h2),λy b=>(h.pcs y b).kept hg (dG (h.pcs y b) hX h3),h.ak,h.ap⟩
theorem cK.nil (B:Nat) (w:World):cK B [] (.slice none 0 0) w:=
 ⟨⟨rfl, .inl ⟨rfl,rfl⟩⟩,λy b=>(by cases b),λy b=>(by cases b),λi j yi yj _ h=>(by simp at h),λi j yi yj _ h=>(by simp at h)⟩
theorem cK.push (h:cK B z nv w) {nv':Value}{x:aM} (hk:x.kids= []) (hp:x.pcs= []) (hr:w'.ownsRow B 167 7 nv' (z.length+1) (jR z++gP (x, .slice none 0 0, .slice none 0 0))) (hg:w.grownBy w' nv.ownBlock):
  cK B (z++ [(x, .slice none 0 0, .slice none 0 0)]) nv' w':=by
 refine⟨?_,λy b=>?_,λy b=>?_,h.ak.push rfl,h.ap.push rfl⟩
 .have e:jR (z++ [(x, .slice none 0 0, .slice none 0 0)])=jR z++gP (x, .slice none 0 0, .slice none 0 0):=by unfold jR;simp
  rw[e,aZ];exact hr
 .exact FD
 .rcases pO.1 b with b | b
  .exact(h.pcs y b).kept hg (gW (h.pcs y b) h.row b_)
  .rw[kT.1 b];simp only[];rw[hp];exact⟨rfl, .inl ⟨rfl,rfl⟩⟩
theorem cK.form (h:cK B z nv w) (hz:z≠ []): ∃g cap cur,nv= .slice (some ⟨g,0,none⟩) z.length cap/\z.length<=cap/\B<=g/\w.heap[g]?=some (.cells cur 167 (0,0)):=km
theorem cK.slice (h:cK B z nv w): ∃p cap,nv= .slice p z.length cap:=by
 rcases h.row.2 with⟨h0,h1⟩ | ⟨g,cap,ec,h1,h2,h3,h4,_⟩
 .exact bi
 .exact bn
theorem cK.at_ {g cap:Nat} (h:cK B z (.slice (some ⟨g,0,none⟩) z.length cap) w) {n:Nat}{y:ND} (hy:z[n]?=some y) (i:Nat) (hi:i<7) {u:Value} (hu:(gP y)[i]?=some u):
  w.cell? (g,n*7+i)=some u/\w.frozen? ⟨g,n*7+i,none⟩=false:=by
 have hn:=(aW.1 hy).1;refine⟨?_,World.ownsRow.frozenAt h.row _⟩;rw[World.ownsRow.cellAt h.row _ a_,xS z n y hy i hi,hu]
theorem cK.field {g cap:Nat} (h:cK B z (.slice (some ⟨g,0,none⟩) z.length cap) w) {n:Nat}{y y':ND} (hy:z[n]?=some y) (i:Nat) (hi:i<7) (u:Value) (hu:(gP y).set i u=gP y') (hk:y'.1.kids=y.1.kids) (hp:y'.1.pcs=y.1.pcs) (h1:y'.2=y.2):
  cK B (z.set n y') (.slice (some ⟨g,0,none⟩) (z.set n y').length cap) (w.setCell ⟨g,n*7+i,none⟩ u):=by
 have NL:=trivial;exact I7
theorem cK.kid {g cap:Nat} (h:cK B z (.slice (some ⟨g,0,none⟩) z.length cap) w) {n k:Nat}{y:ND} (hy:z[n]?=some y) {kv:Value}{H:Nat} (hH:w.heap.size<=H)
  (hr:w1.ownsRow B 3 1 kv (y.1.kids.length+1) (dH y.1.kids++ [.int .i64 (k:Int)])) (hg:w.grownBy w1 y.2.1.ownBlock) (hat:kv.ownBlock=y.2.1.ownBlock\/kv.ownBlock=some H):
  cK B (z.set n ({ y.1 with kids:=y.1.kids++ [k] },kv,y.2.2)) (.slice (some ⟨g,0,none⟩) (z.set n ({ y.1 with kids:=y.1.kids++ [k] },kv,y.2.2)).length cap) (w1.setCell ⟨g,n*7+5,none⟩ kv):=by
 have MH:=trivial;exact IG
theorem cK.pc {g cap:Nat} (h:cK B z (.slice (some ⟨g,0,none⟩) z.length cap) w) {n:Nat}{k:Sp}{y:ND} (hy:z[n]?=some y) {kv:Value}{H:Nat} (hH:w.heap.size<=H)
  (hr:w1.ownsRow B 42 2 kv (y.1.pcs.length+1) (lS y.1.pcs++ [.int .i64 (k.1:Int), .int .i64 (k.2:Int)])) (hg:w.grownBy w1 y.2.2.ownBlock) (hat:kv.ownBlock=y.2.2.ownBlock\/kv.ownBlock=some H):
  cK B (z.set n ({ y.1 with pcs:=y.1.pcs++ [k] },y.2.1,kv)) (.slice (some ⟨g,0,none⟩) (z.set n ({ y.1 with pcs:=y.1.pcs++ [k] },y.2.1,kv)).length cap) (w1.setCell ⟨g,n*7+6,none⟩ kv):=by
 have MJ:=trivial;exact IG
end
def Ab (t:TypeId):Bool:=t==167||t==3||t==42
def Ac (o:Obj):Prop:=match o with
 | .cells _ t _=>Ab t=false
 | _=>True
structure Fr (B P:Nat) (w w':World):Prop where
 bel:Below B w w'
 sz:w.heap.size<=w'.heap.size
 blk: ∀(k:Nat) (o:Obj),w.heap[k]?=some o->k≠P->Ac o->w'.heap[k]?=some o
theorem Fr.trans {B P:Nat}{w w1 w2:World} (h1:Fr B P w w1) (h2:Fr B P w1 w2):Fr B P w w2:=
 ⟨h1.bel.trans h2.bel,bF h1.sz h2.sz,λk o c hP b=>h2.blk k o (h1.blk k o c hP b) hP b⟩
theorem Fr.refl (B P:Nat) (w:World):Fr B P w w:=⟨aD _ _,aF _,λ_ _ h _ _=>h⟩
theorem Fr.of_below {B P:Nat}{w w':World} (h:aA w w') (hB:B<=w.heap.size):Fr B P w w':=
 ⟨h.mono hB,h.size,λk o b _ _=>by rw[h.block k (aG b)];exact b⟩
theorem Fr.setP {B P i:Nat}{w:World}{u:Value} (hP:B<=P):Fr B P w (w.setCell ⟨P,i,none⟩ u):=
 ⟨(aD B w).setCell (p:=⟨P,i,none⟩) hP u,by simp[World.setCell],λk o c b _=>by rw[eW _ _ _ k b];exact c⟩
theorem Fr.setM {B P X i:Nat}{w:World}{u:Value}{cs:Array Value}{t:TypeId}{fz:Nat×Nat} (hX:w.heap[X]?=some (.cells cs t fz)) (ht:Ab t=true) (hB:B<=X):Fr B P w (w.setCell ⟨X,i,none⟩ u):=
 ⟨(aD B w).setCell (p:=⟨X,i,none⟩) hB u,by simp[World.setCell],λk o c hne b=>by rw[eW _ _ _ k (λe=>by subst e;rw[c] at hX;obtain rfl:=bA hX;unfold Ac at b;simp only[] at b;rw[ht] at b;cases b)];exact c⟩
theorem Fr.grown {B P:Nat}{w w':World}{e:TypeId}{s:Nat}{v:Value}{n:Nat}{xs:List Value} (hr:w.ownsRow B e s v n xs) (ht:Ab e=true) (hg:w.grownBy w' v.ownBlock) (hB:B<=w.heap.size):Fr B P w w':=
 ⟨(aD B w).grown hg hB (λk b=>(World.ownsRow.lt hr k b).1),hg.size,λk o b hne f=>by
  rw[hg.block k (aG b) (λe=>by
   rcases hr.2 with⟨rfl,_⟩ | ⟨g,cap,cur,rfl,_,c,_⟩
   .cases e
   .obtain rfl:k=g:=bA e;rw[b] at c;obtain rfl:=bA c;unfold Ac at f;simp only[] at f;rw[ht] at f;cases f)]
  exact b⟩
end
section
open Go.RowKit
section
variable {P:Program}{ops:Array Oper}{Q:Exit->Act->World->Prop}{md:Region.Mode}
theorem Jl (L:Array Bool) (i:Nat) (h:L.getD i true=false):(L.setIfInBounds i true).toList.countP (λb=>!b)+1=L.toList.countP (λb=>!b):=by
 have c:i<L.toList.length:=by
  rw[Array.length_toList];by_cases c:i<L.size
  .exact c
  .rw[aN,Array.getElem?_eq_none a_] at h;cases h
 have e:L.toList[i]=false:=by
  rw[aN,Array.getElem?_eq_getElem (by simpa using c)] at h;simpa using h
 rw[Array.toList_setIfInBounds,List.countP_set c,e];have:0<L.toList.countP (λb=>!b):=List.countP_pos_iff.2 ⟨false,by rw[<-e];exact List.getElem_mem c,rfl⟩;simp only[Bool.not_false,Bool.not_true,if_true,Bool.false_eq_true,if_false];omega
theorem Uc (Inv:Array Bool->Act->World->Prop)
  (hs: ∀(L:Array Bool) (a:Act) (w:World) (i:Nat) (o:Oper),L.size=ops.size->ops[i]?=some o->L.getD i true=false->(∀e∈o.after,Region.binds md e=true->L.getD e.on false=true)->Inv L a w->
   ∀K:Act->World->Prop,(∀a' w',Inv (L.setIfInBounds i true) a' w'->K a' w')->if Region.wanted o (yielded ops a.tmps)=true then o.wp P a w K Q else K (a.put o.dst undef) w)
  (hd: ∀(L:Array Bool) (a:Act) (w:World),L.size=ops.size->Inv L a w->Region.ready md ops L= []->Q .normal a w):
  ∀(fuel:Nat) (L:Array Bool) (a:Act) (w:World),L.size=ops.size->L.toList.countP (λb=>!b)<=fuel->Inv L a w->wpAny P md ops Q fuel L a w:=by
 intro fuel
 induction fuel with
 | zero=>
  intro L a w f q g;have j:Region.ready md ops L= []:=by
   rw[List.eq_nil_iff_forall_not_mem];intro i k;have:=Jl L i (mem_ready.1 k).1;omega
  exact⟨j,hd L a w f g j⟩
 | succ fuel ih=>
  intro L a w f q g;refine⟨λj=>hd L a w f g j,λi k=>?_⟩;obtain⟨n,o,m,c⟩:=mem_ready.1 k;refine wpOp_step m λK p=>hs L a w i o f m n c g K λa' w' h=>p a' w' (ih _ _ _ (by simpa using f) ?_ h);have:=Jl L i n;omega
theorem Jm {id:Nat}{a:Act}{w:World} (hm:P.follows .mixedOrders=true) (Inv:Array Bool->Act->World->Prop)
  (h0:Inv (Array.replicate ops.size false) a w.drew)
  (hs: ∀(L:Array Bool) (a:Act) (w:World) (i:Nat) (o:Oper),L.size=ops.size->ops[i]?=some o->L.getD i true=false->(∀e∈o.after,Region.binds .any e=true->L.getD e.on false=true)->Inv L a w->
   ∀K:Act->World->Prop,(∀a' w',Inv (L.setIfInBounds i true) a' w'->K a' w')->if Region.wanted o (yielded ops a.tmps)=true then o.wp P a w K Q else K (a.put o.dst undef) w)
  (hd: ∀(L:Array Bool) (a:Act) (w:World),L.size=ops.size->Inv L a w->Region.ready .any ops L= []->Q .normal a w):(Code.region id ops true).wp P Q a w:=by
 refine wp_region_any hm (Uc Inv hs hd ops.size _ a _ e_ ?_ h0);rw[Array.toList_replicate,List.countP_replicate];split<;>omega
end
def uK (ops:Array Oper):Bool:=(List.range ops.size).all λi=>match ops[i]? with
 | some o=>o.after.toList.all (λe=>!Region.binds .any e||decide (e.on<i))&&o.guard.isNone
 | none=>true
theorem Dt {ops:Array Oper} (h:uK ops=true) {i:Nat}{o:Oper} (ho:ops[i]?=some o):(∀e∈o.after,Region.binds .any e=true->e.on<i)/\o.guard=none:=by
 have c:=(mK.1 ho).1;have:=iN.1 h i (List.mem_range.2 c);rw[ho] at this;simp only[fQ] at this;refine⟨λe b f=>?_,Option.isNone_iff_eq_none.1 this.2⟩;have:=iN.1 this.1 e (Array.mem_toList_iff.2 b);exact o9
theorem Ud {ops:Array Oper} (h:uK ops=true) {L:Array Bool} (hL:L.size=ops.size) (hr:Region.ready .any ops L= []): ∀i,i<ops.size->L.getD i false=true:=by
 have OJ:=trivial;exact JT
def cU (t:Array Value) (v:Nat->Value):List Nat->Array Value
 | []=>t
 | k::ks=>(cU t v ks).setIfInBounds k (v k)
theorem Ad (t:Array Value) (v:Nat->Value): ∀ks,(cU t v ks).size=t.size
 | []=>rfl
 | k::ks=>by rw[cU,Array.size_setIfInBounds,Ad t v ks]
theorem Du (t:Array Value) (v:Nat->Value) (j:Nat) (hj:j<t.size): ∀ks,(cU t v ks)[j]?=if j∈ks then some (v j) else t[j]?
 | []=>by simp[cU]
 | k ::ks=>by
  rw[cU,Jn];by_cases h:k=j
  .subst h;rw[if_pos rfl,Ad,if_pos hj,if_pos kR]
  .rw[if_neg h,Du t v j hj ks];by_cases hm:j∈ks
   .rw[if_pos hm,if_pos (List.mem_cons_of_mem _ hm)]
   .rw[if_neg hm,if_neg (by
     rw[fT];rintro(h2 | h2)
     .exact h h2.symm
     .exact hm h2)]
def bE (d:Nat->Bool) (i:Nat):Nat->Bool:=λj=>if j=i then true else d j
def cE (v:Nat->Value) (t:Option Tmp) (x:Value):Nat->Value:=match t with
 | some t=>λk=>if k=t then x else v k
 | none=>v
theorem Ae (a:Act) (t:Option Tmp) (x:Value) (ht: ∀k,t=some k->k<a.tmps.size):(λk=>(a.put t x).tmps.getD k undef)=cE (λk=>a.tmps.getD k undef) t x:=by
 funext k;cases t with
 | none=>rfl
 | some t=>
  show (a.tmps.setIfInBounds t x).getD k undef=if k=t then x else a.tmps.getD k undef;rw[aN,Jn];by_cases h:t=k
  .subst h;rw[if_pos rfl,if_pos (ht t rfl),if_pos rfl];rfl
  .rw[if_neg h,if_neg (Ne.symm h),aN]
theorem Jo (L:Array Bool) (i:Nat) (hi:i<L.size):(λj=>(L.setIfInBounds i true).getD j false)=bE (λj=>L.getD j false) i:=by
 funext j;unfold bE;rw[aN,Jn];by_cases h:i=j
 .subst h;rw[if_pos rfl,if_pos hi,if_pos rfl];rfl
 .rw[if_neg h,if_neg (Ne.symm h)];show _=L.getD j false;rw[aN]
def rK (ops:Array Oper) (K:List Nat) (n:Nat):Bool:=ops.toList.all λo=>match o.dst with
 | some t=>K.contains t&&decide (t<n)
 | none=>true
theorem vX {ops:Array Oper}{K:List Nat}{n:Nat} (h:rK ops K n=true) {i:Nat}{o:Oper} (ho:ops[i]?=some o): ∀t,o.dst=some t->t∈K/\t<n:=by
 intro t b;have:=iN.1 h o (Array.mem_toList_iff.2 (Array.mem_of_getElem? ho));rw[b] at this;simp only[fQ,kB] at this;exact⟨by simpa using this.1,this.2⟩
theorem uL {P:Program}{ops:Array Oper}{Q:Exit->Act->World->Prop}{id:Nat}{a0:Act}{w0:World} (hm:P.follows .mixedOrders=true) (K:List Nat) (n:Nat) (hn:a0.tmps.size=n) (hback:uK ops=true) (hdst:rK ops K n=true)
  (F:(Nat->Bool)->(Nat->Value)->World->Prop) (h0:F (λ_=>false) (λk=>a0.tmps.getD k undef) w0.drew)
  (hs: ∀(d:Nat->Bool) (a:Act) (w:World) (i:Nat) (o:Oper),ops[i]?=some o->d i=false->(∀e∈o.after,Region.binds .any e=true->d e.on=true)->(∀k,k ∉ K->a.tmps.getD k undef=a0.tmps.getD k undef)->F d (λk=>a.tmps.getD k undef) w->
   ∀R:Act->World->Prop,(∀x w',F (bE d i) (cE (λk=>a.tmps.getD k undef) o.dst x) w'->R (a.put o.dst x) w')->o.wp P a w R Q)
  (hd: ∀(v:Nat->Value) (w:World),F (λi=>decide (i<ops.size)) v w->Q .normal { a0 with tmps:=cU a0.tmps v K } w):(Code.region id ops true).wp P Q a0 w0:=by
 have LP:=trivial;exact GZ
section
variable {dst dead:Nat->Nat}{own:Nat->Bool}{claim:Nat->Value->World->Prop}{B:Nat}{w0 w w':World}{d:Nat->Bool}{v:Nat->Value}
theorem cV {d:Nat->Bool}{i j:Nat} (h:j≠i):bE d i j=d j:=if_neg h
theorem kU {d:Nat->Bool}{i:Nat}:bE d i i=true:=if_pos rfl
end
end
end Go.Proofs.YtfhjncbdgjlcoaaGreatDoor
