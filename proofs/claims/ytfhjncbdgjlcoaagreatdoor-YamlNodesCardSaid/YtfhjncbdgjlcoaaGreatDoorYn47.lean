import Derived.Test.YtfhjncbdgjlcoaaGreatDoorYn44
import Derived.Test.YtfhjncbdgjlcoaaGreatDoorYn46
import Derived.Test.YtfhjncbdgjlcoaaGreatDoorCards
import Derived.Test.YtfhjncbdgjlcoaaGreatDoorTie
import Derived.Lib.LaidU8T
import Derived.PinnedBridge
import Derived.Lib.TrailingZeros
import Derived.Lib.SmallJoins
set_option linter.unusedVariables false
set_option linter.unusedSimpArgs false
set_option maxRecDepth 100000
set_option maxHeartbeats 16000000
namespace Go.Proofs.YtfhjncbdgjlcoaaGreatDoor
open Go.Proofs.Tryz
section
open Go.Lib
def Qw (s:aB) (lv:Nat) (x:aV):Prop:=x.kind=1->(gQ (dQ s x.rf x.rt)).1.depth<=lv
def kF (s:aB) (ns:List aV):Nat->Nat->Nat->Prop
 | 0,_,_=>False
 | lv+1,k,hi=> ∃x,ns[k]?=some x/\Qw s (lv+1) x/\eV (kF s ns lv) x.kids (k+1) hi
theorem kF.tky {s:aB}{ns:List aV}: ∀ {lv k hi:Nat},kF s ns lv k hi->eI ns lv k hi
 | lv+1,k,hi,⟨x,hx,_,h⟩=>⟨x,hx,h.monoP (λ_ _=>kF.tky)⟩
theorem kF.lt {s:aB}{ns:List aV}{lv k hi:Nat} (h:kF s ns lv k hi):k<hi:=h.tky.lt
theorem kF.mono {s:aB}{ns ns':List aV}: ∀ {lv k hi:Nat},kF s ns lv k hi->(∀j y,k<=j->j<hi->ns[j]?=some y->ns'[j]?=some y)->kF s ns' lv k hi
 | lv+1,k,hi,h,hm=>by
  have hkh:=h.lt;obtain⟨x,d,a,b⟩:=h;exact⟨x,hm k x (aF _) hkh d,a,b.imp hi (λk m h=>h.lt) (λk' m h5 h6 c=>c.mono (λj y h8 h9=>hm j y a_ a_))⟩
def zG (s:aB) (lv:Nat) (R:YR):Prop:=match R with
 | .ok n st'=>kF s st'.nodes lv n st'.nodes.length
 | .bad _ _=>True
def uB (s:aB) (sp:List (Nat×Nat)) (lv:Nat) (V:YB):Prop:= ∀k kf kt st,dR s sp st->k+1=st.lines.length->zG s lv (V k kf kt st)
theorem Qx {s:aB}{ns:List aV}{x:aV}{lv:Nat} (h0:lv≠0) (hd:Qw s lv x) (hx:x.kids= []):kF s (ns++ [x]) lv ns.length (ns++ [x]).length:=by
 cases lv with
 | zero=>exact absurd rfl h0
 | succ lv=>exact⟨x,e_,hd,by rw[hx];show ns.length+1=_;simp⟩
theorem Hs {s:aB}{lv k:Nat}{kf kt:Int}{st:YS}:zG s lv (iB s lv k kf kt st):=by
 unfold iB;split
 .trivial
 .rename_i n1 s1 b;obtain⟨rfl,rfl,c,_⟩:=mC b;simp only[];split
  .trivial
  .split
   .trivial
   .rename_i a;split
    .trivial
    .exact Qx c (λ_=>Nat.le_of_not_lt a) rfl
theorem aDK {s:aB}{sp:List (Nat×Nat)}{lv k:Nat}{kf kt:Int}{st:YS}:zG s lv (lK s sp lv k kf kt st):=by
 unfold lK;split
 .trivial
 .rename_i n1 s1 a;obtain⟨rfl,rfl,b,_⟩:=mC a;simp only[];split
  .trivial
  .exact Qx b (λe=>by cases e) rfl
theorem aDL {s:aB}{sp:List (Nat×Nat)} (hsp:dV s sp) {B:YB}{lv:Nat} (hB:uB s sp lv B):uB s sp lv (mY s sp B lv):=by
 intro k kf kt st c hk;unfold mY;simp only[];split
 .exact aDK
 .split
  .have b:=kP hsp (k:=k+1) (lines:=st.lines) a_ c.ls (λi h1 h2=>by omega);cases hm:eX s sp (k+1) st.lines with
   | bad a e=>trivial
   | ok nx ls=>
    rw[hm] at b;simp only[] at b ⊢;split
    .rename_i d;exact hB nx kf kt ⟨ls,st.nodes,st.total⟩ ⟨b.ok,c.tot⟩ (b.hit d.1).1.symm
    .exact Hs
  .exact Hs
theorem aDM {s:aB}{sp:List (Nat×Nat)}{V:YB}{m:Nat} (hV:uB s sp m V) (map:Bool) (had:List aB) {k:Nat}{st:YS} (hw:dR s sp st) (hk:k+1=st.lines.length):zG s m (eM s V map had k st).1:=by
 unfold eM;split
 .simp only[];split
  .trivial
  .split
   .trivial
   .exact hV _ _ _ _ hw hk
 .exact hV _ _ _ _ hw hk
theorem aDN {s:aB}{sp:List (Nat×Nat)}{V:YB} (hG:gS s sp V) {m:Nat} (hV:uB s sp m V) {map:Bool}{n:Nat}{ind:Int}{had had':List aB}{k nx:Nat}{st s3:YS} (hw:dR s sp st) (hk:k+1=st.lines.length) {x:aV} (hx:st.nodes[n]?=some x) (hK:eV (kF s st.nodes m) x.kids (n+1) st.nodes.length) (h:fW s sp V map n ind had k st= .ok nx s3 had'):
  ∃x',s3.nodes[n]?=some x'/\x'.kind=x.kind/\eV (kF s s3.nodes m) x'.kids (n+1) s3.nodes.length:=by
 have N6:=trivial;exact JI
theorem Qy {s:aB}{sp:List (Nat×Nat)} (hsp:dV s sp) {V:YB} (hG:gS s sp V) {m:Nat} (hV:uB s sp m V) {map:Bool}{n:Nat}{ind kind:Int}: ∀(f:Nat) (had:List aB) (k:Nat) (st:YS) (x:aV),
  dR s sp st->(k<sp.length->k+1=st.lines.length)->st.nodes[n]?=some x->x.kind≠1->eV (kF s st.nodes m) x.kids (n+1) st.nodes.length->zG s (m+1) (jM s sp V map n ind kind f had k st)
 | 0,had,k,st,x,hw,hk,hx,hx1,hK=>⟨x,hx,λe=>absurd e hx1,hK⟩
 | f+1,had,k,st,x,hw,hk,hx,hx1,hK=>by
  unfold jM;split
  .rename_i hc;cases ho:fW s sp V map n ind had k st with
   | bad a e=>trivial
   | ok nx s2 had'=>
    obtain⟨x',h1,hx1',h2⟩:=aDN hG hV hw (hk hc.1) hx hK ho;obtain⟨_,_,_,c,h4,h5,b⟩:=Cb hsp hG hw (hk hc.1) hx ho;exact Qy hsp hG hV f had' nx s2 x' c b h1 (by rw[hx1'];exact hx1) h2
  .exact⟨x,hx,λe=>absurd e hx1,hK⟩
theorem Qz {s:aB}{sp:List (Nat×Nat)} (hsp:dV s sp) {V:YB} (lv:Nat) (hG:lv≠0->gS s sp V) (hV: ∀m,lv=m+1->uB s sp m V):uB s sp lv (kZ s sp V lv):=by
 intro k kf kt st a b;unfold kZ;simp only[];split
 .exact Hs
 .split
  .trivial
  .rename_i n1 s1 c;obtain⟨rfl,rfl,d,h4⟩:=mC c;obtain⟨m,rfl⟩: ∃m,lv=m+1:=⟨lv-1,a_⟩;have htot:=a.tot;refine Qy hsp (hG d) (hV m rfl) _ _ _ _ _ ⟨a.ls,by simp only[aZ,dF];omega⟩ (λ_=>b) (by simp;rfl) GX ?_;show st.nodes.length+1=_;simp
theorem Ra {s:aB}{sp:List (Nat×Nat)} (hsp:dV s sp): ∀lv,uB s sp lv (oI s sp lv)
 | 0=>Qz hsp 0 (λh=>absurd rfl h) (λm h=>by omega)
 | lv+1=>Qz hsp (lv+1) (λ_=>yK hsp (pG hsp lv) lv) (λm h=>by obtain rfl:m=lv:=a_;exact aDL hsp (Ra hsp m))
structure vN (s:aB) (d:dU):Prop where
 treeD:kF s d.nodes 32 0 d.nodes.length
 cnt:d.nodes.length<=4096
 lns:d.lines.length<=(eY s).length
 ok:mB s (eY s) d.lines
theorem Rb {s:aB}{d:dU}{a:Int} (h:lL s (eY s)=(d,a,0)):vN s d:=G8
theorem vN.tree {s:aB}{d:dU} (h:vN s d):eI d.nodes 32 0 d.nodes.length:=h.treeD.tky
theorem eI.sub {ns:List aV}: ∀ {lv k hi:Nat},eI ns lv k hi-> ∀j,k<=j->j<hi-> ∃m,eI ns lv j m
 | lv+1,k,hi,h,j,h1,h2=>by
  by_cases hjk:j=k
  .subst hjk;exact⟨hi,h⟩
  .obtain⟨x,hx,hK⟩:=h;have b: ∀(l:List Nat) (a:Nat),eV (eI ns lv) l a hi->a<=j-> ∃m,eI ns lv j m:=by
    intro l
    induction l with
    | nil=>intro a h d;have:a=hi:=h;omega
    | cons y l ih=>
     intro a h d;obtain⟨rfl,m,f,e⟩:=h;by_cases c:m<=j
     .exact ih m e c
     .exact eI.sub f j d a_
   obtain⟨m,c⟩:=b _ _ hK a_;exact⟨m,c.up⟩
theorem Rc {P:Nat->Nat->Prop} (hlt: ∀k m,P k m->k<m) {hi:Nat}: ∀ {l:List Nat}{a:Nat},eV P l a hi->a+l.length<=hi
 | [],a,h=>mP h
 | y::l,a,h=>by
  obtain⟨rfl,m,h2,h3⟩:=h;have h4:=hlt _ _ h2;have:=Rc hlt h3;rw[bM];omega
theorem vN.node {s:aB}{d:dU} (h:vN s d) {k:Nat} (hk:k<d.nodes.length): ∃m,eI d.nodes 32 k m/\m<=d.nodes.length:=by
 obtain⟨m,b⟩:=h.tree.sub k (cI _) hk;refine⟨m,b,?_⟩;have: ∀ {lv k m:Nat},eI d.nodes lv k m->m<=d.nodes.length:=by
  intro lv
  induction lv with
  | zero=>intro k m h;exact h.elim
  | succ lv ih=>
   intro k m h;obtain⟨x,e,i⟩:=h;have hkl:=(aW.1 e).1;have: ∀(l:List Nat) (a:Nat),a<=d.nodes.length->eV (eI d.nodes lv) l a m->m<=d.nodes.length:=by
    intro l
    induction l with
    | nil=>intro a f h;have:a=m:=h;omega
    | cons y l ih2=>
     intro a f h;obtain⟨rfl,q,c,g⟩:=h;exact ih2 q (ih c) g
   exact this _ _ a_ i
 exact this b
theorem vN.kids {s:aB}{d:dU} (h:vN s d) {k:Nat}{x:aV} (hx:d.nodes[k]?=some x):x.kids.length<=4096:=by
 obtain⟨m,b,hml⟩:=h.node (aW.1 hx).1;obtain⟨x',a,c⟩:=b;rw[hx] at a;obtain rfl:=bA a;have:=Rc (λ_ _=>eI.lt) c;have:=h.cnt;omega
end
section
open Go.Lib hiding intOf
theorem Rd {s:aB} (h:s.length<=65536):mA s=lL s (eY s):=by unfold mA;rw[if_neg a_]
def mI (M:Nat) (ns:List aV):Prop:= ∀x∈ns,x.fr<=M/\x.til<=M
def Ht (M:Nat) (R:YR):Prop:= ∀n st,R= .ok n st->mI M st.nodes
def sM (M:Nat) (V:YB):Prop:= ∀k kf kt st,k<M->mI M st.nodes->Ht M (V k kf kt st)
theorem mI.snoc {M:Nat}{ns:List aV}{x:aV} (h:mI M ns) (hx:x.fr<=M/\x.til<=M):mI M (ns++ [x]):=by
 intro y b;rcases pO.1 b with a | a
 .exact h y a
 .rw[kT.1 a];exact hx
theorem mI.til {M:Nat}{ns:List aV} (h:mI M ns) (k:Nat):fF ns k<=M:=by
 unfold fF;split
 .rename_i x a;exact(h x (bH a)).2
 .exact cI _
theorem mI.mod {M:Nat}{f:aV->aV} (hf: ∀x:aV,x.fr<=M/\x.til<=M->(f x).fr<=M/\(f x).til<=M): ∀ {n:Nat}{ns:List aV},mI M ns->mI M (rY f n ns)
 | _,[],h=>by unfold rY;exact h
 | 0,x::l,h=>λy hy=>by
  rcases fT.1 hy with e | e
  .rw[e];exact hf x (h x (kR ..))
  .exact h y (List.mem_cons_of_mem _ e)
 | n+1,x::l,h=>λy hy=>by
  rcases fT.1 hy with e | e
  .rw[e];exact h x (kR ..)
  .exact mI.mod hf (n:=n) (ns:=l) (λz hz=>h z (List.mem_cons_of_mem _ hz)) y e
theorem Hu {s:aB}{ind:Int}{M:Nat}: ∀(r:List (Nat×Nat)) (i til first:Nat),til<=M->i+r.length<=M->jL s ind r i til first<=M
 | [],_,_,_,h,_=>h
 | x::r,i,til,first,h,h2=>by
  rw[bM] at h2;unfold jL;split
  .exact Hu r _ _ _ h a_
  .split
   .exact h
   .exact Hu r _ _ _ a_ a_
theorem Hv {s:aB}{lv M:Nat}:sM M (iB s lv):=by
 intro k kf kt st hk h n st' e;unfold iB at e;split at e
 .cases e
 .rename_i n1 s1 a;obtain⟨rfl,rfl,_,_⟩:=mC a;simp only[] at e;split at e
  .cases e
  .split at e
   .cases e
   .split at e
    .cases e
    .injection e with e1 e2;subst e2;exact h.snoc ⟨by simp only[];omega,by simp only[];omega⟩
theorem aDO {s:aB}{sp:List (Nat×Nat)}{lv:Nat}:sM sp.length (lK s sp lv):=by
 intro k kf kt st hk h n st' e;unfold lK at e;split at e
 .cases e
 .rename_i n1 s1 a;obtain⟨rfl,rfl,_,_⟩:=mC a;simp only[] at e;split at e
  .cases e
  .injection e with e1 e2;subst e2;refine h.snoc ⟨by simp only[];omega,?_⟩;exact Hu _ _ _ _ a_ DJ
theorem aDP {s:aB}{sp:List (Nat×Nat)}{B:YB}{lv:Nat} (hB:sM sp.length B):sM sp.length (mY s sp B lv):=by
 intro k kf kt st a h;unfold mY;simp only[];split
 .exact aDO k kf kt st a h
 .split
  .split
   .intro n st' e;cases e
   .rename_i nx ls hm;split
    .rename_i b;exact hB nx kf kt ⟨ls,st.nodes,st.total⟩ b.1 h
    .exact Hv k kf kt _ a h
  .exact Hv k kf kt _ a h
theorem aDQ {s:aB}{sp:List (Nat×Nat)}{V:YB} (hV:sM sp.length V) {map:Bool}{n:Nat}{ind:Int}{had had':List aB}{k nx:Nat}{st s3:YS} (hk:k<sp.length) (hN:mI sp.length st.nodes) (h:fW s sp V map n ind had k st= .ok nx s3 had'):mI sp.length s3.nodes:=by
 have c:Ht sp.length (eM s V map had k st).1:=by
  unfold eM;split
  .simp only[];split
   .intro n b e;cases e
   .split
    .intro n b e;cases e
    .exact hV _ _ _ _ hk hN
  .exact hV _ _ _ _ hk hN
 unfold fW at h;obtain⟨⟨Q,had2⟩,g⟩:=exQ<|eM s V map had k st;rw[g] at h c;cases Q with
 | bad a e=>cases h
 | ok kid s2=>
  have d:=c kid s2 rfl;simp only[] at h;split at h
  .cases h
  .split at h
   .cases h
   .injection h with e1 e2 e3;subst e2;exact mI.mod (f:=λx=> { x with kids:=x.kids++ [kid],til:=fF s2.nodes kid }) (λx i=>⟨i.1,d.til kid⟩) d
theorem Re {s:aB}{sp:List (Nat×Nat)}{V:YB} (hV:sM sp.length V) {map:Bool}{n:Nat}{ind kind:Int}: ∀(f:Nat) (had:List aB) (k:Nat) (st:YS),mI sp.length st.nodes->Ht sp.length (jM s sp V map n ind kind f had k st)
 | 0,had,k,st,h=>λn st' e=>by
  injection e with e1 e2;subst e2;exact h
 | f+1,had,k,st,h=>by
  unfold jM;split
  .rename_i hc;cases ho:fW s sp V map n ind had k st with
   | bad a e=>intro n st' e;cases e
   | ok nx s2 had'=>exact Re hV f had' nx s2 (aDQ hV hc.1 h ho)
  .intro n st' e;injection e with e1 e2;subst e2;exact h
theorem Rf {s:aB}{sp:List (Nat×Nat)}{V:YB} (lv:Nat) (hV:sM sp.length V):sM sp.length (kZ s sp V lv):=by
 intro k kf kt st a h;unfold kZ;simp only[];split
 .exact Hv k kf kt st a h
 .split
  .intro n st' e;cases e
  .rename_i n1 s1 b;obtain⟨rfl,rfl,_,_⟩:=mC b;exact Re hV _ _ _ _ (h.snoc ⟨by simp only[];omega,by simp only[];omega⟩)
theorem Rg {s:aB}{sp:List (Nat×Nat)}: ∀lv,sM sp.length (oI s sp lv)
 | 0=>Rf 0 (λ_ _ _ _ _ _ n st' e=>by cases e)
 | lv+1=>Rf (lv+1) (aDP (Rg lv))
theorem aDR {s:aB}{d:dU}{a er:Int} (h:lL s (eY s)=(d,a,er)):mI (eY s).length d.nodes:=by
 have g:=Rg (s:=s) (sp:=eY s) 32;unfold lL at h;split at h
 .exact ec
 .rename_i k ls hm;split at h
  .injection h with e1 e2;subst e1;intro x b;rw[kT.1 b];exact⟨cI _,cI _⟩
  .rename_i hk;have e:=g k 0 0 ⟨ls,[],0⟩ a_ (λx b=>by cases b)
   revert h
   split
   .intro h;exact ec
   .rename_i n st f;have c:=e n st f;split
    .intro h;exact ec
    .split
     .intro h;exact ec
     .intro h;injection h with e1 e2;subst e1;exact c
theorem xG (n:Nat) {t:VT} (h1:t.keys.length<=1073741824) (h2:t.items= []):nC n t:=by
 cases n with
 | zero=>trivial
 | succ n=>exact⟨h1,by rw[h2];exact cI _,λx a=>by rw[h2] at a;cases a⟩
theorem Rh {txt:aB}{ns:List aM} (hN:ns.length<=65536): ∀(lv k m n:Nat),fR ns lv k m->nC n (bJ txt ns lv k)
 | 0,_,_,_,h=>h.elim
 | lv+1,k,m,0,h=>trivial
 | lv+1,k,m,n+1,h=>by
  obtain⟨x,hx⟩: ∃x,ns[k]?=some x:=by obtain⟨x,hx,_⟩:=h;exact⟨x,hx⟩
  have hl:=Fc h hx hN;have c:bJ txt ns (lv+1) k= .mk (x.kind:Int) (nZ x.kind (gL txt (x.sf,x.st))) (if x.kind=6 then x.kids.map (eS txt ns) else []) (x.kids.map (bJ txt ns lv)):=by rw[bJ,hx]
  rw[c];refine⟨?_,?_,λy d=>?_⟩
  .show (if x.kind=6 then x.kids.map (eS txt ns) else []).length<=_;split
   .rw[bP];omega
   .exact cI _
  .show (x.kids.map (bJ txt ns lv)).length<=_;rw[bP];omega
  .obtain⟨q,b,rfl⟩:=qJ.1 (show y∈x.kids.map (bJ txt ns lv) from d);obtain⟨m2,a⟩:=(h.kid hx b).1;exact Rh hN lv q m2 n a
theorem aDS (t:aB) (n:Nat):nC n (gQ t).1:=by
 have e: ∀t,nC n (lW t):=λt=>by
  unfold lW
  repeat' split
  all_goals exact xG n (cI _) rfl
 have b:nC n eE:=xG n (cI _) rfl;cases t with
 | nil=>exact e []
 | cons c r=>
  unfold gQ;simp only[];split
  .split
   .exact b
   .exact xG n (cI _) rfl
  .split
   .unfold jV;split
    .exact b
    .rename_i he;obtain⟨_,_,_,ns,_,_,a⟩:=Iz (s:=c::r) a_;have d:=Av (c::r);have f:=zZ a;rw[a] at d;rw[a];exact Rh d 32 0 _ n f
   .split
    .exact e _
    .exact b
theorem Hw {s:aB}{d:dU} (hk: ∀(k:Nat) (x:aV),d.nodes[k]?=some x->x.kids.length<=4096): ∀(lv k n:Nat),nC n (aX s d lv k)
 | _,_,0=>trivial
 | 0,_,n+1=>xG (n+1) (cI _) rfl
 | lv +1,k,n+1=>by
  unfold aX;split
  .exact xG (n+1) (cI _) rfl
  .rename_i x hx;have hl:=hk k x hx;split
   .exact aDS _ _
   .split
    .exact xG (n+1) (cI _) rfl
    .refine⟨?_,?_,λy a=>?_⟩
     .show (if x.kind=3 then x.kids.map (lM s d.nodes) else []).length<=_;split
      .rw[bP];omega
      .exact cI _
     .show (x.kids.map (aX s d lv)).length<=_;rw[bP];omega
     .obtain⟨q,hq,rfl⟩:=qJ.1 (show y∈x.kids.map (aX s d lv) from a);exact Hw hk lv q n
structure aDT (s:aB) (d:dU):Prop where
 b:oM s d
 i: ∀l∈d.lines,l.ind<=1099511627776
 t:eI d.nodes 32 0 d.nodes.length
 c:d.nodes.length<=4096
 l: ∀n,nC n (aX s d 32 0)
theorem aDU {s:aB}{d:dU}{a:Int} (hs:s.length<=65536) (h:mA s=(d,a,0)):aDT s d:=by
 rw[Rd hs] at h;have b:=Rb h;have q:=aDR h;have m:(eY s).length<=s.length+1:=by
  unfold eY;rw[Bm];exact(tT s 0 0).1
 have c:d.lines.length<=s.length+1:=bF b.lns m;have o: ∀l∈d.lines,0<=l.ind/\l.ind<=(s.length:Int):=by
  intro l c;obtain⟨j,g,e⟩:=List.mem_iff_getElem.1 c;have p:=(b.ok.2 j g).ind;rw[show aU d.lines j=l by unfold aU;rw[bI g,e];rfl] at p;omega
 refine⟨⟨hs,a_,by have:=b.cnt;omega,λx f=>?_,λl c=>(o l c).1⟩,λl c=>by have:=(o l c).2;omega,b.tree,b.cnt,λn=>Hw (λk x f=>b.kids f) 32 0 n⟩;obtain⟨j,g,e⟩:=List.mem_iff_getElem.1 f;have i:d.nodes[j]?=some x:=by rw[bI g,e]
 have p:=q x f;have h2:=b.kids i;exact⟨a_,a_,a_⟩
end
section
open Go.RowKit
open Go.Lib hiding intOf
theorem GF.nc {sl:List Nat}{v0 vl:List Value}{S0 S:World->Prop}{d:Nat->Bool}{v:Nat->Value}{w' w2:World}{c k:Nat}{x:Value} (h:GF sl (lk v0) S0 d v w') (hS:S w2) (hx:x=lk vl c) (hag:wS [c] 0 vl=wS [c] 0 v0:=by rfl) (hk:sl[c]?=some k:=by rfl) (hnd:sl.Nodup:=by decide):GF sl (lk vl) S (bE d c) (cE v (some k) x) w2:=by
 refine⟨λj q b f=>?_,hS⟩;by_cases hji:j=c
 .exact FS
 .have g:q≠k:=λe=>hji (Nj hnd b JU);show (if q=k then x else v q)=lk vl j;rw[if_neg g];unfold bE at f;rw[if_neg hji] at f;rw[h.cl j q b f];have m:([c]:List Nat).contains (0+j)=false:=by simpa using hji
  rw[<-yP [c] v0 0 j m,<-yP [c] vl 0 j m,hag]
theorem Ri {P:Program}{ops:Array Oper}{Q:Exit->Act->World->Prop}{id:Nat}{a0:Act}{w0:World} (c:Nat) (sl:List Nat) (n:Nat) (vl:Value->List Value) (S:Option Value->World->Prop) (OR:List Nat) (h0:S none w0.drew)
  (hc: ∀(d:Nat->Bool) (a:Act) (w:World) (o:Oper),ops[c]?=some o->d c=false->(∀e∈o.after,Region.binds .any e=true->d e.on=true)->(∀k,k ∉ sl->a.tmps.getD k undef=a0.tmps.getD k undef)->GF sl (lk (vl undef)) (S none) d (λk=>a.tmps.getD k undef) w->
   ∀R:Act->World->Prop,(∀p x w',GF sl (lk (vl p)) (S (some p)) (bE d c) (cE (λk=>a.tmps.getD k undef) o.dst x) w'->R (a.put o.dst x) w')->if Region.wanted o (yielded ops a.tmps)=true then o.wp P a w R Q else R (a.put o.dst undef) w)
  (hs: ∀(p:Option Value) (d:Nat->Bool) (a:Act) (w:World) (i:Nat) (o:Oper),i∈OR->ops[i]?=some o->d i=false->d c=p.isSome->(∀e∈o.after,Region.binds .any e=true->d e.on=true)->(∀k,k ∉ sl->a.tmps.getD k undef=a0.tmps.getD k undef)->GF sl (lk (vl (p.getD undef))) (S p) d (λk=>a.tmps.getD k undef) w->
   ∀R:Act->World->Prop,(∀x w',GF sl (lk (vl (p.getD undef))) (S p) (bE d i) (cE (λk=>a.tmps.getD k undef) o.dst x) w'->R (a.put o.dst x) w')->if Region.wanted o (yielded ops a.tmps)=true then o.wp P a w R Q else R (a.put o.dst undef) w)
  (hd: ∀(p:Value) (w:World),S (some p) w->Q .normal { a0 with tmps:=iU a0.tmps sl (vl p) } w)
  (hm:P.follows .mixedOrders=true:=by kernel_rfl) (hn:a0.tmps.size=n:=by rfl) (hback:(yL ops&&rK ops sl n&&yN (c::OR) ops.size&&decide (sl.length<=ops.size)&&decide (c<ops.size))=true:=by kernel_rfl):(Code.region id ops true).wp P Q a0 w0:=by
 simp only[fQ] at hback;obtain⟨⟨⟨⟨z,t⟩,u⟩,y⟩,A⟩:=hback;refine Nd hm sl n hn z t (λd v w'=> ∃p:Option Value,d c=p.isSome/\GF sl (lk (vl (p.getD undef))) (S p) d v w') ⟨none,rfl,λ_ _ _ h=>Bool.noConfusion h,h0⟩ ?_ ?_
 .rintro d a w i o m g b j ⟨p,f,l⟩ R s;by_cases hic:i=c
  .subst hic;cases p with
   | some p=>rw[g] at f;cases f
   | none=>exact hc d a w o m g b j l R (λp x w' h=>s x w' ⟨some p,vZ,h⟩)
  .have q:i∈OR:=by
    rcases fT.1 (yO u m) with h | h
    .exact absurd h hic
    .exact h
   exact hs p d a w i o q m g f b j l R (λx w' h=>s x w' ⟨p,(iQ (Ne.symm hic)).trans f,h⟩)
 .rintro v w ⟨p,f,l⟩;cases p with
  | none=>
   have r:decide (c<ops.size)=false:=f;rw[A] at r;cases r
  | some p=>
   have hl:=of_decide_eq_true y;rw[Bu a0.tmps v sl (vl p) (λi k g=>l.cl i k g (aQ (by have:=(aW.1 g).1;omega)))];exact hd p w l.st
theorem aDV (sb:ByteArray) (k:Int) (w:World) (hV:bV w) (HRd:Hid qB) (HKy:Hid qC):
  Calls prog 4 #[sb,k] w (aT w (.bool true)):=by
 obtain⟨s,rfl⟩: ∃l,sb=bs l:=⟨sb.data.toList,(xJ sb).symm⟩;have sl:=aP s;have HV:=hid hV;have C0:=hid (aCR w hV);obtain⟨⟨d,n,er⟩,hP⟩:=exQ<|mA s;have CP:Hid (∀w',aA w w'->Calls prog 7 #[bs s] w' (Cq s (d,n,er) w')):=hid (λw' hb=>by have:=Hc s w' (HV.out.keep hb);rw[hP] at this;exact this);have CQ:Hid (∀w',aA w w'->Calls prog 6 #[bs s] w' (Cq s (d,n,er) w')):=hid (λw' hb=>by have:=aCs s w' (HV.out.keep hb) HRd HKy;rw[hP] at this;exact this);have HP:=hid hP;clear hV hP;go_in;go_wp2_with fail;refine aH C0.out λw1 j4=>?_;have iy:=hid j4;clear j4;by_cases hlong:4096<s.length
 .have dl:decide ((4096:Int)<(s.length:Int))=true:=aQ a_;have pQ:decide (4096<s.length)=true:=aQ hlong;go_wp2;go_ret;exact⟨rfl,by first | exact iy.out | exact iy.out.drew⟩
 have dl:decide ((4096:Int)<(s.length:Int))=false:=aJ a_;have pQ:decide (4096<s.length)=false:=aJ hlong;have yv:Hid (s.length<=4096):=hid a_;clear hlong;go_wp2_with fail;refine(CP.out _ iy.out).mono ?_;rintro e w2 ⟨tx,lv,nv,rfl,cE,bo,bS⟩;simp only[] at cE;obtain⟨⟨pl,cl,um⟩,pn,cn,wi⟩:=bo.forms;obtain⟨nl,gU⟩:=exQ<|d.lines.length;obtain⟨nn,hZ⟩:=exQ<|d.nodes.length;simp only[] at um wi;rw[gU] at um;rw[hZ] at wi;subst um wi;have mf:=hid (aK gU hZ);have bh:=hid (aE iy.out bS);have qe:=hid cE;obtain⟨D,f9⟩:=exQ<|w2.heap.size;have b3:=aL w2 (.cells #[tx, .slice pl nl cl, .slice pn nn cn] 26);have x3:=heap_alloc_new w2 (.cells #[tx, .slice pl nl cl, .slice pn nn cn] 26);obtain⟨w3,un⟩:=exQ<|w2.alloc (.cells #[tx, .slice pl nl cl, .slice pn nn cn] 26);rw[un] at b3 x3;rw[f9] at x3;have j2:=hid (bo.keep b3);have em:=hid x3;have ax:=hid (aE bh.out b3);simp only[];clear b3 x3 bo bS cE gU hZ;go_upto_region 5 with fail
 try rw[un]
 try rw[f9]
 clear un f9;go_wp2_with fail;refine(CQ.out _ (by first | exact ax.out | exact ax.out.drew)).mono ?_;rintro e w4 ⟨vY,vJ,As,rfl,ol,vh,ag⟩;simp only[] at ol;rw[<-qe.out] at ol;subst ol;obtain⟨⟨ql,ky,nu⟩,qn,kB,ju⟩:=vh.forms;simp only[] at nu ju;rw[mf.out.1] at nu;rw[mf.out.2] at ju;subst nu ju;obtain⟨E,wj⟩:=exQ<|w4.heap.size;have b6:=aL w4 (.cells #[vY, .slice ql nl ky, .slice qn nn kB] 26);have x6:=heap_alloc_new w4 (.cells #[vY, .slice ql nl ky, .slice qn nn kB] 26);obtain⟨w6,lN⟩:=exQ<|w4.alloc (.cells #[vY, .slice ql nl ky, .slice qn nn kB] 26);rw[lN] at b6 x6;rw[wj] at x6;have mL:aA w3 w6:=by first | exact aE ag b6 | exact aE (aE (aD _ _).drew ag) b6
 have kX:=hid ((mL.block D (aG em.out)).trans em.out);have jA:=hid x6;have u0:=hid (vh.keep b6);have qI:=hid (j2.out.keep mL);have dq:=hid (aE ax.out mL);clear b6 x6 vh ag mL;simp only[];go_upto_region 6 with fail
 try rw[lN]
 try rw[wj]
 clear lN wj;by_cases h0:er=0;rotate_left
 .have d0:(er !=0)=true:=eN.2 h0;have d1:(er==er)=true:=beq_self_eq_true er;go_wp2;go_ret;exact⟨rfl,by first | exact dq.out | exact dq.out.drew⟩
 subst h0;go_upto_region 8 with fail;have cE:=qe.out;rw[if_pos rfl] at cE;subst cE;obtain⟨p1,c1,p2,c2,e1,e2,g1,g2⟩:=qI.out.read;rw[mf.out.1] at e1;rw[mf.out.2] at e2;injection e1 with e1a e1b e1c;injection e2 with e2a e2b e2c;rw[<-e2a] at g2;have rI:=hid g2;clear e1a e1b e1c e2a e2b e2c g1 g2;obtain⟨a0,a1,a2,_⟩:=eA kX.out;by_cases hk:k<0\/(nn:Int)<=k
 .have CN:=hid (λw'=>aDJ s pl pn nl cl nn cn k hk w');have CL:Hid (∀w',aA w6 w'->Calls prog 11 #[.agg #[bs s, .slice pl nl cl, .slice pn nn cn],k] w' (aT w' (.tuple #[.string ⟨#[]⟩,false]))):=hid (λw' bM=>Qv s d pl pn nl cl nn cn k w' mf.out.2 (rC.keep rI.out bM) (hk.elim .inl (λh=> .inr (.inl h))));have HK:=hid hk;clear hk;go_wp2_with fail;refine aH (CN.out _) λw7 dm=>?_;have b8:=aL w7 (.cells #[(0:Int),bs [],(),()] 36);have x8:=heap_alloc_new w7 (.cells #[(0:Int),bs [],(),()] 36);obtain⟨V,jQ⟩:=exQ<|w7.heap.size;obtain⟨w8,iw⟩:=exQ<|w7.alloc (.cells #[(0:Int),bs [],(),()] 36);rw[iw] at b8 x8;rw[jQ] at x8;have kT:aA w6 w8:=by first | exact aE dm b8 | exact aE (aE (aD _ _).drew dm) b8
  have gR:=hid kT;have qz:=hid x8;have oX:=hid (aK iw jQ);clear b8 x8 dm kT iw jQ;go_upto_region 9 with fail
  first | rw[oX.out.1] | skip
  first | rw[oX.out.2] | skip
  clear a0 a1 a2;obtain⟨a0,a1,a2,_⟩:=eA ((gR.out.block D (aG kX.out)).trans kX.out);go_wp2_with fail;refine aH (CL.out _ GY) λw9 cG=>?_;have kj:Hid (aA w8 w9):=hid D6;have iX:=hid (aE gR.out kj.out);clear a0 a1 a2 cG;obtain⟨a0,a1,a2,_⟩:=eA ((iX.out.block E (aG jA.out)).trans jA.out);obtain⟨v0,v1,v2,v3,_⟩:=bK ((kj.out.block V (aG qz.out)).trans qz.out);have o6:=hid (aE dq.out iX.out);by_cases h0:k<0
  .have dk:decide (k<0)=true:=aQ h0;clear h0;exact ce
  .have dk:decide (k<0)=false:=aJ h0;have h1:(nn:Int)<=k:=HK.out.resolve_left h0;have B8:decide ((nn:Int)<=k)=true:=aQ h1;clear h0 h1;exact ce
 obtain⟨q,rfl⟩: ∃q:Nat,k=(q:Int):=⟨k.toNat,a_⟩;have ju:q<nn:=a_
 have uo:q<d.nodes.length:=by rw[mf.out.2];exact ju
 obtain⟨x,hx⟩: ∃x,d.nodes[q]?=some x:=⟨_,bI uo⟩;have HQ:=hid (aDU (by have:=yv.out;omega) HP.out);have hli:=aDD HP.out;obtain⟨m,hm⟩:=HQ.out.t.sub q (cI _) uo;have cO: ∀n,nC n (aX s d 32 q):=by
  have h:=HP.out;rw[Rd (by have:=yv.out;omega)] at h;exact λn=>Hw (λk x hx=>(Rb h).kids hx) 32 q n
 have jg:Hid (∀w',aA w6 w'->bV w'):=hid (λw' h=>(HV.out.keep dq.out).keep h);obtain⟨T,hT⟩:=exQ<|aX s d 32 q;have CN:Hid (∀w',aA w6 w'->Calls prog 10 #[.agg #[bs s, .slice pl nl cl, .slice pn nn cn],q] w' (Pq T true w')):=hid (λw' h=>by have:=Ps s d HQ.out.b HQ.out.i _ _ _ q m w' hm (qI.out.keep h) (jg.out w' h);rw[hT] at this;exact this);have CR:Hid (∀w',aA w6 w'->Calls prog 13 #[.agg #[bs s, .slice ql nl ky, .slice qn nn kB],q] w' (jJ T w')):=hid (λw' h=>by have:=Qu s d HQ.out.b HRd HKy hli 32 _ _ _ q m w' hm (aF _) (u0.out.keep h) (jg.out w' h);rw[hT] at this;exact this);obtain⟨tt,ok,zf,vg,xV⟩: ∃(tt:aB) (ok:Bool),(∀w',aA w6 w'->Calls prog 11 #[.agg #[bs s, .slice pl nl cl, .slice pn nn cn],q] w' (aT w' (.tuple #[bs tt,ok])))/\((x.kind:Int)==4)=ok/\(ok=true-> ∀w',aA w6 w'->Calls prog 14 #[.agg #[bs s, .slice ql nl ky, .slice qn nn kB],q] w' (aT w' (.string (bs tt)))):=by
  by_cases h4:x.kind=4
  .refine⟨qE s d.lines x,true,λw' h=>?_,beq_iff_eq.2 a_,λ_ w' h=>?_⟩
   .exact Hg s d _ _ _ w' (qI.out.keep h) HQ.out.b HQ.out.i q x hx h4
   .obtain⟨p1,c1,p2,c2,e1,e2,g1,g2⟩:=(u0.out.keep h).read;have:=Qs s d p1 p2 c1 c2 w' HQ.out.b q x hx ((hli x (bH hx)).2 h4) g1 g2;rw[<-e1,<-e2] at this;exact this
  .exact⟨[],false,λw' h=>Qv s d pl pn nl cl nn cn (q:Int) w' mf.out.2 (rC.keep rI.out h) (.inr (.inr ⟨q,x,rfl,hx,h4⟩)),aI.2 a_,λe=>by cases e⟩
 have CL:=hid zf;have B4:=hid xV;have AC:=hid vg;have pJ:=hid (aK hT cO);have Bm:=hid hx;have dq0:decide ((q:Int)<0)=false:=aJ a_;have rR:decide ((nn:Int)<=(q:Int))=false:=aJ a_;have rd:decide (nn<=q)=false:=aJ a_;have io:(0:Int)<=(q:Int):=a_
 have k9:(q:Int)<(nn:Int):=a_
 clear hk uo hx hli hm cO hT zf vg xV;go_wp2_with fail;refine(CN.out _ f_).mono ?_;rintro e w7 ⟨⟨kv,iv,rfl,nr⟩,dm⟩;obtain⟨pk,ck,pi,ci,bu,xI⟩:=nr.toVD.form;obtain⟨nk,cM⟩:=exQ<|T.keys.length;obtain⟨ni,kr⟩:=exQ<|T.items.length;rw[cM] at bu;rw[kr] at xI;subst bu xI;have b8:=aL w7 (.cells #[T.kind,bs T.text, .slice pk nk ck, .slice pi ni ci] 36);have x8:=heap_alloc_new w7 (.cells #[T.kind,bs T.text, .slice pk nk ck, .slice pi ni ci] 36);obtain⟨V,jQ⟩:=exQ<|w7.heap.size;obtain⟨w8,iw⟩:=exQ<|w7.alloc (.cells #[T.kind,bs T.text, .slice pk nk ck, .slice pi ni ci] 36);rw[iw] at b8 x8;rw[jQ] at x8;have kT:aA w6 w8:=by first | exact aE dm b8 | exact aE (aE (aD _ _).drew dm) b8
 have gR:=hid kT;have qz:=hid x8;have zi:=hid (nr.toVD.keep b8);have oX:=hid (aK iw jQ);have lT:=hid (aK cM kr);clear b8 x8 dm kT iw jQ nr cM kr;unfold vv;go_upto_region 9 with fail
 first | rw[oX.out.1] | skip
 first | rw[oX.out.2] | skip
 clear a0 a1 a2;obtain⟨a0,a1,a2,_⟩:=eA ((gR.out.block D (aG kX.out)).trans kX.out);go_wp2_with fail;refine aH (CL.out _ GY) λw9 cG=>?_;have kj:Hid (aA w8 w9):=hid D6;have iX:=hid (aE gR.out kj.out);clear a0 a1 a2 cG;obtain⟨a0,a1,a2,_⟩:=eA ((iX.out.block E (aG jA.out)).trans jA.out);obtain⟨v0,v1,v2,v3,_⟩:=bK ((kj.out.block V (aG qz.out)).trans qz.out);obtain⟨p1,c1,p2,c2,e1,e2,g1,g2⟩:=(u0.out.keep iX.out).read;obtain⟨gq,Cy,dh,_,pU⟩:=g2 q x Bm.out;obtain⟨y0,_⟩:=Cr pU;have Bh:qn=some ⟨gq,0,none⟩:=by
  injection e2 with e2a;rw[e2a];exact dh
 subst Bh;clear e1 e2 g1 g2 dh pU;have vg:=AC.out;go_upto_region 13 with fail;have CE:Hid (∀w',aA w9 w'-> ∀kv iv,VD w' T.depth T kv iv->Calls prog 12 #[.agg #[T.kind,bs T.text, .slice pk nk ck, .slice pi ni ci], .agg #[T.kind,bs T.text,kv,iv]] w' (aT w' (.bool true))):=hid (λw' h kv iv hv=>by
  have hd:=pJ.out.2 T.depth;rw[pJ.out.1] at hd;have:=Hi T.depth T T _ _ kv iv w' (zi.out.keep (aE kj.out h)) hv hd hd;unfold vv at this;exact Calls.mono this (λe w2 h=>by
   obtain⟨⟨b,hb,p8⟩,h2⟩:=h;exact⟨by rw[hb,p8 rfl],h2⟩))
 have nK:Hid (∀w',aA w9 w'->(w'.cell? (V,0)=some (.int .i64 T.kind)/\w'.cell? (V,1)=some (.string (bs T.text))/\w'.cell? (V,2)=some (.slice pk nk ck)/\w'.cell? (V,3)=some (.slice pi ni ci))/\w'.cell? (E,0)=some (.string (bs s))/\w'.cell? (E,1)=some (.slice ql nl ky)/\w'.cell? (E,2)=some (.slice (some ⟨gq,0,none⟩) nn kB)):=hid (λw' h=>⟨⟨fM v0 h,fM v1 h,fM v2 h,fM v3 h⟩,fM a0 h,fM a1 h,fM a2 h⟩);have o6:=hid (aE dq.out iX.out);clear v0 v1 v2 v3 a0 a1 a2;cases ok with
 | true=>
  have R4:=trivial;exact PW
 | false=>exact PW
theorem aDW (sb:ByteArray) (k:Int) (w:World) (hV:bV w):Calls prog 4 #[sb,k] w (aT w (.bool true)):=aDV sb k w hV (hid Qj) (hid kyQ)
end
section
open Go.Shelf Go.RowKit
noncomputable def Da (os:Os):World:=
 let w0:=World.holding prog os ⟨#[], #[],[]⟩
 let put (h:Array Obj) (g:Nat) (cs:Array Value):Array Obj:=h.modify g fun
  | .cells _ t frozen=> .cells cs t frozen
  | o=>o
 let h1:=put w0.heap 4 #[.int .u8 0, .int .u8 1, .int .u8 28, .int .u8 2, .int .u8 29, .int .u8 14, .int .u8 24, .int .u8 3, .int .u8 30, .int .u8 22, .int .u8 20, .int .u8 15, .int .u8 25, .int .u8 17, .int .u8 4, .int .u8 8, .int .u8 31, .int .u8 27, .int .u8 13, .int .u8 23, .int .u8 21, .int .u8 19, .int .u8 16, .int .u8 7, .int .u8 26, .int .u8 12, .int .u8 18, .int .u8 6, .int .u8 11, .int .u8 5, .int .u8 10, .int .u8 9]
 let h2:=put h1 5 #[.int .u8 0, .int .u8 1, .int .u8 56, .int .u8 2, .int .u8 57, .int .u8 49, .int .u8 28, .int .u8 3, .int .u8 61, .int .u8 58, .int .u8 42, .int .u8 50, .int .u8 38, .int .u8 29, .int .u8 17, .int .u8 4, .int .u8 62, .int .u8 47, .int .u8 59, .int .u8 36, .int .u8 45, .int .u8 43, .int .u8 51, .int .u8 22, .int .u8 53, .int .u8 39, .int .u8 33, .int .u8 30, .int .u8 24, .int .u8 18, .int .u8 12, .int .u8 5, .int .u8 63, .int .u8 55, .int .u8 48, .int .u8 27, .int .u8 60, .int .u8 41, .int .u8 37, .int .u8 16, .int .u8 46, .int .u8 35, .int .u8 44, .int .u8 21, .int .u8 52, .int .u8 32, .int .u8 23, .int .u8 11, .int .u8 54, .int .u8 26, .int .u8 40, .int .u8 15, .int .u8 34, .int .u8 20, .int .u8 31, .int .u8 10, .int .u8 25, .int .u8 14, .int .u8 19, .int .u8 9, .int .u8 13, .int .u8 8, .int .u8 7, .int .u8 6]
 let h3:=put h2 3 #[.int .u64 1, .int .u64 10, .int .u64 100, .int .u64 1000, .int .u64 10000, .int .u64 100000, .int .u64 1000000, .int .u64 10000000, .int .u64 100000000, .int .u64 1000000000, .int .u64 10000000000, .int .u64 100000000000, .int .u64 1000000000000, .int .u64 10000000000000, .int .u64 100000000000000, .int .u64 1000000000000000, .int .u64 10000000000000000, .int .u64 100000000000000000, .int .u64 1000000000000000000, .int .u64 10000000000000000000]
 let h4:=put h3 2 #[.int .u8 128, .int .u8 191, .int .u8 160, .int .u8 191, .int .u8 128, .int .u8 159, .int .u8 144, .int .u8 191, .int .u8 128, .int .u8 143, .int .u8 0, .int .u8 0, .int .u8 0, .int .u8 0, .int .u8 0, .int .u8 0, .int .u8 0, .int .u8 0, .int .u8 0, .int .u8 0, .int .u8 0, .int .u8 0, .int .u8 0, .int .u8 0, .int .u8 0, .int .u8 0, .int .u8 0, .int .u8 0, .int .u8 0, .int .u8 0, .int .u8 0, .int .u8 0]
 let n5:=h4.size
 let a5:=h4.push (.cells #[.string ⟨#[118,97,108,117,101,32,111,117,116,32,111,102,32,114,97,110,103,101]⟩] 248 (0,0))
 let h5:=put a5 7 #[.iface 246 (.pointer (some ⟨n5,0,none⟩))]
 let n6:=h5.size
 let a6:=h5.push (.cells #[.string ⟨#[105,110,118,97,108,105,100,32,115,121,110,116,97,120]⟩] 248 (0,0))
 let h6:=put a6 6 #[.iface 246 (.pointer (some ⟨n6,0,none⟩))]
 let h7:=put h6 1 (Lib.firstTab.map λz=>Value.int .u8 z).toArray
 { w0 with heap:=h7 }
def uC:List (String×DataW Unit):= [("math/bits.deBruijn32tab",Rows.laid_math_bits_deBruijn32tab),("math/bits.deBruijn64tab",Rows.laid_math_bits_deBruijn64tab),("internal/strconv.uint64pow10",Rows.laid_internal_strconv_uint64pow10),("unicode/utf8.acceptRanges",Rows.laid_unicode_utf8_acceptRanges),("strconv.ErrRange",Rows.laid_strconv_ErrRange),("strconv.ErrSyntax",Rows.laid_strconv_ErrSyntax),("unicode/utf8.first",Rows.laid_unicode_utf8_first)]
theorem aDX (os:Os) (args:Array Value):laidMet prog uC ((Da os).forCall (λ_ _=>0) ⟨#[],args,[]⟩).memory:=
 (LaidIn.of_run (l:=uC) (List.range 64) 8 d' d' d' d').met
theorem aDY {W:World} (hL:laidMet prog uC W):tG W:=by
 obtain⟨g,t,cs,fuel,p,d,b,a,c⟩:=Lib.laidMet.reads hL (.tail _ (.tail _ (.head _)));obtain rfl:=bA ((show prog.globalNamed "internal/strconv.uint64pow10" =some 3 by kernel_rfl).symm.trans d);obtain rfl:=bA ((show (prog.globals[3]?).map (·.type)=some 211 by kernel_rfl).symm.trans b);rw[show (Rows.laid_internal_strconv_uint64pow10:DataW Unit)=Lib.tabData .u64 Lib.pow10Tab by kernel_rfl] at c;have h:=Lib.cells_of_tab underlying211 underlying194 d' d' c;show World.var? prog W _=_;rw[a,<-h]
theorem aDZ {H:Type}{enc:TypeId×Value->H}{P:Program}{w:World}{base:Nat}{sp:Nat->Bool}{held:Bool}{fuel:Nat}{t:TypeId}{ms:Array (String×TypeId)}{cs:List Value}{nm:String}{d:DataW H}{p:List MemPlace}
  (ht:P.underlying t=some (.interface ms)) (h:DataW.trod enc P w base sp held fuel t cs=some (.iface nm d,p)): ∃u v,cs= [.iface u v]:=by
 cases fuel with
 | zero=>simp[DataW.trod] at h
 | succ n=>
  unfold DataW.trod at h;simp only[ht] at h;rcases cs with _ | ⟨c,_ | ⟨c2,l⟩⟩
  .simp at h
  .cases c<;>simp at h
   exact⟨_,_,rfl⟩
  .cases c<;>simp at h
theorem aEa {W:World} (hL:laidMet prog uC W):eQ W:=by
 obtain⟨g,t,cs,fuel,p,e,b,a,d⟩:=Lib.laidMet.reads hL (.tail _ (.tail _ (.tail _ (.tail _ (.tail _ (.head _))))));obtain rfl:=bA ((show prog.globalNamed "strconv.ErrSyntax" =some 6 by kernel_rfl).symm.trans e);obtain rfl:=bA ((show (prog.globals[6]?).map (·.type)=some 102 by kernel_rfl).symm.trans b);obtain⟨u,v,c⟩:=aDZ underlying102 d;refine⟨u,v,?_⟩;rw[a,<-c]
theorem aEb {W:World} (hL:laidMet prog uC W):uJ W:=by
 obtain⟨g,t,cs,fuel,p,d,b,a,c⟩:=Lib.laidMet.reads hL (.tail _ (.head _));obtain rfl:=bA ((show prog.globalNamed "math/bits.deBruijn64tab" =some 5 by kernel_rfl).symm.trans d);obtain rfl:=bA ((show (prog.globals[5]?).map (·.type)=some 232 by kernel_rfl).symm.trans b);rw[show (Rows.laid_math_bits_deBruijn64tab:DataW Unit)=Lib.tabData .u8 (Lib.deBruijn64tab.map (λn:Nat=>(n:Int))) by kernel_rfl] at c;have h:=Lib.cells_of_tab underlying232 underlying5 d' d' c;unfold uJ;rw[World.var?_cell (P:=prog) (show prog.globalNamed "math/bits.deBruijn64tab" =some 5 by kernel_rfl) a 15,<-Array.getElem?_toList,h];rfl
theorem aEc {W:World} (hL:laidMet prog uC W):dE W:=by
 have a:=Lib.laidMet.reads hL (.tail _ (.tail _ (.tail _ (.head _))));have b:=Lib.laidMet.reads hL (.tail _ (.tail _ (.tail _ (.tail _ (.tail _ (.tail _ (.head _)))))));rw[show Rows.laid_unicode_utf8_first=Lib.firstData from Pinned.utf8First_eq] at b;rw[show (Rows.laid_unicode_utf8_acceptRanges:DataW Unit)=Lib.acceptData by kernel_rfl] at a;exact utf8Tabs_of_readsT (U8Types.of196 laysValid) ⟨d',d',d',d',d',d',d'⟩ b a
theorem aEd {W:World} (h:W.ShapedOpen prog):nJ W:=
 cell_of_shapedOpen_int (P:=prog) (g:=0) (t:=3) (zero:= #[(0:Int)]) h (of_decide_eq_true d') d' rfl d' d' underlying3
end
section
open Go.RowKit Go.Joins Go.ChangeShapes Go.WideShapes
section
variable {H:Type}{enc:TypeId×Value->H}{w:World}{base:Nat}{sp:Nat->Bool}{held:Bool}
instance:Inhabited (VT×Value×Value):=⟨(.mk 0 [] [] [], .nilFunc, .nilFunc)⟩
theorem aEe {e:Int} (h:(Lit.int .i64 e).wf=true): -9223372036854775808<=e/\e<=9223372036854775807:=by
 simp only[Lit.wf,fQ,kB] at h;have h1:IntKind.i64.min= -9223372036854775808:=b_
 have h2:IntKind.i64.max=9223372036854775807:=b_
 omega
end
end
end Go.Proofs.YtfhjncbdgjlcoaaGreatDoor
