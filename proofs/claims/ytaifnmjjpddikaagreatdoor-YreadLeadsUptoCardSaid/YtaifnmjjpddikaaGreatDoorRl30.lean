import Derived.Test.YtaifnmjjpddikaaGreatDoorRl29
import Derived.Test.YtaifnmjjpddikaaGreatDoorRl26
import Derived.Test.YtaifnmjjpddikaaGreatDoorRl27
namespace Go.Proofs.YtaifnmjjpddikaaGreatDoor
set_option linter.unusedVariables false
set_option linter.unusedSimpArgs false
section
open Go.Lib
def nH (sp:List (Nat×Nat)):Nat:=(sp.map λx=>x.2-x.1+1).sum
theorem Op (a b:List (Nat×Nat)):nH (a++b)=nH a+nH b:=by unfold nH;simp
theorem Fg (x:Nat×Nat) (b:List (Nat×Nat)):nH (x::b)=(x.2-x.1+1)+nH b:=by unfold nH;simp
theorem aBZ (l:List (Nat×Nat)) (a b:Nat):nH ((l.drop a).take b)<=nH l:=by
 have e:l=l.take a++((l.drop a).take b++(l.drop a).drop b):=by rw[oR,oR]
 conv=>rhs;rw[e]
 rw[Op,Op];omega
def xO (s:aA) (sp:List (Nat×Nat)):Prop:=(∀x∈sp,s[x.2]?=none\/s[x.2]?=some 10)/\nH sp<=s.length+1
theorem Oq (x:Nat×Nat) {l:List (Nat×Nat)} (h:l≠ []):lN (x::l)=(x.1,x.2-1)::lN l:=by
 cases l with
 | nil=>exact absurd rfl h
 | cons y r=>rfl
theorem Fh: ∀(l:aA) (k pos:Nat),eF l k pos≠ []
 | [],_,_=>by simp[eF]
 | c::l,k,pos=>by
  unfold eF;split
  ·simp
  ·exact Fh l k (pos+1)
theorem Fi (s:aA): ∀(l:aA) (k pos:Nat),s.drop pos=l-> ∀x∈lN (eF l k pos),s[x.2]?=none\/s[x.2]?=some 10
 | [],k,pos,h,x,hx=>by
  rw[show eF ([]:aA) k pos= [(k,pos)] from rfl] at hx;rw[show lN [(k,pos)]= [(k,pos)] from rfl,iQ] at hx;subst hx;left;rw[Bj];exact List.drop_eq_nil_iff.1 h
 | c::l,k,pos,h,x,hx=>by
  have h1:s.drop (pos+1)=l:=by rw[<-jH,h];rfl
  have b:s[pos]?=some c:=by
   have:=congrArg List.head? h;rw[List.head?_drop] at this;exact this
  unfold eF at hx;split at hx
  ·rename_i a;rw[Oq _ (Fh _ _ _)] at hx;rcases dC.1 hx with e | hx
   ·right;rw[e];show s[pos+1-1]?=_;rw[Nat.add_sub_cancel,b,a]
   ·exact Fi s l _ _ h1 x hx
  ·exact Fi s l _ _ h1 x hx
theorem Fj: ∀(l:aA) (k pos:Nat),k<=pos->nH (lN (eF l k pos))=(pos-k)+l.length+1
 | [],k,pos,h=>by
  rw[show eF ([]:aA) k pos= [(k,pos)] from rfl,show lN [(k,pos)]= [(k,pos)] from rfl,Fg];rfl
 | c::l,k,pos,h=>by
  unfold eF;split
  ·rw[Oq _ (Fh _ _ _),Fg,Fj l (pos+1) (pos+1) (aE _),aV];simp only[];omega
  ·rw[Fj l k (pos+1) (by omega),aV];omega
theorem aCa (s:aA):xO s (dX s):=⟨λx a=>Fi s s 0 0 (by simp) x a,by have:=Fj s 0 0 (aE _);unfold dX;omega⟩
theorem Ot: ∀l:List aA,(jE l).length<=(l.map λt=>t.length+1).sum
 | []=>bM _
 | [x]=>by simp[jE]
 | x::y::r=>by
  have:=Ot (y::r);rw[fU,List.sum_cons];simp only[jE,aW,aV] at this ⊢;omega
theorem Ou (s:aA) (e:Nat) (hE:s[e]?=none\/s[e]?=some 10) (he:e<=s.length): ∀(f i:Nat),e<=i+f-> ¬qP s e f i<e->validD ((s.drop i).take (e-i))=true
 | 0,i,hf,_=>by rw[show e-i=0 by omega,List.take_zero];rfl
 | f +1,i,hf,h=>by
  unfold qP at h;by_cases hei:e<=i
  ·rw[show e-i=0 by omega,List.take_zero];rfl
  rw[if_neg hei] at h;split at h
  ·omega
  ·rename_i hb;have hne:s.drop i≠ []:=by intro k;have:=List.drop_eq_nil_iff.1 k;omega
   obtain⟨r,n,q⟩: ∃r n,decodeL (s.drop i)=(r,n):=⟨_,_,rfl⟩;have l:=decodeL_width (s.drop i);have j:=decodeL_le (s.drop i) hne;have d:=vM (s.drop i);have hg: ¬((decodeL (s.drop i)).1=65533/\(decodeL (s.drop i)).2=1):=by
    intro p;apply hb;unfold zB;rw[p.1,p.2];rfl
   have a:=encode_decode (s.drop i) hne (by omega);rw[q] at h l j d a;simp only[] at h l j d a;have hnl:n<=e-i:=by
    apply Classical.byContradiction;intro hgt;have g:((s.drop i).take n).length=n:=by rw[cD];omega
    rw[bB] at j;have t:(128:Int)<=(r:Int):=by
     apply Classical.byContradiction;intro hlt;have o:=Rr (UInt8.ofNat r) (by rw[UInt8.toNat_ofNat'];omega);rw[UInt8.toNat_ofNat',Nat.mod_eq_of_lt (by omega)] at o;rw[o] at a;rw[<-a] at g;simp only[dU] at g;omega
    have b:s[e]?=some (s[e]'(by omega)):=bE (by omega);have m:s[e]'(by omega)∈encodeRune (r:Int):=by
     rw[a];refine aX (i:=e-i) ?_;rw[List.getElem?_take,if_pos (by omega),mP,show i+(e-i)=e by omega];exact b
    have:=Rq (r:Int) d t _ m;rcases hE with k | k
    ·rw[k] at b;cases b
    ·rw[k] at b;rw[<-bD b] at this;exact absurd this (by decide)
   have c:(s.drop i).take (e-i)=(s.drop i).take n++(s.drop (i+n)).take (e-(i+n)):=by
    rw[show e-i=n+(e-(i+n)) by omega,List.take_add,jH]
   rw[c];refine xM (by rw[<-a];exact Aq _ d) (Ou s e hE he f (i+n) (by omega) h)
theorem aCb {s:aA}{x:Nat×Nat} (h1:x.1<=x.2) (h2:x.2<=s.length) (hE:s[x.2]?=none\/s[x.2]?=some 10) (h: ¬nC s x<x.2):validD (bV s x)=true:=Ou s x.2 hE h2 (x.2-x.1) x.1 (by omega) h
theorem aCc (u:aA):validD (32::u)=validD u:=by
 have:=xW [32] u rfl;exact this
theorem Ov: ∀(t:aA) (c:Nat),validD t=true->bI t=t.length\/c<=bI t->validD (t.drop c)=true
 | [],c,h,_=>by rw[List.drop_nil];rfl
 | d::u,0,h,_=>h
 | d::u,c+1,h,hc=>by
  rw[Ci] at hc;by_cases hd:d=32
  ·rw[if_pos hd] at hc;rw[hd,aCc] at h;exact Ov u c h (hc.elim (λhc=> .inl (by rw[aV] at hc;omega)) (λhc=> .inr (by omega)))
  ·rw[if_neg hd] at hc;rw[aV] at hc;omega
theorem Ow: ∀(l:List aA),(∀t∈l,validD t=true)->validD (jE l)=true
 | [],_=>rfl
 | [x],h=>h x (List.mem_singleton_self _)
 | x::y::r,h=>by
  show validD (x++10::jE (y::r))=true;refine xM (h x (gS ..)) ?_;have:=xW [10] (jE (y::r)) rfl;rw[show (10::jE (y::r):aA)= [10]++jE (y::r) from rfl,this];exact Ow (y::r) (λt a=>h t (List.mem_cons_of_mem _ a))
def vG (s:aA) (l:List (Nat×Nat)):Int:=iV (l.map λx=>(bV s x,(bI (bV s x):Int)))
theorem Fk (s:aA) (ind:Int) (hi:0<=ind): ∀(rest:List (Nat×Nat)) (i til first T:Nat),til<=i->lO s ind rest i til first=T->
  ∀x∈rest.take (T-i),bI (bV s x)=(bV s x).length\/(if first=0 then vG s (rest.take (T-i)) else(first:Int))<=(bI (bV s x):Int)
 | [],i,til,first,T,_,_,x,hx=>by rw[List.take_nil] at hx;cases hx
 | y ::r,i,til,first,T,ht,h,x,hx=>by
  unfold lO at h;by_cases hb:bI (bV s y)=(bV s y).length
  ·rw[if_pos hb] at h;by_cases hT:T<=i
   ·rw[show T-i=0 by omega] at hx;cases hx
   obtain⟨q,hq⟩: ∃q,T-i=q+1:=⟨T-i-1,by omega⟩;rw[hq,List.take_succ_cons] at hx ⊢;have b:vG s (y::r.take q)=vG s (r.take q):=by
    unfold vG;rw[fU];show (if bI (bV s y)≠(bV s y).length then _ else _)=_;rw[if_neg (by simp[hb])]
   rw[b];rcases dC.1 hx with e | hx
   ·rw[e];exact .inl hb
   ·have:=Fk s ind hi r (i+1) til first T (by omega) h x (by rw[show T-(i+1)=q by omega];exact hx)
    rw[show T-(i+1)=q by omega] at this;exact this
  ·rw [if_neg hb] at h;by_cases hs:(bI (bV s y):Int)<=ind\/bI (bV s y)<first
   ·rw[if_pos hs] at h;rw[show T-i=0 by omega] at hx;cases hx
   ·rw [if_neg hs] at h;have c:=zF s ind r (i+1) (i+1) (if first=0 then bI (bV s y) else first) (aE _);rw[h] at c;obtain⟨q,hq⟩: ∃q,T-i=q+1:=⟨T-i-1,by omega⟩;rw[hq,List.take_succ_cons] at hx ⊢;have b:vG s (y::r.take q)=(bI (bV s y):Int):=by
     unfold vG;rw[fU];show (if bI (bV s y)≠(bV s y).length then _ else _)=_;rw[if_pos hb]
    rw[b];rcases dC.1 hx with e | hx
    ·right;rw[e];split<;>omega
    ·have:=Fk s ind hi r (i+1) (i+1) (if first=0 then bI (bV s y) else first) T (aE _) h x (by rw[show T-(i+1)=q by omega];exact hx);rcases this with a | a
     ·exact .inl a
     ·right;by_cases hf:first=0
      ·rw[if_pos hf] at a ⊢;rw[if_neg (by omega)] at a;exact a
      ·rw[if_neg hf] at a ⊢;rw[if_neg hf] at a;exact a
theorem Fl (s:aA): ∀(l:List (Nat×Nat)) (ls ls':List aP),lQ s l ls= .inl ls'->ls'=ls++l.map (lP s)/\ ∀x∈l,¬nC s x<x.2
 | [],ls,ls',h=>by
  injection h with h;subst h;exact⟨by simp,λx hx=>by cases hx⟩
 | x::r,ls,ls',h=>by
  unfold lQ at h;split at h
  ·cases h
  ·rename_i hx;obtain⟨h1,h2⟩:=Fl s r _ _ h;refine⟨by rw[h1];simp,λy a=>?_⟩;rcases dC.1 a with e | a
   ·rw[e];exact hx
   ·exact h2 y a
theorem Ab {s:aA}{a b:Int} (h1:0<=a) (h2:a<=b) (h3:b<=(s.length:Int)):dY s a b=dG s a b:=by
 unfold dY;rw[if_neg (by omega)]
theorem aCd {s:aA}{x:Nat×Nat} (h1:x.1<=x.2) (h2:x.2<=s.length):dY s (x.1:Int) (x.2:Int)=bV s x:=by
 rw[Ab (by omega) (by omega) (by omega)];unfold dG bV;rw[fT,fT]
theorem aCe {s:aA}{sp:List (Nat×Nat)} (hsp:dH s sp) {k:Nat}{ind:Int}{ls ls':List aP} (more:List aP) (hk:k+1=ls.length) (ht:lQ s ((sp.drop (k+1)).take (gL s sp ind k-(k+1))) ls= .inl ls') (hkl:k<sp.length) {x:aG} (hf:x.fr=k) (hti:x.til=gL s sp ind k):
  oJ s (ls'++more) x=((sp.drop (k+1)).take (gL s sp ind k-(k+1))).map λy=>(bV s y,(bI (bV s y):Int)):=by
 obtain⟨l,f⟩:=exQ<|(sp.drop (k+1)).take (gL s sp ind k-(k+1));rw[f] at ht ⊢;obtain⟨e1,e2⟩:=Fl s l ls ls' ht;have hr:=zG (s:=s) ind hkl;have d:l.length=gL s sp ind k-(k+1):=by rw[<-f,cD,bB];omega
 have b: ∀y∈l,y∈sp:=λy e=>List.mem_of_mem_drop (List.mem_of_mem_take (by rw[f];exact e));have a:nE (ls'++more) x=l.map (lP s):=by
  unfold nE;rw[hf,hti,e1,mV,List.take_append,List.drop_append,hk];have g:(ls.take (gL s sp ind k)).drop ls.length= []:=List.drop_of_length_le (by rw[cD];omega);rw[g,jJ,cD,show ls.length-min (gL s sp ind k) ls.length=0 by omega,List.drop_zero,show gL s sp ind k-ls.length=(l.map (lP s)).length by rw[bK,d,hk],List.take_left]
 unfold oJ;rw[a,List.map_map];refine List.map_congr_left (λy e=>?_);have c:=hsp y (b y e);show (dY s (y.1:Int) (y.2:Int),(bI (bV s y):Int))=_;rw[aCd c.1 c.2]
theorem aCf {s:aA}{sp:List (Nat×Nat)} (hsp:dH s sp) (hE:xO s sp) {k:Nat}{ind:Int} (hi:0<=ind) {ls ls' more:List aP} (hk:k+1=ls.length) (ht:lQ s ((sp.drop (k+1)).take (gL s sp ind k-(k+1))) ls= .inl ls') (hkl:k<sp.length) {x:aG} (hf:x.fr=k) (hti:x.til=gL s sp ind k):
  validD (pU s (ls'++more) x)=true/\(pU s (ls'++more) x).length<=s.length+2:=by
 obtain⟨l,b⟩:=exQ<|(sp.drop (k+1)).take (gL s sp ind k-(k+1));rw[b] at ht;have f:=aCe hsp more hk (by rw[b];exact ht) hkl hf hti;rw[b] at f;obtain⟨e1,e2⟩:=Fl s l ls ls' ht;have a: ∀y∈l,y∈sp:=λy c=>List.mem_of_mem_drop (List.mem_of_mem_take (by rw[b];exact c));unfold pU;rw[f];refine⟨xM (Ow _ (λt ht=>?_)) (by split<;>rfl),?_⟩;rotate_left
 ·have h:=aBZ sp (k+1) (gL s sp ind k-(k+1));rw[b] at h;have he:=hE.2;rw[aW];have d:(if List.map (λy=>(bV s y,(bI (bV s y):Int))) l≠ []/\dY s x.rf x.rt= [124] then [10] else([]:aA)).length<=1:=by split<;>simp
  refine aY (Nat.add_le_add (Ot _) d) ?_;rw[List.map_map,List.map_map];have j: ∀m:List (Nat×Nat),(m.map ((λt:aA=>t.length+1) ∘ (λt:aA×Int=>t.1.drop (iV (List.map (λy=>(bV s y,(bI (bV s y):Int))) l)).toNat) ∘ λy=>(bV s y,(bI (bV s y):Int)))).sum<=nH m:=by
   intro m
   induction m with
   | nil=>exact aE _
   | cons y m ih=>
    rw[fU,List.sum_cons,Fg];have:((bV s y).drop (iV (List.map (λy=>(bV s y,(bI (bV s y):Int))) l)).toNat).length<=y.2-y.1:=by
     rw[bB];unfold bV;rw[cD];omega
    simp only[Function.comp] at ih ⊢;omega
  exact aY (Nat.add_le_add_right (j l) 1) (by omega)
 rw[List.map_map] at ht;obtain⟨y,c,e⟩:=oQ.1 ht;subst e;have g:=hsp y (a y c);have i:=aCb g.1 g.2 (hE.1 y (a y c)) (e2 y c);refine Ov _ _ i ?_;have:=Fk s ind hi (sp.drop (k+1)) (k+1) (k+1) 0 (gL s sp ind k) (aE _) rfl y (by rw[b];exact c);rw[b,if_pos rfl] at this;rcases this with d | d
 ·exact .inl d
 ·right;exact Int.toNat_le.2 d
def wY (s:aA) (x:aG):Nat:=if x.kind=1 then(fP (dG s x.rf x.rt)).1.size else 1
def dQ (s:aA) (ns:List aG):Nat:=(ns.map (wY s)).sum
theorem tO (s:aA) (a b:List aG):dQ s (a++b)=dQ s a+dQ s b:=by unfold dQ;simp
theorem tP (s:aA) (x:aG) (b:List aG):dQ s (x::b)=wY s x+dQ s b:=by unfold dQ;simp
theorem aCg (s:aA) (x:aG):1<=wY s x:=by
 unfold wY;split
 ·exact vS _
 ·exact aE _
theorem Ox (s:aA): ∀ns:List aG,ns.length<=dQ s ns
 | []=>bM _
 | x::l=>by
  have:=Ox s l;have:=aCg s x;rw[tP,aV];omega
theorem Oy (s:aA) {f:aG->aG} (hf: ∀x,wY s (f x)=wY s x): ∀(n:Nat) (ns:List aG),dQ s (oC f n ns)=dQ s ns
 | n,[]=>by cases n<;>rfl
 | 0,x::l=>by show dQ s (f x::l)=_;rw[tP,tP,hf]
 | n+1,x::l=>by show dQ s (x::oC f n l)=_;rw[tP,tP,Oy s hf n l]
def gW (ns ns':List aG):Prop:= ∀j,j<ns.length->(ns'[j]?).map (λy=>(y.kf,y.kt))=(ns[j]?).map (λy=>(y.kf,y.kt))
theorem gW.len {ns ns':List aG} (h:gW ns ns'):ns.length<=ns'.length:=by
 apply Classical.byContradiction;intro hn;have a:=h ns'.length (by omega);rw[List.getElem?_eq_none (aE _),bE (by omega)] at a;cases a
theorem gW.key {s:aA}{ns ns':List aG} (h:gW ns ns') {q:Nat} (hq:q<ns.length):cX s ns' q=cX s ns q:=by
 have a:=h q hq;have b:=fV hq h.len;unfold cX;rw[bE hq,bE b] at a ⊢;simp only[Option.map_some,cN,Prod.mk.injEq] at a;simp only[a.1,a.2]
def keyE (s:aA) (ns:List aG) (q:Nat):Int:=match ns[q]? with
 | some y=>(jO (dY s y.kf y.kt)).2
 | none=>0
theorem gW.keyE {s:aA}{ns ns':List aG} (h:gW ns ns') {q:Nat} (hq:q<ns.length):keyE s ns' q=keyE s ns q:=by
 have:=h q hq;unfold Go.Proofs.YtaifnmjjpddikaaGreatDoor.keyE;cases h1:ns[q]?<;>cases h2:ns'[q]?<;>rw[h1,h2] at this<;>simp at this;simp only[this.1,this.2]
theorem gW.map {s:aA}{ns ns':List aG} (h:gW ns ns') {l:List Nat} (hl: ∀q∈l,q<ns.length):l.map (cX s ns')=l.map (cX s ns):=List.map_congr_left (λq a=>h.key (hl q a))
theorem gW.app (ns more:List aG):gW ns (ns++more):=λj a=>by rw[kP a]
theorem gW.trans {a b c:List aG} (h:gW a b) (h2:gW b c):gW a c:=λj d=>(h2 j (fV d h.len)).trans (h j d)
theorem gW.set {ns:List aG}{n:Nat}{x x':aG} (hx:ns[n]?=some x) (h1:x'.kf=x.kf) (h2:x'.kt=x.kt):gW ns (ns.set n x'):=λj a=>by
 rw[List.getElem?_set];by_cases e:n=j
 ·subst e;rw[if_pos rfl,if_pos a,hx];simp[h1,h2]
 ·rw[if_neg e]
structure pZ (s:aA) (ls:List aP) (ns:List aG) (x:aG):Prop where
 kd:x.kind=1\/x.kind=2\/x.kind=3\/x.kind=4
 rest:x.kind=1->(fP (dG s x.rf x.rt)).2=0/\0<=x.rf/\x.rf<=x.rt/\x.rt<=(s.length:Int)
 flat:x.kind=1\/x.kind=4->x.kids= []
 lit:x.kind=4-> ∀more,validD (pU s (ls++more) x)=true/\(pU s (ls++more) x).length<=s.length+2
 pl:x.fr<=s.length+1/\x.til<=s.length+1
 kid: ∀q∈x.kids,q<ns.length
 keys:x.kind=3->jM [] (x.kids.map (cX s ns))=true/\ ∀q∈x.kids,keyE s ns q=0
theorem pZ.mono {s:aA}{ls ls':List aP}{ns ns':List aG}{x:aG} (h:pZ s ls ns x) (hl: ∃m,ls'=ls++m) (hk:gW ns ns'):pZ s ls' ns' x:=by
 obtain⟨m,rfl⟩:=hl;exact⟨h.kd,h.rest,h.flat,λc more=>by rw[mV];exact h.lit c _,h.pl,λq a=>fV (h.kid q a) hk.len,λb=>⟨by rw[hk.map h.kid];exact(h.keys b).1,λq a=>by rw[hk.keyE (h.kid q a)];exact(h.keys b).2 q a⟩⟩
structure Ac (s:aA) (kf kt:Int) (st:YS) (n:Nat) (st':YS):Prop where
 new: ∀j y,st.nodes.length<=j->st'.nodes[j]?=some y->pZ s st'.lines st'.nodes y
 tot:st.total=dQ s st.nodes->st'.total=dQ s st'.nodes
 key: ∃x,st'.nodes[n]?=some x/\x.kf=kf/\x.kt=kt
def Ad (s:aA) (kf kt:Int) (st:YS) (R:YR):Prop:=match R with
 | .ok n st'=>Ac s kf kt st n st'
 | .bad _ _=>True
def tQ (s:aA) (sp:List (Nat×Nat)) (V:YB):Prop:= ∀k kf kt st,dI s sp st->k+1=st.lines.length->Ad s kf kt st (V k kf kt st)
theorem Oz {s:aA}{ls:List aP}{ns:List aG}{x:aG} (h:pZ s ls (ns++ [x]) x): ∀j y,ns.length<=j->(ns++ [x])[j]?=some y->pZ s ls (ns++ [x]) y:=by
 intro j y b a;rw[mC b] at a;have:j-ns.length=0:=by
  have:=(aR.1 a).1;simp only[dU] at this;omega
 rw[this] at a;obtain rfl:x=y:=bD a;exact h
theorem Fm {s:aA}{sp:List (Nat×Nat)} (hN:sp.length<=s.length+1) {lv k:Nat}{kf kt:Int}{st:YS} (hw:dI s sp st) (hk:k<st.lines.length):Ad s kf kt st (iU s lv k kf kt st):=by
 have a:=(hw.ls.2 k hk).rst;have hls:=hw.ls.1;unfold iU;split
 ·trivial
 ·rename_i n1 s1 c;obtain⟨rfl,rfl,h0,_⟩:=mL c;simp only[];split
  ·trivial
  ·rename_i d;split
   ·trivial
   ·split
    ·trivial
    ·refine⟨Oz ⟨.inl rfl,λ_=>⟨by simpa using d,a⟩,λ_=>rfl,λe=>(by cases e),⟨by simp only[];omega,by simp only[];omega⟩,λq b=>(by cases b),λe=>(by cases e)⟩,λf=>?_,⟨_,by simp;rfl,rfl,rfl⟩⟩;have hz:=vS (fP (dG s (aU st.lines k).rf (aU st.lines k).rt)).1;show st.total+1+(fP (dG s (aU st.lines k).rf (aU st.lines k).rt)).1.size-1=dQ s (st.nodes++ [_]);rw[tO,<-f];show _=st.total+((fP (dG s (aU st.lines k).rf (aU st.lines k).rt)).1.size+0);omega
theorem aCh {s:aA}{sp:List (Nat×Nat)} (hN:sp.length<=s.length+1) (hsp:dH s sp) (hE:xO s sp) {lv k:Nat}{kf kt:Int}{st:YS} (hw:dI s sp st) (hk:k+1=st.lines.length):Ad s kf kt st (mK s sp lv k kf kt st):=by
 have b:=(hw.ls.2 k (by omega)).ind;have a:k<sp.length:=by have:=hw.ls.1;omega
 have hre:=(zG (s:=s) (aU st.lines k).ind a).2;unfold mK;split
 ·trivial
 ·rename_i n1 s1 f;obtain⟨rfl,rfl,h0,_⟩:=mL f;simp only[];split
  ·trivial
  ·rename_i ls c;refine⟨Oz ⟨.inr (.inr (.inr rfl)),λe=>(by cases e),λ_=>rfl,λ_ more=>aCf hsp hE b.1 hk c a rfl rfl,⟨by simp only[];omega,by simp only[];omega⟩,λq d=>(by cases d),λe=>(by cases e)⟩,λc=>?_,⟨_,by simp;rfl,rfl,rfl⟩⟩;show st.total+1=dQ s (st.nodes++ [_]);rw[tO,<-c];rfl
theorem aCi {s:aA}{sp:List (Nat×Nat)} (hN:sp.length<=s.length+1) (hsp:dH s sp) (hE:xO s sp) {B:YB}{lv:Nat} (hB:tQ s sp B):tQ s sp (nD s sp B lv):=by
 intro k kf kt st d g;unfold nD;simp only[];split
 ·exact aCh hN hsp hE d g
 ·split
  ·have b:=lC hsp (k:=k+1) (lines:=st.lines) (by omega) d.ls (λi h1 h2=>by omega);cases hm:gH s sp (k+1) st.lines with
   | bad a e=>trivial
   | ok nx ls=>
    rw[hm] at b;simp only[] at b ⊢;have c:dI s sp ⟨ls,st.nodes,st.total⟩:=⟨b.ok,d.tot⟩;split
    ·rename_i h;have:=hB nx kf kt ⟨ls,st.nodes,st.total⟩ c (b.hit h.1).1.symm;cases hQ:B nx kf kt ⟨ls,st.nodes,st.total⟩ with
     | bad a e=>trivial
     | ok n st'=>rw[hQ] at this;exact⟨this.new,this.tot,this.key⟩
    ·have f:k<ls.length:=by obtain⟨m,rfl⟩:=b.pre;rw[aW];omega
     have:=Fm hN (lv:=lv) (kf:=kf) (kt:=kt) c f;have e:aU ls k=aU st.lines k:=by obtain⟨m,rfl⟩:=b.pre;exact Df (by omega)
     cases hQ:iU s lv k kf kt ⟨ls,st.nodes,st.total⟩ with
     | bad a e=>trivial
     | ok n st'=>rw[hQ] at this;exact⟨this.new,this.tot,this.key⟩
  ·exact Fm hN d (by omega)
structure Ae (s:aA) (map:Bool) (n:Nat) (x:aG) (had:List aA) (st:YS):Prop where
 post: ∀j y,n<j->st.nodes[j]?=some y->pZ s st.lines st.nodes y
 pl:x.fr<=s.length+1/\x.til<=s.length+1
 kid: ∀q∈x.kids,q<st.nodes.length
 keys:map=true->had=(x.kids.map (cX s st.nodes)).reverse/\jM [] (x.kids.map (cX s st.nodes))=true/\ ∀q∈x.kids,keyE s st.nodes q=0
theorem aCj {s:aA}{sp:List (Nat×Nat)} (hN:sp.length<=s.length+1) (hsp:dH s sp) {V:YB} (hG:gA s sp V) (hV:tQ s sp V) {map:Bool}{n:Nat}{ind:Int}{had had':List aA}{k nx:Nat}{st s3:YS} (hw:dI s sp st) (hk:k+1=st.lines.length) {x:aG} (hx:st.nodes[n]?=some x) (hL:Ae s map n x had st) (h:gM s sp V map n ind had k st= .ok nx s3 had'):
  ∃x',s3.nodes[n]?=some x'/\Ae s map n x' had' s3/\x'.kind=x.kind/\x'.kf=x.kf/\x'.kt=x.kt/\(st.total=dQ s st.nodes->s3.total=dQ s s3.nodes):=by
 have d:=(hw.ls.2 k (by omega)).key;have I:=uZ hG map had hw hk;unfold gM at h;obtain⟨⟨Q,v⟩,b⟩:=exQ<|fQ s V map had k st;rw[b] at h I;cases Q with
 | bad a e=>cases h
 | ok kid s2=>
  obtain⟨g1,⟨more,g2n,g2⟩,⟨mls,g3⟩,g4,g5,g6⟩:=(show kM s sp k st kid s2 from I);have r:(∀j y,st.nodes.length<=j->s2.nodes[j]?=some y->pZ s s2.lines s2.nodes y)/\(st.total=dQ s st.nodes->s2.total=dQ s s2.nodes)/\(map=true->cX s s2.nodes kid ∉ had/\validD (cX s s2.nodes kid)=true/\v=cX s s2.nodes kid::had/\keyE s s2.nodes kid=0):=by
   unfold fQ at b;split at b
   ·simp only[] at b;split at b
    ·injection b with b _;cases b
    ·rename_i t;split at b
     ·injection b with b _;cases b
     ·rename_i z;injection b with b H;have:=hV k (aU st.lines k).kf (aU st.lines k).kt st hw hk;rw[b] at this;obtain⟨r1,r2,xk,r3,r4,r5⟩:=(show Ac s _ _ st kid s2 from this);have ekey:cX s s2.nodes kid=(jO (dG s (aU st.lines k).kf (aU st.lines k).kt)).1:=by
       unfold cX;rw[r3];simp only[r4,r5];rw[Ab d.1 d.2.1 d.2.2]
      refine⟨r1,r2,λ_=>?_⟩;rw[ekey];refine⟨z,aBY (by simpa using t),H.symm,?_⟩;unfold keyE;rw[r3];simp only[r4,r5];rw[Ab d.1 d.2.1 d.2.2];simpa using t
   ·rename_i w;injection b with b _;have:=hV k 0 0 st hw hk;rw[b] at this;exact⟨this.new,this.tot,λe=>absurd e w⟩
  obtain⟨o1,o2,o3⟩:=r;simp only[] at h;have E:=lC hsp (k:=fA s2.nodes kid) (lines:=s2.lines) g4.2 g6.ls g5;split at h
  ·cases h
  ·rename_i nx2 ls2 A;rw[A] at E;split at h
   ·cases h
   ·injection h with e1 e2 e3;have C:=(aR.1 hx).1;have o:s2.nodes[n]?=some x:=by rw[g2,kP C];exact hx
    have F:=(aR.1 o).1;have m:kid<s2.nodes.length:=by rw[g2,aW,g1];have:=sE.2 g2n;omega
    subst e2;simp only[];obtain⟨ns3,g⟩:=exQ<|kK n kid s2.nodes;have c:ns3=s2.nodes.set n { x with kids:=x.kids++ [kid],til:=fA s2.nodes kid }:=by
     rw[<-g];unfold kK;exact uY _ n _ x o
    have u:dQ s ns3=dQ s s2.nodes:=by rw[<-g];unfold kK;refine Oy s ?_ _ _;intro _;rfl
    have D:ns3.length=s2.nodes.length:=(by rw[c,List.length_set]);have i:gW s2.nodes ns3:=by rw[c];exact gW.set o rfl rfl
    have l:gW st.nodes ns3:=by
     refine gW.trans ?_ i;rw[g2];exact gW.app _ _
    rw[g];refine⟨{ x with kids:=x.kids++ [kid],til:=fA s2.nodes kid },by rw[c,List.getElem?_set_self F],⟨λj y K p=>?_,⟨hL.pl.1,by have:=g6.ls.1;simp only[];omega⟩,λq f=>?_,λJ=>?_⟩,rfl,rfl,rfl,λL=>by rw[u];exact o2 L⟩
    ·have p:ns3[j]?=some y:=p;rw[c,List.getElem?_set_ne (by omega)] at p;show pZ s ls2 ns3 y;by_cases hj2:j<st.nodes.length
     ·rw[g2,kP hj2] at p;obtain⟨m2,G⟩:=E.pre;exact(hL.post j y K p).mono ⟨mls++m2,by rw[G,g3,mV]⟩ l
     ·exact(o1 j y (by omega) p).mono E.pre i
    ·show q<ns3.length;rw[D];rcases nN.1 f with f | f
     ·have:=hL.kid q f;rw[g2,aW];omega
     ·rw[iQ.1 f];exact m
    ·obtain⟨f1,f2,f3⟩:=hL.keys J;obtain⟨p1,p2,p3,p4⟩:=o3 J;have em:(x.kids++ [kid]).map (cX s ns3)=x.kids.map (cX s st.nodes)++ [cX s s2.nodes kid]:=by
      rw[mZ,l.map hL.kid,List.map_singleton,i.key m]
     show had'=((x.kids++ [kid]).map (cX s ns3)).reverse/\jM [] ((x.kids++ [kid]).map (cX s ns3))=true/\ ∀q∈x.kids++ [kid],keyE s ns3 q=0;rw[em];refine⟨by rw[<-e3,p3,f1,List.reverse_append];rfl,?_,λq f=>?_⟩;rotate_left
     ·rcases nN.1 f with f | f
      ·rw[l.keyE (hL.kid q f)];exact f3 q f
      ·rw[iQ.1 f,i.keyE m];exact p4
     rw[Fc,f2,p2,aH (by simp only[List.not_mem_nil,false_or];intro B;exact p1 (by rw[f1];exact List.mem_reverse.2 B))];rfl
theorem aCk {s:aA}{sp:List (Nat×Nat)} (hN:sp.length<=s.length+1) (hsp:dH s sp) {V:YB} (hG:gA s sp V) (hV:tQ s sp V) {map:Bool}{n:Nat}{ind kind:Int}{kf kt:Int}{st0:YS} (hn0:n=st0.nodes.length): ∀(f:Nat) (had:List aA) (k:Nat) (st:YS) (x:aG),
  dI s sp st->(k<sp.length->k+1=st.lines.length)->st.nodes[n]?=some x->Ae s map n x had st->(x.kind=2\/x.kind=3/\map=true)->x.kf=kf->x.kt=kt->(st0.total=dQ s st0.nodes->st.total=dQ s st.nodes)->Ad s kf kt st0 (jQ s sp V map n ind kind f had k st):=by
 have fin: ∀(had:List aA) (st:YS) (x:aG),st.nodes[n]?=some x->Ae s map n x had st->(x.kind=2\/x.kind=3/\map=true)->x.kf=kf->x.kt=kt->(st0.total=dQ s st0.nodes->st.total=dQ s st.nodes)->Ac s kf kt st0 n st:=by
  intro had st x d c b i g l;refine⟨λj y hj o=>?_,l,x,d,i,g⟩;by_cases e:j=n
  ·rw[e,d] at o;obtain rfl:x=y:=bD o;exact⟨by rcases b with h | h;exact .inr (.inl h);exact .inr (.inr (.inl h.1)),λm=>(by omega),λm=>(by omega),λm=>(by omega),c.pl,c.kid,λr=>(c.keys (by rcases b with h | h;omega;exact h.2)).2⟩
  ·exact c.post j y (by omega) o
 intro f
 induction f with
 | zero=>intro had k st x p q d c b i g l;exact fin had st x d c b i g l
 | succ f ih=>
  intro had k st x p q d c b i g l;unfold jQ;split
  ·rename_i t;cases ho:gM s sp V map n ind had k st with
   | bad a e=>trivial
   | ok nx s2 had'=>
    obtain⟨x',m,w,r,u,v,z⟩:=aCj hN hsp hG hV p (q t.1) d c ho;obtain⟨_,_,_,g3,g4,g5,g6⟩:=Dy hsp hG p (q t.1) d ho;exact ih had' nx s2 x' g3 g6 m w (by rw[r];exact b) (by rw[u];exact i) (by rw[v];exact g) (λh=>z (l h))
  ·exact fin had st x d c b i g l
theorem Pa {s:aA}{sp:List (Nat×Nat)} (hN:sp.length<=s.length+1) (hsp:dH s sp) {V:YB} (lv:Nat) (hG:lv≠0->gA s sp V) (hV:lv≠0->tQ s sp V):tQ s sp (lR s sp V lv):=by
 intro k kf kt st a i;unfold lR;simp only[];split
 ·exact Fm hN a (by omega)
 ·split
  ·trivial
  ·rename_i n1 s1 f;obtain⟨rfl,rfl,c,h4⟩:=mL f;have htot:=a.tot;have hls:=a.ls.1;refine aCk hN hsp (hG c) (hV c) rfl _ _ _ _ _ ⟨a.ls,by simp only[aW,dU];omega⟩ (λ_=>i) (by simp;rfl) ⟨λj y hj d=>?_,⟨by simp only[];omega,bM _⟩,λq l=>(by cases l),λ_=>⟨rfl,rfl,λ_ h=>by cases h⟩⟩ ?_ rfl rfl (λg=>?_)
   ·have:=(aR.1 d).1;simp only[aW,dU] at this;omega
   ·by_cases e:(aU st.lines k).kind=4
    ·right;exact⟨if_pos e,aM e⟩
    ·left;exact if_neg e
   ·show st.total+1=dQ s (st.nodes++ [_]);rw[tO,<-g];have: ∀kd:Nat,kd≠1->dQ s [(⟨kd,(aU st.lines k).ind,k,0,kf,kt,0,0,[]⟩:aG)]=1:=by
     intro kd b;rw[tP];unfold wY;rw[if_neg b];rfl
    rw[this _ (by split<;>decide)]
theorem Pb {s:aA}{sp:List (Nat×Nat)} (hN:sp.length<=s.length+1) (hsp:dH s sp) (hE:xO s sp): ∀lv,tQ s sp (oD s sp lv)
 | 0=>Pa hN hsp 0 (λh=>absurd rfl h) (λh=>absurd rfl h)
 | lv+1=>Pa hN hsp (lv+1) (λ_=>zH hsp (qT hsp lv) lv) (λ_=>aCi hN hsp hE (Pb hN hsp hE lv))
theorem aCl (s:aA):(dX s).length<=s.length+1:=by
 unfold dX;rw[yZ];exact(rS s 0 0).1
structure rV (s:aA) (d:cF):Prop where
 nd: ∀x∈d.nodes,pZ s d.lines d.nodes x
 sum:dQ s d.nodes<=4096
theorem aCm {s:aA}{d:cF}{a:Int} (h:kL s (dX s)=(d,a,0)):rV s d/\a=(s.length:Int):=by
 have b:=De s;have o:lB s (dX s) []:=⟨bM _,λi l=>absurd l (pA _)⟩;have c:=lC b (k:=0) (lines:= []) (aE _) o (λi _ l=>absurd l (pA _));unfold kL at h;cases hN:gH s (dX s) 0 [] with
 | bad a' e'=>
  rw[hN] at c h;simp only[Prod.mk.injEq] at h;exact absurd h.2.2 c.2.2
 | ok k ls=>
  rw[hN] at c h;simp only[] at c h;by_cases hk:k<(dX s).length
  ·rw [if_neg (λe=>e hk)] at h;have p:dI s (dX s) ⟨ls,[],0⟩:=⟨c.ok,by simp⟩;have g:=qT b 32 k 0 0 ⟨ls,[],0⟩ p (c.hit hk).1.symm;have r:=Pb (aCl s) b (aCa s) 32 k 0 0 ⟨ls,[],0⟩ p (c.hit hk).1.symm;cases hB:oD s (dX s) 32 k 0 0 ⟨ls,[],0⟩ with
   | bad a' e'=>
    rw[hB] at g h;simp only[Prod.mk.injEq] at h;exact absurd h.2.2 (show 0<=a'/\a'<=(s.length:Int)/\e'≠0 from g).2.2
   | ok n st=>
    rw[hB] at g r h;obtain⟨g1,_,_,g4,g5,g6⟩:=(show kM s (dX s) k ⟨ls,[],0⟩ n st from g);have g10:n=0:=g1;subst g10;obtain⟨t1,t2,t3⟩:=(show Ac s 0 0 ⟨ls,[],0⟩ 0 st from r);have f:=lC b (k:=fA st.nodes 0) g4.2 g6.ls g5;simp only[] at h;cases hN2:gH s (dX s) (fA st.nodes 0) st.lines with
    | bad a' e'=>
     rw[hN2] at f h;simp only[Prod.mk.injEq] at h;exact absurd h.2.2 f.2.2
    | ok k2 ls2=>
     rw[hN2] at f h;simp only[] at h f;split at h
     ·simp only[Prod.mk.injEq] at h;exact absurd h.2.2 (by decide)
     ·injection h with e1 e2;injection e2 with e2 _;subst e1;refine⟨⟨λx m=>?_,?_⟩,e2.symm⟩
      ·obtain⟨j,u,e⟩:=List.mem_iff_getElem.1 m;exact(t1 j x (bM _) (by rw[bE u,e])).mono f.pre (λ_ _=>rfl)
      ·rw[<-t2 rfl];exact g6.tot.2
  ·rw[if_pos hk] at h;injection h with e1 e2;injection e2 with e2 _;subst e1;have t:dG s (s.length:Int) (s.length:Int)= []:=by unfold dG;rw[Nat.sub_self,List.take_zero]
   refine⟨⟨λx m=>?_,?_⟩,e2.symm⟩
   ·rw[iQ.1 m];exact⟨.inl rfl,λ_=>⟨by show (fP (dG s (s.length:Int) (s.length:Int))).2=0;rw[t];rfl,by simp,by simp,by simp⟩,λ_=>rfl,λe=>(by cases e),⟨bM _,bM _⟩,λq v=>(by cases v),λe=>(by cases e)⟩
   ·rw[tP];unfold wY;rw[if_pos rfl,t];show (fP ([]:aA)).1.size+0<=4096;decide
def jS (ns:List aG) (a b:Nat):List aG:=(ns.drop a).take (b-a)
theorem Pc (ns:List aG) {a b c:Nat} (h1:a<=b) (h2:b<=c):jS ns a c=jS ns a b++jS ns b c:=by
 unfold jS;rw[show c-a=(b-a)+(c-b) by omega,List.take_add,jH,show a+(b-a)=b by omega]
theorem aCn {ns:List aG}{k:Nat}{x:aG} (h:ns[k]?=some x):jS ns k (k+1)= [x]:=by
 have a:=(aR.1 h).1;unfold jS;rw[show k+1-k=1 by omega,iH a];rw[bE a] at h;rw[bD h];rfl
theorem Fo {s:aA}{d:cF} (hd:rV s d): ∀(lv k hi:Nat),dL s d.nodes lv k hi->
  (aN s d lv k).size=dQ s (jS d.nodes k hi)/\(aN s d lv k).depth<=lv/\cB kF (aN s d lv k)=true
 | lv+1,k,hi,h=>by
  have hlt:=h.lt;obtain⟨x,j,n,i⟩:=h;have f:=hd.nd x (aX j);have c: ∀(l:List Nat) (a:Nat),cO (dL s d.nodes lv) l a hi->dR (l.map (aN s d lv))=dQ s (jS d.nodes a hi)/\a<=hi/\dN (l.map (aN s d lv))<=lv/\jY kF (l.map (aN s d lv))=true:=by
   intro l
   induction l with
   | nil=>
    intro a h;have e:a=hi:=h;subst e;refine⟨?_,aE _,bM _,rfl⟩;unfold jS;rw[Nat.sub_self,List.take_zero];rfl
   | cons y l ih=>
    intro a h;obtain⟨rfl,m',i,p⟩:=h;obtain⟨i1,i2,i3⟩:=Fo hd lv y m' i;have i4:=i.lt;obtain⟨j1,j2,j3,j4⟩:=ih _ p;rw[fU,dR,dN,jY,i1,j1,Pc d.nodes (Nat.le_of_lt i4) j2,tO,i3,j4];exact⟨rfl,by omega,by omega,rfl⟩
  obtain⟨c1,c2,c3,c4⟩:=c _ _ i;have g:dQ s (jS d.nodes k hi)=wY s x+dQ s (jS d.nodes (k+1) hi):=by
   rw[Pc d.nodes (sS k) c2,tO,aCn j];rfl
  have b:x.kids= []->dQ s (jS d.nodes (k+1) hi)=0:=by
   intro e;rw[e] at c1;exact c1.symm
  rw[g];unfold aN;rw[j];simp only[];by_cases e1:x.kind=1
  ·rw[if_pos e1];obtain⟨r1,r2,r3,r4⟩:=f.rest e1;rw[Ab r2 r3 r4,b (f.flat (.inl e1))];refine⟨?_,n e1,aBX r1⟩;unfold wY;rw[if_pos e1];rfl
  ·rw[if_neg e1];have m:wY s x=1:=by unfold wY;rw[if_neg e1]
   rw[m];by_cases e4:x.kind=4
   ·rw[if_pos e4,b (f.flat (.inr e4))];have o:=f.lit e4 [];rw[List.append_nil] at o;refine⟨rfl,?_,On o.1⟩;show 0+1<=_;omega
   ·rw[if_neg e4,VT.size,VT.depth,cB,c1,c4,Bool.and_true];refine⟨by omega,by omega,?_⟩;unfold kF kZ;rw[cT];by_cases e3:x.kind=3
    ·rw[if_pos e3,if_pos e3];refine⟨rfl,?_⟩;show (pH (x.kids.map (cX s d.nodes)) (x.kids.map (aN s d lv)).length&&true)=true;unfold pH;rw[(f.keys e3).1,bK,bK];simp
    ·rw[if_neg e3,if_neg e3];exact⟨rfl,rfl⟩
theorem Fp {s:aA}{ns:List aG}: ∀ {lv k hi:Nat},dL s ns lv k hi->dL s ns (lv+1) k hi
 | lv+1,k,hi,⟨x,hx,hd,h⟩=>⟨x,hx,λe=>Nat.le_succ_of_le (hd e),h.monoP (λ_ _=>Fp)⟩
theorem Fq {s:aA}{ns:List aG}: ∀ {lv k hi:Nat},dL s ns lv k hi-> ∀j,k<=j->j<hi-> ∃m,m<=hi/\dL s ns lv j m
 | lv +1,k,hi,h,j,h1,h2=>by
  by_cases hjk:j=k
  ·subst hjk;exact⟨hi,aE _,h⟩
  ·obtain⟨x,hx,_,hK⟩:=h;have key: ∀(l:List Nat) (a:Nat),cO (dL s ns lv) l a hi->a<=j-> ∃m,m<=hi/\dL s ns lv j m:=by
    intro l
    induction l with
    | nil=>intro a h g;have:a=hi:=h;omega
    | cons y l ih=>
     intro a h g;obtain⟨rfl,m,i,f⟩:=h;by_cases hm:m<=j
     ·exact ih m f hm
     ·obtain⟨q,d,c⟩:=Fq i j g (by omega);exact⟨q,aY d (f.leY (λ_ _=>dL.lt)),c⟩
   obtain⟨m,b,e⟩:=key _ _ hK (by omega);exact⟨m,b,Fp e⟩
theorem Pe {s:aA}{d:cF} (hd:rV s d) (hT:pV s d):(∀k,k<d.nodes.length->uR (aN s d 32 k)=true)/\d.nodes.length<=(aN s d 32 0).size/\1<=d.nodes.length:=by
 have b: ∀k m,dL s d.nodes 32 k m->uR (aN s d 32 k)=true:=by
  intro k m h;obtain⟨h1,g,c⟩:=Fo hd 32 k m h;have hle:dQ s (jS d.nodes k m)<=dQ s d.nodes:=by
   have e:d.nodes=d.nodes.take k++(jS d.nodes k m++(d.nodes.drop k).drop (m-k)):=by
    unfold jS;rw[oR,oR]
   conv=>rhs;rw[e]
   rw[tO,tO];omega
  unfold uR;rw[c,aM (by have:=hd.sum;omega),aM g];rfl
 refine⟨λk a=>?_,?_,hT.treeD.lt⟩
 ·obtain⟨m,_,f⟩:=Fq hT.treeD k (bM _) a;exact b k m f
 ·rw[(Fo hd 32 0 _ hT.treeD).1];have:jS d.nodes 0 d.nodes.length=d.nodes:=by
   unfold jS;rw[List.drop_zero,Nat.sub_zero,List.take_length]
  rw[this];exact Ox s d.nodes
theorem Af {A:Nat} (k:Int) {s:aA} (h:s.length<=A):(VT.mk k s [] []).bulk+(A+1)<=(VT.mk k s [] []).size*(2*A+2):=by
 rw[VT.bulk,VT.size];simp only[dS,dR,gE,List.map_nil,List.sum_nil,gY];omega
theorem Pf {A:Nat} (l:aA) (hA:1100<=A):(eX (cL l).1).length<=A:=by
 by_cases he:(cL l).2=0
 ·have:=Du l he;omega
 ·rw[Dv l he];have:(eX eM).length<=1100:=by decide+kernel
  omega
theorem aCo {A:Nat} (txt:aA) (hA:4*txt.length+1100<=A) (kd:Nat) (sp:Sp):(mD kd (cZ txt sp)).length<=A:=by
 have hl:=uU txt sp;unfold mD;split
 ·omega
 ·split
  ·exact Pf _ (by omega)
  ·split
   ·have:=wX (cZ txt sp);omega
   ·simp
theorem aCp {A:Nat} (txt:aA) (ns:List aD) (hA:4*txt.length+1100<=A) (k:Nat):(cE txt ns k).length<=A:=by
 unfold cE;split
 ·have:=wX (cZ txt (by assumption:aD).key);have h2:=uU txt (by assumption:aD).key;omega
 ·simp
theorem Pg {A:Nat} (s:aA) (hA:s.length<=A) (h2:1100<=A):(kI s).bulk+(A+1)<=(kI s).size*(2*A+2):=by
 unfold kI;refine Af _ ?_;unfold pJ;split
 ·exact bM _
 ·split
  ·exact hA
  ·split
   ·exact Pf s h2
   ·exact hA
theorem aCq {A:Nat} (t:aA) (hA:4*t.length+1100<=A):(fP t).1.bulk+(A+1)<=(fP t).1.size*(2*A+2):=by
 have a:dP.bulk+(A+1)<=dP.size*(2*A+2):=Af 0 (bM _);unfold fP;split
 ·exact Pg [] (bM _) (by omega)
 ·rename_i c r;split
  ·split
   ·exact a
   ·have:=zN (c::r);exact Af 4 (by omega)
  ·split
   ·show (fK (c::r)).1.bulk+(A+1)<=(fK (c::r)).1.size*(2*A+2);unfold fK;by_cases he:(fN (c::r)).2.2=0
    ·rw[if_neg (by simp[he])];obtain⟨⟨ns,at_,er⟩,hP⟩:=exQ<|fN (c::r);rw[hP] at he ⊢;change er=0 at he;subst he;have b:=vV hP;have d:=Dt (c::r) ns A (aCo _ hA) (aCp _ ns hA) 32 0 ns.length b;have e:=(Ia (txt:=c::r) b).1;show (bN (c::r) ns 32 0).bulk+(A+1)<=(bN (c::r) ns 32 0).size*(2*A+2);rw[e];exact d
    ·rw[if_pos he];exact a
   ·split
    ·exact Pg _ (by omega) (by omega)
    ·exact a
theorem aCr (t:aA):(jO t).1.length<=4*t.length:=by
 unfold jO;split
 ·exact bM _
 ·split
  ·exact zN _
  ·split
   ·simp only[];omega
   ·exact bM _
theorem Pj (s:aA) (a b:Int):(dY s a b).length<=s.length:=by
 unfold dY;split
 ·exact bM _
 ·unfold dG;rw[cD,bB];omega
theorem Pk {A:Nat}{s:aA}{d:cF} (hA:4*s.length+1100<=A) (hd:rV s d): ∀(lv k hi:Nat),dL s d.nodes lv k hi->(aN s d lv k).bulk+(A+1)<=(aN s d lv k).size*(2*A+2)
 | lv + 1,k,hi,h=>by
  obtain⟨x,hx,_,h2⟩:=h;have f:=hd.nd x (aX hx);unfold aN;rw[hx];simp only[];by_cases e1:x.kind=1
  ·rw[if_pos e1];have:=Pj s x.rf x.rt;exact aCq _ (by omega)
  rw[if_neg e1];by_cases e4:x.kind=4
  ·rw[if_pos e4];have c:=(f.lit e4 []).2;rw[List.append_nil] at c;exact Af 4 (by omega)
  rw[if_neg e4,VT.bulk,VT.size];have hk:gE (if x.kind=3 then x.kids.map (cX s d.nodes) else [])+(if x.kind=3 then x.kids.map (cX s d.nodes) else []).length<=x.kids.length*(A+1):=by
   split
   ·have: ∀l:List Nat,gE (l.map (cX s d.nodes))+(l.map (cX s d.nodes)).length<=l.length*(A+1):=by
     intro l
     induction l with
     | nil=>simp[gE]
     | cons q l ih=>
      rw[fU,yC,aV,aV,Nat.succ_mul];have:(cX s d.nodes q).length<=A:=by
       unfold cX;split
       ·rename_i y _;have h1:=aCr (dY s y.kf y.kt);have h2:=Pj s y.kf y.kt;omega
       ·exact bM _
      omega
    exact this _
   ·exact bM _
  have b: ∀(l:List Nat) (a:Nat),cO (dL s d.nodes lv) l a hi->dS (l.map (aN s d lv))+l.length*(A+1)<=dR (l.map (aN s d lv))*(2*A+2):=by
   intro l
   induction l with
   | nil=>intro a _;simp[dS,dR]
   | cons y l ih=>
    intro a h;obtain⟨rfl,m',h2,e⟩:=h;have i1:=Pk hA hd lv y m' h2;have i2:=ih _ e;rw[fU,dS,dR,aV,Nat.succ_mul,Nat.add_mul];omega
  have:=b _ _ h2;rw[Nat.add_mul];simp only[gY];omega
theorem aCs {s:aA}{d:cF} (hs:s.length<=4096) (hd:rV s d) (hT:pV s d) {k:Nat} (hk:k<d.nodes.length):(aN s d 32 k).bulk<=1073741824:=by
 obtain⟨m,_,b⟩:=Fq hT.treeD k (bM _) hk;have h1:=Pk (A:=17484) (by omega) hd 32 k m b;have a:=(Pe hd hT).1 k hk;unfold uR at a;rw[cT,cT,kQ] at a;have h3:(aN s d 32 k).size*(2*17484+2)<=4096*(2*17484+2):=Nat.mul_le_mul_right _ a.1.1;omega
end
section
open Go.Lib hiding intOf
def gC:List aA->VT->Option VT
 | [],t=>some t
 | st::r,t=>if 0<=jR t st then(match t.items[(jR t st).toNat]? with
  | some x=>gC r x
  | none=>none) else none
def nI (s:aA) (d:cF):List aA->Nat->Nat->Option (Nat×Nat)
 | [],k,n=>some (k,n)
 | st::r,k,n=>match d.nodes[k]? with
  | none=>none
  | some x=>if x.kind≠2/\x.kind≠3 then(if(gC (st::r) (aN s d 32 k)).isSome then some (k,n) else none)
   else match lU s d.nodes x st with
    | none=>none
    | some q=>nI s d r q (n+1)
theorem Fs {P:Nat->Nat->Prop}{hi:Nat}: ∀ {l:List Nat}{a:Nat},cO P l a hi-> ∀q∈l,∃m,P q m
 | y::l,a,h,q,hq=>by
  obtain⟨rfl,m,h2,h3⟩:=h;rcases dC.1 hq with rfl | hq
  ·exact⟨m,h2⟩
  ·exact Fs h3 q hq
theorem Pm {s:aA}{d:cF}: ∀ {lv k hi:Nat},dL s d.nodes lv k hi->aN s d (lv+1) k=aN s d lv k
 | lv+1,k,hi,h=>by
  obtain⟨x,hx,_,hK⟩:=h;have e:x.kids.map (aN s d (lv+1))=x.kids.map (aN s d lv):=List.map_congr_left (λq b=>by obtain⟨m,a⟩:=Fs hK q b;exact Pm a);rw[aN,aN,hx];simp only[];rw[e]
theorem Pn {s:aA}{d:cF}{lv k hi:Nat} (h:dL s d.nodes lv k hi): ∀m,aN s d (lv+m) k=aN s d lv k/\dL s d.nodes (lv+m) k hi
 | 0=>⟨rfl,h⟩
 | m+1=>by
  obtain⟨h1,h2⟩:=Pn h m;exact⟨(Pm h2).trans h1,Fp h2⟩
theorem Po {s:aA}{d:cF}{lv k hi:Nat} (h:dL s d.nodes lv k hi) (hl:lv<=32):aN s d 32 k=aN s d lv k:=by
 have:=(Pn h (32-lv)).1
 rwa [show lv+(32-lv)=32 by omega] at this
def aCt (l:List Nat) (i:Nat) (e:Int):Option Nat->Prop
 | none=>e= -1
 | some q=>q∈l/\ ∃j,e=((i+j:Nat):Int)/\l[j]?=some q
theorem Pp (key:Nat->aA) (st:aA) (p:Nat->Bool): ∀(l:List Nat) (i:Nat),(∀q∈l,p q=decide (key q=st))->aCt l i (Lib.idxFromS ((l.map key).map bs) (bs st) i) (l.find? p)
 | [],i,_=>rfl
 | q::l,i,h=>by
  have hq:=h q (gS ..);rw[List.find?_cons,fU,fU,Lib.idxFromS];by_cases e:key q=st
  ·rw[hq,aM e];simp only[e,if_pos];exact⟨gS ..,0,rfl,rfl⟩
  ·rw[hq,aH e];have a: ¬bs (key q)=bs st:=λb=>e (xR b);simp only[a,if_false];have ih:=Pp key st p l (i+1) (λq hq=>h q (List.mem_cons_of_mem _ hq));cases hf:l.find? p with
   | none=>rw[hf] at ih;exact ih
   | some y=>
    rw[hf] at ih;obtain⟨i1,j,i2,i3⟩:=ih;exact⟨List.mem_cons_of_mem _ i1,j+1,by rw[i2];omega,i3⟩
theorem aCu {s:aA}{d:cF} (hd:rV s d) {x:aG} (hx:x∈d.nodes) (hk:x.kind=2\/x.kind=3) (st:aA) (r:List aA) (lv:Nat):
  gC (st::r) (.mk (if x.kind=3 then 6 else 5) [] (if x.kind=3 then x.kids.map (cX s d.nodes) else []) (x.kids.map (aN s d lv)))=(match lU s d.nodes x st with
   | none=>none
   | some q=>gC r (aN s d lv q))/\ ∀q,lU s d.nodes x st=some q->q∈x.kids:=by
 have i:=hd.nd x hx;rw[gC];rcases hk with hk | hk
 ·have e3: ¬x.kind=3:=by omega
  rw[if_neg e3,if_neg e3];unfold jR lU;rw[if_pos hk];show (if 0<=(if(5:Int)=6 then _ else if(5:Int)=5 then(if(fF st).2=true/\(fF st).1<((x.kids.map (aN s d lv)).length:Int) then(fF st).1 else -1) else -1) then(match (x.kids.map (aN s d lv))[(if(5:Int)=6 then _ else if(5:Int)=5 then(if(fF st).2=true/\(fF st).1<((x.kids.map (aN s d lv)).length:Int) then(fF st).1 else -1) else -1:Int).toNat]? with
   | some x=>gC r x
   | none=>none) else none)=_/\_
  rw[if_neg (show ¬(5:Int)=6 by decide),if_pos (rfl:(5:Int)=5),bK];have e:=Eu st;by_cases hc:(fF st).2=true/\(fF st).1<(x.kids.length:Int)
  ·rw[if_pos hc,if_pos hc,if_pos e,cW];cases a:x.kids[(fF st).1.toNat]? with
   | none=>have:=Bj.1 a;omega
   | some q=>exact⟨rfl,λq' h=>by rw[<-bD h];exact aX a⟩
  ·rw[if_neg hc,if_neg hc,if_neg (by decide)];exact⟨rfl,λq h=>by cases h⟩
 ·have e2: ¬x.kind=2:=by omega
  rw[if_pos hk,if_pos hk];unfold jR lU;rw[if_neg e2];show (if 0<=(if(6:Int)=6 then Lib.idxOfS ((x.kids.map (cX s d.nodes)).map bs) (bs st) else _) then(match (x.kids.map (aN s d lv))[(if(6:Int)=6 then Lib.idxOfS ((x.kids.map (cX s d.nodes)).map bs) (bs st) else _:Int).toNat]? with
   | some x=>gC r x
   | none=>none) else none)=_/\_
  rw[if_pos (rfl:(6:Int)=6)];obtain⟨p,g⟩:=exQ<|xK s d.nodes st;rw[g];have c:=Pp (cX s d.nodes) st p x.kids 0 (λq a=>by have f:=i.kid q a;have b:=(i.keys hk).2 q a;rw[<-g];unfold keyE at b;unfold cX xK;rw[bE f] at b ⊢;simp only[] at b ⊢;unfold lT;simp[b]);unfold Lib.idxOfS;cases a:x.kids.find? p with
  | none=>
   rw[a] at c;rw[show Lib.idxFromS ((x.kids.map (cX s d.nodes)).map bs) (bs st) 0= -1 from c,if_neg (by decide)];exact⟨rfl,λq h=>by cases h⟩
  | some q=>
   rw[a] at c;obtain⟨f,j,b,k⟩:=c;rw[b,Nat.zero_add,if_pos (Int.natCast_nonneg j),fT,cW,k];exact⟨rfl,λq' h=>by rw[<-bD h];exact f⟩
def aCv (s:aA) (d:cF) (p:List aA) (v:VT) (n:Nat):Option (Nat×Nat)->Prop
 | none=>gC p v=none
 | some (k,m)=>n<=m/\m<=n+p.length/\k<d.nodes.length/\ ∃x,gC p v=some x/\gC (p.drop (m-n)) (aN s d 32 k)=some x
theorem Ps {s:aA}{d:cF} (hd:rV s d): ∀(p:List aA) (lv k hi n:Nat),lv<=32->dL s d.nodes lv k hi->aCv s d p (aN s d lv k) n (nI s d p k n)
 | [],lv,k,hi,n,hl,h=>by
  have h32:=Po h hl;cases lv with
  | zero=>exact h.elim
  | succ lv=>
   obtain⟨x,a,_⟩:=h;refine⟨aE _,aE _,(aR.1 a).1,_,rfl,?_⟩;rw[h32,Nat.sub_self];rfl
 | st ::r,lv,k,hi,n,hl,h=>by
  have h32:=Po h hl;cases lv with
  | zero=>exact h.elim
  | succ lv=>
   obtain⟨x,a,_,g⟩:=h;have b:=aX a;have hn:=hd.nd x b;rw[nI,a];simp only[];split
   ·rename_i c;rw[h32];cases hw:gC (st::r) (aN s d (lv+1) k) with
    | none=>rw[if_neg (by simp)];exact hw
    | some y=>
     rw[if_pos (show (some y).isSome=true from rfl)];refine⟨aE _,Nat.le_add_right _ _,(aR.1 a).1,y,hw,?_⟩;rw[h32,Nat.sub_self];exact hw
   ·rename_i c;have i:x.kind=2\/x.kind=3:=by
     by_cases e:x.kind=2
     ·exact .inl e
     ·exact .inr (Classical.byContradiction λe3=>c ⟨e,e3⟩)
    have j:aN s d (lv+1) k= .mk (if x.kind=3 then 6 else 5) [] (if x.kind=3 then x.kids.map (cX s d.nodes) else []) (x.kids.map (aN s d lv)):=by
     rw[aN,a];simp only[];rw[if_neg (by omega),if_neg (by omega)]
    obtain⟨w1,w2⟩:=aCu hd b i st r lv;rw[<-j] at w1;cases hS:lU s d.nodes x st with
    | none=>rw[hS] at w1;exact w1
    | some q=>
     rw[hS] at w1;obtain⟨m,f⟩:=Fs g q (w2 q hS);have ih:=Ps hd r lv q m (n+1) (by omega) f;simp only[] at w1 ⊢;cases hA:nI s d r q (n+1) with
     | none=>rw[hA] at ih;exact w1.trans ih
     | some e=>
      obtain⟨k',m'⟩:=e;rw[hA] at ih;obtain⟨a1,a2,a3,y,a4,a5⟩:=ih;refine⟨by omega,by rw[aV];omega,a3,y,w1.trans a4,?_⟩;rw[show m'-n=(m'-(n+1))+1 by omega];exact a5
end
end Go.Proofs.YtaifnmjjpddikaaGreatDoor
