import Derived.Test.YtfhjncbdgjlcoaaGreatDoorYa17
set_option linter.unusedVariables false
set_option linter.unusedSimpArgs false
namespace Go.Proofs.YtfhjncbdgjlcoaaGreatDoor
section
open Go.Lib
theorem Lv: ∀(l:List (Nat×Nat)) (x:Nat×Nat),x∈sZ l-> ∃y∈l,x.1=y.1/\(x.2=y.2\/x.2=y.2-1/\y∈l.dropLast)
 | [],x,h=>by cases h
 | [y],x,h=>⟨y,e_,by rw[mX.1 h];simp⟩
 | y::z::r,x,h=>by
  rw[sZ] at h;rcases fY.1 h with rfl | h
  ·exact⟨y,e_,rfl, .inr ⟨rfl,e_⟩⟩
  ·obtain⟨q,h1,h2,h3⟩:=Lv (z::r) x h;refine⟨q,List.mem_cons_of_mem _ h1,h2,h3.imp_right fun⟨e,h⟩=>⟨e,?_⟩⟩;rw[List.dropLast_cons_of_ne_nil e_];exact List.mem_cons_of_mem _ h
theorem Ao: ∀(l:aA) (k pos:Nat),k<=pos->(∀x∈gC l k pos,k<=x.1/\x.1<=x.2/\x.2<=pos+l.length)/\(∀x∈(gC l k pos).dropLast,x.1<x.2)
 | [],k,pos,h=>by simp[gC];omega
 | c::t,k,pos,h=>by
  unfold gC;split
  ·obtain⟨h1,h2⟩:=Ao t (pos+1) (pos+1) (aD _);have f:gC t (pos+1) (pos+1)≠ []:=λe=>by have:=(uL t (pos+1) (pos+1)).2;rw[e] at this;simp at this
   refine⟨λx b=>?_,λx b=>?_⟩
   ·rw[bH];rcases fY.1 b with rfl | b
    ·simp only[];omega
    ·have:=h1 x b;omega
   ·rw[List.dropLast_cons_of_ne_nil f] at b;rcases fY.1 b with rfl | b
    ·simp only[];omega
    ·exact h2 x b
  ·obtain⟨h1,h2⟩:=Ao t k (pos+1) a_;refine⟨λx b=>?_,h2⟩;have:=h1 x b;rw[bH];omega
def eR (s:aA) (sp:List (Nat×Nat)):Prop:= ∀x∈sp,x.1<=x.2/\x.2<=s.length
theorem Lw (s:aA):eR s (oF s):=by
 intro x e;obtain⟨y,f,h2,b⟩:=Lv _ _ e;obtain⟨g1,g2⟩:=Ao s 0 0 (aD _);have h4:=g1 y f;rcases b with b | ⟨b,c⟩
 ·omega
 ·have:=g2 y c;omega
structure wD (s:aA) (x:Nat×Nat) (r:aP):Prop where
 ind:0<=r.ind/\(x.1:Int)+r.ind<=(x.2:Int)/\(x.2:Int)<=(s.length:Int)
 key:0<=r.kf/\r.kf<=r.kt/\r.kt<=(s.length:Int)
 rst:0<=r.rf/\r.rf<=r.rt/\r.rt<=(s.length:Int)
 oth:r.kind=5->r.rf=(x.1:Int)+r.ind
 itm:r.kind≠4->r.kf=0/\r.kt=0
theorem Xp {u:aA}{c:sQ} (h:fQ u=some c) (h5:c.kind=5) (hu:aX u=0):c.rf=0:=by
 unfold fQ at h;split at h
 ·injection h with h;subst h;cases h5
 ·split at h
  ·injection h with h;subst h;cases h5
  ·split at h
   ·cases h
   ·injection h with h;subst h;have h5:(eO u).1=5:=h5;show cE u (eI (eO u))=0;unfold eI cE;rw[h5,if_neg b_,if_neg b_,List.drop_zero,hu]
theorem Xq (t:aA):aX (t.drop (aX t))=0:=by
 cases h:t.drop (aX t) with
 | nil=>rfl
 | cons c r=>
  have b:=nW t;have f:t[aX t]?=some c:=by
   have:=congrArg (λl=>l[0]?) h;simpa using this
  rw[Dt,if_neg (λe=>b (by rw[f,e]))]
theorem Xr {s:aA}{x:Nat×Nat} (h1:x.1<=x.2) (h2:x.2<=s.length) (h:(eZ s x.1 x.2).2.2=0):wD s x (eZ s x.1 x.2).1:=by
 unfold eZ at h ⊢;rw[if_neg a_] at h ⊢;simp only[fV,show ((x.2:Int)-(x.1:Int)).toNat=x.2-x.1 by omega] at h ⊢;obtain⟨t,j⟩:=exQ<|(s.drop x.1).take (x.2-x.1);have htl:t.length=x.2-x.1:=by rw[<-j,bT,aU];omega
 rw[j] at h ⊢;split at h
 ·cases h
 ·rename_i f;rw[if_neg f];split at h
  ·cases h
  ·rename_i m;rw[if_neg m];have hsl:=jU t;cases hc:fQ (t.drop (aX t)) with
   | none=>rw[hc] at h;cases h
   | some c=>
    have i:=Kr _ _ hc;have g:(t.drop (aX t)).length=t.length-aX t:=aU;have l:=i.ord;rw[g] at l;simp only[];unfold oV;refine⟨⟨by simp only[];omega,by simp only[];omega,a_⟩,?_,⟨by simp only[];omega,by simp only[];omega,by simp only[];omega⟩,λk=>?_,λb=>?_⟩
    ·simp only[];by_cases b:c.kind=4
     ·have:=(i.key b).2.1;rw[if_pos b,if_pos b];omega
     ·rw[if_neg b,if_neg b];omega
    ·have:=Xp hc (by simp only[] at k;omega) (Xq t);exact al
    ·have b: ¬c.kind=4:=λe=>b EV;simp only[if_neg b,and_self]
theorem Xs {s:aA}{x:Nat×Nat} (h1:x.1<=x.2) (h2:x.2<=s.length):0<=(eZ s x.1 x.2).2.1/\(eZ s x.1 x.2).2.1<=(s.length:Int):=by
 unfold eZ;rw[if_neg a_];simp only[fV,show ((x.2:Int)-(x.1:Int)).toNat=x.2-x.1 by omega];obtain⟨t,b⟩:=exQ<|(s.drop x.1).take (x.2-x.1);have htl:t.length=x.2-x.1:=by rw[<-b,bT,aU];omega
 rw[b];have hsl:=jU t;split
 ·exact al
 ·split
  ·exact al
  ·split
   ·exact al
   ·exact al
theorem Xt {ls:List aP}{k:Nat}{r:aP} (h:ls[k]?=some r):aS ls k=r:=by unfold aS;rw[h];rfl
theorem jY {ls:List aP}{k:Nat} (h:k<ls.length):ls[k]?=some (aS ls k):=by unfold aS;rw[bC h];rfl
theorem Ep {ls more:List aP}{k:Nat} (h:k<ls.length):aS (ls++more) k=aS ls k:=by unfold aS;rw[qO h]
theorem Lx (ls:List aP) (r:aP):aS (ls++ [r]) ls.length=r:=by unfold aS;rw[kT (aD _)];simp
theorem Aq {sp:List (Nat×Nat)}{k:Nat}{x:Nat×Nat} (h:sp[k]?=some x):lA sp k=x:=by unfold lA;rw[h];rfl
def nH (s:aA) (sp:List (Nat×Nat)) (ls:List aP):Prop:=ls.length<=sp.length/\ ∀k,k<ls.length->wD s (lA sp k) (aS ls k)
theorem nH.push {s:aA}{sp:List (Nat×Nat)}{ls:List aP} (h:nH s sp ls) (hl:ls.length<sp.length) {r:aP} (hr:wD s (lA sp ls.length) r):nH s sp (ls++ [r]):=by
 refine⟨by rw[aT,dS];omega,λk b=>?_⟩;rw[aT,dS] at b;by_cases h2:k<ls.length
 ·rw[Ep h2];exact h.2 k h2
 ·obtain rfl:k=ls.length:=a_
  rw[Lx];exact hr
def uO (x:aP):Prop:=x.kind=1\/x.kind=2
theorem uO.no {x:aP} (h:uO x):kF x=false:=by
 unfold kF;rcases h with h | h<;>rw[h]<;>decide
theorem Xu {s:aA}{x:Nat×Nat} (h:(eZ s x.1 x.2).2.2=0):kF (eZ s x.1 x.2).1=true\/uO (eZ s x.1 x.2).1:=by
 unfold eZ at h ⊢;split at h
 ·cases h
 ·rename_i b;rw[if_neg b];simp only[] at h ⊢;split at h
  ·cases h
  ·rename_i g;rw[if_neg g];split at h
   ·cases h
   ·rename_i f;rw[if_neg f];split at h
    ·cases h
    ·rename_i c e;have:=(Kr _ _ e).kind;simp only[];unfold uO kF oV;simp only[fK,jS];omega
def Lk (ls:List aP) (k:Nat):Prop:= ∀i,k<=i->i<ls.length->uO (aS ls i)\/(i+1=ls.length/\kF (aS ls i)=true)
structure rB (s:aA) (sp:List (Nat×Nat)) (k:Nat) (lines:List aP) (nx:Nat) (ls:List aP):Prop where
 pre: ∃more,ls=lines++more
 le:k<=nx/\nx<=sp.length
 hit:nx<sp.length->ls.length=nx+1/\kF (aS ls nx)=true
 miss: ∀i,k<=i->i<nx->uO (aS ls i)
 all:nx=sp.length->ls.length=sp.length
 ok:nH s sp ls
theorem Ly (s:aA) (sp:List (Nat×Nat)) (hsp:eR s sp): ∀(rest:List (Nat×Nat)) (k:Nat) (lines:List aP),sp.drop k=rest->k<=sp.length->k<=lines.length->nH s sp lines->Lk lines k->
  match lW s rest k lines with
  | .ok nx ls=>rB s sp k lines nx ls
  | .bad a e=>0<=a/\a<=(s.length:Int)/\e≠0
 | [],k,lines,hd,hk,hkl,hok,hl=>by
  have hks:k=sp.length:=by
   have:=congrArg List.length hd;rw[aU] at this;simp at this;omega
  unfold lW;exact⟨⟨[],e_⟩,⟨aD _,hk⟩,λh=>by omega,λi u t=>by omega,λ_=>by have:=hok.1;omega,hok⟩
 | x ::r,k,lines,hd,hk,hkl,hok,hl=>by
  have E:k<sp.length:=by
   have:=congrArg List.length hd;rw[aU] at this;simp at this;omega
  have G:sp[k]?=some x:=by
   have:=congrArg (λl=>l[0]?) hd;simpa using this
  have C:sp.drop (k+1)=r:=by
   have:=congrArg List.tail hd;rw[List.tail_drop] at this;simpa using this
  obtain⟨x1,x2⟩:=hsp x (bD G);unfold lW;have n: ∀(b:List aP),(∃m,b=lines++m)->k<b.length->uO (aS b k)->nH s sp b->Lk b (k+1)->
    match lW s r (k+1) b with
    | .ok nx ls=>rB s sp k lines nx ls
    | .bad a e=>0<=a/\a<=(s.length:Int)/\e≠0:=by
   intro b H j f c F;have:=Ly s sp hsp r (k+1) b C E j c F;cases hn:lW s r (k+1) b with
   | bad a e=>rw[hn] at this;exact this
   | ok nx ls=>
    rw[hn] at this;simp only[] at this ⊢;obtain⟨m2,z⟩:=this.pre;obtain⟨m1,B⟩:=H;refine⟨⟨m1++m2,by rw[z,B,mU]⟩,⟨by have:=this.le;omega,this.le.2⟩,this.hit,λi u t=>?_,this.all,this.ok⟩;by_cases hik:i=k
    ·subst hik;rw[z,Ep j];exact f
    ·exact this.miss i a_ t
  cases hln:lines[k]? with
  | some l=>
   simp only[];have g:=(aR.1 hln).1;have p:=Xt hln;by_cases f:kF l=true
   ·rw[if_pos f];simp only[];refine⟨⟨[],e_⟩,⟨aD _,hk⟩,λ_=>⟨?_,by rw[p];exact f⟩,λi u t=>by omega,λh=>by omega,hok⟩;rcases hl k (aD _) g with h | h
    ·rw[p] at h;rw[h.no] at f;cases f
    ·exact h.1.symm
   ·rw[if_neg f];refine n lines ⟨[],e_⟩ g ?_ hok (λi u t=>hl i a_ t);rcases hl k (aD _) g with h | h
    ·exact h
    ·rw[p] at h;exact absurd h.2 f
  | none=>
   simp only[];have q:k=lines.length:=by
    rw[Iu] at hln;omega
   by_cases h0:(eZ s x.1 x.2).2.2≠0
   ·rw[if_pos h0];simp only[];have:=Xs x1 x2;exact⟨this.1,this.2,h0⟩
   ·rw[if_neg h0];have y:(eZ s x.1 x.2).2.2=0:=a_;have A:=Xr x1 x2 y;have c:=hok.push a_ (by rw[<-q,Aq G];exact A);have o:aS (lines++ [(eZ s x.1 x.2).1]) k=(eZ s x.1 x.2).1:=by rw[q];exact Lx _ _
    have D:(lines++ [(eZ s x.1 x.2).1]).length=k+1:=(by rw[aT,dS,q]);by_cases f:kF (eZ s x.1 x.2).1=true
    ·rw[if_pos f];simp only[];exact⟨⟨_,rfl⟩,⟨aD _,hk⟩,λ_=>⟨D,by rw[o];exact f⟩,λi u t=>by omega,λh=>by omega,c⟩
    ·rw[if_neg f];exact n _ ⟨_,rfl⟩ a_ (by rw[o];exact(Xu y).resolve_left f) c (λi u t=>by omega)
theorem oH {s:aA}{sp:List (Nat×Nat)} (hsp:eR s sp) {k:Nat}{lines:List aP} (hkl:k<=lines.length) (hok:nH s sp lines) (hl:Lk lines k):
  match fR s sp k lines with
  | .ok nx ls=>rB s sp k lines nx ls
  | .bad a e=>0<=a/\a<=(s.length:Int)/\e≠0:=Ly s sp hsp (sp.drop k) k lines rfl (aZ hkl hok.1) hkl hok hl
theorem rB.lk {s:aA}{sp:List (Nat×Nat)}{k nx:Nat}{lines ls:List aP} (h:rB s sp k lines nx ls):Lk ls k:=by
 intro i c h2;by_cases hi:i<nx
 ·exact .inl (h.miss i c hi)
 ·right;by_cases hn:nx<sp.length
  ·obtain⟨b,e⟩:=h.hit hn;obtain rfl:i=nx:=a_;exact⟨b.symm,e⟩
  ·have:=h.all (by have:=h.le;omega);have:=h.le;omega
theorem rB.len {s:aA}{sp:List (Nat×Nat)}{k nx:Nat}{lines ls:List aP} (h:rB s sp k lines nx ls):lines.length<=ls.length:=by
 obtain⟨m,b⟩:=h.pre;rw[b,aT];omega
structure eS (s:aA) (sp:List (Nat×Nat)) (st:YS):Prop where
 ls:nH s sp st.lines
 tot:st.nodes.length<=st.total/\st.total<=4096
structure mN (s:aA) (sp:List (Nat×Nat)) (k:Nat) (st:YS) (n:Nat) (st':YS):Prop where
 num:n=st.nodes.length
 nds: ∃more,more≠ []/\st'.nodes=st.nodes++more
 lns: ∃more,st'.lines=st.lines++more
 til:k<iL st'.nodes n/\iL st'.nodes n<=st'.lines.length
 lk:Lk st'.lines (iL st'.nodes n)
 wf:eS s sp st'
def rC (s:aA) (sp:List (Nat×Nat)) (k:Nat) (st:YS) (R:YR):Prop:=match R with
 | .ok n st'=>mN s sp k st n st'
 | .bad a e=>0<=a/\a<=(s.length:Int)/\e≠0
def iV (s:aA) (sp:List (Nat×Nat)) (V:YB):Prop:= ∀k kf kt st,eS s sp st->k+1=st.lines.length->rC s sp k st (V k kf kt st)
theorem Er (ns:List bA) (x:bA) (more:List bA):iL (ns++x::more) ns.length=x.til:=by
 unfold iL;rw[kT (aD _),Nat.sub_self];rfl
theorem Es {s:aA}{sp:List (Nat×Nat)} (lv:Nat) {k:Nat} (kf kt:Int) {st:YS} (hw:eS s sp st) (hk:k<st.lines.length) (hlk:Lk st.lines (k+1)):rC s sp k st (jW s lv k kf kt st):=by
 have BG:=trivial;exact uf
theorem Et (s:aA) (ind:Int): ∀(l:List (Nat×Nat)) (i til first:Nat),til<=i->til<=lB s ind l i til first/\lB s ind l i til first<=i+l.length
 | [],i,til,first,h=>by simp[lB];omega
 | x::r,i,til,first,h=>by
  unfold lB;rw[bH];split
  ·have:=Et s ind r (i+1) til first a_;omega
  ·split
   ·omega
   ·have:=Et s ind r (i+1) (i+1) (if first=0 then aX (eJ s x) else first) (aD _);omega
theorem Eu {s:aA}{sp:List (Nat×Nat)} (ind:Int) {k:Nat} (hk:k<sp.length):k+1<=oC s sp ind k/\oC s sp ind k<=sp.length:=by
 have:=Et s ind (sp.drop (k+1)) (k+1) (k+1) 0 (aD _);rw[aU] at this;unfold oC;omega
theorem xV {s:aA}{x:Nat×Nat} (h1:x.1<=x.2) (h2:x.2<=s.length):(eJ s x).length=x.2-x.1:=by
 unfold eJ;rw[bT,aU];omega
theorem Xv {s:aA}{x:Nat×Nat} (h1:x.1<=x.2) (h2:x.2<=s.length):wD s x (pD s x):=by
 have:=jU (eJ s x);have:=xV h1 h2;unfold pD;exact⟨by simp only[];omega,by simp only[];omega,by simp only[];omega,(λh=>by cases h),λ_=>⟨rfl,rfl⟩⟩
theorem Lz {s:aA}{sp:List (Nat×Nat)} (hsp:eR s sp): ∀(l:List (Nat×Nat)) (ls:List aP),nH s sp ls->(∃r,sp.drop ls.length=l++r)->
  match nF s l ls with
  | .inl ls'=>nH s sp ls'/\ls'.length=ls.length+l.length/\(∃more,ls'=ls++more)
  | .inr a=>0<=a/\a<=(s.length:Int)
 | [],ls,h,hd=>⟨h,rfl,[],e_⟩
 | x::l,ls,h,⟨r,hd⟩=>by
  have hx:sp[ls.length]?=some x:=by
   have:=congrArg (λl=>l[0]?) hd;simpa using this
  have c:=(aR.1 hx).1;have b:sp.drop (ls.length+1)=l++r:=by
   have:=congrArg List.tail hd;rw[List.tail_drop] at this;simpa using this
  obtain⟨x1,x2⟩:=hsp x (bD hx);unfold nF;by_cases hm:mM s x<x.2
  ·rw[if_pos hm];simp only[];omega
  ·rw[if_neg hm];have ih:=Lz hsp l (ls++ [pD s x]) (h.push c (by rw[Aq hx];exact Xv x1 x2)) ⟨r,by rw[aT,dS];exact b⟩;cases ht:nF s l (ls++ [pD s x]) with
   | inr a=>rw[ht] at ih;exact ih
   | inl ls'=>
    rw[ht] at ih;simp only[] at ih ⊢;obtain⟨i1,i2,m,i3⟩:=ih;refine⟨i1,?_,pD s x::m,by rw[i3];simp⟩;rw[i2,aT,dS,bH];omega
theorem Xw {s:aA}{sp:List (Nat×Nat)} (hsp:eR s sp) (lv:Nat) {k:Nat} (kf kt:Int) {st:YS} (hw:eS s sp st) (hk:k+1=st.lines.length):rC s sp k st (pE s sp lv k kf kt st):=uf
theorem mN.more {s:aA}{sp:List (Nat×Nat)}{k k':Nat}{st:YS}{ls m:List aP}{tot n:Nat}{st':YS} (h:mN s sp k' ⟨ls,st.nodes,tot⟩ n st') (hm:ls=st.lines++m) (hk:k<=k'):mN s sp k st n st':=by
 obtain⟨g1,g2,⟨m2,g3⟩,g4,g5,g6⟩:=h;exact⟨g1,g2,⟨m++m2,by rw[g3,hm,mU]⟩,a_,g5,g6⟩
theorem rC.more {s:aA}{sp:List (Nat×Nat)}{k k':Nat}{st:YS}{ls m:List aP}{tot:Nat}{R:YR} (h:rC s sp k' ⟨ls,st.nodes,tot⟩ R) (hm:ls=st.lines++m) (hk:k<=k'):rC s sp k st R:=by
 cases R with
 | bad a e=>exact h
 | ok n st'=>exact mN.more (show mN s sp k' ⟨ls,st.nodes,tot⟩ n st' from h) hm hk
theorem Ew {s:aA}{sp:List (Nat×Nat)} (hsp:eR s sp) {B:YB} (hB:iV s sp B) (lv:Nat):iV s sp (qZ s sp B lv):=by
 intro k kf kt st h l;have g:Lk st.lines (k+1):=λi h1 h2=>by omega
 unfold qZ;simp only[];split
 ·exact Xw hsp lv kf kt h l
 ·split
  ·have b:=oH hsp (k:=k+1) a_ h.ls g;cases hm:fR s sp (k+1) st.lines with
   | bad a e=>rw[hm] at b;exact b
   | ok nx ls=>
    rw[hm] at b;simp only[] at b ⊢;have f:eS s sp ⟨ls,st.nodes,st.total⟩:=⟨b.ok,h.tot⟩;obtain⟨m,c⟩:=b.pre;have hle:=b.le;have hll:=b.len;split
    ·rename_i j;exact(hB nx kf kt ⟨ls,st.nodes,st.total⟩ f (b.hit j.1).1.symm).more c a_
    ·exact(Es (s:=s) lv kf kt f (k:=k) EV b.lk).more c (aD _)
  ·exact Es lv kf kt h a_ g
theorem Ex (f:bA->bA): ∀(n:Nat) (l:List bA),(uM f n l).length=l.length
 | _,[]=>by cases ‹Nat› <;>rfl
 | 0,_::_=>rfl
 | n+1,x::l=>by rw[uM,bH,Ex f n l,bH]
theorem xW (f:bA->bA): ∀(n:Nat) (l:List bA) (x:bA),l[n]?=some x->uM f n l=l.set n (f x)
 | _,[],x,h=>by simp at h
 | 0,y::l,x,h=>by
  obtain rfl:y=x:=r_
  rfl
 | n+1,y::l,x,h=>by
  rw[uM,cP,xW f n l x r_]
theorem Xx (f:bA->bA) (pre:List bA) (x:bA) (post:List bA):uM f pre.length (pre++x::post)=pre++f x::post:=by
 rw[xW f pre.length _ x (by rw[kT (aD _),Nat.sub_self];rfl),List.set_append_right _ _ (aD _),Nat.sub_self];rfl
theorem wE {ns:List bA}{k:Nat}{x:bA} (h:ns[k]?=some x):iL ns k=x.til:=by unfold iL;rw[h]
theorem Ar {s:aA}{sp:List (Nat×Nat)}{V:YB} (hV:iV s sp V) (map:Bool) (had:List aA) {k:Nat}{st:YS} (hw:eS s sp st) (hk:k+1=st.lines.length):rC s sp k st (fN s V map had k st).1:=by
 have b:=hw.ls.2 k a_;unfold fN;split
 ·simp only[];split
  ·rename_i h;exact⟨b.key.1,by have:=b.key;omega,h⟩
  ·split
   ·exact⟨b.key.1,by have:=b.key;omega,b_⟩
   ·exact hV _ _ _ _ hw hk
 ·exact hV _ _ _ _ hw hk
structure Ma (s:aA) (sp:List (Nat×Nat)) (k0 n:Nat) (st0:YS) (k:Nat) (st:YS):Prop where
 nds: ∃x post,st.nodes=st0.nodes++x::post/\x.til<=st.lines.length/\k0<x.til/\Lk st.lines x.til/\x.til<=k
 num:n=st0.nodes.length
 lns: ∃more,st.lines=st0.lines++more
 wf:eS s sp st
 k:k<=sp.length/\k0<k/\(k<sp.length->k+1=st.lines.length)
theorem Ey {s:aA}{sp:List (Nat×Nat)} (hsp:eR s sp) {V:YB} (hV:iV s sp V) (map:Bool) {n:Nat} (ind:Int) (had:List aA) {k0 k:Nat}{st0 st:YS} (hw:eS s sp st) (hk:k+1=st.lines.length) (hk0:k0<=k) (hn:n=st0.nodes.length) (hnd: ∃x post,st.nodes=st0.nodes++x::post) (hls: ∃more,st.lines=st0.lines++more):
  match iM s sp V map n ind had k st with
  | .ok nx s2 had'=>Ma s sp k0 n st0 nx s2/\k<nx
  | .bad a e=>0<=a/\a<=(s.length:Int)/\e≠0:=by
 have i:=Ar hV map had hw hk;unfold iM;obtain⟨R,l⟩:=exQ<|fN s V map had k st;rw[l] at i ⊢;obtain⟨R,had'⟩:=R;cases R with
 | bad a e=>exact i
 | ok kid s2=>
  obtain⟨g1,⟨m1,g2n,g2⟩,⟨m2,g3⟩,g4,g5,g6⟩:=(show mN s sp k st kid s2 from i);simp only[];have b:=oH hsp (k:=iL s2.nodes kid) g4.2 g6.ls g5;cases hm:fR s sp (iL s2.nodes kid) s2.lines with
  | bad a e=>rw[hm] at b;exact b
  | ok nx ls=>
   rw[hm] at b;simp only[] at b ⊢;obtain⟨m3,g⟩:=b.pre;have c:=b.le;have hll:=b.len;by_cases hc:nx<sp.length/\ind<(aS ls nx).ind
   ·rw[if_pos hc];have f:=b.ok.2 nx (by have:=(b.hit hc.1).1;omega);have:=f.ind;simp only[];exact⟨a_,a_,b_⟩
   ·rw[if_neg hc];simp only[];obtain⟨x,post,m⟩:=hnd;obtain⟨m0,j⟩:=hls;refine⟨⟨⟨{ x with kids:=x.kids++ [kid],til:=iL s2.nodes kid },post++m1,?_,by simp only[];omega,by simp only[];omega,b.lk,c.1⟩,hn,⟨m0++m2++m3,by simp only[];rw[g,g3,j];simp⟩,⟨b.ok,?_⟩,⟨c.2,a_,λh=>(b.hit h).1.symm⟩⟩,a_⟩
    ·simp only[];unfold iU;rw[hn]
     conv=>lhs;arg 3;rw[g2,m,mU,qK]
     rw[Xx]
    ·have:=g6.tot;simp only[];unfold iU;rw[Ex];exact this
theorem Mb {s:aA}{sp:List (Nat×Nat)} (hsp:eR s sp) {V:YB} (hV:iV s sp V) (map:Bool) {n:Nat} (ind kind:Int) {k0:Nat}{st0:YS}: ∀(f:Nat) (had:List aA) (k:Nat) (st:YS),Ma s sp k0 n st0 k st->rC s sp k0 st0 (nG s sp V map n ind kind f had k st)
 | f,had,k,st,h=>by
  have fin:rC s sp k0 st0 (.ok n st):=by
   obtain⟨⟨x,c,b,m,o,q,_⟩,g,l,p,h8⟩:=h;have i:iL st.nodes n=x.til:=by rw[b,g];exact Er _ _ _
   exact⟨g,⟨_,List.cons_ne_nil _ _,b⟩,l,by rw[i];exact⟨o,m⟩,by rw[i];exact q,p⟩
  cases f with
  | zero=>exact fin
  | succ f=>
   unfold nG;split
   ·rename_i j;have b:=Ey hsp hV map (n:=n) ind had h.wf (h.k.2.2 j.1) (Nat.le_of_lt h.k.2.1) h.num (by obtain⟨x,c,b,_⟩:=h.nds;exact⟨x,c,b⟩) h.lns;cases ho:iM s sp V map n ind had k st with
    | bad a e=>rw[ho] at b;exact b
    | ok nx s2 had'=>
     rw[ho] at b;exact Mb hsp hV map ind kind f had' nx s2 b.1
   ·exact fin
theorem uP {x:bA}{lv:Nat}{a:Int}{st:YS}{n:Nat}{s1:YS} (h:fM x lv a st= .ok n s1):n=st.nodes.length/\s1=⟨st.lines,st.nodes++ [x],st.total+1⟩/\lv≠0/\st.total<4096:=by
 unfold fM at h;split at h
 ·cases h
 ·split at h
  ·cases h
  ·injection h with b c;exact⟨b.symm,c.symm,l_,a_⟩
theorem Xy {x:bA}{lv:Nat}{a:Int}{st:YS}{b e:Int} (h:fM x lv a st= .bad b e):b=a/\(e=5\/e=6):=by
 unfold fM at h;split at h
 ·injection h with c f;exact⟨c.symm, .inl f.symm⟩
 ·split at h
  ·injection h with c f;exact⟨c.symm, .inr f.symm⟩
  ·cases h
theorem Mc {s:aA}{sp:List (Nat×Nat)} (hsp:eR s sp) {V:YB} (lv:Nat) (hV:lv≠0->iV s sp V):iV s sp (oE s sp V lv):=by
 intro k kf kt st g t;have j:Lk st.lines (k+1):=λi c h2=>by omega
 have l:=g.ls.2 k a_;have o:k<sp.length:=by have:=g.ls.1;omega
 unfold oE;simp only[];split
 ·exact Es lv kf kt g a_ j
 ·split
  ·rename_i a e h;obtain⟨rfl,r⟩:=Xy h;have:=l.ind;unfold wB;exact⟨a_,a_,by rcases r with rfl|rfl<;>decide⟩
  ·rename_i n s1 h;obtain⟨rfl,rfl,p,h4⟩:=uP h;obtain⟨f,q⟩: ∃f,sp.length-k=f+1:=⟨sp.length-k-1,a_⟩;have htot:=g.tot;rw[q];unfold nG;rw[if_pos ⟨o,rfl,rfl⟩];have c:=Ey hsp (hV p) (decide ((aS st.lines k).kind=4)) (n:=st.nodes.length) (aS st.lines k).ind [] (k0:=k) (st0:=st) (st:=⟨st.lines,st.nodes++ [⟨if(aS st.lines k).kind=4 then 3 else 2,(aS st.lines k).ind,k,0,kf,kt,0,0,[]⟩],st.total+1⟩) ⟨g.ls,by simp only[aT,dS];omega⟩ t (aD _) rfl ⟨_,[],rfl⟩ ⟨[],e_⟩;split
   ·rename_i a e m;rw[m] at c;exact c
   ·rename_i nx s2 b m;rw[m] at c;exact Mb hsp (hV p) _ _ _ f b nx s2 c.1
theorem tB {s:aA}{sp:List (Nat×Nat)} (hsp:eR s sp): ∀lv,iV s sp (tA s sp lv)
 | 0=>Mc hsp 0 (λh=>absurd rfl h)
 | lv+1=>Mc hsp (lv+1) (λ_=>Ew hsp (tB hsp lv) lv)
end
section
open Go.RowKit
open Go.Lib hiding intOf
def YJ (T:TypeId) (Pr:aJ) (w0:World) (P:Nat) (txt:aA) (sp:List (Nat×Nat)) (st:YS) (a er:Int) (w:World):Prop:= ∃z sv lv nv,z.map (·.1)=st.nodes/\YK T Pr w0 P txt sp st.lines z st.total a er sv lv nv w
def fS (T:TypeId) (Pr:aJ) (w0:World) (P:Nat) (txt:aA) (sp:List (Nat×Nat)) (a er:Int) (w:World):Prop:= ∃st,YJ T Pr w0 P txt sp st a er w
def rD (T:TypeId) (Pr:aJ) (w0:World) (P:Nat) (txt:aA) (sp:List (Nat×Nat)) (st:YS) (R:NX) (e:Ending) (w':World):Prop:=match R with
 | .ok k ls=>e= .returned (.tuple #[k,true])/\YJ T Pr w0 P txt sp ⟨ls,st.nodes,st.total⟩ 0 0 w'
 | .bad a er=>(∃m:Int,e= .returned (.tuple #[m,false]))/\fS T Pr w0 P txt sp a er w'
def eT (T:TypeId) (Pr:aJ) (w0:World) (P:Nat) (txt:aA) (sp:List (Nat×Nat)) (R:YR) (e:Ending) (w':World):Prop:=match R with
 | .ok n st=>e= .returned (.tuple #[n,true])/\YJ T Pr w0 P txt sp st 0 0 w'
 | .bad a er=>(∃m:Int,e= .returned (.tuple #[m,false]))/\fS T Pr w0 P txt sp a er w'
section
variable {T:TypeId}{Pr Pr':aJ}{w0 w w':World}{P:Nat}{txt:aA}{sp:List (Nat×Nat)}{st:YS}{a er:Int}
theorem YJ.keep (h:YJ T Pr w0 P txt sp st a er w) (hb:Below w.heap.size w w'):YJ T Pr w0 P txt sp st a er w':=by
 obtain⟨z,sv,lv,nv,c,b⟩:=h;exact⟨z,sv,lv,nv,c,b.keep hb⟩
theorem YJ.put (h:YJ T Pr w0 P txt sp st a er w) (hb:Below w.heap.size w w') {X:Nat}{o:Obj} (hX:w.heap.size<=X) (ho:w'.heap[X]?=some o):YJ T (Pr.put X o) w0 P txt sp st a er w':=by
 obtain⟨z,sv,lv,nv,c,b⟩:=h;exact⟨z,sv,lv,nv,c,b.put hb hX ho⟩
theorem YJ.less (h:YJ T Pr w0 P txt sp st a er w) (hp: ∀k o,Pr' k=some o->Pr k=some o):YJ T Pr' w0 P txt sp st a er w:=by
 obtain⟨z,sv,lv,nv,c,b⟩:=h;exact⟨z,sv,lv,nv,c,b.less hp⟩
theorem YJ.bel (h:YJ T Pr w0 P txt sp st a er w):Below w0.heap.size w0 w:=by
 obtain⟨z,sv,lv,nv,h1,b⟩:=h;exact b.bel
theorem YJ.at_ (h:YJ T Pr w0 P txt sp st a er w) {k:Nat}{o:Obj} (hk:Pr k=some o):w.heap[k]?=some o:=by
 obtain⟨z,sv,lv,nv,h1,b⟩:=h;exact(b.fr k o hk).1
theorem YJ.frLt (h:YJ T Pr w0 P txt sp st a er w): ∀k o,Pr k=some o->k<w.heap.size:=by
 obtain⟨z,sv,lv,nv,h1,b⟩:=h;exact λk o c=>b.frLt c
theorem YJ.lt (h:YJ T Pr w0 P txt sp st a er w):P<w.heap.size:=by
 obtain⟨z,sv,lv,nv,h1,b⟩:=h;exact b.lt
theorem YJ.fail (h:YJ T Pr w0 P txt sp st a er w) (a2 e2:Int):YJ T Pr w0 P txt sp st a2 e2 ((w.setCell ⟨P,5,none⟩ (.int .i64 a2)).setCell ⟨P,6,none⟩ (.int .i64 e2)):=by
 obtain⟨z,sv,lv,nv,c,b⟩:=h;exact⟨z,sv,lv,nv,c,b.fail a2 e2⟩
theorem YJ.bad (h:YJ T Pr w0 P txt sp st a er w):fS T Pr w0 P txt sp a er w:=⟨st,h⟩
theorem fS.keep (h:fS T Pr w0 P txt sp a er w) (hb:Below w.heap.size w w'):fS T Pr w0 P txt sp a er w':=by
 obtain⟨st,h⟩:=h;exact⟨st,h.keep hb⟩
theorem fS.less (h:fS T Pr w0 P txt sp a er w) (hp: ∀k o,Pr' k=some o->Pr k=some o):fS T Pr' w0 P txt sp a er w:=by
 obtain⟨st,h⟩:=h;exact⟨st,h.less hp⟩
theorem eT.less {R:YR}{e:Ending} (h:eT T Pr w0 P txt sp R e w) (hp: ∀k o,Pr' k=some o->Pr k=some o):eT T Pr' w0 P txt sp R e w:=by
 cases R with
 | ok n st=>exact⟨h.1,h.2.less hp⟩
 | bad a er=>exact⟨h.1,h.2.less hp⟩
end
abbrev YP:TypeId:=66
section
variable {Pr:aJ}{w0:World}{P:Nat}{txt:aA}{sp:List (Nat×Nat)}{st:YS}{a0 e0:Int}
theorem Md (r:aP) (w:World):Calls Tryz.prog 73 #[dW r] w λe w'=>e= .returned (.bool (kF r))/\Below w.heap.size w w':=by
 have b:=hid (aL w (.cells #[r.kind,r.sf,r.st,r.ind,r.kf,r.kt,r.rf,r.rt,r.nf,r.nt] 68));unfold dW kF;by_cases h3:3<=r.kind
 ·have d3:decide (3<=r.kind)=true:=aO h3;exact mq
 ·have d3:decide (3<=r.kind)=false:=aG h3;exact mq
theorem pX (a er:Int) (w:World) (h:YJ YP Pr w0 P txt sp st a0 e0 w):
  Calls Tryz.prog 45 #[some P,a,er] w λe w'=>e= .returned (.bool false)/\YJ YP Pr w0 P txt sp st a er w':=by
 have HF:=hid (h.fail a er);obtain⟨z,sv,lv,nv,_,hk⟩:=h;obtain⟨⟨c0,c1,c2,c3,c4,c5,c6⟩,f2,f3,f4,f5,f6⟩:=hk.cells;clear hk;go_enter Tryz.func45,Tryz.ntmps45;go_wp2_with fail;go_ret;exact am
theorem wF (k:Nat) (w:World) (h:YJ YP Pr w0 P txt sp st a0 e0 w):
  Calls Tryz.prog 43 #[some P,k] w λe w'=>e= .returned (.bool (decide (k<sp.length)))/\Below w.heap.size w w':=by
 have c:=hid (aB w.heap.size w);obtain⟨z,sv,lv,nv,_,b⟩:=h;obtain⟨⟨c0,c1,c2,c3,c4,c5,c6⟩,f2,f3,f4,f5,f6⟩:=b.cells;obtain⟨p,cap,rfl⟩:=b.spSlice;clear b;go_enter Tryz.func43,Tryz.ntmps43;go_wp2_with fail;go_ret;exact⟨e_,c.out⟩
theorem As (x y:Int) (w:World) (h:YJ YP Pr w0 P txt sp st a0 e0 w) (h0:0<=x) (h1:x<=y) (h2:y<=(txt.length:Int)) (hs:txt.length<=1073741824):
  Calls Tryz.prog 107 #[some P, .agg #[x,y]] w λe w'=>e= .returned (.string (bs (eQ txt x y)))/\Below w.heap.size w w':=by
 have sl:=aM txt;obtain⟨x,rfl⟩: ∃k:Nat,x=k:=⟨x.toNat,a_⟩;obtain⟨y,rfl⟩: ∃k:Nat,y=k:=⟨y.toNat,a_⟩;have hex:(bs txt).extract x y=bs (eQ txt x y):=by
  rw[gL,aQ];rfl
 have b0:=aL w (.cells #[x,y] 42);have l:=hid b0;have b:=heap_alloc_new w (.cells #[x,y] 42);obtain⟨K,q⟩:=exQ<|w.heap.size;obtain⟨W1,s⟩:=exQ<|w.alloc (.cells #[x,y] 42);rw[s] at b0 b l;have I:=h.keep b0;rw[q] at b;obtain⟨x0,x1⟩:=pP b;obtain⟨z,sv,lv,nv,_,hk⟩:=I;obtain⟨⟨c0,c1,c2,c3,c4,c5,c6⟩,f2,f3,f4,f5,f6⟩:=hk.cells;have F:=hk.lt;clear hk h b0;have hKl:=aF b;clear b;go_enter Tryz.func107,Tryz.ntmps107;go_upto_region 1 with fail;clear s q;exact ft
end
end
section
def At (ops:Array Oper):Bool:=(List.range ops.size).all λi=>match ops[i]? with
 | some o=>o.after.toList.all (λe=>!Region.binds .any e||decide (e.on<i))
 | none=>true
theorem Me {ops:Array Oper} (h:At ops=true) {i:Nat}{o:Oper} (ho:ops[i]?=some o): ∀e∈o.after,Region.binds .any e=true->e.on<i:=by
 have b:=(lI.1 ho).1;have:=gW.1 h i (List.mem_range.2 b);rw[ho] at this;intro e c f;have:=gW.1 this e (Array.mem_toList_iff.2 c);exact oa
theorem Xz {ops:Array Oper} (h:At ops=true) {L:Array Bool} (hL:L.size=ops.size) (hr:Region.ready .any ops L= []): ∀i,i<ops.size->L.getD i false=true:=u7
theorem Ya {P:Program}{ops:Array Oper}{Q:Exit->Act->World->Prop}{id:Nat}{a0:Act}{w0:World} (hm:P.follows .mixedOrders=true) (K:List Nat) (n:Nat) (hn:a0.tmps.size=n) (hback:At ops=true) (hdst:rV ops K n=true)
  (F:(Nat->Bool)->(Nat->Value)->World->Prop) (h0:F (λ_=>false) (λk=>a0.tmps.getD k undef) w0.drew)
  (hs: ∀(d:Nat->Bool) (a:Act) (w:World) (i:Nat) (o:Oper),ops[i]?=some o->d i=false->(∀e∈o.after,Region.binds .any e=true->d e.on=true)->(∀k,k ∉ K->a.tmps.getD k undef=a0.tmps.getD k undef)->F d (λk=>a.tmps.getD k undef) w->
   ∀R:Act->World->Prop,(∀x w',F (aY d i) (cB (λk=>a.tmps.getD k undef) o.dst x) w'->R (a.put o.dst x) w')->if Region.wanted o (yielded ops a.tmps)=true then o.wp P a w R Q else R (a.put o.dst undef) w)
  (hd: ∀(v:Nat->Value) (w:World),F (λi=>decide (i<ops.size)) v w->Q .normal { a0 with tmps:=cS a0.tmps v K } w):(Code.region id ops true).wp P Q a0 w0:=qq
end
section
open Go.RowKit
def fT (sl:List (Option Nat)) (i:Nat):Option Nat:=match sl[i]? with
 | some (some k)=>some k
 | _=>none
def pH (sl:List (Option Nat)):Bool:=(List.range sl.length).all λi=>(List.range sl.length).all λj=>i==j||fT sl i==none||fT sl i !=fT sl j
theorem Mf {sl:List (Option Nat)}{i k:Nat} (h:fT sl i=some k):i<sl.length:=by
 unfold fT at h;cases hs:sl[i]? with
 | none=>rw[hs] at h;cases h
 | some q=>exact(aR.1 hs).1
theorem Yb {sl:List (Option Nat)} (h:pH sl=true) {i j k:Nat} (hi:fT sl i=some k) (hj:fT sl j=some k):i=j:=by
 have b:=gW.1 (gW.1 h i (List.mem_range.2 (Mf hi))) j (List.mem_range.2 (Mf hj));rw[hi,hj] at b;simpa using b
def fI (sl:List (Option Nat)) (v:Nat->Value) (e:Nat):Value:=match fT sl e with
 | some k=>v k
 | none=>undef
def oI (eff:List Nat) (sl:List (Option Nat)) (fr:Nat) (v:Nat->Value):Nat->Value
 | 0=>undef
 | k+1=>match eff[k]? with
  | some e=>match fT sl e with
   | some _=>fI sl v e
   | none=>fI sl v fr
  | none=>undef
theorem xY (eff:List Nat) (sl:List (Option Nat)) (fr:Nat) (v:Nat->Value) (k:Nat):oI eff sl fr v (k+1)=match eff[k]? with
  | some e=>match fT sl e with
   | some _=>fI sl v e
   | none=>fI sl v fr
  | none=>undef:=rfl
theorem Yc {l:List Nat} (h:l.Nodup) {i j a:Nat} (hi:l[i]?=some a) (hj:l[j]?=some a):i=j:=ev
theorem Mg {l:List Nat} (h:l≠ []):l.getLastD 0∈l:=mr
structure cC (ops:Array Oper) (sl:List (Option Nat)) (eff:List Nat) (fr:Nat) (Fb:Value->World->Prop) (val:Nat->Value) (S:World->Prop) (Ph:Nat->Value->World->Prop) (d:Nat->Bool) (v:Nat->Value) (w':World):Prop where
 cl: ∀i,i<sl.length->i ∉ eff->i≠fr->d i=true->fI sl v i=val i
 clo:tT ops d
 st:d (eff.getLastD 0)=false->S w'
 fb:d (eff.getLastD 0)=false->d fr=true->Fb (fI sl v fr) w'
 ph: ∃k,k<=eff.length/\(∀j e,eff[j]?=some e->(d e=true↔j<k))/\Ph k (oI eff sl fr v k) w'
section
variable {ops:Array Oper}{sl:List (Option Nat)}{eff:List Nat}{fr:Nat}{Fb:Value->World->Prop}{val:Nat->Value}{S:World->Prop}{Ph:Nat->Value->World->Prop}{d:Nat->Bool}{v:Nat->Value}{w' w2:World}
theorem Au {i k:Nat} (hk:fT sl i=some k) (x:Value):fI sl (cB v (some k) x) i=x:=by
 unfold fI;rw[hk];exact if_pos rfl
theorem pI (hnd:pH sl=true) {i k:Nat} (hk:fT sl i=some k) (x:Value) {j:Nat} (hj:j≠i):fI sl (cB v (some k) x) j=fI sl v j:=by
 unfold fI;cases hs:fT sl j with
 | none=>rfl
 | some q=>
  exact if_neg (λe=>hj (Yb hnd hs (by rw[e];exact hk)))
theorem Mh {v v2:Nat->Value} (h: ∀e∈eff,fI sl v2 e=fI sl v e) (hf:fI sl v2 fr=fI sl v fr): ∀k,oI eff sl fr v2 k=oI eff sl fr v k
 | 0=>rfl
 | k+1=>by
  rw[xY,xY];cases he:eff[k]? with
  | none=>rfl
  | some e=>
   simp only[];cases hs:fT sl e with
   | none=>exact hf
   | some q=>exact h e (bD he)
theorem cC.pure (h:cC ops sl eff fr Fb val S Ph d v w') (hnd:pH sl=true) {i k:Nat}{o:Oper} (ho:ops[i]?=some o) (hall: ∀e∈o.after,Region.binds .any e=true->d e.on=true) (hk:fT sl i=some k) (hne:i ∉ eff) (hfr:i≠fr) (hel:eff≠ []) {x:Value} (hx:x=val i):cC ops sl eff fr Fb val S Ph (aY d i) (cB v (some k) x) w':=by
 have BF:=trivial;exact ud
theorem cC.free (h:cC ops sl eff fr Fb val S Ph d v w') (hnd:pH sl=true) {i k:Nat}{o:Oper} (ho:ops[i]?=some o) (hall: ∀e∈o.after,Region.binds .any e=true->d e.on=true) (hk:fT sl i=some k) (hne:i ∉ eff) (hfr:i=fr) (hel:eff≠ []) (hsl:eff.all (λe=>e==eff.getLastD 0||(fT sl e).isSome)=true) (hnl:eff.Nodup) (hdl:d (eff.getLastD 0)=false) {x:Value} (hS:S w'->S w2) (hP: ∀k c,Ph k c w'->Ph k c w2) (hx:Fb x w2):cC ops sl eff fr Fb val S Ph (aY d i) (cB v (some k) x) w2:=by
 have BE:=trivial;exact ud
theorem cC.at_ (h:cC ops sl eff fr Fb val S Ph d v w') {j e:Nat} (he:eff[j]?=some e) (hi:d e=false) (hp: ∀j' e',j=j'+1->eff[j']?=some e'->d e'=true):Ph j (oI eff sl fr v j) w':=jh
theorem cC.eff_ (h:cC ops sl eff fr Fb val S Ph d v w') (hnd:pH sl=true) (hne:eff.Nodup) {i j:Nat}{o:Oper} (ho:ops[i]?=some o) (hall: ∀e∈o.after,Region.binds .any e=true->d e.on=true) (he:eff[j]?=some i) (hi:d i=false) (hp: ∀j' e',j=j'+1->eff[j']?=some e'->d e'=true)
  {dst:Option Nat} (hk:fT sl i=dst) (hfr:i≠fr) {x:Value} (hF:i≠eff.getLastD 0-> ∀x,Fb x w'->Fb x w2) (hS:i≠eff.getLastD 0->S w2) (hP:Ph (j+1) (match dst with | some _=>x | none=>fI sl v fr) w2):cC ops sl eff fr Fb val S Ph (aY d i) (cB v dst x) w2:=ri
theorem cC.fin (h:cC ops sl eff fr Fb val S Ph d v w') (hd: ∀e∈eff,d e=true):Ph eff.length (oI eff sl fr v eff.length) w':=ju
theorem cC.early (h:cC ops sl eff fr Fb val S Ph d v w') {f i:Nat} (hr:mD ops f (eff.getLastD 0) i=true) (hi:d i=false):S w':=by
 refine h.st ?_;exact dh
end
section
variable {ops:Array Oper}{sl:List (Option Nat)}{eff:List Nat}{fr:Nat}{Fb:Value->World->Prop}{val:Nat->Value}{S:World->Prop}{Ph:Nat->Value->World->Prop}{d:Nat->Bool}{v:Nat->Value}{w' w2:World}
theorem Mi {j:Nat} (hp:j=0\/ ∃e',eff[j-1]?=some e'/\d e'=true): ∀j' e',j=j'+1->eff[j']?=some e'->d e'=true:=kb
theorem cC.at2 (h:cC ops sl eff fr Fb val S Ph d v w') {j e:Nat} (he:eff[j]?=some e) (hi:d e=false) (hp:j=0\/ ∃e',eff[j-1]?=some e'/\d e'=true):Ph j (oI eff sl fr v j) w':=h.at_ he hi (Mi hp)
theorem cC.eff2 (h:cC ops sl eff fr Fb val S Ph d v w') (hnd:pH sl=true) (hne:eff.Nodup) {i:Nat} (j:Nat) {o:Oper} (ho:ops[i]?=some o) (hall: ∀e∈o.after,Region.binds .any e=true->d e.on=true) (he:eff[j]?=some i) (hi:d i=false) (hp:j=0\/ ∃e',eff[j-1]?=some e'/\d e'=true)
  {dst:Option Nat} (hk:fT sl i=dst) (hfr:i≠fr) {x:Value} (hF:i≠eff.getLastD 0-> ∀x,Fb x w'->Fb x w2) (hS:i≠eff.getLastD 0->S w2) (hP:Ph (j+1) (match dst with | some _=>x | none=>fI sl v fr) w2):cC ops sl eff fr Fb val S Ph (aY d i) (cB v dst x) w2:=h.eff_ hnd hne ho hall he hi (Mi hp) hk hfr hF hS hP
end
theorem cC.lastNot {ops:Array Oper}{sl:List (Option Nat)}{eff:List Nat}{fr:Nat}{Fb:Value->World->Prop}{val:Nat->Value}{S:World->Prop}{Ph:Nat->Value->World->Prop}{d:Nat->Bool}{v:Nat->Value}{w':World} (h:cC ops sl eff fr Fb val S Ph d v w') {f i:Nat} (hr:mD ops f (eff.getLastD 0) i=true) (hi:d i=false):d (eff.getLastD 0)=false:=dh
theorem cC.g {ops:Array Oper}{sl:List (Option Nat)}{eff:List Nat}{fr:Nat}{Fb:Value->World->Prop}{val:Nat->Value}{S:World->Prop}{Ph:Nat->Value->World->Prop}{d:Nat->Bool}{a:Array Value}{w':World} (h:cC ops sl eff fr Fb val S Ph d (λk=>a.getD k undef) w') (i k:Nat) (hs:fT sl i=some k) (hl:i<sl.length) (h1:i ∉ eff) (h2:i≠fr) (hd:d i=true):a[k]?.getD undef=val i:=by
 have:=h.cl i hl h1 h2 hd;unfold fI at this;rw[hs] at this;rw[<-aI];exact this
theorem Yd {P:Program}{ops:Array Oper}{Q:Exit->Act->World->Prop}{id:Nat}{a0:Act}{w0:World} (hm:P.follows .mixedOrders=true) (sl:List (Option Nat)) (K:List Nat) (eff:List Nat) (fr:Nat) (Fb:Value->World->Prop) (n:Nat) (hn:a0.tmps.size=n) (hback:tQ ops=true) (hdst:rV ops K n=true) (heff:eff.all (λe=>decide (e<ops.size))=true)
  (val:Nat->Value) (S:World->Prop) (Ph:Nat->Value->World->Prop) (h0:S w0.drew) (hP:Ph 0 undef w0.drew)
  (hs: ∀(d:Nat->Bool) (a:Act) (w:World) (i:Nat) (o:Oper),ops[i]?=some o->d i=false->(∀e∈o.after,Region.binds .any e=true->d e.on=true)->(∀k,k ∉ K->a.tmps.getD k undef=a0.tmps.getD k undef)->cC ops sl eff fr Fb val S Ph d (λk=>a.tmps.getD k undef) w->
   ∀R:Act->World->Prop,(∀x w',cC ops sl eff fr Fb val S Ph (aY d i) (cB (λk=>a.tmps.getD k undef) o.dst x) w'->R (a.put o.dst x) w')->o.wp P a w R Q)
  (hd: ∀(v:Nat->Value) (w:World),(∀i,i<sl.length->i<ops.size->i ∉ eff->i≠fr->fI sl v i=val i)->Ph eff.length (oI eff sl fr v eff.length) w->Q .normal { a0 with tmps:=cS a0.tmps v K } w):(Code.region id ops true).wp P Q a0 w0:=ve
end
end Go.Proofs.YtfhjncbdgjlcoaaGreatDoor
