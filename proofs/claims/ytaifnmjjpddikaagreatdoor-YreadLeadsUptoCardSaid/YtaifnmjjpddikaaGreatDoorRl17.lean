import Derived.Test.YtaifnmjjpddikaaGreatDoorRl16
import Derived.Test.YtaifnmjjpddikaaGreatDoorRl11
import Derived.Test.YtaifnmjjpddikaaGreatDoorRl14
import Derived.Test.YtaifnmjjpddikaaGreatDoorRl5
namespace Go.Proofs.YtaifnmjjpddikaaGreatDoor
set_option linter.unusedVariables false
set_option linter.unusedSimpArgs false
section
open Go.Lib
theorem Li: ∀(l:List (Nat×Nat)) (x:Nat×Nat),x∈lN l-> ∃y∈l,x.1=y.1/\(x.2=y.2\/x.2=y.2-1/\y∈l.dropLast)
 | [],x,h=>by cases h
 | [y],x,h=>⟨y,by simp,by rw[iQ.1 h];simp⟩
 | y::z::r,x,h=>by
  rw[lN] at h;rcases dC.1 h with rfl | h
  ·exact⟨y,by simp,rfl, .inr ⟨rfl,by simp⟩⟩
  ·obtain⟨q,h1,h2,h3⟩:=Li (z::r) x h;refine⟨q,List.mem_cons_of_mem _ h1,h2,h3.imp_right fun⟨e,h⟩=>⟨e,?_⟩⟩;rw[List.dropLast_cons_of_ne_nil (by simp)];exact List.mem_cons_of_mem _ h
theorem zE: ∀(l:aA) (k pos:Nat),k<=pos->(∀x∈eF l k pos,k<=x.1/\x.1<=x.2/\x.2<=pos+l.length)/\(∀x∈(eF l k pos).dropLast,x.1<x.2)
 | [],k,pos,h=>by simp[eF];omega
 | c::t,k,pos,h=>by
  unfold eF;split
  ·obtain⟨h1,h2⟩:=zE t (pos+1) (pos+1) (aE _);have f:eF t (pos+1) (pos+1)≠ []:=λe=>by have:=(rS t (pos+1) (pos+1)).2;rw[e] at this;simp at this
   refine⟨λx b=>?_,λx b=>?_⟩
   ·rw[aV];rcases dC.1 b with rfl | b
    ·simp only[];omega
    ·have:=h1 x b;omega
   ·rw[List.dropLast_cons_of_ne_nil f] at b;rcases dC.1 b with rfl | b
    ·simp only[];omega
    ·exact h2 x b
  ·obtain⟨h1,h2⟩:=zE t k (pos+1) (by omega);refine⟨λx b=>?_,h2⟩;have:=h1 x b;rw[aV];omega
def dH (s:aA) (sp:List (Nat×Nat)):Prop:= ∀x∈sp,x.1<=x.2/\x.2<=s.length
theorem De (s:aA):dH s (dX s):=by
 intro x e;obtain⟨y,c,h2,b⟩:=Li _ _ e;obtain⟨g1,g2⟩:=zE s 0 0 (aE _);have h4:=g1 y c;rcases b with b | ⟨b,f⟩
 ·omega
 ·have:=g2 y f;omega
structure wU (s:aA) (x:Nat×Nat) (r:aP):Prop where
 ind:0<=r.ind/\(x.1:Int)+r.ind<=(x.2:Int)/\(x.2:Int)<=(s.length:Int)
 key:0<=r.kf/\r.kf<=r.kt/\r.kt<=(s.length:Int)
 rst:0<=r.rf/\r.rf<=r.rt/\r.rt<=(s.length:Int)
theorem Xw {s:aA}{x:Nat×Nat} (h1:x.1<=x.2) (h2:x.2<=s.length) (h:(fD s x.1 x.2).2.2=0):wU s x (fD s x.1 x.2).1:=by
 unfold fD at h ⊢;rw[if_neg (by omega)] at h ⊢;simp only[fT,show ((x.2:Int)-(x.1:Int)).toNat=x.2-x.1 by omega] at h ⊢;obtain⟨t,g⟩:=exQ<|(s.drop x.1).take (x.2-x.1);have htl:t.length=x.2-x.1:=by rw[<-g,cD,bB];omega
 rw[g] at h ⊢;split at h
 ·cases h
 ·rename_i b;rw[if_neg b];split at h
  ·cases h
  ·rename_i i;rw[if_neg i];have hsl:=nV t;cases hc:qI (t.drop (bI t)) with
   | none=>rw[hc] at h;cases h
   | some c=>
    have f:=Kc _ _ hc;have e:(t.drop (bI t)).length=t.length-bI t:=bB;have j:=f.ord;rw[e] at j;simp only[];unfold qJ;refine⟨⟨by simp only[];omega,by simp only[];omega,by omega⟩,?_,⟨by simp only[];omega,by simp only[];omega,by simp only[];omega⟩⟩;simp only[];by_cases h4:c.kind=4
    ·have:=(f.key h4).2.1;rw[if_pos h4,if_pos h4];omega
    ·rw[if_neg h4,if_neg h4];omega
theorem Xx {s:aA}{x:Nat×Nat} (h1:x.1<=x.2) (h2:x.2<=s.length):0<=(fD s x.1 x.2).2.1/\(fD s x.1 x.2).2.1<=(s.length:Int):=by
 unfold fD;rw[if_neg (by omega)];simp only[fT,show ((x.2:Int)-(x.1:Int)).toNat=x.2-x.1 by omega];obtain⟨t,b⟩:=exQ<|(s.drop x.1).take (x.2-x.1);have htl:t.length=x.2-x.1:=by rw[<-b,cD,bB];omega
 rw[b];have hsl:=nV t;split
 ·simp only[];omega
 ·split
  ·simp only[];omega
  ·split
   ·simp only[];omega
   ·simp only[];omega
theorem Xy {ls:List aP}{k:Nat}{r:aP} (h:ls[k]?=some r):aU ls k=r:=by unfold aU;rw[h];rfl
theorem pP {ls:List aP}{k:Nat} (h:k<ls.length):ls[k]?=some (aU ls k):=by unfold aU;rw[bE h];rfl
theorem Df {ls more:List aP}{k:Nat} (h:k<ls.length):aU (ls++more) k=aU ls k:=by unfold aU;rw[kP h]
theorem Lj (ls:List aP) (r:aP):aU (ls++ [r]) ls.length=r:=by unfold aU;rw[mC (aE _)];simp
theorem Dg {sp:List (Nat×Nat)}{k:Nat}{x:Nat×Nat} (h:sp[k]?=some x):pO sp k=x:=by unfold pO;rw[h];rfl
def lB (s:aA) (sp:List (Nat×Nat)) (ls:List aP):Prop:=ls.length<=sp.length/\ ∀k,k<ls.length->wU s (pO sp k) (aU ls k)
theorem lB.push {s:aA}{sp:List (Nat×Nat)}{ls:List aP} (h:lB s sp ls) (hl:ls.length<sp.length) {r:aP} (hr:wU s (pO sp ls.length) r):lB s sp (ls++ [r]):=by
 refine⟨by rw[aW,dU];omega,λk b=>?_⟩;rw[aW,dU] at b;by_cases h2:k<ls.length
 ·rw[Df h2];exact h.2 k h2
 ·obtain rfl:k=ls.length:=by omega
  rw[Lj];exact hr
def tG (x:aP):Prop:=x.kind=1\/x.kind=2
theorem tG.no {x:aP} (h:tG x):kJ x=false:=by
 unfold kJ;rcases h with h | h<;>rw[h]<;>decide
theorem Xz {s:aA}{x:Nat×Nat} (h:(fD s x.1 x.2).2.2=0):kJ (fD s x.1 x.2).1=true\/tG (fD s x.1 x.2).1:=by
 unfold fD at h ⊢;split at h
 ·cases h
 ·rename_i g;rw[if_neg g];simp only[] at h ⊢;split at h
  ·cases h
  ·rename_i e;rw[if_neg e];split at h
   ·cases h
   ·rename_i f;rw[if_neg f];split at h
    ·cases h
    ·rename_i c b;have:=(Kc _ _ b).kind;simp only[];unfold tG kJ qJ;simp only[cT,kQ];omega
def Lk (ls:List aP) (k:Nat):Prop:= ∀i,k<=i->i<ls.length->tG (aU ls i)\/(i+1=ls.length/\kJ (aU ls i)=true)
structure qR (s:aA) (sp:List (Nat×Nat)) (k:Nat) (lines:List aP) (nx:Nat) (ls:List aP):Prop where
 pre: ∃more,ls=lines++more
 le:k<=nx/\nx<=sp.length
 hit:nx<sp.length->ls.length=nx+1/\kJ (aU ls nx)=true
 miss: ∀i,k<=i->i<nx->tG (aU ls i)
 all:nx=sp.length->ls.length=sp.length
 ok:lB s sp ls
theorem Ll (s:aA) (sp:List (Nat×Nat)) (hsp:dH s sp): ∀(rest:List (Nat×Nat)) (k:Nat) (lines:List aP),sp.drop k=rest->k<=sp.length->k<=lines.length->lB s sp lines->Lk lines k->
  match oB s rest k lines with
  | .ok nx ls=>qR s sp k lines nx ls
  | .bad a e=>0<=a/\a<=(s.length:Int)/\e≠0
 | [],k,lines,hd,hk,hkl,hok,hl=>by
  have hks:k=sp.length:=by
   have:=congrArg List.length hd;rw[bB] at this;simp at this;omega
  unfold oB;exact⟨⟨[],by simp⟩,⟨aE _,hk⟩,λh=>by omega,λi q p=>by omega,λ_=>by have:=hok.1;omega,hok⟩
 | x ::r,k,lines,hd,hk,hkl,hok,hl=>by
  have y:k<sp.length:=by
   have:=congrArg List.length hd;rw[bB] at this;simp at this;omega
  have E:sp[k]?=some x:=by
   have:=congrArg (λl=>l[0]?) hd;simpa using this
  have C:sp.drop (k+1)=r:=by
   have:=congrArg List.tail hd;rw[List.tail_drop] at this;simpa using this
  obtain⟨x1,x2⟩:=hsp x (aX E);unfold oB;have step: ∀(lines':List aP),(∃m,lines'=lines++m)->k<lines'.length->tG (aU lines' k)->lB s sp lines'->Lk lines' (k+1)->
    match oB s r (k+1) lines' with
    | .ok nx ls=>qR s sp k lines nx ls
    | .bad a e=>0<=a/\a<=(s.length:Int)/\e≠0:=by
   intro lines' F j c b B;have:=Ll s sp hsp r (k+1) lines' C y j b B;cases hn:oB s r (k+1) lines' with
   | bad a e=>rw[hn] at this;exact this
   | ok nx ls=>
    rw[hn] at this;simp only[] at this ⊢;obtain⟨m2,t⟩:=this.pre;obtain⟨m1,z⟩:=F;refine⟨⟨m1++m2,by rw[t,z,mV]⟩,⟨by have:=this.le;omega,this.le.2⟩,this.hit,λi q p=>?_,this.all,this.ok⟩;by_cases hik:i=k
    ·subst hik;rw[t,Df j];exact c
    ·exact this.miss i (by omega) p
  cases hln:lines[k]? with
  | some l=>
   simp only[];have f:=(aR.1 hln).1;have o:=Xy hln;by_cases c:kJ l=true
   ·rw[if_pos c];simp only[];refine⟨⟨[],by simp⟩,⟨aE _,hk⟩,λ_=>⟨?_,by rw[o];exact c⟩,λi q p=>by omega,λh=>by omega,hok⟩;rcases hl k (aE _) f with h | h
    ·rw[o] at h;rw[h.no] at c;cases c
    ·exact h.1.symm
   ·rw[if_neg c];refine step lines ⟨[],by simp⟩ f ?_ hok (λi q p=>hl i (by omega) p);rcases hl k (aE _) f with h | h
    ·exact h
    ·rw[o] at h;exact absurd h.2 c
  | none=>
   simp only[];have n:k=lines.length:=by
    rw[Bj] at hln;omega
   by_cases h0:(fD s x.1 x.2).2.2≠0
   ·rw[if_pos h0];simp only[];have:=Xx x1 x2;exact⟨this.1,this.2,h0⟩
   ·rw[if_neg h0];have u:(fD s x.1 x.2).2.2=0:=(by omega);have A:=Xw x1 x2 u;have b:=hok.push (by omega) (by rw[<-n,Dg E];exact A);have g:aU (lines++ [(fD s x.1 x.2).1]) k=(fD s x.1 x.2).1:=by rw[n];exact Lj _ _
    have D:(lines++ [(fD s x.1 x.2).1]).length=k+1:=(by rw[aW,dU,n]);by_cases c:kJ (fD s x.1 x.2).1=true
    ·rw[if_pos c];simp only[];exact⟨⟨_,rfl⟩,⟨aE _,hk⟩,λ_=>⟨D,by rw[g];exact c⟩,λi q p=>by omega,λh=>by omega,b⟩
    ·rw[if_neg c];exact step _ ⟨_,rfl⟩ (by omega) (by rw[g];exact(Xz u).resolve_left c) b (λi q p=>by omega)
theorem lC {s:aA}{sp:List (Nat×Nat)} (hsp:dH s sp) {k:Nat}{lines:List aP} (hkl:k<=lines.length) (hok:lB s sp lines) (hl:Lk lines k):
  match gH s sp k lines with
  | .ok nx ls=>qR s sp k lines nx ls
  | .bad a e=>0<=a/\a<=(s.length:Int)/\e≠0:=Ll s sp hsp (sp.drop k) k lines rfl (aY hkl hok.1) hkl hok hl
theorem qR.lk {s:aA}{sp:List (Nat×Nat)}{k nx:Nat}{lines ls:List aP} (h:qR s sp k lines nx ls):Lk ls k:=by
 intro i b h2;by_cases hi:i<nx
 ·exact .inl (h.miss i b hi)
 ·right;by_cases hn:nx<sp.length
  ·obtain⟨e,c⟩:=h.hit hn;obtain rfl:i=nx:=(by omega);exact⟨e.symm,c⟩
  ·have:=h.all (by have:=h.le;omega);have:=h.le;omega
theorem qR.len {s:aA}{sp:List (Nat×Nat)}{k nx:Nat}{lines ls:List aP} (h:qR s sp k lines nx ls):lines.length<=ls.length:=by
 obtain⟨m,b⟩:=h.pre;rw[b,aW];omega
structure dI (s:aA) (sp:List (Nat×Nat)) (st:YS):Prop where
 ls:lB s sp st.lines
 tot:st.nodes.length<=st.total/\st.total<=4096
structure kM (s:aA) (sp:List (Nat×Nat)) (k:Nat) (st:YS) (n:Nat) (st':YS):Prop where
 num:n=st.nodes.length
 nds: ∃more,more≠ []/\st'.nodes=st.nodes++more
 lns: ∃more,st'.lines=st.lines++more
 til:k<fA st'.nodes n/\fA st'.nodes n<=st'.lines.length
 lk:Lk st'.lines (fA st'.nodes n)
 wf:dI s sp st'
def qS (s:aA) (sp:List (Nat×Nat)) (k:Nat) (st:YS) (R:YR):Prop:=match R with
 | .ok n st'=>kM s sp k st n st'
 | .bad a e=>0<=a/\a<=(s.length:Int)/\e≠0
def gA (s:aA) (sp:List (Nat×Nat)) (V:YB):Prop:= ∀k kf kt st,dI s sp st->k+1=st.lines.length->qS s sp k st (V k kf kt st)
theorem Dh (ns:List aG) (x:aG) (more:List aG):fA (ns++x::more) ns.length=x.til:=by
 unfold fA;rw[mC (aE _),Nat.sub_self];rfl
theorem Di {s:aA}{sp:List (Nat×Nat)} (lv:Nat) {k:Nat} (kf kt:Int) {st:YS} (hw:dI s sp st) (hk:k<st.lines.length) (hlk:Lk st.lines (k+1)):qS s sp k st (iU s lv k kf kt st):=by
 have b:=hw.ls.2 k hk;unfold iU jA;split
 ·rename_i a e h;split at h
  ·injection h with f g;subst f g;exact⟨b.rst.1,by have:=b.rst;omega,by decide⟩
  ·split at h
   ·injection h with f g;subst f g;exact⟨b.rst.1,by have:=b.rst;omega,by decide⟩
   ·cases h
 ·rename_i n s1 h;split at h
  ·cases h
  ·split at h
   ·cases h
   ·rename_i ht;injection h with f g;subst f g;simp only[];split
    ·exact⟨b.rst.1,by have:=b.rst;omega,by assumption⟩
    ·split
     ·exact⟨b.rst.1,by have:=b.rst;omega,by decide⟩
     ·split
      ·exact⟨b.rst.1,by have:=b.rst;omega,by decide⟩
      ·rename_i h3;have c:=Dh st.nodes ⟨1,(aU st.lines k).ind,k,k+1,kf,kt,(aU st.lines k).rf,(aU st.lines k).rt,[]⟩ [];have hsz:=vS (fP (dG s (aU st.lines k).rf (aU st.lines k).rt)).1;have htot:=hw.tot;refine⟨rfl,⟨_,List.cons_ne_nil _ _,rfl⟩,⟨[],by simp⟩,?_,?_,⟨hw.ls,?_⟩⟩
       ·simp only[c];omega
       ·simp only[c];exact hlk
       ·simp only[aW,dU];omega
theorem zF (s:aA) (ind:Int): ∀(l:List (Nat×Nat)) (i til first:Nat),til<=i->til<=lO s ind l i til first/\lO s ind l i til first<=i+l.length
 | [],i,til,first,h=>by simp[lO];omega
 | x::r,i,til,first,h=>by
  unfold lO;rw[aV];split
  ·have:=zF s ind r (i+1) til first (by omega);omega
  ·split
   ·omega
   ·have:=zF s ind r (i+1) (i+1) (if first=0 then bI (bV s x) else first) (aE _);omega
theorem zG {s:aA}{sp:List (Nat×Nat)} (ind:Int) {k:Nat} (hk:k<sp.length):k+1<=gL s sp ind k/\gL s sp ind k<=sp.length:=by
 have:=zF s ind (sp.drop (k+1)) (k+1) (k+1) 0 (aE _);rw[bB] at this;unfold gL;omega
theorem Dj {s:aA}{x:Nat×Nat} (h1:x.1<=x.2) (h2:x.2<=s.length):(bV s x).length=x.2-x.1:=by
 unfold bV;rw[cD,bB];omega
theorem Ya {s:aA}{x:Nat×Nat} (h1:x.1<=x.2) (h2:x.2<=s.length):wU s x (lP s x):=by
 have:=nV (bV s x);have:=Dj h1 h2;unfold lP;exact⟨by simp only[];omega,by simp only[];omega,by simp only[];omega⟩
theorem Lm {s:aA}{sp:List (Nat×Nat)} (hsp:dH s sp): ∀(l:List (Nat×Nat)) (ls:List aP),lB s sp ls->(∃r,sp.drop ls.length=l++r)->
  match lQ s l ls with
  | .inl ls'=>lB s sp ls'/\ls'.length=ls.length+l.length/\(∃more,ls'=ls++more)
  | .inr a=>0<=a/\a<=(s.length:Int)
 | [],ls,h,hd=>⟨h,rfl,[],by simp⟩
 | x::l,ls,h,⟨r,hd⟩=>by
  have hx:sp[ls.length]?=some x:=by
   have:=congrArg (λl=>l[0]?) hd;simpa using this
  have b:=(aR.1 hx).1;have c:sp.drop (ls.length+1)=l++r:=by
   have:=congrArg List.tail hd;rw[List.tail_drop] at this;simpa using this
  obtain⟨x1,x2⟩:=hsp x (aX hx);unfold lQ;by_cases hm:nC s x<x.2
  ·rw[if_pos hm];simp only[];omega
  ·rw[if_neg hm];have ih:=Lm hsp l (ls++ [lP s x]) (h.push b (by rw[Dg hx];exact Ya x1 x2)) ⟨r,by rw[aW,dU];exact c⟩;cases ht:lQ s l (ls++ [lP s x]) with
   | inr a=>rw[ht] at ih;exact ih
   | inl ls'=>
    rw[ht] at ih;simp only[] at ih ⊢;obtain⟨i1,i2,m,i3⟩:=ih;refine⟨i1,?_,lP s x::m,by rw[i3];simp⟩;rw[i2,aW,dU,aV];omega
theorem Yb {s:aA}{sp:List (Nat×Nat)} (hsp:dH s sp) (lv:Nat) {k:Nat} (kf kt:Int) {st:YS} (hw:dI s sp st) (hk:k+1=st.lines.length):qS s sp k st (mK s sp lv k kf kt st):=by
 have b:=hw.ls.2 k (by omega);have o:k<sp.length:=by have:=hw.ls.1;omega
 obtain⟨r1,r2⟩:=zG (s:=s) (aU st.lines k).ind o;unfold mK jA;obtain⟨til,l⟩:=exQ<|gL s sp (aU st.lines k).ind k;rw[l] at r1 r2 ⊢;split
 ·rename_i a e h;split at h
  ·injection h with f g;subst f g;exact⟨b.rst.1,by have:=b.rst;omega,by decide⟩
  ·split at h
   ·injection h with f g;subst f g;exact⟨b.rst.1,by have:=b.rst;omega,by decide⟩
   ·cases h
 ·rename_i n s1 h;split at h
  ·cases h
  ·split at h
   ·cases h
   ·rename_i ht;injection h with f g;subst f g;simp only[];have tk:=Lm hsp ((sp.drop (k+1)).take (til-(k+1))) st.lines hw.ls ⟨(sp.drop (k+1)).drop (til-(k+1)),by rw[<-hk,oR]⟩;have j:((sp.drop (k+1)).take (til-(k+1))).length=til-(k+1):=by rw[cD,bB];omega
    cases htk:lQ s ((sp.drop (k+1)).take (til-(k+1))) st.lines with
    | inr a=>rw[htk] at tk;exact⟨tk.1,tk.2,by decide⟩
    | inl ls=>
     rw[htk] at tk;simp only[] at tk ⊢;obtain⟨t1,t2,m,t3⟩:=tk;rw[j] at t2;have c:=Dh st.nodes ⟨4,(aU st.lines k).ind,k,til,kf,kt,(aU st.lines k).rf,(aU st.lines k).rt,[]⟩ [];have htot:=hw.tot;refine⟨rfl,⟨_,List.cons_ne_nil _ _,rfl⟩,⟨m,t3⟩,?_,?_,⟨t1,?_⟩⟩
     ·simp only[c];omega
     ·simp only[c];intro i f g;omega
     ·simp only[aW,dU];omega
theorem kM.more {s:aA}{sp:List (Nat×Nat)}{k k':Nat}{st:YS}{ls m:List aP}{tot n:Nat}{st':YS} (h:kM s sp k' ⟨ls,st.nodes,tot⟩ n st') (hm:ls=st.lines++m) (hk:k<=k'):kM s sp k st n st':=by
 obtain⟨g1,g2,⟨m2,g3⟩,g4,g5,g6⟩:=h;exact⟨g1,g2,⟨m++m2,by rw[g3,hm,mV]⟩,by omega,g5,g6⟩
theorem qS.more {s:aA}{sp:List (Nat×Nat)}{k k':Nat}{st:YS}{ls m:List aP}{tot:Nat}{R:YR} (h:qS s sp k' ⟨ls,st.nodes,tot⟩ R) (hm:ls=st.lines++m) (hk:k<=k'):qS s sp k st R:=by
 cases R with
 | bad a e=>exact h
 | ok n st'=>exact kM.more (show kM s sp k' ⟨ls,st.nodes,tot⟩ n st' from h) hm hk
theorem zH {s:aA}{sp:List (Nat×Nat)} (hsp:dH s sp) {B:YB} (hB:gA s sp B) (lv:Nat):gA s sp (nD s sp B lv):=by
 intro k kf kt st h j;have f:Lk st.lines (k+1):=λi h1 h2=>by omega
 unfold nD;simp only[];split
 ·exact Yb hsp lv kf kt h j
 ·split
  ·have b:=lC hsp (k:=k+1) (by omega) h.ls f;cases hm:gH s sp (k+1) st.lines with
   | bad a e=>rw[hm] at b;exact b
   | ok nx ls=>
    rw[hm] at b;simp only[] at b ⊢;have c:dI s sp ⟨ls,st.nodes,st.total⟩:=⟨b.ok,h.tot⟩;obtain⟨m,g⟩:=b.pre;have hle:=b.le;have hll:=b.len;split
    ·rename_i l;exact(hB nx kf kt ⟨ls,st.nodes,st.total⟩ c (b.hit l.1).1.symm).more g (by omega)
    ·exact(Di (s:=s) lv kf kt c (k:=k) (by simp only[];omega) b.lk).more g (aE _)
  ·exact Di lv kf kt h (by omega) f
theorem Dk (f:aG->aG): ∀(n:Nat) (l:List aG),(oC f n l).length=l.length
 | _,[]=>by cases ‹Nat› <;>rfl
 | 0,_::_=>rfl
 | n+1,x::l=>by rw[oC,aV,Dk f n l,aV]
theorem uY (f:aG->aG): ∀(n:Nat) (l:List aG) (x:aG),l[n]?=some x->oC f n l=l.set n (f x)
 | _,[],x,h=>by simp at h
 | 0,y::l,x,h=>by
  obtain rfl:y=x:=by simpa using h
  rfl
 | n+1,y::l,x,h=>by
  rw[oC,dO,uY f n l x (by simpa using h)]
theorem Yc (f:aG->aG) (pre:List aG) (x:aG) (post:List aG):oC f pre.length (pre++x::post)=pre++f x::post:=by
 rw[uY f pre.length _ x (by rw[mC (aE _),Nat.sub_self];rfl),List.set_append_right _ _ (aE _),Nat.sub_self];rfl
theorem Dl {ns:List aG}{k:Nat}{x:aG} (h:ns[k]?=some x):fA ns k=x.til:=by unfold fA;rw[h]
theorem uZ {s:aA}{sp:List (Nat×Nat)}{V:YB} (hV:gA s sp V) (map:Bool) (had:List aA) {k:Nat}{st:YS} (hw:dI s sp st) (hk:k+1=st.lines.length):qS s sp k st (fQ s V map had k st).1:=by
 have b:=hw.ls.2 k (by omega);unfold fQ;split
 ·simp only[];split
  ·rename_i h;exact⟨b.key.1,by have:=b.key;omega,h⟩
  ·split
   ·exact⟨b.key.1,by have:=b.key;omega,by decide⟩
   ·exact hV _ _ _ _ hw hk
 ·exact hV _ _ _ _ hw hk
structure Ln (s:aA) (sp:List (Nat×Nat)) (k0 n:Nat) (st0:YS) (k:Nat) (st:YS):Prop where
 nds: ∃x post,st.nodes=st0.nodes++x::post/\x.til<=st.lines.length/\k0<x.til/\Lk st.lines x.til/\x.til<=k
 num:n=st0.nodes.length
 lns: ∃more,st.lines=st0.lines++more
 wf:dI s sp st
 k:k<=sp.length/\k0<k/\(k<sp.length->k+1=st.lines.length)
theorem Dm {s:aA}{sp:List (Nat×Nat)} (hsp:dH s sp) {V:YB} (hV:gA s sp V) (map:Bool) {n:Nat} (ind:Int) (had:List aA) {k0 k:Nat}{st0 st:YS} (hw:dI s sp st) (hk:k+1=st.lines.length) (hk0:k0<=k) (hn:n=st0.nodes.length) (hnd: ∃x post,st.nodes=st0.nodes++x::post) (hls: ∃more,st.lines=st0.lines++more):
  match gM s sp V map n ind had k st with
  | .ok nx s2 had'=>Ln s sp k0 n st0 nx s2/\k<nx
  | .bad a e=>0<=a/\a<=(s.length:Int)/\e≠0:=by
 have f:=uZ hV map had hw hk;unfold gM;obtain⟨R,m⟩:=exQ<|fQ s V map had k st;rw[m] at f ⊢;obtain⟨R,had'⟩:=R;cases R with
 | bad a e=>exact f
 | ok kid s2=>
  obtain⟨g1,⟨m1,g2n,g2⟩,⟨m2,g3⟩,g4,g5,g6⟩:=(show kM s sp k st kid s2 from f);simp only[];have b:=lC hsp (k:=fA s2.nodes kid) g4.2 g6.ls g5;cases hm:gH s sp (fA s2.nodes kid) s2.lines with
  | bad a e=>rw[hm] at b;exact b
  | ok nx ls=>
   rw[hm] at b;simp only[] at b ⊢;obtain⟨m3,i⟩:=b.pre;have c:=b.le;have hll:=b.len;by_cases hc:nx<sp.length/\ind<(aU ls nx).ind
   ·rw[if_pos hc];have g:=b.ok.2 nx (by have:=(b.hit hc.1).1;omega);have:=g.ind;simp only[];exact⟨by omega,by omega,by decide⟩
   ·rw[if_neg hc];simp only[];obtain⟨x,post,l⟩:=hnd;obtain⟨m0,j⟩:=hls;refine⟨⟨⟨{ x with kids:=x.kids++ [kid],til:=fA s2.nodes kid },post++m1,?_,by simp only[];omega,by simp only[];omega,b.lk,c.1⟩,hn,⟨m0++m2++m3,by simp only[];rw[i,g3,j];simp⟩,⟨b.ok,?_⟩,⟨c.2,by omega,λh=>(b.hit h).1.symm⟩⟩,by omega⟩
    ·simp only[];unfold kK;rw[hn]
     conv=>lhs;arg 3;rw[g2,l,mV,jW]
     rw[Yc]
    ·have:=g6.tot;simp only[];unfold kK;rw[Dk];exact this
theorem Lo {s:aA}{sp:List (Nat×Nat)} (hsp:dH s sp) {V:YB} (hV:gA s sp V) (map:Bool) {n:Nat} (ind kind:Int) {k0:Nat}{st0:YS}: ∀(f:Nat) (had:List aA) (k:Nat) (st:YS),Ln s sp k0 n st0 k st->qS s sp k0 st0 (jQ s sp V map n ind kind f had k st)
 | f,had,k,st,h=>by
  have fin:qS s sp k0 st0 (.ok n st):=by
   obtain⟨⟨x,post,b,o,m,j,_⟩,c,p,l,h8⟩:=h;have g:fA st.nodes n=x.til:=by rw[b,c];exact Dh _ _ _
   exact⟨c,⟨_,List.cons_ne_nil _ _,b⟩,p,by rw[g];exact⟨m,o⟩,by rw[g];exact j,l⟩
  cases f with
  | zero=>exact fin
  | succ f=>
   unfold jQ;split
   ·rename_i i;have b:=Dm hsp hV map (n:=n) ind had h.wf (h.k.2.2 i.1) (Nat.le_of_lt h.k.2.1) h.num (by obtain⟨x,post,b,_⟩:=h.nds;exact⟨x,post,b⟩) h.lns;cases ho:gM s sp V map n ind had k st with
    | bad a e=>rw[ho] at b;exact b
    | ok nx s2 had'=>
     rw[ho] at b;exact Lo hsp hV map ind kind f had' nx s2 b.1
   ·exact fin
theorem mL {x:aG}{lv:Nat}{a:Int}{st:YS}{n:Nat}{s1:YS} (h:jA x lv a st= .ok n s1):n=st.nodes.length/\s1=⟨st.lines,st.nodes++ [x],st.total+1⟩/\lv≠0/\st.total<4096:=by
 unfold jA at h;split at h
 ·cases h
 ·split at h
  ·cases h
  ·injection h with b c;exact⟨b.symm,c.symm,by assumption,by omega⟩
theorem Yd {x:aG}{lv:Nat}{a:Int}{st:YS}{b e:Int} (h:jA x lv a st= .bad b e):b=a/\(e=5\/e=6):=by
 unfold jA at h;split at h
 ·injection h with c f;exact⟨c.symm, .inl f.symm⟩
 ·split at h
  ·injection h with c f;exact⟨c.symm, .inr f.symm⟩
  ·cases h
theorem Lp {s:aA}{sp:List (Nat×Nat)} (hsp:dH s sp) {V:YB} (lv:Nat) (hV:lv≠0->gA s sp V):gA s sp (lR s sp V lv):=by
 intro k kf kt st c q;have j:Lk st.lines (k+1):=λi b h2=>by omega
 have m:=c.ls.2 k (by omega);have o:k<sp.length:=by have:=c.ls.1;omega
 unfold lR;simp only[];split
 ·exact Di lv kf kt c (by omega) j
 ·split
  ·rename_i a e h;obtain⟨rfl,t⟩:=Yd h;have:=m.ind;unfold zA;exact⟨by omega,by omega,by rcases t with rfl|rfl<;>decide⟩
  ·rename_i n s1 h;obtain⟨rfl,rfl,p,h4⟩:=mL h;obtain⟨f,r⟩: ∃f,sp.length-k=f+1:=⟨sp.length-k-1,by omega⟩;have htot:=c.tot;rw[r];unfold jQ;rw[if_pos ⟨o,rfl,rfl⟩];have b:=Dm hsp (hV p) (decide ((aU st.lines k).kind=4)) (n:=st.nodes.length) (aU st.lines k).ind [] (k0:=k) (st0:=st) (st:=⟨st.lines,st.nodes++ [⟨if(aU st.lines k).kind=4 then 3 else 2,(aU st.lines k).ind,k,0,kf,kt,0,0,[]⟩],st.total+1⟩) ⟨c.ls,by simp only[aW,dU];omega⟩ q (aE _) rfl ⟨_,[],rfl⟩ ⟨[],by simp⟩;split
   ·rename_i a e l;rw[l] at b;exact b
   ·rename_i nx s2 g l;rw[l] at b;exact Lo hsp (hV p) _ _ _ f g nx s2 b.1
theorem qT {s:aA}{sp:List (Nat×Nat)} (hsp:dH s sp): ∀lv,gA s sp (oD s sp lv)
 | 0=>Lp hsp 0 (λh=>absurd rfl h)
 | lv+1=>Lp hsp (lv+1) (λ_=>zH hsp (qT hsp lv) lv)
end
section
open Go.RowKit
open Go.Lib hiding intOf
def YJ (T:TypeId) (Pr:aL) (w0:World) (P:Nat) (txt:aA) (sp:List (Nat×Nat)) (st:YS) (a er:Int) (w:World):Prop:= ∃z sv lv nv,z.map (·.1)=st.nodes/\YK T Pr w0 P txt sp st.lines z st.total a er sv lv nv w
def gB (T:TypeId) (Pr:aL) (w0:World) (P:Nat) (txt:aA) (sp:List (Nat×Nat)) (a er:Int) (w:World):Prop:= ∃st,YJ T Pr w0 P txt sp st a er w
def zI (T:TypeId) (Pr:aL) (w0:World) (P:Nat) (txt:aA) (sp:List (Nat×Nat)) (st:YS) (R:NX) (e:Ending) (w':World):Prop:=match R with
 | .ok k ls=>e= .returned (.tuple #[.int .i64 (k:Int), .bool true])/\YJ T Pr w0 P txt sp ⟨ls,st.nodes,st.total⟩ 0 0 w'
 | .bad a er=>(∃m:Int,e= .returned (.tuple #[.int .i64 m, .bool false]))/\gB T Pr w0 P txt sp a er w'
def iD (T:TypeId) (Pr:aL) (w0:World) (P:Nat) (txt:aA) (sp:List (Nat×Nat)) (R:YR) (e:Ending) (w':World):Prop:=match R with
 | .ok n st=>e= .returned (.tuple #[.int .i64 (n:Int), .bool true])/\YJ T Pr w0 P txt sp st 0 0 w'
 | .bad a er=>(∃m:Int,e= .returned (.tuple #[.int .i64 m, .bool false]))/\gB T Pr w0 P txt sp a er w'
section
variable {T:TypeId}{Pr Pr':aL}{w0 w w':World}{P:Nat}{txt:aA}{sp:List (Nat×Nat)}{st:YS}{a er:Int}
theorem YJ.keep (h:YJ T Pr w0 P txt sp st a er w) (hb:Below w.heap.size w w'):YJ T Pr w0 P txt sp st a er w':=by
 obtain⟨z,sv,lv,nv,b,c⟩:=h;exact⟨z,sv,lv,nv,b,c.keep hb⟩
theorem YJ.put (h:YJ T Pr w0 P txt sp st a er w) (hb:Below w.heap.size w w') {X:Nat}{o:Obj} (hX:w.heap.size<=X) (ho:w'.heap[X]?=some o):YJ T (Pr.put X o) w0 P txt sp st a er w':=by
 obtain⟨z,sv,lv,nv,b,c⟩:=h;exact⟨z,sv,lv,nv,b,c.put hb hX ho⟩
theorem YJ.less (h:YJ T Pr w0 P txt sp st a er w) (hp: ∀k o,Pr' k=some o->Pr k=some o):YJ T Pr' w0 P txt sp st a er w:=by
 obtain⟨z,sv,lv,nv,b,c⟩:=h;exact⟨z,sv,lv,nv,b,c.less hp⟩
theorem YJ.bel (h:YJ T Pr w0 P txt sp st a er w):Below w0.heap.size w0 w:=by
 obtain⟨z,sv,lv,nv,h1,b⟩:=h;exact b.bel
theorem YJ.at_ (h:YJ T Pr w0 P txt sp st a er w) {k:Nat}{o:Obj} (hk:Pr k=some o):w.heap[k]?=some o:=by
 obtain⟨z,sv,lv,nv,h1,b⟩:=h;exact(b.fr k o hk).1
theorem YJ.frLt (h:YJ T Pr w0 P txt sp st a er w): ∀k o,Pr k=some o->k<w.heap.size:=by
 obtain⟨z,sv,lv,nv,h1,c⟩:=h;exact λk o b=>c.frLt b
theorem YJ.lt (h:YJ T Pr w0 P txt sp st a er w):P<w.heap.size:=by
 obtain⟨z,sv,lv,nv,h1,b⟩:=h;exact b.lt
theorem YJ.fail (h:YJ T Pr w0 P txt sp st a er w) (a2 e2:Int):YJ T Pr w0 P txt sp st a2 e2 ((w.setCell ⟨P,5,none⟩ (.int .i64 a2)).setCell ⟨P,6,none⟩ (.int .i64 e2)):=by
 obtain⟨z,sv,lv,nv,b,c⟩:=h;exact⟨z,sv,lv,nv,b,c.fail a2 e2⟩
theorem YJ.bad (h:YJ T Pr w0 P txt sp st a er w):gB T Pr w0 P txt sp a er w:=⟨st,h⟩
theorem gB.keep (h:gB T Pr w0 P txt sp a er w) (hb:Below w.heap.size w w'):gB T Pr w0 P txt sp a er w':=by
 obtain⟨st,h⟩:=h;exact⟨st,h.keep hb⟩
theorem gB.less (h:gB T Pr w0 P txt sp a er w) (hp: ∀k o,Pr' k=some o->Pr k=some o):gB T Pr' w0 P txt sp a er w:=by
 obtain⟨st,h⟩:=h;exact⟨st,h.less hp⟩
theorem iD.less {R:YR}{e:Ending} (h:iD T Pr w0 P txt sp R e w) (hp: ∀k o,Pr' k=some o->Pr k=some o):iD T Pr' w0 P txt sp R e w:=by
 cases R with
 | ok n st=>exact⟨h.1,h.2.less hp⟩
 | bad a er=>exact⟨h.1,h.2.less hp⟩
end
abbrev YP:TypeId:=57
section
variable {Pr:aL}{w0:World}{P:Nat}{txt:aA}{sp:List (Nat×Nat)}{st:YS}{a0 e0:Int}
theorem Lq (r:aP) (w:World):Calls Tryz.prog 68 #[fZ r] w λe w'=>e= .returned (.bool (kJ r))/\Below w.heap.size w w':=by
 have b:=hid (aI w (.cells #[.int .i64 r.kind, .int .i64 r.sf, .int .i64 r.st, .int .i64 r.ind, .int .i64 r.kf, .int .i64 r.kt, .int .i64 r.rf, .int .i64 r.rt, .int .i64 r.nf, .int .i64 r.nt] 121));unfold fZ kJ;by_cases h3:3<=r.kind
 ·have d3:decide (3<=r.kind)=true:=aM h3;go_enter Tryz.func68,Tryz.ntmps68;go_wp2_with fail;go_ret;exact⟨by simp[h3],b.out⟩
 ·have d3:decide (3<=r.kind)=false:=aH h3;go_enter Tryz.func68,Tryz.ntmps68;go_wp2_with fail;go_ret;exact⟨by simp[h3],b.out⟩
theorem pQ (a er:Int) (w:World) (h:YJ YP Pr w0 P txt sp st a0 e0 w):
  Calls Tryz.prog 36 #[.pointer (some ⟨P,0,none⟩), .int .i64 a, .int .i64 er] w λe w'=>e= .returned (.bool false)/\YJ YP Pr w0 P txt sp st a er w':=by
 have c:=hid (h.fail a er);obtain⟨z,sv,lv,nv,_,b⟩:=h;obtain⟨⟨c0,c1,c2,c3,c4,c5,c6⟩,f2,f3,f4,f5,f6⟩:=b.cells;clear b;go_enter Tryz.func36,Tryz.ntmps36;go_wp2_with fail;go_ret;exact⟨rfl,c.out⟩
theorem vA (k:Nat) (w:World) (h:YJ YP Pr w0 P txt sp st a0 e0 w):
  Calls Tryz.prog 34 #[.pointer (some ⟨P,0,none⟩), .int .i64 (k:Int)] w λe w'=>e= .returned (.bool (decide (k<sp.length)))/\Below w.heap.size w w':=by
 have c:=hid (aB w.heap.size w);obtain⟨z,sv,lv,nv,_,b⟩:=h;obtain⟨⟨c0,c1,c2,c3,c4,c5,c6⟩,f2,f3,f4,f5,f6⟩:=b.cells;obtain⟨p,cap,rfl⟩:=b.spSlice;clear b;go_enter Tryz.func34,Tryz.ntmps34;go_wp2_with fail;go_ret;exact⟨by simp,c.out⟩
theorem zJ (x y:Int) (w:World) (h:YJ YP Pr w0 P txt sp st a0 e0 w) (h0:0<=x) (h1:x<=y) (h2:y<=(txt.length:Int)) (hs:txt.length<=1073741824):
  Calls Tryz.prog 108 #[.pointer (some ⟨P,0,none⟩), .agg #[.int .i64 x, .int .i64 y]] w λe w'=>e= .returned (.string (bs (dG txt x y)))/\Below w.heap.size w w':=by
 have sl:=aT txt;obtain⟨x,rfl⟩: ∃k:Nat,x=k:=⟨x.toNat,by omega⟩;obtain⟨y,rfl⟩: ∃k:Nat,y=k:=⟨y.toNat,by omega⟩;have hex:(bs txt).extract x y=bs (dG txt x y):=by
  rw[lG,aZ];rfl
 have b0:=aI w (.cells #[.int .i64 (x:Int), .int .i64 (y:Int)] 59);have i:=hid b0;have b:=heap_alloc_new w (.cells #[.int .i64 (x:Int), .int .i64 (y:Int)] 59);obtain⟨K,c⟩:=exQ<|w.heap.size;obtain⟨W1,f⟩:=exQ<|w.alloc (.cells #[.int .i64 (x:Int), .int .i64 (y:Int)] 59);rw[f] at b0 b i;have j:=h.keep b0;rw[c] at b;obtain⟨x0,x1⟩:=rI b;obtain⟨z,sv,lv,nv,_,g⟩:=j;obtain⟨⟨c0,c1,c2,c3,c4,c5,c6⟩,f2,f3,f4,f5,f6⟩:=g.cells;have hPl:=g.lt;clear g h b0;have hKl:=aF b;clear b;go_enter Tryz.func108,Tryz.ntmps108;go_upto_region 1 with fail;clear f c;go_wp2_with fail;go_region;go_wp2_with fail;go_ret;exact⟨rfl,i.out.drew⟩
end
end
section
def zK (ops:Array Oper):Bool:=(List.range ops.size).all λi=>match ops[i]? with
 | some o=>o.after.toList.all (λe=>!Region.binds .any e||decide (e.on<i))
 | none=>true
theorem Lr {ops:Array Oper} (h:zK ops=true) {i:Nat}{o:Oper} (ho:ops[i]?=some o): ∀e∈o.after,Region.binds .any e=true->e.on<i:=by
 have b:=(cJ.1 ho).1;have:=fH.1 h i (List.mem_range.2 b);rw[ho] at this;intro e f c;have:=fH.1 this e (Array.mem_toList_iff.2 f);rw[c,Bool.not_true,Bool.false_or] at this;exact of_decide_eq_true this
theorem Ye {ops:Array Oper} (h:zK ops=true) {L:Array Bool} (hL:L.size=ops.size) (hr:Region.ready .any ops L= []): ∀i,i<ops.size->L.getD i false=true:=by
 intro i
 induction i using Nat.strongRecOn with
 | _ i ih=>
  intro j;obtain⟨o,b⟩: ∃o,ops[i]?=some o:=⟨_,Array.getElem?_eq_getElem j⟩;cases hc:L.getD i false with
  | true=>rfl
  | false=>
   have c:i∈Region.ready .any ops L:=mem_ready.2 ⟨by rw[aO,Array.getElem?_eq_getElem (by omega)] at hc ⊢;simpa using hc,o,b,λe f g=>ih _ (Lr h b e f g) (by have:=Lr h b e f g;omega)⟩;rw[hr] at c;cases c
theorem Yf {P:Program}{ops:Array Oper}{Q:Exit->Act->World->Prop}{id:Nat}{a0:Act}{w0:World} (hm:P.follows .mixedOrders=true) (K:List Nat) (n:Nat) (hn:a0.tmps.size=n) (hback:zK ops=true) (hdst:nR ops K n=true)
  (F:(Nat->Bool)->(Nat->Value)->World->Prop) (h0:F (λ_=>false) (λk=>a0.tmps.getD k undef) w0.drew)
  (hs: ∀(d:Nat->Bool) (a:Act) (w:World) (i:Nat) (o:Oper),ops[i]?=some o->d i=false->(∀e∈o.after,Region.binds .any e=true->d e.on=true)->(∀k,k ∉ K->a.tmps.getD k undef=a0.tmps.getD k undef)->F d (λk=>a.tmps.getD k undef) w->
   ∀R:Act->World->Prop,(∀x w',F (bF d i) (bP (λk=>a.tmps.getD k undef) o.dst x) w'->R (a.put o.dst x) w')->if Region.wanted o (yielded ops a.tmps)=true then o.wp P a w R Q else R (a.put o.dst undef) w)
  (hd: ∀(v:Nat->Value) (w:World),F (λi=>decide (i<ops.size)) v w->Q .normal { a0 with tmps:=cC a0.tmps v K } w):(Code.region id ops true).wp P Q a0 w0:=by
 subst hn;refine Ib hm (λL a w=>(a.defers=a0.defers/\a.tmps.size=a0.tmps.size/\ ∀k,k ∉ K->a.tmps.getD k undef=a0.tmps.getD k undef)/\F (λi=>L.getD i false) (λk=>a.tmps.getD k undef) w) ⟨⟨rfl,rfl,λk _=>rfl⟩,?_⟩ ?_ ?_
 ·have:(λi=>(Array.replicate ops.size false).getD i false)=λ_=>false:=by
   funext i;rw[aO,Array.getElem?_replicate];split<;>rfl
  rw[this];exact h0
 ·intro L a w i o z m g b A R G;obtain⟨⟨s,f,r⟩,y⟩:=A;have q:i<L.size:=by rw[z];exact(cJ.1 m).1
  refine hs (λi=>L.getD i false) a w i o m ?_ b r y R λx w' C=>G _ _ ⟨⟨?_,?_,λk u=>?_⟩,?_⟩
  ·rw[aO,Array.getElem?_eq_getElem q] at g ⊢;simpa using g
  ·unfold Act.put;cases o.dst<;>exact s
  ·unfold Act.put;cases o.dst
   ·exact f
   ·rw[Array.size_setIfInBounds];exact f
  ·rw[<-r k u];have D:=congrFun (uE a o.dst x (λt p=>by rw[f];exact(qD hdst m t p).2)) k;have e: ∀t,o.dst=t->bP (λk=>a.tmps.getD k undef) t x k=a.tmps.getD k undef:=λt p=>by
    cases t with
    | none=>rfl
    | some t=>exact if_neg (λh=>u (by rw[h];exact(qD hdst m t p).1))
   exact D.trans (e _ rfl)
  ·rw[Bf L i q,uE a o.dst x (λt p=>by rw[f];exact(qD hdst m t p).2)];exact C
 ·intro L a w z A E;obtain⟨⟨s,f,r⟩,y⟩:=A;have b:=Ye hback z E;have l:(λi=>L.getD i false)=λi=>decide (i<ops.size):=by
   funext i;by_cases g:i<ops.size
   ·rw[b i g,aM g]
   ·rw[aH g,aO,Array.getElem?_eq_none (by omega)];rfl
  rw[l] at y;have:=hd _ w y;have B:a= { a0 with tmps:=cC a0.tmps (λk=>a.tmps.getD k undef) K }:=by
   cases a with
   | mk tmps defers=>
    simp only at s f r ⊢;rw[s];congr 1;refine Array.ext_getElem? λj=>?_;by_cases hj:j<a0.tmps.size
    ·rw[yI _ _ j hj];have c:tmps[j]?=some (tmps.getD j undef):=by rw[aO,Array.getElem?_eq_getElem (by omega)];rfl
     split
     ·exact c
     ·rename_i u;rw[c,r j u,aO,Array.getElem?_eq_getElem hj];rfl
    ·rw[Array.getElem?_eq_none (by omega),Array.getElem?_eq_none (by rw[vY];omega)]
  rw[B];exact this
end
section
open Go.RowKit
def gN (sl:List (Option Nat)) (i:Nat):Option Nat:=match sl[i]? with
 | some (some k)=>some k
 | _=>none
def tH (sl:List (Option Nat)):Bool:=(List.range sl.length).all λi=>(List.range sl.length).all λj=>i==j||gN sl i==none||gN sl i !=gN sl j
theorem Ls {sl:List (Option Nat)}{i k:Nat} (h:gN sl i=some k):i<sl.length:=by
 unfold gN at h;cases hs:sl[i]? with
 | none=>rw[hs] at h;cases h
 | some q=>exact(aR.1 hs).1
theorem Yg {sl:List (Option Nat)} (h:tH sl=true) {i j k:Nat} (hi:gN sl i=some k) (hj:gN sl j=some k):i=j:=by
 have b:=fH.1 (fH.1 h i (List.mem_range.2 (Ls hi))) j (List.mem_range.2 (Ls hj));rw[hi,hj] at b;simpa using b
def fL (sl:List (Option Nat)) (v:Nat->Value) (e:Nat):Value:=match gN sl e with
 | some k=>v k
 | none=>undef
def pR (eff:List Nat) (sl:List (Option Nat)) (fr:Nat) (v:Nat->Value):Nat->Value
 | 0=>undef
 | k+1=>match eff[k]? with
  | some e=>match gN sl e with
   | some _=>fL sl v e
   | none=>fL sl v fr
  | none=>undef
theorem wV (eff:List Nat) (sl:List (Option Nat)) (fr:Nat) (v:Nat->Value) (k:Nat):pR eff sl fr v (k+1)=match eff[k]? with
  | some e=>match gN sl e with
   | some _=>fL sl v e
   | none=>fL sl v fr
  | none=>undef:=rfl
theorem Yh {l:List Nat} (h:l.Nodup) {i j a:Nat} (hi:l[i]?=some a) (hj:l[j]?=some a):i=j:=by
 obtain⟨m,n⟩:=aR.1 hi;obtain⟨k,f⟩:=aR.1 hj;have g:=List.pairwise_iff_getElem.1 h;rcases Nat.lt_trichotomy i j with b | e | c
 ·exact absurd (n.trans f.symm) (g i j m k b)
 ·exact e
 ·exact absurd (f.trans n.symm) (g j i k m c)
theorem Dn {l:List Nat} (h:l≠ []):l.getLastD 0∈l:=by
 rw[List.getLastD_eq_getLast?,List.getLast?_eq_some_getLast h];exact List.getLast_mem h
structure eL (ops:Array Oper) (sl:List (Option Nat)) (eff:List Nat) (fr:Nat) (Fb:Value->World->Prop) (val:Nat->Value) (S:World->Prop) (Ph:Nat->Value->World->Prop) (d:Nat->Bool) (v:Nat->Value) (w':World):Prop where
 cl: ∀i,i<sl.length->i ∉ eff->i≠fr->d i=true->fL sl v i=val i
 clo:nT ops d
 st:d (eff.getLastD 0)=false->S w'
 fb:d (eff.getLastD 0)=false->d fr=true->Fb (fL sl v fr) w'
 ph: ∃k,k<=eff.length/\(∀j e,eff[j]?=some e->(d e=true↔j<k))/\Ph k (pR eff sl fr v k) w'
section
variable {ops:Array Oper}{sl:List (Option Nat)}{eff:List Nat}{fr:Nat}{Fb:Value->World->Prop}{val:Nat->Value}{S:World->Prop}{Ph:Nat->Value->World->Prop}{d:Nat->Bool}{v:Nat->Value}{w' w2:World}
theorem zL {i k:Nat} (hk:gN sl i=some k) (x:Value):fL sl (bP v (some k) x) i=x:=by
 unfold fL;rw[hk];exact if_pos rfl
theorem oE (hnd:tH sl=true) {i k:Nat} (hk:gN sl i=some k) (x:Value) {j:Nat} (hj:j≠i):fL sl (bP v (some k) x) j=fL sl v j:=by
 unfold fL;cases hs:gN sl j with
 | none=>rfl
 | some q=>
  exact if_neg (λe=>hj (Yg hnd hs (by rw[e];exact hk)))
theorem Lt {v v2:Nat->Value} (h: ∀e∈eff,fL sl v2 e=fL sl v e) (hf:fL sl v2 fr=fL sl v fr): ∀k,pR eff sl fr v2 k=pR eff sl fr v k
 | 0=>rfl
 | k+1=>by
  rw[wV,wV];cases he:eff[k]? with
  | none=>rfl
  | some e=>
   simp only[];cases hs:gN sl e with
   | none=>exact hf
   | some q=>exact h e (aX he)
theorem eL.pure (h:eL ops sl eff fr Fb val S Ph d v w') (hnd:tH sl=true) {i k:Nat}{o:Oper} (ho:ops[i]?=some o) (hall: ∀e∈o.after,Region.binds .any e=true->d e.on=true) (hk:gN sl i=some k) (hne:i ∉ eff) (hfr:i≠fr) (hel:eff≠ []) {x:Value} (hx:x=val i):eL ops sl eff fr Fb val S Ph (bF d i) (bP v (some k) x) w':=by
 have c: ∀e∈eff,fL sl (bP v (some k) x) e=fL sl v e:=λe f=>oE hnd hk x (λe2=>hne (e2 ▸ f));have p: ∀e∈eff,bF d i e=d e:=λe f=>aS (λe2=>hne (e2 ▸ f));have b:bF d i (eff.getLastD 0)=d (eff.getLastD 0):=p _ (Dn hel);refine⟨λj t m l g=>?_,h.clo.step ho hall,λn=>h.st (by rw[<-b];exact n),λn r=>?_,?_⟩
 ·by_cases hji:j=i
  ·subst hji;rw[zL hk];exact hx
  ·rw[oE hnd hk x hji];rw[aS hji] at g;exact h.cl j t m l g
 ·rw[oE hnd hk x (Ne.symm hfr)];rw[aS (Ne.symm hfr)] at r;exact h.fb (by rw[<-b];exact n) r
 ·obtain⟨q,u,y,s⟩:=h.ph;refine⟨q,u,λj e f=>?_,?_⟩
  ·rw[p e (aX f)];exact y j e f
  ·rw[Lt c (oE hnd hk x (Ne.symm hfr))];exact s
theorem eL.free (h:eL ops sl eff fr Fb val S Ph d v w') (hnd:tH sl=true) {i k:Nat}{o:Oper} (ho:ops[i]?=some o) (hall: ∀e∈o.after,Region.binds .any e=true->d e.on=true) (hk:gN sl i=some k) (hne:i ∉ eff) (hfr:i=fr) (hel:eff≠ []) (hsl:eff.all (λe=>e==eff.getLastD 0||(gN sl e).isSome)=true) (hnl:eff.Nodup) (hdl:d (eff.getLastD 0)=false) {x:Value} (hS:S w'->S w2) (hP: ∀k c,Ph k c w'->Ph k c w2) (hx:Fb x w2):eL ops sl eff fr Fb val S Ph (bF d i) (bP v (some k) x) w2:=by
 subst hfr;have l: ∀e∈eff,fL sl (bP v (some k) x) e=fL sl v e:=λe b=>oE hnd hk x (λe2=>hne (e2 ▸ b));have p: ∀e∈eff,bF d i e=d e:=λe b=>aS (λe2=>hne (e2 ▸ b));have hlast:bF d i (eff.getLastD 0)=d (eff.getLastD 0):=p _ (Dn hel);refine⟨λj t n g m=>?_,h.clo.step ho hall,λA=>hS (h.st hdl),λA hf=>by rw[zL hk];exact hx,?_⟩
 ·rw[oE hnd hk x g];rw[aS g] at m;exact h.cl j t n g m
 ·obtain⟨q,u,r,s⟩:=h.ph;refine⟨q,u,λj e b=>?_,?_⟩
  ·rw[p e (aX b)];exact r j e b
  ·have y:pR eff sl i (bP v (some k) x) q=pR eff sl i v q:=by
    cases q with
    | zero=>rfl
    | succ q=>
     rw[wV,wV];cases b:eff[q]? with
     | none=>rfl
     | some e=>
      simp only[];cases hs:gN sl e with
      | some z=>exact l e (aX b)
      | none=>
       have f:=fH.1 hsl e (aX b);rw[Bool.or_eq_true] at f;rcases f with f | f
       ·have f:e=eff.getLastD 0:=(by simpa using f);have:=(r q e b).2 (uG _);rw[f,hdl] at this;cases this
       ·rw[hs] at f;cases f
   rw[y];exact hP _ _ s
theorem eL.at_ (h:eL ops sl eff fr Fb val S Ph d v w') {j e:Nat} (he:eff[j]?=some e) (hi:d e=false) (hp: ∀j' e',j=j'+1->eff[j']?=some e'->d e'=true):Ph j (pR eff sl fr v j) w':=by
 obtain⟨q,hq,c,f⟩:=h.ph;have h4: ¬j<q:=λb=>by rw[(c j e he).2 b] at hi;cases hi
 obtain rfl:j=q:=by
  cases j with
  | zero=>omega
  | succ j'=>
   have hj':=(aR.1 he).1;have h5:=(c j' _ (bE (by omega))).1 (hp j' _ rfl (bE (by omega)));omega
 exact f
theorem eL.eff_ (h:eL ops sl eff fr Fb val S Ph d v w') (hnd:tH sl=true) (hne:eff.Nodup) {i j:Nat}{o:Oper} (ho:ops[i]?=some o) (hall: ∀e∈o.after,Region.binds .any e=true->d e.on=true) (he:eff[j]?=some i) (hi:d i=false) (hp: ∀j' e',j=j'+1->eff[j']?=some e'->d e'=true)
  {dst:Option Nat} (hk:gN sl i=dst) (hfr:i≠fr) {x:Value} (hF:i≠eff.getLastD 0-> ∀x,Fb x w'->Fb x w2) (hS:i≠eff.getLastD 0->S w2) (hP:Ph (j+1) (match dst with | some _=>x | none=>fL sl v fr) w2):eL ops sl eff fr Fb val S Ph (bF d i) (bP v dst x) w2:=by
 obtain⟨q,hq,y,h3⟩:=h.ph;have s:=(aR.1 he).1;obtain rfl:j=q:=by
  have h4: ¬j<q:=λt=>by rw[(y j i he).2 t] at hi;cases hi
  cases j with
  | zero=>omega
  | succ j'=>
   have h5:=(y j' _ (bE (by omega))).1 (hp j' _ rfl (bE (by omega)));omega
 have f: ∀m,m≠i->fL sl (bP v dst x) m=fL sl v m:=λm b=>by
  cases dst with
  | none=>rfl
  | some k=>exact oE hnd hk x b
 have g: ∀(c:bF d i (eff.getLastD 0)=false),i≠eff.getLastD 0/\d (eff.getLastD 0)=false:=λc=>by
  have hne:i≠eff.getLastD 0:=λe=>by rw[<-e,oW] at c;cases c
  exact⟨hne,by rw[aS (Ne.symm hne)] at c;exact c⟩
 refine⟨λm b n u l=>?_,h.clo.step ho hall,λc=>?_,λc z=>?_,j+1,s,λm e b=>?_,?_⟩
 ·have p:m≠i:=λe=>n (e ▸ aX he);rw[f m p];rw[aS p] at l;exact h.cl m b n u l
 ·exact hS (g c).1
 ·rw[f fr (Ne.symm hfr)];rw[aS (Ne.symm hfr)] at z;exact hF (g c).1 _ (h.fb (g c).2 z)
 ·by_cases hmj:m=j
  ·subst hmj;rw[he] at b;injection b with b;subst b;rw[oW];exact⟨λ_=>uG _,λ_=>rfl⟩
  ·have r:e≠i:=λe2=>hmj (Yh hne (by rw[<-e2];exact b) he);rw[aS r,y m e b];omega
 ·rw[wV,he];simp only[hk];cases dst with
  | none=>exact hP
  | some k=>
   simp only[];rw[zL hk];exact hP
theorem eL.fin (h:eL ops sl eff fr Fb val S Ph d v w') (hd: ∀e∈eff,d e=true):Ph eff.length (pR eff sl fr v eff.length) w':=by
 obtain⟨q,hq,b,c⟩:=h.ph;by_cases hlt:q<eff.length
 ·have:=(b q _ (bE hlt)).1 (hd _ (List.getElem_mem hlt));omega
 ·obtain rfl:q=eff.length:=by omega
  exact c
theorem eL.early (h:eL ops sl eff fr Fb val S Ph d v w') {f i:Nat} (hr:nS ops f (eff.getLastD 0) i=true) (hi:d i=false):S w':=by
 refine h.st ?_;cases hc:d (eff.getLastD 0) with
 | false=>rfl
 | true=>rw[h.clo.reach f _ _ hr hc] at hi;cases hi
end
section
variable {ops:Array Oper}{sl:List (Option Nat)}{eff:List Nat}{fr:Nat}{Fb:Value->World->Prop}{val:Nat->Value}{S:World->Prop}{Ph:Nat->Value->World->Prop}{d:Nat->Bool}{v:Nat->Value}{w' w2:World}
theorem Lu {j:Nat} (hp:j=0\/ ∃e',eff[j-1]?=some e'/\d e'=true): ∀j' e',j=j'+1->eff[j']?=some e'->d e'=true:=by
 rintro j' e' rfl c;rcases hp with h | ⟨e2,b,e⟩
 ·omega
 ·rw[Nat.add_sub_cancel,c] at b;injection b with b;rw[b];exact e
theorem eL.at2 (h:eL ops sl eff fr Fb val S Ph d v w') {j e:Nat} (he:eff[j]?=some e) (hi:d e=false) (hp:j=0\/ ∃e',eff[j-1]?=some e'/\d e'=true):Ph j (pR eff sl fr v j) w':=h.at_ he hi (Lu hp)
theorem eL.eff2 (h:eL ops sl eff fr Fb val S Ph d v w') (hnd:tH sl=true) (hne:eff.Nodup) {i:Nat} (j:Nat) {o:Oper} (ho:ops[i]?=some o) (hall: ∀e∈o.after,Region.binds .any e=true->d e.on=true) (he:eff[j]?=some i) (hi:d i=false) (hp:j=0\/ ∃e',eff[j-1]?=some e'/\d e'=true)
  {dst:Option Nat} (hk:gN sl i=dst) (hfr:i≠fr) {x:Value} (hF:i≠eff.getLastD 0-> ∀x,Fb x w'->Fb x w2) (hS:i≠eff.getLastD 0->S w2) (hP:Ph (j+1) (match dst with | some _=>x | none=>fL sl v fr) w2):eL ops sl eff fr Fb val S Ph (bF d i) (bP v dst x) w2:=h.eff_ hnd hne ho hall he hi (Lu hp) hk hfr hF hS hP
end
theorem eL.lastNot {ops:Array Oper}{sl:List (Option Nat)}{eff:List Nat}{fr:Nat}{Fb:Value->World->Prop}{val:Nat->Value}{S:World->Prop}{Ph:Nat->Value->World->Prop}{d:Nat->Bool}{v:Nat->Value}{w':World} (h:eL ops sl eff fr Fb val S Ph d v w') {f i:Nat} (hr:nS ops f (eff.getLastD 0) i=true) (hi:d i=false):d (eff.getLastD 0)=false:=by
 cases hc:d (eff.getLastD 0) with
 | false=>rfl
 | true=>rw[h.clo.reach f _ _ hr hc] at hi;cases hi
theorem eL.g {ops:Array Oper}{sl:List (Option Nat)}{eff:List Nat}{fr:Nat}{Fb:Value->World->Prop}{val:Nat->Value}{S:World->Prop}{Ph:Nat->Value->World->Prop}{d:Nat->Bool}{a:Array Value}{w':World} (h:eL ops sl eff fr Fb val S Ph d (λk=>a.getD k undef) w') (i k:Nat) (hs:gN sl i=some k) (hl:i<sl.length) (h1:i ∉ eff) (h2:i≠fr) (hd:d i=true):a[k]?.getD undef=val i:=by
 have:=h.cl i hl h1 h2 hd;unfold fL at this;rw[hs] at this;rw[<-aO];exact this
theorem lD {P:Program}{ops:Array Oper}{Q:Exit->Act->World->Prop}{id:Nat}{a0:Act}{w0:World} (hm:P.follows .mixedOrders=true) (sl:List (Option Nat)) (K:List Nat) (eff:List Nat) (fr:Nat) (Fb:Value->World->Prop) (n:Nat) (hn:a0.tmps.size=n) (hback:oU ops=true) (hdst:nR ops K n=true) (heff:eff.all (λe=>decide (e<ops.size))=true)
  (val:Nat->Value) (S:World->Prop) (Ph:Nat->Value->World->Prop) (h0:S w0.drew) (hP:Ph 0 undef w0.drew)
  (hs: ∀(d:Nat->Bool) (a:Act) (w:World) (i:Nat) (o:Oper),ops[i]?=some o->d i=false->(∀e∈o.after,Region.binds .any e=true->d e.on=true)->(∀k,k ∉ K->a.tmps.getD k undef=a0.tmps.getD k undef)->eL ops sl eff fr Fb val S Ph d (λk=>a.tmps.getD k undef) w->
   ∀R:Act->World->Prop,(∀x w',eL ops sl eff fr Fb val S Ph (bF d i) (bP (λk=>a.tmps.getD k undef) o.dst x) w'->R (a.put o.dst x) w')->o.wp P a w R Q)
  (hd: ∀(v:Nat->Value) (w:World),(∀i,i<sl.length->i<ops.size->i ∉ eff->i≠fr->fL sl v i=val i)->Ph eff.length (pR eff sl fr v eff.length) w->Q .normal { a0 with tmps:=cC a0.tmps v K } w):(Code.region id ops true).wp P Q a0 w0:=by
 refine uF hm K n hn hback hdst (λd v w'=>eL ops sl eff fr Fb val S Ph d v w') ?_ hs (λv w h=>hd v w (λi f g c b=>h.cl i f c b (aM g)) (h.fin (λe l=>?_)))
 ·exact⟨λ_ _ _ _ h=>Bool.noConfusion h,λ_ _ _ h=>Bool.noConfusion h,λ_=>h0,λ_ h=>Bool.noConfusion h,0,bM _,λj e _=>⟨λh=>Bool.noConfusion h,λh=>absurd h (pA _)⟩,hP⟩
 ·exact fH.1 heff e l
end
end Go.Proofs.YtaifnmjjpddikaaGreatDoor
