import Derived.Test.YtfhjncbdgjlcoaaGreatDoorYn17
set_option linter.unusedVariables false
set_option linter.unusedSimpArgs false
namespace Go.Proofs.YtfhjncbdgjlcoaaGreatDoor
open Tryz
section
open Go.Lib
theorem Mv: ∀(l:List (Nat×Nat)) (x:Nat×Nat),x∈tU l-> ∃y∈l,x.1=y.1/\(x.2=y.2\/x.2=y.2-1/\y∈l.dropLast)
 | [],x,h=>by cases h
 | [y],x,h=>⟨y,e_,by rw[kT.1 h];simp⟩
 | y::z::r,x,h=>by
  rw[tU] at h;rcases fT.1 h with rfl | h
  .exact⟨y,e_,rfl, .inr ⟨rfl,e_⟩⟩
  .obtain⟨q,h1,h2,h3⟩:=Mv (z::r) x h;refine⟨q,List.mem_cons_of_mem _ h1,h2,h3.imp_right fun⟨e,h⟩=>⟨e,?_⟩⟩;rw[List.dropLast_cons_of_ne_nil e_];exact List.mem_cons_of_mem _ h
theorem Bo: ∀(l:aB) (k pos:Nat),k<=pos->(∀x∈gR l k pos,k<=x.1/\x.1<=x.2/\x.2<=pos+l.length)/\(∀x∈(gR l k pos).dropLast,x.1<x.2)
 | [],k,pos,h=>by simp[gR];omega
 | c::t,k,pos,h=>by
  unfold gR;split
  .obtain⟨h1,h2⟩:=Bo t (pos+1) (pos+1) (aF _);have f:gR t (pos+1) (pos+1)≠ []:=λe=>by have:=(tT t (pos+1) (pos+1)).2;rw[e] at this;simp at this
   refine⟨λx b=>?_,λx b=>?_⟩
   .rw[bM];rcases fT.1 b with rfl | b
    .simp only[];omega
    .have:=h1 x b;omega
   .rw[List.dropLast_cons_of_ne_nil f] at b;rcases fT.1 b with rfl | b
    .simp only[];omega
    .exact h2 x b
  .obtain⟨h1,h2⟩:=Bo t k (pos+1) a_;refine⟨λx b=>?_,h2⟩;have:=h1 x b;rw[bM];omega
def dV (s:aB) (sp:List (Nat×Nat)):Prop:= ∀x∈sp,x.1<=x.2/\x.2<=s.length
theorem Bp (s:aB):dV s (eY s):=by
 intro x f;obtain⟨y,c,h2,b⟩:=Mv _ _ f;obtain⟨g1,g2⟩:=Bo s 0 0 (aF _);have h4:=g1 y c;rcases b with b | ⟨b,e⟩
 .omega
 .have:=g2 y e;omega
structure wN (s:aB) (x:Nat×Nat) (r:aS):Prop where
 ind:0<=r.ind/\(x.1:Int)+r.ind<=(x.2:Int)/\(x.2:Int)<=(s.length:Int)
 key:0<=r.kf/\r.kf<=r.kt/\r.kt<=(s.length:Int)
 rst:0<=r.rf/\r.rf<=r.rt/\r.rt<=(s.length:Int)
 oth:r.kind=5->r.rf=(x.1:Int)+r.ind
 itm:r.kind≠4->r.kf=0/\r.kt=0
theorem Zk {u:aB}{c:tN} (h:gG u=some c) (h5:c.kind=5) (hu:bB u=0):c.rf=0:=by
 unfold gG at h;split at h
 .injection h with h;subst h;cases h5
 .split at h
  .injection h with h;subst h;cases h5
  .split at h
   .cases h
   .injection h with h;subst h;have h5:(fD u).1=5:=h5;show cL u (eU (fD u))=0;unfold eU cL;rw[h5,if_neg b_,if_neg b_,List.drop_zero,hu]
theorem Zl (t:aB):bB (t.drop (bB t))=0:=by
 cases h:t.drop (bB t) with
 | nil=>rfl
 | cons c r=>
  have b:=pB t;have f:t[bB t]?=some c:=by
   have:=congrArg (λl=>l[0]?) h;simpa using this
  rw[Er,if_neg (λe=>b (by rw[f,e]))]
theorem Zm {s:aB}{x:Nat×Nat} (h1:x.1<=x.2) (h2:x.2<=s.length) (h:(fN s x.1 x.2).2.2=0):wN s x (fN s x.1 x.2).1:=by
 unfold fN at h ⊢;rw[if_neg a_] at h ⊢;simp only[gA,show ((x.2:Int)-(x.1:Int)).toNat=x.2-x.1 by omega] at h ⊢;obtain⟨t,j⟩:=exQ<|(s.drop x.1).take (x.2-x.1);have htl:t.length=x.2-x.1:=by rw[<-j,bR,bC];omega
 rw[j] at h ⊢;split at h
 .cases h
 .rename_i g;rw[if_neg g];split at h
  .cases h
  .rename_i k;rw[if_neg k];have hsl:=jU t;cases hc:gG (t.drop (bB t)) with
   | none=>rw[hc] at h;cases h
   | some c=>
    have i:=Lt _ _ hc;have f:(t.drop (bB t)).length=t.length-bB t:=bC;have l:=i.ord;rw[f] at l;simp only[];unfold pS;refine⟨⟨by simp only[];omega,by simp only[];omega,a_⟩,?_,⟨by simp only[];omega,by simp only[];omega,by simp only[];omega⟩,λm=>?_,λb=>?_⟩
    .simp only[];by_cases b:c.kind=4
     .have:=(i.key b).2.1;rw[if_pos b,if_pos b];omega
     .rw[if_neg b,if_neg b];omega
    .have:=Zk hc (by simp only[] at m;omega) (Zl t);exact am
    .have b: ¬c.kind=4:=λe=>b IX;simp only[if_neg b,and_self]
theorem Zn {s:aB}{x:Nat×Nat} (h1:x.1<=x.2) (h2:x.2<=s.length):0<=(fN s x.1 x.2).2.1/\(fN s x.1 x.2).2.1<=(s.length:Int):=by
 unfold fN;rw[if_neg a_];simp only[gA,show ((x.2:Int)-(x.1:Int)).toNat=x.2-x.1 by omega];obtain⟨t,b⟩:=exQ<|(s.drop x.1).take (x.2-x.1);have htl:t.length=x.2-x.1:=by rw[<-b,bR,bC];omega
 rw[b];have hsl:=jU t;split
 .exact am
 .split
  .exact am
  .split
   .exact am
   .exact am
theorem Zo {ls:List aS}{k:Nat}{r:aS} (h:ls[k]?=some r):aU ls k=r:=by unfold aU;rw[h];rfl
theorem kO {ls:List aS}{k:Nat} (h:k<ls.length):ls[k]?=some (aU ls k):=by unfold aU;rw[bI h];rfl
theorem wO {ls more:List aS}{k:Nat} (h:k<ls.length):aU (ls++more) k=aU ls k:=by unfold aU;rw[oV h]
theorem Fp (ls:List aS) (r:aS):aU (ls++ [r]) ls.length=r:=by unfold aU;rw[lR (aF _)];simp
theorem Bq {sp:List (Nat×Nat)}{k:Nat}{x:Nat×Nat} (h:sp[k]?=some x):lY sp k=x:=by unfold lY;rw[h];rfl
def mB (s:aB) (sp:List (Nat×Nat)) (ls:List aS):Prop:=ls.length<=sp.length/\ ∀k,k<ls.length->wN s (lY sp k) (aU ls k)
theorem mB.push {s:aB}{sp:List (Nat×Nat)}{ls:List aS} (h:mB s sp ls) (hl:ls.length<sp.length) {r:aS} (hr:wN s (lY sp ls.length) r):mB s sp (ls++ [r]):=by
 refine⟨by rw[aZ,dF];omega,λk b=>?_⟩;rw[aZ,dF] at b;by_cases h2:k<ls.length
 .rw[wO h2];exact h.2 k h2
 .obtain rfl:k=ls.length:=a_
  rw[Fp];exact hr
def vE (x:aS):Prop:=x.kind=1\/x.kind=2
theorem vE.no {x:aS} (h:vE x):kY x=false:=by
 unfold kY;rcases h with h | h<;>rw[h]<;>decide
theorem Zp {s:aB}{x:Nat×Nat} (h:(fN s x.1 x.2).2.2=0):kY (fN s x.1 x.2).1=true\/vE (fN s x.1 x.2).1:=by
 unfold fN at h ⊢;split at h
 .cases h
 .rename_i e;rw[if_neg e];simp only[] at h ⊢;split at h
  .cases h
  .rename_i b;rw[if_neg b];split at h
   .cases h
   .rename_i g;rw[if_neg g];split at h
    .cases h
    .rename_i c f;have:=(Lt _ _ f).kind;simp only[];unfold vE kY pS;simp only[fQ,kB];omega
def Lk (ls:List aS) (k:Nat):Prop:= ∀i,k<=i->i<ls.length->vE (aU ls i)\/(i+1=ls.length/\kY (aU ls i)=true)
structure sB (s:aB) (sp:List (Nat×Nat)) (k:Nat) (lines:List aS) (nx:Nat) (ls:List aS):Prop where
 pre: ∃more,ls=lines++more
 le:k<=nx/\nx<=sp.length
 hit:nx<sp.length->ls.length=nx+1/\kY (aU ls nx)=true
 miss: ∀i,k<=i->i<nx->vE (aU ls i)
 all:nx=sp.length->ls.length=sp.length
 ok:mB s sp ls
theorem Mw (s:aB) (sp:List (Nat×Nat)) (hsp:dV s sp): ∀(rest:List (Nat×Nat)) (k:Nat) (lines:List aS),sp.drop k=rest->k<=sp.length->k<=lines.length->mB s sp lines->Lk lines k->
  match mX s rest k lines with
  | .ok nx ls=>sB s sp k lines nx ls
  | .bad a e=>0<=a/\a<=(s.length:Int)/\e≠0
 | [],k,lines,hd,hk,hkl,hok,hl=>by
  have hks:k=sp.length:=by
   have:=congrArg List.length hd;rw[bC] at this;simp at this;omega
  unfold mX;exact⟨⟨[],e_⟩,⟨aF _,hk⟩,λh=>by omega,λi y p=>by omega,λ_=>by have:=hok.1;omega,hok⟩
 | x ::r,k,lines,hd,hk,hkl,hok,hl=>by
  have C:k<sp.length:=by
   have:=congrArg List.length hd;rw[bC] at this;simp at this;omega
  have G:sp[k]?=some x:=by
   have:=congrArg (λl=>l[0]?) hd;simpa using this
  have A:sp.drop (k+1)=r:=by
   have:=congrArg List.tail hd;rw[List.tail_drop] at this;simpa using this
  obtain⟨x1,x2⟩:=hsp x (bH G);unfold mX;have j: ∀(b:List aS),(∃m,b=lines++m)->k<b.length->vE (aU b k)->mB s sp b->Lk b (k+1)->
    match mX s r (k+1) b with
    | .ok nx ls=>sB s sp k lines nx ls
    | .bad a e=>0<=a/\a<=(s.length:Int)/\e≠0:=by
   intro b H n f c D;have:=Mw s sp hsp r (k+1) b A C n c D;cases hn:mX s r (k+1) b with
   | bad a e=>rw[hn] at this;exact this
   | ok nx ls=>
    rw[hn] at this;simp only[] at this ⊢;obtain⟨m2,u⟩:=this.pre;obtain⟨m1,F⟩:=H;refine⟨⟨m1++m2,by rw[u,F,nX]⟩,⟨by have:=this.le;omega,this.le.2⟩,this.hit,λi y p=>?_,this.all,this.ok⟩;by_cases hik:i=k
    .subst hik;rw[u,wO n];exact f
    .exact this.miss i a_ p
  cases hln:lines[k]? with
  | some l=>
   simp only[];have g:=(aW.1 hln).1;have q:=Zo hln;by_cases f:kY l=true
   .rw[if_pos f];simp only[];refine⟨⟨[],e_⟩,⟨aF _,hk⟩,λ_=>⟨?_,by rw[q];exact f⟩,λi y p=>by omega,λh=>by omega,hok⟩;rcases hl k (aF _) g with h | h
    .rw[q] at h;rw[h.no] at f;cases f
    .exact h.1.symm
   .rw[if_neg f];refine j lines ⟨[],e_⟩ g ?_ hok (λi y p=>hl i a_ p);rcases hl k (aF _) g with h | h
    .exact h
    .rw[q] at h;exact absurd h.2 f
  | none=>
   simp only[];have t:k=lines.length:=by
    rw[Jv] at hln;omega
   by_cases h0:(fN s x.1 x.2).2.2≠0
   .rw[if_pos h0];simp only[];have:=Zn x1 x2;exact⟨this.1,this.2,h0⟩
   .rw[if_neg h0];have z:(fN s x.1 x.2).2.2=0:=a_;have E:=Zm x1 x2 z;have c:=hok.push a_ (by rw[<-t,Bq G];exact E);have o:aU (lines++ [(fN s x.1 x.2).1]) k=(fN s x.1 x.2).1:=by rw[t];exact Fp _ _
    have B:(lines++ [(fN s x.1 x.2).1]).length=k+1:=(by rw[aZ,dF,t]);by_cases f:kY (fN s x.1 x.2).1=true
    .rw[if_pos f];simp only[];exact⟨⟨_,rfl⟩,⟨aF _,hk⟩,λ_=>⟨B,by rw[o];exact f⟩,λi y p=>by omega,λh=>by omega,c⟩
    .rw[if_neg f];exact j _ ⟨_,rfl⟩ a_ (by rw[o];exact(Zp z).resolve_left f) c (λi y p=>by omega)
theorem kP {s:aB}{sp:List (Nat×Nat)} (hsp:dV s sp) {k:Nat}{lines:List aS} (hkl:k<=lines.length) (hok:mB s sp lines) (hl:Lk lines k):
  match eX s sp k lines with
  | .ok nx ls=>sB s sp k lines nx ls
  | .bad a e=>0<=a/\a<=(s.length:Int)/\e≠0:=Mw s sp hsp (sp.drop k) k lines rfl (bF hkl hok.1) hkl hok hl
theorem sB.lk {s:aB}{sp:List (Nat×Nat)}{k nx:Nat}{lines ls:List aS} (h:sB s sp k lines nx ls):Lk ls k:=by
 intro i b h2;by_cases hi:i<nx
 .exact .inl (h.miss i b hi)
 .right;by_cases hn:nx<sp.length
  .obtain⟨c,e⟩:=h.hit hn;obtain rfl:i=nx:=a_;exact⟨c.symm,e⟩
  .have:=h.all (by have:=h.le;omega);have:=h.le;omega
theorem sB.len {s:aB}{sp:List (Nat×Nat)}{k nx:Nat}{lines ls:List aS} (h:sB s sp k lines nx ls):lines.length<=ls.length:=by
 obtain⟨m,b⟩:=h.pre;rw[b,aZ];omega
structure dR (s:aB) (sp:List (Nat×Nat)) (st:YS):Prop where
 ls:mB s sp st.lines
 tot:st.nodes.length<=st.total/\st.total<=4096
structure lA (s:aB) (sp:List (Nat×Nat)) (k:Nat) (st:YS) (n:Nat) (st':YS):Prop where
 num:n=st.nodes.length
 nds: ∃more,more≠ []/\st'.nodes=st.nodes++more
 lns: ∃more,st'.lines=st.lines++more
 til:k<fF st'.nodes n/\fF st'.nodes n<=st'.lines.length
 lk:Lk st'.lines (fF st'.nodes n)
 wf:dR s sp st'
def sC (s:aB) (sp:List (Nat×Nat)) (k:Nat) (st:YS) (R:YR):Prop:=match R with
 | .ok n st'=>lA s sp k st n st'
 | .bad a e=>0<=a/\a<=(s.length:Int)/\e≠0
def gS (s:aB) (sp:List (Nat×Nat)) (V:YB):Prop:= ∀k kf kt st,dR s sp st->k+1=st.lines.length->sC s sp k st (V k kf kt st)
theorem Fq (ns:List aV) (x:aV) (more:List aV):fF (ns++x::more) ns.length=x.til:=by
 unfold fF;rw[lR (aF _),Nat.sub_self];rfl
theorem Fs {s:aB}{sp:List (Nat×Nat)} (lv:Nat) {k:Nat} (kf kt:Int) {st:YS} (hw:dR s sp st) (hk:k<st.lines.length) (hlk:Lk st.lines (k+1)):sC s sp k st (iB s lv k kf kt st):=by
 have NY:=trivial;exact JE
theorem Ft (s:aB) (ind:Int): ∀(l:List (Nat×Nat)) (i til first:Nat),til<=i->til<=jL s ind l i til first/\jL s ind l i til first<=i+l.length
 | [],i,til,first,h=>by simp[jL];omega
 | x::r,i,til,first,h=>by
  unfold jL;rw[bM];split
  .have:=Ft s ind r (i+1) til first a_;omega
  .split
   .omega
   .have:=Ft s ind r (i+1) (i+1) (if first=0 then bB (dL s x) else first) (aF _);omega
theorem Br {s:aB}{sp:List (Nat×Nat)} (ind:Int) {k:Nat} (hk:k<sp.length):k+1<=oH s sp ind k/\oH s sp ind k<=sp.length:=by
 have:=Ft s ind (sp.drop (k+1)) (k+1) (k+1) 0 (aF _);rw[bC] at this;unfold oH;omega
theorem yJ {s:aB}{x:Nat×Nat} (h1:x.1<=x.2) (h2:x.2<=s.length):(dL s x).length=x.2-x.1:=by
 unfold dL;rw[bR,bC];omega
theorem Zq {s:aB}{x:Nat×Nat} (h1:x.1<=x.2) (h2:x.2<=s.length):wN s x (jC s x):=by
 have:=jU (dL s x);have:=yJ h1 h2;unfold jC;exact⟨by simp only[];omega,by simp only[];omega,by simp only[];omega,(λh=>by cases h),λ_=>⟨rfl,rfl⟩⟩
theorem Mx {s:aB}{sp:List (Nat×Nat)} (hsp:dV s sp): ∀(l:List (Nat×Nat)) (ls:List aS),mB s sp ls->(∃r,sp.drop ls.length=l++r)->
  match lZ s l ls with
  | .inl ls'=>mB s sp ls'/\ls'.length=ls.length+l.length/\(∃more,ls'=ls++more)
  | .inr a=>0<=a/\a<=(s.length:Int)
 | [],ls,h,hd=>⟨h,rfl,[],e_⟩
 | x::l,ls,h,⟨r,hd⟩=>by
  have hx:sp[ls.length]?=some x:=by
   have:=congrArg (λl=>l[0]?) hd;simpa using this
  have c:=(aW.1 hx).1;have b:sp.drop (ls.length+1)=l++r:=by
   have:=congrArg List.tail hd;rw[List.tail_drop] at this;simpa using this
  obtain⟨x1,x2⟩:=hsp x (bH hx);unfold lZ;by_cases hm:nN s x<x.2
  .rw[if_pos hm];simp only[];omega
  .rw[if_neg hm];have ih:=Mx hsp l (ls++ [jC s x]) (h.push c (by rw[Bq hx];exact Zq x1 x2)) ⟨r,by rw[aZ,dF];exact b⟩;cases ht:lZ s l (ls++ [jC s x]) with
   | inr a=>rw[ht] at ih;exact ih
   | inl ls'=>
    rw[ht] at ih;simp only[] at ih ⊢;obtain⟨i1,i2,m,i3⟩:=ih;refine⟨i1,?_,jC s x::m,by rw[i3];simp⟩;rw[i2,aZ,dF,bM];omega
theorem Zr {s:aB}{sp:List (Nat×Nat)} (hsp:dV s sp) (lv:Nat) {k:Nat} (kf kt:Int) {st:YS} (hw:dR s sp st) (hk:k+1=st.lines.length):sC s sp k st (lK s sp lv k kf kt st):=JE
theorem lA.more {s:aB}{sp:List (Nat×Nat)}{k k':Nat}{st:YS}{ls m:List aS}{tot n:Nat}{st':YS} (h:lA s sp k' ⟨ls,st.nodes,tot⟩ n st') (hm:ls=st.lines++m) (hk:k<=k'):lA s sp k st n st':=by
 obtain⟨g1,g2,⟨m2,g3⟩,g4,g5,g6⟩:=h;exact⟨g1,g2,⟨m++m2,by rw[g3,hm,nX]⟩,a_,g5,g6⟩
theorem sC.more {s:aB}{sp:List (Nat×Nat)}{k k':Nat}{st:YS}{ls m:List aS}{tot:Nat}{R:YR} (h:sC s sp k' ⟨ls,st.nodes,tot⟩ R) (hm:ls=st.lines++m) (hk:k<=k'):sC s sp k st R:=by
 cases R with
 | bad a e=>exact h
 | ok n st'=>exact lA.more (show lA s sp k' ⟨ls,st.nodes,tot⟩ n st' from h) hm hk
theorem yK {s:aB}{sp:List (Nat×Nat)} (hsp:dV s sp) {B:YB} (hB:gS s sp B) (lv:Nat):gS s sp (mY s sp B lv):=by
 intro k kf kt st h j;have c:Lk st.lines (k+1):=λi h1 h2=>by omega
 unfold mY;simp only[];split
 .exact Zr hsp lv kf kt h j
 .split
  .have b:=kP hsp (k:=k+1) a_ h.ls c;cases hm:eX s sp (k+1) st.lines with
   | bad a e=>rw[hm] at b;exact b
   | ok nx ls=>
    rw[hm] at b;simp only[] at b ⊢;have f:dR s sp ⟨ls,st.nodes,st.total⟩:=⟨b.ok,h.tot⟩;obtain⟨m,g⟩:=b.pre;have hle:=b.le;have hll:=b.len;split
    .rename_i l;exact(hB nx kf kt ⟨ls,st.nodes,st.total⟩ f (b.hit l.1).1.symm).more g a_
    .exact(Fs (s:=s) lv kf kt f (k:=k) IX b.lk).more g (aF _)
  .exact Fs lv kf kt h a_ c
theorem Fu (f:aV->aV): ∀(n:Nat) (l:List aV),(rY f n l).length=l.length
 | _,[]=>by cases ‹Nat› <;>rfl
 | 0,_::_=>rfl
 | n+1,x::l=>by rw[rY,bM,Fu f n l,bM]
theorem vF (f:aV->aV): ∀(n:Nat) (l:List aV) (x:aV),l[n]?=some x->rY f n l=l.set n (f x)
 | _,[],x,h=>by simp at h
 | 0,y::l,x,h=>by
  obtain rfl:y=x:=s'
  rfl
 | n+1,y::l,x,h=>by
  rw[rY,cQ,vF f n l x s']
theorem Zs (f:aV->aV) (pre:List aV) (x:aV) (post:List aV):rY f pre.length (pre++x::post)=pre++f x::post:=by
 rw[vF f pre.length _ x (by rw[lR (aF _),Nat.sub_self];rfl),List.set_append_right _ _ (aF _),Nat.sub_self];rfl
theorem wP {ns:List aV}{k:Nat}{x:aV} (h:ns[k]?=some x):fF ns k=x.til:=by unfold fF;rw[h]
theorem wQ {s:aB}{sp:List (Nat×Nat)}{V:YB} (hV:gS s sp V) (map:Bool) (had:List aB) {k:Nat}{st:YS} (hw:dR s sp st) (hk:k+1=st.lines.length):sC s sp k st (eM s V map had k st).1:=by
 have b:=hw.ls.2 k a_;unfold eM;split
 .simp only[];split
  .rename_i h;exact⟨b.key.1,by have:=b.key;omega,h⟩
  .split
   .exact⟨b.key.1,by have:=b.key;omega,b_⟩
   .exact hV _ _ _ _ hw hk
 .exact hV _ _ _ _ hw hk
structure My (s:aB) (sp:List (Nat×Nat)) (k0 n:Nat) (st0:YS) (k:Nat) (st:YS):Prop where
 nds: ∃x post,st.nodes=st0.nodes++x::post/\x.til<=st.lines.length/\k0<x.til/\Lk st.lines x.til/\x.til<=k
 num:n=st0.nodes.length
 lns: ∃more,st.lines=st0.lines++more
 wf:dR s sp st
 k:k<=sp.length/\k0<k/\(k<sp.length->k+1=st.lines.length)
theorem Fv {s:aB}{sp:List (Nat×Nat)} (hsp:dV s sp) {V:YB} (hV:gS s sp V) (map:Bool) {n:Nat} (ind:Int) (had:List aB) {k0 k:Nat}{st0 st:YS} (hw:dR s sp st) (hk:k+1=st.lines.length) (hk0:k0<=k) (hn:n=st0.nodes.length) (hnd: ∃x post,st.nodes=st0.nodes++x::post) (hls: ∃more,st.lines=st0.lines++more):
  match fW s sp V map n ind had k st with
  | .ok nx s2 had'=>My s sp k0 n st0 nx s2/\k<nx
  | .bad a e=>0<=a/\a<=(s.length:Int)/\e≠0:=by
 have g:=wQ hV map had hw hk;unfold fW;obtain⟨R,m⟩:=exQ<|eM s V map had k st;rw[m] at g ⊢;obtain⟨R,had'⟩:=R;cases R with
 | bad a e=>exact g
 | ok kid s2=>
  obtain⟨g1,⟨m1,g2n,g2⟩,⟨m2,g3⟩,g4,g5,g6⟩:=(show lA s sp k st kid s2 from g);simp only[];have b:=kP hsp (k:=fF s2.nodes kid) g4.2 g6.ls g5;cases hm:eX s sp (fF s2.nodes kid) s2.lines with
  | bad a e=>rw[hm] at b;exact b
  | ok nx ls=>
   rw[hm] at b;simp only[] at b ⊢;obtain⟨m3,i⟩:=b.pre;have c:=b.le;have hll:=b.len;by_cases hc:nx<sp.length/\ind<(aU ls nx).ind
   .rw[if_pos hc];have f:=b.ok.2 nx (by have:=(b.hit hc.1).1;omega);have:=f.ind;simp only[];exact⟨a_,a_,b_⟩
   .rw[if_neg hc];simp only[];obtain⟨x,post,l⟩:=hnd;obtain⟨m0,j⟩:=hls;refine⟨⟨⟨{ x with kids:=x.kids++ [kid],til:=fF s2.nodes kid },post++m1,?_,by simp only[];omega,by simp only[];omega,b.lk,c.1⟩,hn,⟨m0++m2++m3,by simp only[];rw[i,g3,j];simp⟩,⟨b.ok,?_⟩,⟨c.2,a_,λh=>(b.hit h).1.symm⟩⟩,a_⟩
    .simp only[];unfold iC;rw[hn]
     conv=>lhs;arg 3;rw[g2,l,nX,qK]
     rw[Zs]
    .have:=g6.tot;simp only[];unfold iC;rw[Fu];exact this
theorem Mz {s:aB}{sp:List (Nat×Nat)} (hsp:dV s sp) {V:YB} (hV:gS s sp V) (map:Bool) {n:Nat} (ind kind:Int) {k0:Nat}{st0:YS}: ∀(f:Nat) (had:List aB) (k:Nat) (st:YS),My s sp k0 n st0 k st->sC s sp k0 st0 (jM s sp V map n ind kind f had k st)
 | f,had,k,st,h=>by
  have fin:sC s sp k0 st0 (.ok n st):=by
   obtain⟨⟨x,c,b,l,p,m,_⟩,g,j,o,h8⟩:=h;have i:fF st.nodes n=x.til:=by rw[b,g];exact Fq _ _ _
   exact⟨g,⟨_,List.cons_ne_nil _ _,b⟩,j,by rw[i];exact⟨p,l⟩,by rw[i];exact m,o⟩
  cases f with
  | zero=>exact fin
  | succ f=>
   unfold jM;split
   .rename_i q;have b:=Fv hsp hV map (n:=n) ind had h.wf (h.k.2.2 q.1) (Nat.le_of_lt h.k.2.1) h.num (by obtain⟨x,c,b,_⟩:=h.nds;exact⟨x,c,b⟩) h.lns;cases ho:fW s sp V map n ind had k st with
    | bad a e=>rw[ho] at b;exact b
    | ok nx s2 had'=>
     rw[ho] at b;exact Mz hsp hV map ind kind f had' nx s2 b.1
   .exact fin
theorem mC {x:aV}{lv:Nat}{a:Int}{st:YS}{n:Nat}{s1:YS} (h:gC x lv a st= .ok n s1):n=st.nodes.length/\s1=⟨st.lines,st.nodes++ [x],st.total+1⟩/\lv≠0/\st.total<4096:=by
 unfold gC at h;split at h
 .cases h
 .split at h
  .cases h
  .injection h with b c;exact⟨b.symm,c.symm,m_,a_⟩
theorem Zt {x:aV}{lv:Nat}{a:Int}{st:YS}{b e:Int} (h:gC x lv a st= .bad b e):b=a/\(e=5\/e=6):=by
 unfold gC at h;split at h
 .injection h with c f;exact⟨c.symm, .inl f.symm⟩
 .split at h
  .injection h with c f;exact⟨c.symm, .inr f.symm⟩
  .cases h
theorem Na {s:aB}{sp:List (Nat×Nat)} (hsp:dV s sp) {V:YB} (lv:Nat) (hV:lv≠0->gS s sp V):gS s sp (kZ s sp V lv):=by
 intro k kf kt st b r;have m:Lk st.lines (k+1):=λi c h2=>by omega
 have j:=b.ls.2 k a_;have o:k<sp.length:=by have:=b.ls.1;omega
 unfold kZ;simp only[];split
 .exact Fs lv kf kt b a_ m
 .split
  .rename_i a e h;obtain⟨rfl,t⟩:=Zt h;have:=j.ind;unfold wL;exact⟨a_,a_,by rcases t with rfl|rfl<;>decide⟩
  .rename_i n s1 h;obtain⟨rfl,rfl,p,h4⟩:=mC h;obtain⟨f,q⟩: ∃f,sp.length-k=f+1:=⟨sp.length-k-1,a_⟩;have htot:=b.tot;rw[q];unfold jM;rw[if_pos ⟨o,rfl,rfl⟩];have c:=Fv hsp (hV p) (decide ((aU st.lines k).kind=4)) (n:=st.nodes.length) (aU st.lines k).ind [] (k0:=k) (st0:=st) (st:=⟨st.lines,st.nodes++ [⟨if(aU st.lines k).kind=4 then 3 else 2,(aU st.lines k).ind,k,0,kf,kt,0,0,[]⟩],st.total+1⟩) ⟨b.ls,by simp only[aZ,dF];omega⟩ r (aF _) rfl ⟨_,[],rfl⟩ ⟨[],e_⟩;split
   .rename_i a e l;rw[l] at c;exact c
   .rename_i nx s2 g l;rw[l] at c;exact Mz hsp (hV p) _ _ _ f g nx s2 c.1
theorem pG {s:aB}{sp:List (Nat×Nat)} (hsp:dV s sp): ∀lv,gS s sp (oI s sp lv)
 | 0=>Na hsp 0 (λh=>absurd rfl h)
 | lv+1=>Na hsp (lv+1) (λ_=>yK hsp (pG hsp lv) lv)
end
section
open Go.RowKit
open Go.Lib hiding intOf
def YJ (T:TypeId) (Pr:aO) (w0:World) (P:Nat) (txt:aB) (sp:List (Nat×Nat)) (st:YS) (a er:Int) (w:World):Prop:= ∃z sv lv nv,z.map (·.1)=st.nodes/\YK T Pr w0 P txt sp st.lines z st.total a er sv lv nv w
def gH (T:TypeId) (Pr:aO) (w0:World) (P:Nat) (txt:aB) (sp:List (Nat×Nat)) (a er:Int) (w:World):Prop:= ∃st,YJ T Pr w0 P txt sp st a er w
def sF (T:TypeId) (Pr:aO) (w0:World) (P:Nat) (txt:aB) (sp:List (Nat×Nat)) (st:YS) (R:NX) (e:Ending) (w':World):Prop:=match R with
 | .ok k ls=>e= .returned (.tuple #[k,true])/\YJ T Pr w0 P txt sp ⟨ls,st.nodes,st.total⟩ 0 0 w'
 | .bad a er=>(∃m:Int,e= .returned (.tuple #[m,false]))/\gH T Pr w0 P txt sp a er w'
def fG (T:TypeId) (Pr:aO) (w0:World) (P:Nat) (txt:aB) (sp:List (Nat×Nat)) (R:YR) (e:Ending) (w':World):Prop:=match R with
 | .ok n st=>e= .returned (.tuple #[n,true])/\YJ T Pr w0 P txt sp st 0 0 w'
 | .bad a er=>(∃m:Int,e= .returned (.tuple #[m,false]))/\gH T Pr w0 P txt sp a er w'
section
variable {T:TypeId}{Pr Pr':aO}{w0 w w':World}{P:Nat}{txt:aB}{sp:List (Nat×Nat)}{st:YS}{a er:Int}
theorem YJ.keep (h:YJ T Pr w0 P txt sp st a er w) (hb:aA w w'):YJ T Pr w0 P txt sp st a er w':=by
 obtain⟨z,sv,lv,nv,b,c⟩:=h;exact⟨z,sv,lv,nv,b,c.keep hb⟩
theorem YJ.put (h:YJ T Pr w0 P txt sp st a er w) (hb:aA w w') {X:Nat}{o:Obj} (hX:w.heap.size<=X) (ho:w'.heap[X]?=some o):YJ T (Pr.put X o) w0 P txt sp st a er w':=by
 obtain⟨z,sv,lv,nv,b,c⟩:=h;exact⟨z,sv,lv,nv,b,c.put hb hX ho⟩
theorem YJ.less (h:YJ T Pr w0 P txt sp st a er w) (hp: ∀k o,Pr' k=some o->Pr k=some o):YJ T Pr' w0 P txt sp st a er w:=by
 obtain⟨z,sv,lv,nv,b,c⟩:=h;exact⟨z,sv,lv,nv,b,c.less hp⟩
theorem YJ.bel (h:YJ T Pr w0 P txt sp st a er w):aA w0 w:=by
 obtain⟨z,sv,lv,nv,h1,b⟩:=h;exact b.bel
theorem YJ.at_ (h:YJ T Pr w0 P txt sp st a er w) {k:Nat}{o:Obj} (hk:Pr k=some o):w.heap[k]?=some o:=by
 obtain⟨z,sv,lv,nv,h1,b⟩:=h;exact(b.fr k o hk).1
theorem YJ.frLt (h:YJ T Pr w0 P txt sp st a er w): ∀k o,Pr k=some o->k<w.heap.size:=by
 obtain⟨z,sv,lv,nv,h1,c⟩:=h;exact λk o b=>c.frLt b
theorem YJ.lt (h:YJ T Pr w0 P txt sp st a er w):P<w.heap.size:=by
 obtain⟨z,sv,lv,nv,h1,b⟩:=h;exact b.lt
theorem YJ.fail (h:YJ T Pr w0 P txt sp st a er w) (a2 e2:Int):YJ T Pr w0 P txt sp st a2 e2 ((w.setCell ⟨P,5,none⟩ (.int .i64 a2)).setCell ⟨P,6,none⟩ (.int .i64 e2)):=by
 obtain⟨z,sv,lv,nv,b,c⟩:=h;exact⟨z,sv,lv,nv,b,c.fail a2 e2⟩
theorem YJ.bad (h:YJ T Pr w0 P txt sp st a er w):gH T Pr w0 P txt sp a er w:=⟨st,h⟩
theorem gH.keep (h:gH T Pr w0 P txt sp a er w) (hb:aA w w'):gH T Pr w0 P txt sp a er w':=by
 obtain⟨st,h⟩:=h;exact⟨st,h.keep hb⟩
theorem gH.less (h:gH T Pr w0 P txt sp a er w) (hp: ∀k o,Pr' k=some o->Pr k=some o):gH T Pr' w0 P txt sp a er w:=by
 obtain⟨st,h⟩:=h;exact⟨st,h.less hp⟩
theorem fG.less {R:YR}{e:Ending} (h:fG T Pr w0 P txt sp R e w) (hp: ∀k o,Pr' k=some o->Pr k=some o):fG T Pr' w0 P txt sp R e w:=by
 cases R with
 | ok n st=>exact⟨h.1,h.2.less hp⟩
 | bad a er=>exact⟨h.1,h.2.less hp⟩
end
abbrev YP:TypeId:=66
section
variable {Pr:aO}{w0:World}{P:Nat}{txt:aB}{sp:List (Nat×Nat)}{st:YS}{a0 e0:Int}
theorem Nb (r:aS) (w:World):Calls prog 73 #[eL r] w (aT w (.bool (kY r))):=by
 have b:=hid (aL w (.cells #[r.kind,r.sf,r.st,r.ind,r.kf,r.kt,r.rf,r.rt,r.nf,r.nt] 68));unfold eL kY;by_cases h3:3<=r.kind
 .have d3:decide (3<=r.kind)=true:=aQ h3;go_in;go_wp2;go_ret;exact⟨by simp[h3],b.out⟩
 .have d3:decide (3<=r.kind)=false:=aJ h3;go_in;go_wp2;go_ret;exact⟨by simp[h3],b.out⟩
theorem qV (a er:Int) (w:World) (h:YJ YP Pr w0 P txt sp st a0 e0 w):
  Calls prog 45 #[some P,a,er] w λe w'=>e= .returned (.bool false)/\YJ YP Pr w0 P txt sp st a er w':=j8
theorem wR (k:Nat) (w:World) (h:YJ YP Pr w0 P txt sp st a0 e0 w):
  Calls prog 43 #[some P,k] w (aT w (.bool (decide (k<sp.length)))):=by
 have c:=hid (aD w.heap.size w);obtain⟨z,sv,lv,nv,_,b⟩:=h;obtain⟨⟨c0,c1,c2,c3,c4,c5,c6⟩,f2,f3,f4,f5,f6⟩:=b.cells;obtain⟨p,cap,rfl⟩:=b.spSlice;clear b;go_in;go_wp2;go_ret;exact⟨e_,c.out⟩
theorem Bs (x y:Int) (w:World) (h:YJ YP Pr w0 P txt sp st a0 e0 w) (h0:0<=x) (h1:x<=y) (h2:y<=(txt.length:Int)) (hs:txt.length<=1073741824):
  Calls prog 107 #[some P, .agg #[x,y]] w (aT w (.string (bs (dQ txt x y)))):=by
 have sl:=aP txt;obtain⟨x,rfl⟩: ∃k:Nat,x=k:=⟨x.toNat,a_⟩;obtain⟨y,rfl⟩: ∃k:Nat,y=k:=⟨y.toNat,a_⟩;have hex:(bs txt).extract x y=bs (dQ txt x y):=by
  rw[gO,aY];rfl
 have b0:=aL w (.cells #[x,y] 42);have q:=hid b0;have b:=heap_alloc_new w (.cells #[x,y] 42);obtain⟨K,m⟩:=exQ<|w.heap.size;obtain⟨W1,l⟩:=exQ<|w.alloc (.cells #[x,y] 42);rw[l] at b0 b q;have J:=h.keep b0;rw[m] at b;obtain⟨x0,x1⟩:=qO b;obtain⟨z,sv,lv,nv,_,hk⟩:=J;obtain⟨⟨c0,c1,c2,c3,c4,c5,c6⟩,f2,f3,f4,f5,f6⟩:=hk.cells;have C:=hk.lt;clear hk h b0;have hKl:=aG b;clear b;go_in;go_upto_region 1 with fail;clear l m;exact gy
end
end
section
def yL (ops:Array Oper):Bool:=(List.range ops.size).all λi=>match ops[i]? with
 | some o=>o.after.toList.all (λe=>!Region.binds .any e||decide (e.on<i))
 | none=>true
theorem Nc {ops:Array Oper} (h:yL ops=true) {i:Nat}{o:Oper} (ho:ops[i]?=some o): ∀e∈o.after,Region.binds .any e=true->e.on<i:=by
 have c:=(mK.1 ho).1;have:=iN.1 h i (List.mem_range.2 c);rw[ho] at this;intro e b f;have:=iN.1 this e (Array.mem_toList_iff.2 b);exact o9
theorem Zu {ops:Array Oper} (h:yL ops=true) {L:Array Bool} (hL:L.size=ops.size) (hr:Region.ready .any ops L= []): ∀i,i<ops.size->L.getD i false=true:=JT
theorem Nd {P:Program}{ops:Array Oper}{Q:Exit->Act->World->Prop}{id:Nat}{a0:Act}{w0:World} (hm:P.follows .mixedOrders=true) (K:List Nat) (n:Nat) (hn:a0.tmps.size=n) (hback:yL ops=true) (hdst:rK ops K n=true)
  (F:(Nat->Bool)->(Nat->Value)->World->Prop) (h0:F (λ_=>false) (λk=>a0.tmps.getD k undef) w0.drew)
  (hs: ∀(d:Nat->Bool) (a:Act) (w:World) (i:Nat) (o:Oper),ops[i]?=some o->d i=false->(∀e∈o.after,Region.binds .any e=true->d e.on=true)->(∀k,k ∉ K->a.tmps.getD k undef=a0.tmps.getD k undef)->F d (λk=>a.tmps.getD k undef) w->
   ∀R:Act->World->Prop,(∀x w',F (bE d i) (cE (λk=>a.tmps.getD k undef) o.dst x) w'->R (a.put o.dst x) w')->if Region.wanted o (yielded ops a.tmps)=true then o.wp P a w R Q else R (a.put o.dst undef) w)
  (hd: ∀(v:Nat->Value) (w:World),F (λi=>decide (i<ops.size)) v w->Q .normal { a0 with tmps:=cU a0.tmps v K } w):(Code.region id ops true).wp P Q a0 w0:=GZ
end
section
open Go.RowKit
def gI (sl:List (Option Nat)) (i:Nat):Option Nat:=match sl[i]? with
 | some (some k)=>some k
 | _=>none
def pZ (sl:List (Option Nat)):Bool:=(List.range sl.length).all λi=>(List.range sl.length).all λj=>i==j||gI sl i==none||gI sl i !=gI sl j
theorem Nf {sl:List (Option Nat)}{i k:Nat} (h:gI sl i=some k):i<sl.length:=by
 unfold gI at h;cases hs:sl[i]? with
 | none=>rw[hs] at h;cases h
 | some q=>exact(aW.1 hs).1
theorem Zv {sl:List (Option Nat)} (h:pZ sl=true) {i j k:Nat} (hi:gI sl i=some k) (hj:gI sl j=some k):i=j:=by
 have b:=iN.1 (iN.1 h i (List.mem_range.2 (Nf hi))) j (List.mem_range.2 (Nf hj));rw[hi,hj] at b;simpa using b
def fY (sl:List (Option Nat)) (v:Nat->Value) (e:Nat):Value:=match gI sl e with
 | some k=>v k
 | none=>undef
def pH (eff:List Nat) (sl:List (Option Nat)) (fr:Nat) (v:Nat->Value):Nat->Value
 | 0=>undef
 | k+1=>match eff[k]? with
  | some e=>match gI sl e with
   | some _=>fY sl v e
   | none=>fY sl v fr
  | none=>undef
theorem yM (eff:List Nat) (sl:List (Option Nat)) (fr:Nat) (v:Nat->Value) (k:Nat):pH eff sl fr v (k+1)=match eff[k]? with
  | some e=>match gI sl e with
   | some _=>fY sl v e
   | none=>fY sl v fr
  | none=>undef:=rfl
theorem Zw {l:List Nat} (h:l.Nodup) {i j a:Nat} (hi:l[i]?=some a) (hj:l[j]?=some a):i=j:=EB
theorem Ng {l:List Nat} (h:l≠ []):l.getLastD 0∈l:=nj
structure cJ (ops:Array Oper) (sl:List (Option Nat)) (eff:List Nat) (fr:Nat) (Fb:Value->World->Prop) (val:Nat->Value) (S:World->Prop) (Ph:Nat->Value->World->Prop) (d:Nat->Bool) (v:Nat->Value) (w':World):Prop where
 cl: ∀i,i<sl.length->i ∉ eff->i≠fr->d i=true->fY sl v i=val i
 clo:uN ops d
 st:d (eff.getLastD 0)=false->S w'
 fb:d (eff.getLastD 0)=false->d fr=true->Fb (fY sl v fr) w'
 ph: ∃k,k<=eff.length/\(∀j e,eff[j]?=some e->(d e=true↔j<k))/\Ph k (pH eff sl fr v k) w'
section
variable {ops:Array Oper}{sl:List (Option Nat)}{eff:List Nat}{fr:Nat}{Fb:Value->World->Prop}{val:Nat->Value}{S:World->Prop}{Ph:Nat->Value->World->Prop}{d:Nat->Bool}{v:Nat->Value}{w' w2:World}
theorem Bt {i k:Nat} (hk:gI sl i=some k) (x:Value):fY sl (cE v (some k) x) i=x:=by
 unfold fY;rw[hk];exact if_pos rfl
theorem qA (hnd:pZ sl=true) {i k:Nat} (hk:gI sl i=some k) (x:Value) {j:Nat} (hj:j≠i):fY sl (cE v (some k) x) j=fY sl v j:=by
 unfold fY;cases hs:gI sl j with
 | none=>rfl
 | some q=>
  exact if_neg (λe=>hj (Zv hnd hs JU))
theorem Nh {v v2:Nat->Value} (h: ∀e∈eff,fY sl v2 e=fY sl v e) (hf:fY sl v2 fr=fY sl v fr): ∀k,pH eff sl fr v2 k=pH eff sl fr v k
 | 0=>rfl
 | k+1=>by
  rw[yM,yM];cases he:eff[k]? with
  | none=>rfl
  | some e=>
   simp only[];cases hs:gI sl e with
   | none=>exact hf
   | some q=>exact h e (bH he)
theorem cJ.pure (h:cJ ops sl eff fr Fb val S Ph d v w') (hnd:pZ sl=true) {i k:Nat}{o:Oper} (ho:ops[i]?=some o) (hall: ∀e∈o.after,Region.binds .any e=true->d e.on=true) (hk:gI sl i=some k) (hne:i ∉ eff) (hfr:i≠fr) (hel:eff≠ []) {x:Value} (hx:x=val i):cJ ops sl eff fr Fb val S Ph (bE d i) (cE v (some k) x) w':=by
 have NU:=trivial;exact JC
theorem cJ.free (h:cJ ops sl eff fr Fb val S Ph d v w') (hnd:pZ sl=true) {i k:Nat}{o:Oper} (ho:ops[i]?=some o) (hall: ∀e∈o.after,Region.binds .any e=true->d e.on=true) (hk:gI sl i=some k) (hne:i ∉ eff) (hfr:i=fr) (hel:eff≠ []) (hsl:eff.all (λe=>e==eff.getLastD 0||(gI sl e).isSome)=true) (hnl:eff.Nodup) (hdl:d (eff.getLastD 0)=false) {x:Value} (hS:S w'->S w2) (hP: ∀k c,Ph k c w'->Ph k c w2) (hx:Fb x w2):cJ ops sl eff fr Fb val S Ph (bE d i) (cE v (some k) x) w2:=by
 have NT:=trivial;exact JC
theorem cJ.at_ (h:cJ ops sl eff fr Fb val S Ph d v w') {j e:Nat} (he:eff[j]?=some e) (hi:d e=false) (hp: ∀j' e',j=j'+1->eff[j']?=some e'->d e'=true):Ph j (pH eff sl fr v j) w':=E5
theorem cJ.eff_ (h:cJ ops sl eff fr Fb val S Ph d v w') (hnd:pZ sl=true) (hne:eff.Nodup) {i j:Nat}{o:Oper} (ho:ops[i]?=some o) (hall: ∀e∈o.after,Region.binds .any e=true->d e.on=true) (he:eff[j]?=some i) (hi:d i=false) (hp: ∀j' e',j=j'+1->eff[j']?=some e'->d e'=true)
  {dst:Option Nat} (hk:gI sl i=dst) (hfr:i≠fr) {x:Value} (hF:i≠eff.getLastD 0-> ∀x,Fb x w'->Fb x w2) (hS:i≠eff.getLastD 0->S w2) (hP:Ph (j+1) (match dst with | some _=>x | none=>fY sl v fr) w2):cJ ops sl eff fr Fb val S Ph (bE d i) (cE v dst x) w2:=IB
theorem cJ.fin (h:cJ ops sl eff fr Fb val S Ph d v w') (hd: ∀e∈eff,d e=true):Ph eff.length (pH eff sl fr v eff.length) w':=FC
theorem cJ.early (h:cJ ops sl eff fr Fb val S Ph d v w') {f i:Nat} (hr:nH ops f (eff.getLastD 0) i=true) (hi:d i=false):S w':=by
 refine h.st ?_;exact dy
end
section
variable {ops:Array Oper}{sl:List (Option Nat)}{eff:List Nat}{fr:Nat}{Fb:Value->World->Prop}{val:Nat->Value}{S:World->Prop}{Ph:Nat->Value->World->Prop}{d:Nat->Bool}{v:Nat->Value}{w' w2:World}
theorem Ni {j:Nat} (hp:j=0\/ ∃e',eff[j-1]?=some e'/\d e'=true): ∀j' e',j=j'+1->eff[j']?=some e'->d e'=true:=k6
theorem cJ.at2 (h:cJ ops sl eff fr Fb val S Ph d v w') {j e:Nat} (he:eff[j]?=some e) (hi:d e=false) (hp:j=0\/ ∃e',eff[j-1]?=some e'/\d e'=true):Ph j (pH eff sl fr v j) w':=h.at_ he hi (Ni hp)
theorem cJ.eff2 (h:cJ ops sl eff fr Fb val S Ph d v w') (hnd:pZ sl=true) (hne:eff.Nodup) {i:Nat} (j:Nat) {o:Oper} (ho:ops[i]?=some o) (hall: ∀e∈o.after,Region.binds .any e=true->d e.on=true) (he:eff[j]?=some i) (hi:d i=false) (hp:j=0\/ ∃e',eff[j-1]?=some e'/\d e'=true)
  {dst:Option Nat} (hk:gI sl i=dst) (hfr:i≠fr) {x:Value} (hF:i≠eff.getLastD 0-> ∀x,Fb x w'->Fb x w2) (hS:i≠eff.getLastD 0->S w2) (hP:Ph (j+1) (match dst with | some _=>x | none=>fY sl v fr) w2):cJ ops sl eff fr Fb val S Ph (bE d i) (cE v dst x) w2:=h.eff_ hnd hne ho hall he hi (Ni hp) hk hfr hF hS hP
end
theorem cJ.lastNot {ops:Array Oper}{sl:List (Option Nat)}{eff:List Nat}{fr:Nat}{Fb:Value->World->Prop}{val:Nat->Value}{S:World->Prop}{Ph:Nat->Value->World->Prop}{d:Nat->Bool}{v:Nat->Value}{w':World} (h:cJ ops sl eff fr Fb val S Ph d v w') {f i:Nat} (hr:nH ops f (eff.getLastD 0) i=true) (hi:d i=false):d (eff.getLastD 0)=false:=dy
theorem cJ.g {ops:Array Oper}{sl:List (Option Nat)}{eff:List Nat}{fr:Nat}{Fb:Value->World->Prop}{val:Nat->Value}{S:World->Prop}{Ph:Nat->Value->World->Prop}{d:Nat->Bool}{a:Array Value}{w':World} (h:cJ ops sl eff fr Fb val S Ph d (λk=>a.getD k undef) w') (i k:Nat) (hs:gI sl i=some k) (hl:i<sl.length) (h1:i ∉ eff) (h2:i≠fr) (hd:d i=true):a[k]?.getD undef=val i:=by
 have:=h.cl i hl h1 h2 hd;unfold fY at this;rw[hs] at this;rw[<-aN];exact this
theorem Zx {P:Program}{ops:Array Oper}{Q:Exit->Act->World->Prop}{id:Nat}{a0:Act}{w0:World} (hm:P.follows .mixedOrders=true) (sl:List (Option Nat)) (K:List Nat) (eff:List Nat) (fr:Nat) (Fb:Value->World->Prop) (n:Nat) (hn:a0.tmps.size=n) (hback:uK ops=true) (hdst:rK ops K n=true) (heff:eff.all (λe=>decide (e<ops.size))=true)
  (val:Nat->Value) (S:World->Prop) (Ph:Nat->Value->World->Prop) (h0:S w0.drew) (hP:Ph 0 undef w0.drew)
  (hs: ∀(d:Nat->Bool) (a:Act) (w:World) (i:Nat) (o:Oper),ops[i]?=some o->d i=false->(∀e∈o.after,Region.binds .any e=true->d e.on=true)->(∀k,k ∉ K->a.tmps.getD k undef=a0.tmps.getD k undef)->cJ ops sl eff fr Fb val S Ph d (λk=>a.tmps.getD k undef) w->
   ∀R:Act->World->Prop,(∀x w',cJ ops sl eff fr Fb val S Ph (bE d i) (cE (λk=>a.tmps.getD k undef) o.dst x) w'->R (a.put o.dst x) w')->o.wp P a w R Q)
  (hd: ∀(v:Nat->Value) (w:World),(∀i,i<sl.length->i<ops.size->i ∉ eff->i≠fr->fY sl v i=val i)->Ph eff.length (pH eff sl fr v eff.length) w->Q .normal { a0 with tmps:=cU a0.tmps v K } w):(Code.region id ops true).wp P Q a0 w0:=J0
end
end Go.Proofs.YtfhjncbdgjlcoaaGreatDoor
