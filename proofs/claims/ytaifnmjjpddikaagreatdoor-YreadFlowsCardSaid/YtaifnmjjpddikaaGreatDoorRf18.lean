import Derived.Test.YtaifnmjjpddikaaGreatDoorRf17
import Derived.Test.YtaifnmjjpddikaaGreatDoorRf12
import Derived.Test.YtaifnmjjpddikaaGreatDoorRf15
import Derived.Test.YtaifnmjjpddikaaGreatDoorRf5
import Derived.Test.YtaifnmjjpddikaaGreatDoorRf6
namespace Go.Proofs.YtaifnmjjpddikaaGreatDoor
set_option linter.unusedVariables false
set_option linter.unusedSimpArgs false
section
open Go.Lib
theorem Kh: ∀(l:List (Nat×Nat)) (x:Nat×Nat),x∈rE l-> ∃y∈l,x.1=y.1/\(x.2=y.2\/x.2=y.2-1/\y∈l.dropLast)
 | [],x,h=>by cases h
 | [y],x,h=>⟨y,by simp,by rw[kH.1 h];simp⟩
 | y::z::r,x,h=>by
  rw[rE] at h;rcases dN.1 h with rfl | h
  ·exact⟨y,by simp,rfl, .inr ⟨rfl,by simp⟩⟩
  ·obtain⟨q,h1,h2,h3⟩:=Kh (z::r) x h;refine⟨q,List.mem_cons_of_mem _ h1,h2,h3.imp_right fun⟨e,h⟩=>⟨e,?_⟩⟩;rw[List.dropLast_cons_of_ne_nil (by simp)];exact List.mem_cons_of_mem _ h
theorem yN: ∀(l:aA) (k pos:Nat),k<=pos->(∀x∈fK l k pos,k<=x.1/\x.1<=x.2/\x.2<=pos+l.length)/\(∀x∈(fK l k pos).dropLast,x.1<x.2)
 | [],k,pos,h=>by simp[fK];omega
 | c::t,k,pos,h=>by
  unfold fK;split
  ·obtain⟨h1,h2⟩:=yN t (pos+1) (pos+1) (aE _);have hne:fK t (pos+1) (pos+1)≠ []:=λe=>by have:=(sM t (pos+1) (pos+1)).2;rw[e] at this;simp at this
   refine⟨λx hx=>?_,λx hx=>?_⟩
   ·rw[aT];rcases dN.1 hx with rfl | hx
    ·simp only[];omega
    ·have:=h1 x hx;omega
   ·rw[List.dropLast_cons_of_ne_nil hne] at hx;rcases dN.1 hx with rfl | hx
    ·simp only[];omega
    ·exact h2 x hx
  ·obtain⟨h1,h2⟩:=yN t k (pos+1) (by omega);refine⟨λx hx=>?_,h2⟩;have:=h1 x hx;rw[aT];omega
def eJ (s:aA) (sp:List (Nat×Nat)):Prop:= ∀x∈sp,x.1<=x.2/\x.2<=s.length
theorem Ki (s:aA):eJ s (fT s):=by
 intro x hx;obtain⟨y,h1,h2,h3⟩:=Kh _ _ hx;obtain⟨g1,g2⟩:=yN s 0 0 (aE _);have h4:=g1 y h1;rcases h3 with h3 | ⟨h3,h5⟩
 ·omega
 ·have:=g2 y h5;omega
structure wH (s:aA) (x:Nat×Nat) (r:aP):Prop where
 ind:0<=r.ind/\(x.1:Int)+r.ind<=(x.2:Int)/\(x.2:Int)<=(s.length:Int)
 key:0<=r.kf/\r.kf<=r.kt/\r.kt<=(s.length:Int)
 rst:0<=r.rf/\r.rf<=r.rt/\r.rt<=(s.length:Int)
theorem Wu {s:aA}{x:Nat×Nat} (h1:x.1<=x.2) (h2:x.2<=s.length) (h:(eL s x.1 x.2).2.2=0):wH s x (eL s x.1 x.2).1:=by
 unfold eL at h ⊢;rw[if_neg (by omega)] at h ⊢;simp only[fC,show ((x.2:Int)-(x.1:Int)).toNat=x.2-x.1 by omega] at h ⊢;obtain⟨t,ht⟩:=exQ<|(s.drop x.1).take (x.2-x.1);have htl:t.length=x.2-x.1:=by rw[<-ht,cF,aV];omega
 rw[ht] at h ⊢;split at h
 ·cases h
 ·rename_i h10;rw[if_neg h10];split at h
  ·cases h
  ·rename_i hw;rw[if_neg hw];have hsl:=mR t;cases hc:mS (t.drop (bQ t)) with
   | none=>rw[hc] at h;cases h
   | some c=>
    have hp:=Ja _ _ hc;have hul:(t.drop (bQ t)).length=t.length-bQ t:=aV;have ho:=hp.ord;rw[hul] at ho;simp only[];unfold oI;refine⟨⟨by simp only[];omega,by simp only[];omega,by omega⟩,?_,⟨by simp only[];omega,by simp only[];omega,by simp only[];omega⟩⟩;simp only[];by_cases h4:c.kind=4
    ·have:=(hp.key h4).2.1;rw[if_pos h4,if_pos h4];omega
    ·rw[if_neg h4,if_neg h4];omega
theorem Wv {s:aA}{x:Nat×Nat} (h1:x.1<=x.2) (h2:x.2<=s.length):0<=(eL s x.1 x.2).2.1/\(eL s x.1 x.2).2.1<=(s.length:Int):=by
 unfold eL;rw[if_neg (by omega)];simp only[fC,show ((x.2:Int)-(x.1:Int)).toNat=x.2-x.1 by omega];obtain⟨t,ht⟩:=exQ<|(s.drop x.1).take (x.2-x.1);have htl:t.length=x.2-x.1:=by rw[<-ht,cF,aV];omega
 rw[ht];have hsl:=mR t;split
 ·simp only[];omega
 ·split
  ·simp only[];omega
  ·split
   ·simp only[];omega
   ·simp only[];omega
theorem Ww {ls:List aP}{k:Nat}{r:aP} (h:ls[k]?=some r):aZ ls k=r:=by unfold aZ;rw[h];rfl
theorem pA {ls:List aP}{k:Nat} (h:k<ls.length):ls[k]?=some (aZ ls k):=by unfold aZ;rw[bJ h];rfl
theorem Kj {ls more:List aP}{k:Nat} (h:k<ls.length):aZ (ls++more) k=aZ ls k:=by unfold aZ;rw[mE h]
theorem Kk (ls:List aP) (r:aP):aZ (ls++ [r]) ls.length=r:=by unfold aZ;rw[kX (aE _)];simp
theorem Cp {sp:List (Nat×Nat)}{k:Nat}{x:Nat×Nat} (h:sp[k]?=some x):oT sp k=x:=by unfold oT;rw[h];rfl
def lF (s:aA) (sp:List (Nat×Nat)) (ls:List aP):Prop:=ls.length<=sp.length/\ ∀k,k<ls.length->wH s (oT sp k) (aZ ls k)
theorem lF.push {s:aA}{sp:List (Nat×Nat)}{ls:List aP} (h:lF s sp ls) (hl:ls.length<sp.length) {r:aP} (hr:wH s (oT sp ls.length) r):lF s sp (ls++ [r]):=by
 refine⟨by rw[aS,eD];omega,λk hk=>?_⟩;rw[aS,eD] at hk;by_cases h2:k<ls.length
 ·rw[Kj h2];exact h.2 k h2
 ·obtain rfl:k=ls.length:=by omega
  rw[Kk];exact hr
def sR (x:aP):Prop:=x.kind=1\/x.kind=2
theorem sR.no {x:aP} (h:sR x):jL x=false:=by
 unfold jL;rcases h with h | h<;>rw[h]<;>decide
theorem Wx {s:aA}{x:Nat×Nat} (h:(eL s x.1 x.2).2.2=0):jL (eL s x.1 x.2).1=true\/sR (eL s x.1 x.2).1:=by
 unfold eL at h ⊢;split at h
 ·cases h
 ·rename_i h0;rw[if_neg h0];simp only[] at h ⊢;split at h
  ·cases h
  ·rename_i h1;rw[if_neg h1];split at h
   ·cases h
   ·rename_i h2;rw[if_neg h2];split at h
    ·cases h
    ·rename_i c hc;have:=(Ja _ _ hc).kind;simp only[];unfold sR jL oI;simp only[fB,kY];omega
def Lk (ls:List aP) (k:Nat):Prop:= ∀i,k<=i->i<ls.length->sR (aZ ls i)\/(i+1=ls.length/\jL (aZ ls i)=true)
structure qG (s:aA) (sp:List (Nat×Nat)) (k:Nat) (lines:List aP) (nx:Nat) (ls:List aP):Prop where
 pre: ∃more,ls=lines++more
 le:k<=nx/\nx<=sp.length
 hit:nx<sp.length->ls.length=nx+1/\jL (aZ ls nx)=true
 miss: ∀i,k<=i->i<nx->sR (aZ ls i)
 all:nx=sp.length->ls.length=sp.length
 ok:lF s sp ls
theorem Kl (s:aA) (sp:List (Nat×Nat)) (hsp:eJ s sp): ∀(rest:List (Nat×Nat)) (k:Nat) (lines:List aP),sp.drop k=rest->k<=sp.length->k<=lines.length->lF s sp lines->Lk lines k->
  match mK s rest k lines with
  | .ok nx ls=>qG s sp k lines nx ls
  | .bad a e=>0<=a/\a<=(s.length:Int)/\e≠0
 | [],k,lines,hd,hk,hkl,hok,hl=>by
  have hks:k=sp.length:=by
   have:=congrArg List.length hd;rw[aV] at this;simp at this;omega
  unfold mK;exact⟨⟨[],by simp⟩,⟨aE _,hk⟩,λh=>by omega,λi h1 h2=>by omega,λ_=>by have:=hok.1;omega,hok⟩
 | x ::r,k,lines,hd,hk,hkl,hok,hl=>by
  have hk1:k<sp.length:=by
   have:=congrArg List.length hd;rw[aV] at this;simp at this;omega
  have hx:sp[k]?=some x:=by
   have:=congrArg (λl=>l[0]?) hd;simpa using this
  have hd1:sp.drop (k+1)=r:=by
   have:=congrArg List.tail hd;rw[List.tail_drop] at this;simpa using this
  obtain⟨x1,x2⟩:=hsp x (aX hx);unfold mK;have step: ∀(lines':List aP),(∃m,lines'=lines++m)->k<lines'.length->sR (aZ lines' k)->lF s sp lines'->Lk lines' (k+1)->
    match mK s r (k+1) lines' with
    | .ok nx ls=>qG s sp k lines nx ls
    | .bad a e=>0<=a/\a<=(s.length:Int)/\e≠0:=by
   intro lines' hm hkl' hc hok' hlk;have:=Kl s sp hsp r (k+1) lines' hd1 hk1 hkl' hok' hlk;cases hn:mK s r (k+1) lines' with
   | bad a e=>rw[hn] at this;exact this
   | ok nx ls=>
    rw[hn] at this;simp only[] at this ⊢;obtain⟨m2,hm2⟩:=this.pre;obtain⟨m1,hm1⟩:=hm;refine⟨⟨m1++m2,by rw[hm2,hm1,pN]⟩,⟨by have:=this.le;omega,this.le.2⟩,this.hit,λi h1 h2=>?_,this.all,this.ok⟩;by_cases hik:i=k
    ·subst hik;rw[hm2,Kj hkl'];exact hc
    ·exact this.miss i (by omega) h2
  cases hln:lines[k]? with
  | some l=>
   simp only[];have hkl2:=(aQ.1 hln).1;have hat:=Ww hln;by_cases hc:jL l=true
   ·rw[if_pos hc];simp only[];refine⟨⟨[],by simp⟩,⟨aE _,hk⟩,λ_=>⟨?_,by rw[hat];exact hc⟩,λi h1 h2=>by omega,λh=>by omega,hok⟩;rcases hl k (aE _) hkl2 with h | h
    ·rw[hat] at h;rw[h.no] at hc;cases hc
    ·exact h.1.symm
   ·rw[if_neg hc];refine step lines ⟨[],by simp⟩ hkl2 ?_ hok (λi h1 h2=>hl i (by omega) h2);rcases hl k (aE _) hkl2 with h | h
    ·exact h
    ·rw[hat] at h;exact absurd h.2 hc
  | none=>
   simp only[];have hke:k=lines.length:=by
    rw[At] at hln;omega
   by_cases h0:(eL s x.1 x.2).2.2≠0
   ·rw[if_pos h0];simp only[];have:=Wv x1 x2;exact⟨this.1,this.2,h0⟩
   ·rw[if_neg h0];have h00:(eL s x.1 x.2).2.2=0:=(by omega);have hlo:=Wu x1 x2 h00;have hok':=hok.push (by omega) (by rw[<-hke,Cp hx];exact hlo);have hnew:aZ (lines++ [(eL s x.1 x.2).1]) k=(eL s x.1 x.2).1:=by rw[hke];exact Kk _ _
    have hnl:(lines++ [(eL s x.1 x.2).1]).length=k+1:=(by rw[aS,eD,hke]);by_cases hc:jL (eL s x.1 x.2).1=true
    ·rw[if_pos hc];simp only[];exact⟨⟨_,rfl⟩,⟨aE _,hk⟩,λ_=>⟨hnl,by rw[hnew];exact hc⟩,λi h1 h2=>by omega,λh=>by omega,hok'⟩
    ·rw[if_neg hc];exact step _ ⟨_,rfl⟩ (by omega) (by rw[hnew];exact(Wx h00).resolve_left hc) hok' (λi h1 h2=>by omega)
theorem nD {s:aA}{sp:List (Nat×Nat)} (hsp:eJ s sp) {k:Nat}{lines:List aP} (hkl:k<=lines.length) (hok:lF s sp lines) (hl:Lk lines k):
  match gA s sp k lines with
  | .ok nx ls=>qG s sp k lines nx ls
  | .bad a e=>0<=a/\a<=(s.length:Int)/\e≠0:=Kl s sp hsp (sp.drop k) k lines rfl (aW hkl hok.1) hkl hok hl
theorem qG.lk {s:aA}{sp:List (Nat×Nat)}{k nx:Nat}{lines ls:List aP} (h:qG s sp k lines nx ls):Lk ls k:=by
 intro i h1 h2;by_cases hi:i<nx
 ·exact .inl (h.miss i h1 hi)
 ·right;by_cases hn:nx<sp.length
  ·obtain⟨h3,h4⟩:=h.hit hn;obtain rfl:i=nx:=(by omega);exact⟨h3.symm,h4⟩
  ·have:=h.all (by have:=h.le;omega);have:=h.le;omega
theorem qG.len {s:aA}{sp:List (Nat×Nat)}{k nx:Nat}{lines ls:List aP} (h:qG s sp k lines nx ls):lines.length<=ls.length:=by
 obtain⟨m,hm⟩:=h.pre;rw[hm,aS];omega
structure dZ (s:aA) (sp:List (Nat×Nat)) (st:YS):Prop where
 ls:lF s sp st.lines
 tot:st.nodes.length<=st.total/\st.total<=4096
structure lG (s:aA) (sp:List (Nat×Nat)) (k:Nat) (st:YS) (n:Nat) (st':YS):Prop where
 num:n=st.nodes.length
 nds: ∃more,more≠ []/\st'.nodes=st.nodes++more
 lns: ∃more,st'.lines=st.lines++more
 til:k<fS st'.nodes n/\fS st'.nodes n<=st'.lines.length
 lk:Lk st'.lines (fS st'.nodes n)
 wf:dZ s sp st'
def qH (s:aA) (sp:List (Nat×Nat)) (k:Nat) (st:YS) (R:YR):Prop:=match R with
 | .ok n st'=>lG s sp k st n st'
 | .bad a e=>0<=a/\a<=(s.length:Int)/\e≠0
def gO (s:aA) (sp:List (Nat×Nat)) (V:YB):Prop:= ∀k kf kt st,dZ s sp st->k+1=st.lines.length->qH s sp k st (V k kf kt st)
theorem Cq (ns:List aM) (x:aM) (more:List aM):fS (ns++x::more) ns.length=x.til:=by
 unfold fS;rw[kX (aE _),Nat.sub_self];rfl
theorem Cr {s:aA}{sp:List (Nat×Nat)} (lv:Nat) {k:Nat} (kf kt:Int) {st:YS} (hw:dZ s sp st) (hk:k<st.lines.length) (hlk:Lk st.lines (k+1)):qH s sp k st (iZ s lv k kf kt st):=by
 have hln:=hw.ls.2 k hk;unfold iZ iR;split
 ·rename_i a e h;split at h
  ·injection h with h1 h2;subst h1 h2;exact⟨hln.rst.1,by have:=hln.rst;omega,by decide⟩
  ·split at h
   ·injection h with h1 h2;subst h1 h2;exact⟨hln.rst.1,by have:=hln.rst;omega,by decide⟩
   ·cases h
 ·rename_i n s1 h;split at h
  ·cases h
  ·split at h
   ·cases h
   ·rename_i ht;injection h with h1 h2;subst h1 h2;simp only[];split
    ·exact⟨hln.rst.1,by have:=hln.rst;omega,by assumption⟩
    ·split
     ·exact⟨hln.rst.1,by have:=hln.rst;omega,by decide⟩
     ·split
      ·exact⟨hln.rst.1,by have:=hln.rst;omega,by decide⟩
      ·rename_i h3;have hto:=Cq st.nodes ⟨1,(aZ st.lines k).ind,k,k+1,kf,kt,(aZ st.lines k).rf,(aZ st.lines k).rt,[]⟩ [];have hsz:=Ak (jJ (eH s (aZ st.lines k).rf (aZ st.lines k).rt)).1;have htot:=hw.tot;refine⟨rfl,⟨_,List.cons_ne_nil _ _,rfl⟩,⟨[],by simp⟩,?_,?_,⟨hw.ls,?_⟩⟩
       ·simp only[hto];omega
       ·simp only[hto];exact hlk
       ·simp only[aS,eD];omega
theorem Cs (s:aA) (ind:Int): ∀(l:List (Nat×Nat)) (i til first:Nat),til<=i->til<=mL s ind l i til first/\mL s ind l i til first<=i+l.length
 | [],i,til,first,h=>by simp[mL];omega
 | x::r,i,til,first,h=>by
  unfold mL;rw[aT];split
  ·have:=Cs s ind r (i+1) til first (by omega);omega
  ·split
   ·omega
   ·have:=Cs s ind r (i+1) (i+1) (if first=0 then bQ (fR s x) else first) (aE _);omega
theorem Km {s:aA}{sp:List (Nat×Nat)} (ind:Int) {k:Nat} (hk:k<sp.length):k+1<=oU s sp ind k/\oU s sp ind k<=sp.length:=by
 have:=Cs s ind (sp.drop (k+1)) (k+1) (k+1) 0 (aE _);rw[aV] at this;unfold oU;omega
theorem Ct {s:aA}{x:Nat×Nat} (h1:x.1<=x.2) (h2:x.2<=s.length):(fR s x).length=x.2-x.1:=by
 unfold fR;rw[cF,aV];omega
theorem Wy {s:aA}{x:Nat×Nat} (h1:x.1<=x.2) (h2:x.2<=s.length):wH s x (nA s x):=by
 have:=mR (fR s x);have:=Ct h1 h2;unfold nA;exact⟨by simp only[];omega,by simp only[];omega,by simp only[];omega⟩
theorem Kn {s:aA}{sp:List (Nat×Nat)} (hsp:eJ s sp): ∀(l:List (Nat×Nat)) (ls:List aP),lF s sp ls->(∃r,sp.drop ls.length=l++r)->
  match oW s l ls with
  | .inl ls'=>lF s sp ls'/\ls'.length=ls.length+l.length/\(∃more,ls'=ls++more)
  | .inr a=>0<=a/\a<=(s.length:Int)
 | [],ls,h,hd=>⟨h,rfl,[],by simp⟩
 | x::l,ls,h,⟨r,hd⟩=>by
  have hx:sp[ls.length]?=some x:=by
   have:=congrArg (λl=>l[0]?) hd;simpa using this
  have hlt:=(aQ.1 hx).1;have hd1:sp.drop (ls.length+1)=l++r:=by
   have:=congrArg List.tail hd;rw[List.tail_drop] at this;simpa using this
  obtain⟨x1,x2⟩:=hsp x (aX hx);unfold oW;by_cases hm:oV s x<x.2
  ·rw[if_pos hm];simp only[];omega
  ·rw[if_neg hm];have ih:=Kn hsp l (ls++ [nA s x]) (h.push hlt (by rw[Cp hx];exact Wy x1 x2)) ⟨r,by rw[aS,eD];exact hd1⟩;cases ht:oW s l (ls++ [nA s x]) with
   | inr a=>rw[ht] at ih;exact ih
   | inl ls'=>
    rw[ht] at ih;simp only[] at ih ⊢;obtain⟨i1,i2,m,i3⟩:=ih;refine⟨i1,?_,nA s x::m,by rw[i3];simp⟩;rw[i2,aS,eD,aT];omega
theorem Wz {s:aA}{sp:List (Nat×Nat)} (hsp:eJ s sp) (lv:Nat) {k:Nat} (kf kt:Int) {st:YS} (hw:dZ s sp st) (hk:k+1=st.lines.length):qH s sp k st (nB s sp lv k kf kt st):=by
 have hln:=hw.ls.2 k (by omega);have hks:k<sp.length:=by have:=hw.ls.1;omega
 obtain⟨r1,r2⟩:=Km (s:=s) (aZ st.lines k).ind hks;unfold nB iR;obtain⟨til,hto⟩:=exQ<|oU s sp (aZ st.lines k).ind k;rw[hto] at r1 r2 ⊢;split
 ·rename_i a e h;split at h
  ·injection h with h1 h2;subst h1 h2;exact⟨hln.rst.1,by have:=hln.rst;omega,by decide⟩
  ·split at h
   ·injection h with h1 h2;subst h1 h2;exact⟨hln.rst.1,by have:=hln.rst;omega,by decide⟩
   ·cases h
 ·rename_i n s1 h;split at h
  ·cases h
  ·split at h
   ·cases h
   ·rename_i ht;injection h with h1 h2;subst h1 h2;simp only[];have tk:=Kn hsp ((sp.drop (k+1)).take (til-(k+1))) st.lines hw.ls ⟨(sp.drop (k+1)).drop (til-(k+1)),by rw[<-hk,rO]⟩;have hlen:((sp.drop (k+1)).take (til-(k+1))).length=til-(k+1):=by rw[cF,aV];omega
    cases htk:oW s ((sp.drop (k+1)).take (til-(k+1))) st.lines with
    | inr a=>rw[htk] at tk;exact⟨tk.1,tk.2,by decide⟩
    | inl ls=>
     rw[htk] at tk;simp only[] at tk ⊢;obtain⟨t1,t2,m,t3⟩:=tk;rw[hlen] at t2;have hto':=Cq st.nodes ⟨4,(aZ st.lines k).ind,k,til,kf,kt,(aZ st.lines k).rf,(aZ st.lines k).rt,[]⟩ [];have htot:=hw.tot;refine⟨rfl,⟨_,List.cons_ne_nil _ _,rfl⟩,⟨m,t3⟩,?_,?_,⟨t1,?_⟩⟩
     ·simp only[hto'];omega
     ·simp only[hto'];intro i h1 h2;omega
     ·simp only[aS,eD];omega
theorem lG.more {s:aA}{sp:List (Nat×Nat)}{k k':Nat}{st:YS}{ls m:List aP}{tot n:Nat}{st':YS} (h:lG s sp k' ⟨ls,st.nodes,tot⟩ n st') (hm:ls=st.lines++m) (hk:k<=k'):lG s sp k st n st':=by
 obtain⟨g1,g2,⟨m2,g3⟩,g4,g5,g6⟩:=h;exact⟨g1,g2,⟨m++m2,by rw[g3,hm,pN]⟩,by omega,g5,g6⟩
theorem qH.more {s:aA}{sp:List (Nat×Nat)}{k k':Nat}{st:YS}{ls m:List aP}{tot:Nat}{R:YR} (h:qH s sp k' ⟨ls,st.nodes,tot⟩ R) (hm:ls=st.lines++m) (hk:k<=k'):qH s sp k st R:=by
 cases R with
 | bad a e=>exact h
 | ok n st'=>exact lG.more (show lG s sp k' ⟨ls,st.nodes,tot⟩ n st' from h) hm hk
theorem Cu {s:aA}{sp:List (Nat×Nat)} (hsp:eJ s sp) {B:YB} (hB:gO s sp B) (lv:Nat):gO s sp (oZ s sp B lv):=by
 intro k kf kt st hw hk;have hlk:Lk st.lines (k+1):=λi h1 h2=>by omega
 unfold oZ;simp only[];split
 ·exact Wz hsp lv kf kt hw hk
 ·split
  ·have hn:=nD hsp (k:=k+1) (by omega) hw.ls hlk;cases hm:gA s sp (k+1) st.lines with
   | bad a e=>rw[hm] at hn;exact hn
   | ok nx ls=>
    rw[hm] at hn;simp only[] at hn ⊢;have hw2:dZ s sp ⟨ls,st.nodes,st.total⟩:=⟨hn.ok,hw.tot⟩;obtain⟨m,hm2⟩:=hn.pre;have hle:=hn.le;have hll:=hn.len;split
    ·rename_i hc;exact(hB nx kf kt ⟨ls,st.nodes,st.total⟩ hw2 (hn.hit hc.1).1.symm).more hm2 (by omega)
    ·exact(Cr (s:=s) lv kf kt hw2 (k:=k) (by simp only[];omega) hn.lk).more hm2 (aE _)
  ·exact Cr lv kf kt hw (by omega) hlk
theorem Cv (f:aM->aM): ∀(n:Nat) (l:List aM),(qE f n l).length=l.length
 | _,[]=>by cases ‹Nat› <;>rfl
 | 0,_::_=>rfl
 | n+1,x::l=>by rw[qE,aT,Cv f n l,aT]
theorem wI (f:aM->aM): ∀(n:Nat) (l:List aM) (x:aM),l[n]?=some x->qE f n l=l.set n (f x)
 | _,[],x,h=>by simp at h
 | 0,y::l,x,h=>by
  obtain rfl:y=x:=by simpa using h
  rfl
 | n+1,y::l,x,h=>by
  rw[qE,dF,wI f n l x (by simpa using h)]
theorem Xa (f:aM->aM) (pre:List aM) (x:aM) (post:List aM):qE f pre.length (pre++x::post)=pre++f x::post:=by
 rw[wI f pre.length _ x (by rw[kX (aE _),Nat.sub_self];rfl),List.set_append_right _ _ (aE _),Nat.sub_self];rfl
theorem Cw {ns:List aM}{k:Nat}{x:aM} (h:ns[k]?=some x):fS ns k=x.til:=by unfold fS;rw[h]
theorem wJ {s:aA}{sp:List (Nat×Nat)}{V:YB} (hV:gO s sp V) (map:Bool) (had:List aA) {k:Nat}{st:YS} (hw:dZ s sp st) (hk:k+1=st.lines.length):qH s sp k st (gB s V map had k st).1:=by
 have hln:=hw.ls.2 k (by omega);unfold gB;split
 ·simp only[];split
  ·rename_i h;exact⟨hln.key.1,by have:=hln.key;omega,h⟩
  ·split
   ·exact⟨hln.key.1,by have:=hln.key;omega,by decide⟩
   ·exact hV _ _ _ _ hw hk
 ·exact hV _ _ _ _ hw hk
structure Ko (s:aA) (sp:List (Nat×Nat)) (k0 n:Nat) (st0:YS) (k:Nat) (st:YS):Prop where
 nds: ∃x post,st.nodes=st0.nodes++x::post/\x.til<=st.lines.length/\k0<x.til/\Lk st.lines x.til/\x.til<=k
 num:n=st0.nodes.length
 lns: ∃more,st.lines=st0.lines++more
 wf:dZ s sp st
 k:k<=sp.length/\k0<k/\(k<sp.length->k+1=st.lines.length)
theorem Cx {s:aA}{sp:List (Nat×Nat)} (hsp:eJ s sp) {V:YB} (hV:gO s sp V) (map:Bool) {n:Nat} (ind:Int) (had:List aA) {k0 k:Nat}{st0 st:YS} (hw:dZ s sp st) (hk:k+1=st.lines.length) (hk0:k0<=k) (hn:n=st0.nodes.length) (hnd: ∃x post,st.nodes=st0.nodes++x::post) (hls: ∃more,st.lines=st0.lines++more):
  match iF s sp V map n ind had k st with
  | .ok nx s2 had'=>Ko s sp k0 n st0 nx s2/\k<nx
  | .bad a e=>0<=a/\a<=(s.length:Int)/\e≠0:=by
 have h1:=wJ hV map had hw hk;unfold iF;obtain⟨R,hR⟩:=exQ<|gB s V map had k st;rw[hR] at h1 ⊢;obtain⟨R,had'⟩:=R;cases R with
 | bad a e=>exact h1
 | ok kid s2=>
  obtain⟨g1,⟨m1,g2n,g2⟩,⟨m2,g3⟩,g4,g5,g6⟩:=(show lG s sp k st kid s2 from h1);simp only[];have hnx:=nD hsp (k:=fS s2.nodes kid) g4.2 g6.ls g5;cases hm:gA s sp (fS s2.nodes kid) s2.lines with
  | bad a e=>rw[hm] at hnx;exact hnx
  | ok nx ls=>
   rw[hm] at hnx;simp only[] at hnx ⊢;obtain⟨m3,hm3⟩:=hnx.pre;have hle:=hnx.le;have hll:=hnx.len;by_cases hc:nx<sp.length/\ind<(aZ ls nx).ind
   ·rw[if_pos hc];have hlo:=hnx.ok.2 nx (by have:=(hnx.hit hc.1).1;omega);have:=hlo.ind;simp only[];exact⟨by omega,by omega,by decide⟩
   ·rw[if_neg hc];simp only[];obtain⟨x,post,hx⟩:=hnd;obtain⟨m0,hm0⟩:=hls;refine⟨⟨⟨{ x with kids:=x.kids++ [kid],til:=fS s2.nodes kid },post++m1,?_,by simp only[];omega,by simp only[];omega,hnx.lk,hle.1⟩,hn,⟨m0++m2++m3,by simp only[];rw[hm3,g3,hm0];simp⟩,⟨hnx.ok,?_⟩,⟨hle.2,by omega,λh=>(hnx.hit h).1.symm⟩⟩,by omega⟩
    ·simp only[];unfold lS;rw[hn]
     conv=>lhs;arg 3;rw[g2,hx,pN,dH]
     rw[Xa]
    ·have:=g6.tot;simp only[];unfold lS;rw[Cv];exact this
theorem Kq {s:aA}{sp:List (Nat×Nat)} (hsp:eJ s sp) {V:YB} (hV:gO s sp V) (map:Bool) {n:Nat} (ind kind:Int) {k0:Nat}{st0:YS}: ∀(f:Nat) (had:List aA) (k:Nat) (st:YS),Ko s sp k0 n st0 k st->qH s sp k0 st0 (kP s sp V map n ind kind f had k st)
 | f,had,k,st,h=>by
  have fin:qH s sp k0 st0 (.ok n st):=by
   obtain⟨⟨x,post,h1,h2,h3,h4,_⟩,h5,h6,h7,h8⟩:=h;have ht:fS st.nodes n=x.til:=by rw[h1,h5];exact Cq _ _ _
   exact⟨h5,⟨_,List.cons_ne_nil _ _,h1⟩,h6,by rw[ht];exact⟨h3,h2⟩,by rw[ht];exact h4,h7⟩
  cases f with
  | zero=>exact fin
  | succ f=>
   unfold kP;split
   ·rename_i hc;have h1:=Cx hsp hV map (n:=n) ind had h.wf (h.k.2.2 hc.1) (Nat.le_of_lt h.k.2.1) h.num (by obtain⟨x,post,h1,_⟩:=h.nds;exact⟨x,post,h1⟩) h.lns;cases ho:iF s sp V map n ind had k st with
    | bad a e=>rw[ho] at h1;exact h1
    | ok nx s2 had'=>
     rw[ho] at h1;exact Kq hsp hV map ind kind f had' nx s2 h1.1
   ·exact fin
theorem pB {x:aM}{lv:Nat}{a:Int}{st:YS}{n:Nat}{s1:YS} (h:iR x lv a st= .ok n s1):n=st.nodes.length/\s1=⟨st.lines,st.nodes++ [x],st.total+1⟩/\lv≠0/\st.total<4096:=by
 unfold iR at h;split at h
 ·cases h
 ·split at h
  ·cases h
  ·injection h with h1 h2;exact⟨h1.symm,h2.symm,by assumption,by omega⟩
theorem Xb {x:aM}{lv:Nat}{a:Int}{st:YS}{b e:Int} (h:iR x lv a st= .bad b e):b=a/\(e=5\/e=6):=by
 unfold iR at h;split at h
 ·injection h with h1 h2;exact⟨h1.symm, .inl h2.symm⟩
 ·split at h
  ·injection h with h1 h2;exact⟨h1.symm, .inr h2.symm⟩
  ·cases h
theorem Kr {s:aA}{sp:List (Nat×Nat)} (hsp:eJ s sp) {V:YB} (lv:Nat) (hV:lv≠0->gO s sp V):gO s sp (lT s sp V lv):=by
 intro k kf kt st hw hk;have hlk:Lk st.lines (k+1):=λi h1 h2=>by omega
 have hln:=hw.ls.2 k (by omega);have hks:k<sp.length:=by have:=hw.ls.1;omega
 unfold lT;simp only[];split
 ·exact Cr lv kf kt hw (by omega) hlk
 ·split
  ·rename_i a e h;obtain⟨rfl,he⟩:=Xb h;have:=hln.ind;unfold yK;exact⟨by omega,by omega,by rcases he with rfl|rfl<;>decide⟩
  ·rename_i n s1 h;obtain⟨rfl,rfl,h0,h4⟩:=pB h;obtain⟨f,hf⟩: ∃f,sp.length-k=f+1:=⟨sp.length-k-1,by omega⟩;have htot:=hw.tot;rw[hf];unfold kP;rw[if_pos ⟨hks,rfl,rfl⟩];have h1:=Cx hsp (hV h0) (decide ((aZ st.lines k).kind=4)) (n:=st.nodes.length) (aZ st.lines k).ind [] (k0:=k) (st0:=st) (st:=⟨st.lines,st.nodes++ [⟨if(aZ st.lines k).kind=4 then 3 else 2,(aZ st.lines k).ind,k,0,kf,kt,0,0,[]⟩],st.total+1⟩) ⟨hw.ls,by simp only[aS,eD];omega⟩ hk (aE _) rfl ⟨_,[],rfl⟩ ⟨[],by simp⟩;split
   ·rename_i a e ho;rw[ho] at h1;exact h1
   ·rename_i nx s2 had' ho;rw[ho] at h1;exact Kq hsp (hV h0) _ _ _ f had' nx s2 h1.1
theorem sS {s:aA}{sp:List (Nat×Nat)} (hsp:eJ s sp): ∀lv,gO s sp (nC s sp lv)
 | 0=>Kr hsp 0 (λh=>absurd rfl h)
 | lv+1=>Kr hsp (lv+1) (λ_=>Cu hsp (sS hsp lv) lv)
end
section
open Go.RowKit
open Go.Lib hiding intOf
def YJ (T:TypeId) (Pr:aK) (w0:World) (P:Nat) (txt:aA) (sp:List (Nat×Nat)) (st:YS) (a er:Int) (w:World):Prop:= ∃z sv lv nv,z.map (·.1)=st.nodes/\YK T Pr w0 P txt sp st.lines z st.total a er sv lv nv w
def fU (T:TypeId) (Pr:aK) (w0:World) (P:Nat) (txt:aA) (sp:List (Nat×Nat)) (a er:Int) (w:World):Prop:= ∃st,YJ T Pr w0 P txt sp st a er w
def yO (T:TypeId) (Pr:aK) (w0:World) (P:Nat) (txt:aA) (sp:List (Nat×Nat)) (st:YS) (R:NX) (e:Ending) (w':World):Prop:=match R with
 | .ok k ls=>e= .returned (.tuple #[.int .i64 (k:Int), .bool true])/\YJ T Pr w0 P txt sp ⟨ls,st.nodes,st.total⟩ 0 0 w'
 | .bad a er=>(∃m:Int,e= .returned (.tuple #[.int .i64 m, .bool false]))/\fU T Pr w0 P txt sp a er w'
def gX (T:TypeId) (Pr:aK) (w0:World) (P:Nat) (txt:aA) (sp:List (Nat×Nat)) (R:YR) (e:Ending) (w':World):Prop:=match R with
 | .ok n st=>e= .returned (.tuple #[.int .i64 (n:Int), .bool true])/\YJ T Pr w0 P txt sp st 0 0 w'
 | .bad a er=>(∃m:Int,e= .returned (.tuple #[.int .i64 m, .bool false]))/\fU T Pr w0 P txt sp a er w'
section
variable {T:TypeId}{Pr Pr':aK}{w0 w w':World}{P:Nat}{txt:aA}{sp:List (Nat×Nat)}{st:YS}{a er:Int}
theorem YJ.keep (h:YJ T Pr w0 P txt sp st a er w) (hb:Below w.heap.size w w'):YJ T Pr w0 P txt sp st a er w':=by
 obtain⟨z,sv,lv,nv,h1,h2⟩:=h;exact⟨z,sv,lv,nv,h1,h2.keep hb⟩
theorem YJ.put (h:YJ T Pr w0 P txt sp st a er w) (hb:Below w.heap.size w w') {X:Nat}{o:Obj} (hX:w.heap.size<=X) (ho:w'.heap[X]?=some o):YJ T (Pr.put X o) w0 P txt sp st a er w':=by
 obtain⟨z,sv,lv,nv,h1,h2⟩:=h;exact⟨z,sv,lv,nv,h1,h2.put hb hX ho⟩
theorem YJ.less (h:YJ T Pr w0 P txt sp st a er w) (hp: ∀k o,Pr' k=some o->Pr k=some o):YJ T Pr' w0 P txt sp st a er w:=by
 obtain⟨z,sv,lv,nv,h1,h2⟩:=h;exact⟨z,sv,lv,nv,h1,h2.less hp⟩
theorem YJ.bel (h:YJ T Pr w0 P txt sp st a er w):Below w0.heap.size w0 w:=by
 obtain⟨z,sv,lv,nv,h1,h2⟩:=h;exact h2.bel
theorem YJ.at_ (h:YJ T Pr w0 P txt sp st a er w) {k:Nat}{o:Obj} (hk:Pr k=some o):w.heap[k]?=some o:=by
 obtain⟨z,sv,lv,nv,h1,h2⟩:=h;exact(h2.fr k o hk).1
theorem YJ.frLt (h:YJ T Pr w0 P txt sp st a er w): ∀k o,Pr k=some o->k<w.heap.size:=by
 obtain⟨z,sv,lv,nv,h1,h2⟩:=h;exact λk o hk=>h2.frLt hk
theorem YJ.lt (h:YJ T Pr w0 P txt sp st a er w):P<w.heap.size:=by
 obtain⟨z,sv,lv,nv,h1,h2⟩:=h;exact h2.lt
theorem YJ.fail (h:YJ T Pr w0 P txt sp st a er w) (a2 e2:Int):YJ T Pr w0 P txt sp st a2 e2 ((w.setCell ⟨P,5,none⟩ (.int .i64 a2)).setCell ⟨P,6,none⟩ (.int .i64 e2)):=by
 obtain⟨z,sv,lv,nv,h1,h2⟩:=h;exact⟨z,sv,lv,nv,h1,h2.fail a2 e2⟩
theorem YJ.bad (h:YJ T Pr w0 P txt sp st a er w):fU T Pr w0 P txt sp a er w:=⟨st,h⟩
theorem fU.keep (h:fU T Pr w0 P txt sp a er w) (hb:Below w.heap.size w w'):fU T Pr w0 P txt sp a er w':=by
 obtain⟨st,h⟩:=h;exact⟨st,h.keep hb⟩
theorem fU.less (h:fU T Pr w0 P txt sp a er w) (hp: ∀k o,Pr' k=some o->Pr k=some o):fU T Pr' w0 P txt sp a er w:=by
 obtain⟨st,h⟩:=h;exact⟨st,h.less hp⟩
theorem gX.less {R:YR}{e:Ending} (h:gX T Pr w0 P txt sp R e w) (hp: ∀k o,Pr' k=some o->Pr k=some o):gX T Pr' w0 P txt sp R e w:=by
 cases R with
 | ok n st=>exact⟨h.1,h.2.less hp⟩
 | bad a er=>exact⟨h.1,h.2.less hp⟩
end
abbrev YP:TypeId:=57
section
variable {Pr:aK}{w0:World}{P:Nat}{txt:aA}{sp:List (Nat×Nat)}{st:YS}{a0 e0:Int}
theorem Ks (r:aP) (w:World):Calls Tryz.prog 68 #[fQ r] w λe w'=>e= .returned (.bool (jL r))/\Below w.heap.size w w':=by
 have hb:=hid (aH w (.cells #[.int .i64 r.kind, .int .i64 r.sf, .int .i64 r.st, .int .i64 r.ind, .int .i64 r.kf, .int .i64 r.kt, .int .i64 r.rf, .int .i64 r.rt, .int .i64 r.nf, .int .i64 r.nt] 121));unfold fQ jL;by_cases h3:3<=r.kind
 ·have d3:decide (3<=r.kind)=true:=aN h3;go_enter Tryz.func68,Tryz.ntmps68;go_wp2_with fail;go_ret;exact⟨by simp[h3],hb.out⟩
 ·have d3:decide (3<=r.kind)=false:=aJ h3;go_enter Tryz.func68,Tryz.ntmps68;go_wp2_with fail;go_ret;exact⟨by simp[h3],hb.out⟩
theorem pC (a er:Int) (w:World) (h:YJ YP Pr w0 P txt sp st a0 e0 w):
  Calls Tryz.prog 36 #[.pointer (some ⟨P,0,none⟩), .int .i64 a, .int .i64 er] w λe w'=>e= .returned (.bool false)/\YJ YP Pr w0 P txt sp st a er w':=by
 have HF:=hid (h.fail a er);obtain⟨z,sv,lv,nv,_,hk⟩:=h;obtain⟨⟨c0,c1,c2,c3,c4,c5,c6⟩,f2,f3,f4,f5,f6⟩:=hk.cells;clear hk;go_enter Tryz.func36,Tryz.ntmps36;go_wp2_with fail;go_ret;exact⟨rfl,HF.out⟩
theorem uJ (k:Nat) (w:World) (h:YJ YP Pr w0 P txt sp st a0 e0 w):
  Calls Tryz.prog 34 #[.pointer (some ⟨P,0,none⟩), .int .i64 (k:Int)] w λe w'=>e= .returned (.bool (decide (k<sp.length)))/\Below w.heap.size w w':=by
 have HB:=hid (aB w.heap.size w);obtain⟨z,sv,lv,nv,_,hk⟩:=h;obtain⟨⟨c0,c1,c2,c3,c4,c5,c6⟩,f2,f3,f4,f5,f6⟩:=hk.cells;obtain⟨p,cap,rfl⟩:=hk.spSlice;clear hk;go_enter Tryz.func34,Tryz.ntmps34;go_wp2_with fail;go_ret;exact⟨by simp,HB.out⟩
theorem yP (x y:Int) (w:World) (h:YJ YP Pr w0 P txt sp st a0 e0 w) (h0:0<=x) (h1:x<=y) (h2:y<=(txt.length:Int)) (hs:txt.length<=1073741824):
  Calls Tryz.prog 108 #[.pointer (some ⟨P,0,none⟩), .agg #[.int .i64 x, .int .i64 y]] w λe w'=>e= .returned (.string (bs (eH txt x y)))/\Below w.heap.size w w':=by
 have sl:=aR txt;obtain⟨x,rfl⟩: ∃k:Nat,x=k:=⟨x.toNat,by omega⟩;obtain⟨y,rfl⟩: ∃k:Nat,y=k:=⟨y.toNat,by omega⟩;have hex:(bs txt).extract x y=bs (eH txt x y):=by
  rw[kV,aU];rfl
 have b0:=aH w (.cells #[.int .i64 (x:Int), .int .i64 (y:Int)] 59);have HB:=hid b0;have hX0:=heap_alloc_new w (.cells #[.int .i64 (x:Int), .int .i64 (y:Int)] 59);obtain⟨K,hKe⟩:=exQ<|w.heap.size;obtain⟨W1,hW1⟩:=exQ<|w.alloc (.cells #[.int .i64 (x:Int), .int .i64 (y:Int)] 59);rw[hW1] at b0 hX0 HB;have hj:=h.keep b0;rw[hKe] at hX0;obtain⟨x0,x1⟩:=qU hX0;obtain⟨z,sv,lv,nv,_,hk⟩:=hj;obtain⟨⟨c0,c1,c2,c3,c4,c5,c6⟩,f2,f3,f4,f5,f6⟩:=hk.cells;have hPl:=hk.lt;clear hk h b0;have hKl:=aF hX0;clear hX0;go_enter Tryz.func108,Tryz.ntmps108;go_upto_region 1 with fail;clear hW1 hKe;go_wp2_with fail;go_region;go_wp2_with fail;go_ret;exact⟨rfl,HB.out.drew⟩
end
end
section
def yQ (ops:Array Oper):Bool:=(List.range ops.size).all λi=>match ops[i]? with
 | some o=>o.after.toList.all (λe=>!Region.binds .any e||decide (e.on<i))
 | none=>true
theorem Kt {ops:Array Oper} (h:yQ ops=true) {i:Nat}{o:Oper} (ho:ops[i]?=some o): ∀e∈o.after,Region.binds .any e=true->e.on<i:=by
 have hi:=(cM.1 ho).1;have:=fG.1 h i (List.mem_range.2 hi);rw[ho] at this;intro e he hb;have:=fG.1 this e (Array.mem_toList_iff.2 he);rw[hb,Bool.not_true,Bool.false_or] at this;exact of_decide_eq_true this
theorem Xc {ops:Array Oper} (h:yQ ops=true) {L:Array Bool} (hL:L.size=ops.size) (hr:Region.ready .any ops L= []): ∀i,i<ops.size->L.getD i false=true:=by
 intro i
 induction i using Nat.strongRecOn with
 | _ i ih=>
  intro hi;obtain⟨o,ho⟩: ∃o,ops[i]?=some o:=⟨_,Array.getElem?_eq_getElem hi⟩;cases hc:L.getD i false with
  | true=>rfl
  | false=>
   have hm:i∈Region.ready .any ops L:=mem_ready.2 ⟨by rw[aO,Array.getElem?_eq_getElem (by omega)] at hc ⊢;simpa using hc,o,ho,λe he hb=>ih _ (Kt h ho e he hb) (by have:=Kt h ho e he hb;omega)⟩;rw[hr] at hm;cases hm
theorem Xd {P:Program}{ops:Array Oper}{Q:Exit->Act->World->Prop}{id:Nat}{a0:Act}{w0:World} (hm:P.follows .mixedOrders=true) (K:List Nat) (n:Nat) (hn:a0.tmps.size=n) (hback:yQ ops=true) (hdst:nV ops K n=true)
  (F:(Nat->Bool)->(Nat->Value)->World->Prop) (h0:F (λ_=>false) (λk=>a0.tmps.getD k undef) w0.drew)
  (hs: ∀(d:Nat->Bool) (a:Act) (w:World) (i:Nat) (o:Oper),ops[i]?=some o->d i=false->(∀e∈o.after,Region.binds .any e=true->d e.on=true)->(∀k,k ∉ K->a.tmps.getD k undef=a0.tmps.getD k undef)->F d (λk=>a.tmps.getD k undef) w->
   ∀R:Act->World->Prop,(∀x w',F (bI d i) (bZ (λk=>a.tmps.getD k undef) o.dst x) w'->R (a.put o.dst x) w')->if Region.wanted o (yielded ops a.tmps)=true then o.wp P a w R Q else R (a.put o.dst undef) w)
  (hd: ∀(v:Nat->Value) (w:World),F (λi=>decide (i<ops.size)) v w->Q .normal { a0 with tmps:=cE a0.tmps v K } w):(Code.region id ops true).wp P Q a0 w0:=by
 subst hn;refine Gx hm (λL a w=>(a.defers=a0.defers/\a.tmps.size=a0.tmps.size/\ ∀k,k ∉ K->a.tmps.getD k undef=a0.tmps.getD k undef)/\F (λi=>L.getD i false) (λk=>a.tmps.getD k undef) w) ⟨⟨rfl,rfl,λk _=>rfl⟩,?_⟩ ?_ ?_
 ·have:(λi=>(Array.replicate ops.size false).getD i false)=λ_=>false:=by
   funext i;rw[aO,Array.getElem?_replicate];split<;>rfl
  rw[this];exact h0
 ·intro L a w i o hL ho hi hall hI R hR;obtain⟨⟨h1,h2,h3⟩,hF⟩:=hI;have hlt:i<L.size:=by rw[hL];exact(cM.1 ho).1
  refine hs (λi=>L.getD i false) a w i o ho ?_ hall h3 hF R λx w' hx=>hR _ _ ⟨⟨?_,?_,λk hk=>?_⟩,?_⟩
  ·rw[aO,Array.getElem?_eq_getElem hlt] at hi ⊢;simpa using hi
  ·unfold Act.put;cases o.dst<;>exact h1
  ·unfold Act.put;cases o.dst
   ·exact h2
   ·rw[Array.size_setIfInBounds];exact h2
  ·rw[<-h3 k hk];have hg:=congrFun (tR a o.dst x (λt ht=>by rw[h2];exact(pS hdst ho t ht).2)) k;have e: ∀t,o.dst=t->bZ (λk=>a.tmps.getD k undef) t x k=a.tmps.getD k undef:=λt ht=>by
    cases t with
    | none=>rfl
    | some t=>exact if_neg (λh=>hk (by rw[h];exact(pS hdst ho t ht).1))
   exact hg.trans (e _ rfl)
  ·rw[Ap L i hlt,tR a o.dst x (λt ht=>by rw[h2];exact(pS hdst ho t ht).2)];exact hx
 ·intro L a w hL hI hr;obtain⟨⟨h1,h2,h3⟩,hF⟩:=hI;have hall:=Xc hback hL hr;have hfun:(λi=>L.getD i false)=λi=>decide (i<ops.size):=by
   funext i;by_cases hi:i<ops.size
   ·rw[hall i hi,aN hi]
   ·rw[aJ hi,aO,Array.getElem?_eq_none (by omega)];rfl
  rw[hfun] at hF;have:=hd _ w hF;have ha:a= { a0 with tmps:=cE a0.tmps (λk=>a.tmps.getD k undef) K }:=by
   cases a with
   | mk tmps defers=>
    simp only at h1 h2 h3 ⊢;rw[h1];congr 1;refine Array.ext_getElem? λj=>?_;by_cases hj:j<a0.tmps.size
    ·rw[xP _ _ j hj];have hget:tmps[j]?=some (tmps.getD j undef):=by rw[aO,Array.getElem?_eq_getElem (by omega)];rfl
     split
     ·exact hget
     ·rename_i hk;rw[hget,h3 j hk,aO,Array.getElem?_eq_getElem hj];rfl
    ·rw[Array.getElem?_eq_none (by omega),Array.getElem?_eq_none (by rw[vG];omega)]
  rw[ha];exact this
end
section
open Go.RowKit
def gG (sl:List (Option Nat)) (i:Nat):Option Nat:=match sl[i]? with
 | some (some k)=>some k
 | _=>none
def sV (sl:List (Option Nat)):Bool:=(List.range sl.length).all λi=>(List.range sl.length).all λj=>i==j||gG sl i==none||gG sl i !=gG sl j
theorem Ku {sl:List (Option Nat)}{i k:Nat} (h:gG sl i=some k):i<sl.length:=by
 unfold gG at h;cases hs:sl[i]? with
 | none=>rw[hs] at h;cases h
 | some q=>exact(aQ.1 hs).1
theorem Xe {sl:List (Option Nat)} (h:sV sl=true) {i j k:Nat} (hi:gG sl i=some k) (hj:gG sl j=some k):i=j:=by
 have h1:=fG.1 (fG.1 h i (List.mem_range.2 (Ku hi))) j (List.mem_range.2 (Ku hj));rw[hi,hj] at h1;simpa using h1
def fF (sl:List (Option Nat)) (v:Nat->Value) (e:Nat):Value:=match gG sl e with
 | some k=>v k
 | none=>undef
def pD (eff:List Nat) (sl:List (Option Nat)) (fr:Nat) (v:Nat->Value):Nat->Value
 | 0=>undef
 | k+1=>match eff[k]? with
  | some e=>match gG sl e with
   | some _=>fF sl v e
   | none=>fF sl v fr
  | none=>undef
theorem wK (eff:List Nat) (sl:List (Option Nat)) (fr:Nat) (v:Nat->Value) (k:Nat):pD eff sl fr v (k+1)=match eff[k]? with
  | some e=>match gG sl e with
   | some _=>fF sl v e
   | none=>fF sl v fr
  | none=>undef:=rfl
theorem Xf {l:List Nat} (h:l.Nodup) {i j a:Nat} (hi:l[i]?=some a) (hj:l[j]?=some a):i=j:=by
 obtain⟨h1,h2⟩:=aQ.1 hi;obtain⟨h3,h4⟩:=aQ.1 hj;have hp:=List.pairwise_iff_getElem.1 h;rcases Nat.lt_trichotomy i j with hlt | heq | hgt
 ·exact absurd (h2.trans h4.symm) (hp i j h1 h3 hlt)
 ·exact heq
 ·exact absurd (h4.trans h2.symm) (hp j i h3 h1 hgt)
theorem Cy {l:List Nat} (h:l≠ []):l.getLastD 0∈l:=by
 rw[List.getLastD_eq_getLast?,List.getLast?_eq_some_getLast h];exact List.getLast_mem h
structure eA (ops:Array Oper) (sl:List (Option Nat)) (eff:List Nat) (fr:Nat) (Fb:Value->World->Prop) (val:Nat->Value) (S:World->Prop) (Ph:Nat->Value->World->Prop) (d:Nat->Bool) (v:Nat->Value) (w':World):Prop where
 cl: ∀i,i<sl.length->i ∉ eff->i≠fr->d i=true->fF sl v i=val i
 clo:nY ops d
 st:d (eff.getLastD 0)=false->S w'
 fb:d (eff.getLastD 0)=false->d fr=true->Fb (fF sl v fr) w'
 ph: ∃k,k<=eff.length/\(∀j e,eff[j]?=some e->(d e=true↔j<k))/\Ph k (pD eff sl fr v k) w'
section
variable {ops:Array Oper}{sl:List (Option Nat)}{eff:List Nat}{fr:Nat}{Fb:Value->World->Prop}{val:Nat->Value}{S:World->Prop}{Ph:Nat->Value->World->Prop}{d:Nat->Bool}{v:Nat->Value}{w' w2:World}
theorem yR {i k:Nat} (hk:gG sl i=some k) (x:Value):fF sl (bZ v (some k) x) i=x:=by
 unfold fF;rw[hk];exact if_pos rfl
theorem nE (hnd:sV sl=true) {i k:Nat} (hk:gG sl i=some k) (x:Value) {j:Nat} (hj:j≠i):fF sl (bZ v (some k) x) j=fF sl v j:=by
 unfold fF;cases hs:gG sl j with
 | none=>rfl
 | some q=>
  exact if_neg (λe=>hj (Xe hnd hs (by rw[e];exact hk)))
theorem Kv {v v2:Nat->Value} (h: ∀e∈eff,fF sl v2 e=fF sl v e) (hf:fF sl v2 fr=fF sl v fr): ∀k,pD eff sl fr v2 k=pD eff sl fr v k
 | 0=>rfl
 | k+1=>by
  rw[wK,wK];cases he:eff[k]? with
  | none=>rfl
  | some e=>
   simp only[];cases hs:gG sl e with
   | none=>exact hf
   | some q=>exact h e (aX he)
theorem eA.pure (h:eA ops sl eff fr Fb val S Ph d v w') (hnd:sV sl=true) {i k:Nat}{o:Oper} (ho:ops[i]?=some o) (hall: ∀e∈o.after,Region.binds .any e=true->d e.on=true) (hk:gG sl i=some k) (hne:i ∉ eff) (hfr:i≠fr) (hel:eff≠ []) {x:Value} (hx:x=val i):eA ops sl eff fr Fb val S Ph (bI d i) (bZ v (some k) x) w':=by
 have hsame: ∀e∈eff,fF sl (bZ v (some k) x) e=fF sl v e:=λe he=>nE hnd hk x (λe2=>hne (e2 ▸ he));have hd: ∀e∈eff,bI d i e=d e:=λe he=>bM (λe2=>hne (e2 ▸ he));have hlast:bI d i (eff.getLastD 0)=d (eff.getLastD 0):=hd _ (Cy hel);refine⟨λj hj hje hjf hdj=>?_,h.clo.step ho hall,λhl=>h.st (by rw[<-hlast];exact hl),λhl hf=>?_,?_⟩
 ·by_cases hji:j=i
  ·subst hji;rw[yR hk];exact hx
  ·rw[nE hnd hk x hji];rw[bM hji] at hdj;exact h.cl j hj hje hjf hdj
 ·rw[nE hnd hk x (Ne.symm hfr)];rw[bM (Ne.symm hfr)] at hf;exact h.fb (by rw[<-hlast];exact hl) hf
 ·obtain⟨q,hq,h2,h3⟩:=h.ph;refine⟨q,hq,λj e he=>?_,?_⟩
  ·rw[hd e (aX he)];exact h2 j e he
  ·rw[Kv hsame (nE hnd hk x (Ne.symm hfr))];exact h3
theorem eA.free (h:eA ops sl eff fr Fb val S Ph d v w') (hnd:sV sl=true) {i k:Nat}{o:Oper} (ho:ops[i]?=some o) (hall: ∀e∈o.after,Region.binds .any e=true->d e.on=true) (hk:gG sl i=some k) (hne:i ∉ eff) (hfr:i=fr) (hel:eff≠ []) (hsl:eff.all (λe=>e==eff.getLastD 0||(gG sl e).isSome)=true) (hnl:eff.Nodup) (hdl:d (eff.getLastD 0)=false) {x:Value} (hS:S w'->S w2) (hP: ∀k c,Ph k c w'->Ph k c w2) (hx:Fb x w2):eA ops sl eff fr Fb val S Ph (bI d i) (bZ v (some k) x) w2:=by
 subst hfr;have hsame: ∀e∈eff,fF sl (bZ v (some k) x) e=fF sl v e:=λe he=>nE hnd hk x (λe2=>hne (e2 ▸ he));have hd: ∀e∈eff,bI d i e=d e:=λe he=>bM (λe2=>hne (e2 ▸ he));have hlast:bI d i (eff.getLastD 0)=d (eff.getLastD 0):=hd _ (Cy hel);refine⟨λj hj hje hjf hdj=>?_,h.clo.step ho hall,λhl=>hS (h.st hdl),λhl hf=>by rw[yR hk];exact hx,?_⟩
 ·rw[nE hnd hk x hjf];rw[bM hjf] at hdj;exact h.cl j hj hje hjf hdj
 ·obtain⟨q,hq,h2,h3⟩:=h.ph;refine⟨q,hq,λj e he=>?_,?_⟩
  ·rw[hd e (aX he)];exact h2 j e he
  ·have hL:pD eff sl i (bZ v (some k) x) q=pD eff sl i v q:=by
    cases q with
    | zero=>rfl
    | succ q=>
     rw[wK,wK];cases he:eff[q]? with
     | none=>rfl
     | some e=>
      simp only[];cases hs:gG sl e with
      | some z=>exact hsame e (aX he)
      | none=>
       have hm:=fG.1 hsl e (aX he);rw[Bool.or_eq_true] at hm;rcases hm with hm | hm
       ·have hm:e=eff.getLastD 0:=(by simpa using hm);have:=(h2 q e he).2 (tS _);rw[hm,hdl] at this;cases this
       ·rw[hs] at hm;cases hm
   rw[hL];exact hP _ _ h3
theorem eA.at_ (h:eA ops sl eff fr Fb val S Ph d v w') {j e:Nat} (he:eff[j]?=some e) (hi:d e=false) (hp: ∀j' e',j=j'+1->eff[j']?=some e'->d e'=true):Ph j (pD eff sl fr v j) w':=by
 obtain⟨q,hq,h2,h3⟩:=h.ph;have h4: ¬j<q:=λhlt=>by rw[(h2 j e he).2 hlt] at hi;cases hi
 obtain rfl:j=q:=by
  cases j with
  | zero=>omega
  | succ j'=>
   have hj':=(aQ.1 he).1;have h5:=(h2 j' _ (bJ (by omega))).1 (hp j' _ rfl (bJ (by omega)));omega
 exact h3
theorem eA.eff_ (h:eA ops sl eff fr Fb val S Ph d v w') (hnd:sV sl=true) (hne:eff.Nodup) {i j:Nat}{o:Oper} (ho:ops[i]?=some o) (hall: ∀e∈o.after,Region.binds .any e=true->d e.on=true) (he:eff[j]?=some i) (hi:d i=false) (hp: ∀j' e',j=j'+1->eff[j']?=some e'->d e'=true)
  {dst:Option Nat} (hk:gG sl i=dst) (hfr:i≠fr) {x:Value} (hF:i≠eff.getLastD 0-> ∀x,Fb x w'->Fb x w2) (hS:i≠eff.getLastD 0->S w2) (hP:Ph (j+1) (match dst with | some _=>x | none=>fF sl v fr) w2):eA ops sl eff fr Fb val S Ph (bI d i) (bZ v dst x) w2:=by
 obtain⟨q,hq,h2,h3⟩:=h.ph;have hjl:=(aQ.1 he).1;obtain rfl:j=q:=by
  have h4: ¬j<q:=λhlt=>by rw[(h2 j i he).2 hlt] at hi;cases hi
  cases j with
  | zero=>omega
  | succ j'=>
   have h5:=(h2 j' _ (bJ (by omega))).1 (hp j' _ rfl (bJ (by omega)));omega
 have hoth: ∀m,m≠i->fF sl (bZ v dst x) m=fF sl v m:=λm hm=>by
  cases dst with
  | none=>rfl
  | some k=>exact nE hnd hk x hm
 have hli: ∀(hl:bI d i (eff.getLastD 0)=false),i≠eff.getLastD 0/\d (eff.getLastD 0)=false:=λhl=>by
  have hne:i≠eff.getLastD 0:=λe=>by rw[<-e,nZ] at hl;cases hl
  exact⟨hne,by rw[bM (Ne.symm hne)] at hl;exact hl⟩
 refine⟨λm hm hme hmf hdm=>?_,h.clo.step ho hall,λhl=>?_,λhl hf=>?_,j+1,hjl,λm e hm=>?_,?_⟩
 ·have hmi:m≠i:=λe=>hme (e ▸ aX he);rw[hoth m hmi];rw[bM hmi] at hdm;exact h.cl m hm hme hmf hdm
 ·exact hS (hli hl).1
 ·rw[hoth fr (Ne.symm hfr)];rw[bM (Ne.symm hfr)] at hf;exact hF (hli hl).1 _ (h.fb (hli hl).2 hf)
 ·by_cases hmj:m=j
  ·subst hmj;rw[he] at hm;injection hm with hm;subst hm;rw[nZ];exact⟨λ_=>tS _,λ_=>rfl⟩
  ·have hei:e≠i:=λe2=>hmj (Xf hne (by rw[<-e2];exact hm) he);rw[bM hei,h2 m e hm];omega
 ·rw[wK,he];simp only[hk];cases dst with
  | none=>exact hP
  | some k=>
   simp only[];rw[yR hk];exact hP
theorem eA.fin (h:eA ops sl eff fr Fb val S Ph d v w') (hd: ∀e∈eff,d e=true):Ph eff.length (pD eff sl fr v eff.length) w':=by
 obtain⟨q,hq,h2,h3⟩:=h.ph;by_cases hlt:q<eff.length
 ·have:=(h2 q _ (bJ hlt)).1 (hd _ (List.getElem_mem hlt));omega
 ·obtain rfl:q=eff.length:=by omega
  exact h3
theorem eA.early (h:eA ops sl eff fr Fb val S Ph d v w') {f i:Nat} (hr:nX ops f (eff.getLastD 0) i=true) (hi:d i=false):S w':=by
 refine h.st ?_;cases hc:d (eff.getLastD 0) with
 | false=>rfl
 | true=>rw[h.clo.reach f _ _ hr hc] at hi;cases hi
end
section
variable {ops:Array Oper}{sl:List (Option Nat)}{eff:List Nat}{fr:Nat}{Fb:Value->World->Prop}{val:Nat->Value}{S:World->Prop}{Ph:Nat->Value->World->Prop}{d:Nat->Bool}{v:Nat->Value}{w' w2:World}
theorem Kw {j:Nat} (hp:j=0\/ ∃e',eff[j-1]?=some e'/\d e'=true): ∀j' e',j=j'+1->eff[j']?=some e'->d e'=true:=by
 rintro j' e' rfl he;rcases hp with h | ⟨e2,h1,h2⟩
 ·omega
 ·rw[Nat.add_sub_cancel,he] at h1;injection h1 with h1;rw[h1];exact h2
theorem eA.at2 (h:eA ops sl eff fr Fb val S Ph d v w') {j e:Nat} (he:eff[j]?=some e) (hi:d e=false) (hp:j=0\/ ∃e',eff[j-1]?=some e'/\d e'=true):Ph j (pD eff sl fr v j) w':=h.at_ he hi (Kw hp)
theorem eA.eff2 (h:eA ops sl eff fr Fb val S Ph d v w') (hnd:sV sl=true) (hne:eff.Nodup) {i:Nat} (j:Nat) {o:Oper} (ho:ops[i]?=some o) (hall: ∀e∈o.after,Region.binds .any e=true->d e.on=true) (he:eff[j]?=some i) (hi:d i=false) (hp:j=0\/ ∃e',eff[j-1]?=some e'/\d e'=true)
  {dst:Option Nat} (hk:gG sl i=dst) (hfr:i≠fr) {x:Value} (hF:i≠eff.getLastD 0-> ∀x,Fb x w'->Fb x w2) (hS:i≠eff.getLastD 0->S w2) (hP:Ph (j+1) (match dst with | some _=>x | none=>fF sl v fr) w2):eA ops sl eff fr Fb val S Ph (bI d i) (bZ v dst x) w2:=h.eff_ hnd hne ho hall he hi (Kw hp) hk hfr hF hS hP
end
theorem eA.lastNot {ops:Array Oper}{sl:List (Option Nat)}{eff:List Nat}{fr:Nat}{Fb:Value->World->Prop}{val:Nat->Value}{S:World->Prop}{Ph:Nat->Value->World->Prop}{d:Nat->Bool}{v:Nat->Value}{w':World} (h:eA ops sl eff fr Fb val S Ph d v w') {f i:Nat} (hr:nX ops f (eff.getLastD 0) i=true) (hi:d i=false):d (eff.getLastD 0)=false:=by
 cases hc:d (eff.getLastD 0) with
 | false=>rfl
 | true=>rw[h.clo.reach f _ _ hr hc] at hi;cases hi
theorem eA.g {ops:Array Oper}{sl:List (Option Nat)}{eff:List Nat}{fr:Nat}{Fb:Value->World->Prop}{val:Nat->Value}{S:World->Prop}{Ph:Nat->Value->World->Prop}{d:Nat->Bool}{a:Array Value}{w':World} (h:eA ops sl eff fr Fb val S Ph d (λk=>a.getD k undef) w') (i k:Nat) (hs:gG sl i=some k) (hl:i<sl.length) (h1:i ∉ eff) (h2:i≠fr) (hd:d i=true):a[k]?.getD undef=val i:=by
 have:=h.cl i hl h1 h2 hd;unfold fF at this;rw[hs] at this;rw[<-aO];exact this
theorem kR {P:Program}{ops:Array Oper}{Q:Exit->Act->World->Prop}{id:Nat}{a0:Act}{w0:World} (hm:P.follows .mixedOrders=true) (sl:List (Option Nat)) (K:List Nat) (eff:List Nat) (fr:Nat) (Fb:Value->World->Prop) (n:Nat) (hn:a0.tmps.size=n) (hback:pR ops=true) (hdst:nV ops K n=true) (heff:eff.all (λe=>decide (e<ops.size))=true)
  (val:Nat->Value) (S:World->Prop) (Ph:Nat->Value->World->Prop) (h0:S w0.drew) (hP:Ph 0 undef w0.drew)
  (hs: ∀(d:Nat->Bool) (a:Act) (w:World) (i:Nat) (o:Oper),ops[i]?=some o->d i=false->(∀e∈o.after,Region.binds .any e=true->d e.on=true)->(∀k,k ∉ K->a.tmps.getD k undef=a0.tmps.getD k undef)->eA ops sl eff fr Fb val S Ph d (λk=>a.tmps.getD k undef) w->
   ∀R:Act->World->Prop,(∀x w',eA ops sl eff fr Fb val S Ph (bI d i) (bZ (λk=>a.tmps.getD k undef) o.dst x) w'->R (a.put o.dst x) w')->o.wp P a w R Q)
  (hd: ∀(v:Nat->Value) (w:World),(∀i,i<sl.length->i<ops.size->i ∉ eff->i≠fr->fF sl v i=val i)->Ph eff.length (pD eff sl fr v eff.length) w->Q .normal { a0 with tmps:=cE a0.tmps v K } w):(Code.region id ops true).wp P Q a0 w0:=by
 refine vH hm K n hn hback hdst (λd v w'=>eA ops sl eff fr Fb val S Ph d v w') ?_ hs (λv w h=>hd v w (λi h1 h2 h3 h4=>h.cl i h1 h3 h4 (aN h2)) (h.fin (λe he=>?_)))
 ·exact⟨λ_ _ _ _ h=>Bool.noConfusion h,λ_ _ _ h=>Bool.noConfusion h,λ_=>h0,λ_ h=>Bool.noConfusion h,0,cN _,λj e _=>⟨λh=>Bool.noConfusion h,λh=>absurd h (pU _)⟩,hP⟩
 ·exact fG.1 heff e he
end
end Go.Proofs.YtaifnmjjpddikaaGreatDoor
