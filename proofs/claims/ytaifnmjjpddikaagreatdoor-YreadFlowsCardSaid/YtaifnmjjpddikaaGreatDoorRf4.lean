import Derived.Test.YtaifnmjjpddikaaGreatDoorRf3
import Derived.Test.YtaifnmjjpddikaaGreatDoorRf1
import Derived.Deep.DeepCutAuto
import Derived.Test.YtaifnmjjpddikaaGreatDoorProg
namespace Go.Proofs.YtaifnmjjpddikaaGreatDoor
set_option linter.unusedVariables false
set_option linter.unusedSimpArgs false
section
open Go.Lib
def bW {α β:Type} (R:α->β->Prop):List α->List β->Prop
 | [],[]=>True
 | x::l,y::k=>R x y/\bW R l k
 | _,_=>False
section
variable {α β:Type}{R:α->β->Prop}
theorem bW.len: ∀ {l:List α}{k:List β},bW R l k->l.length=k.length
 | [],[],_=>rfl
 | _::l,_::k,h=>by simp only[aT];rw[bW.len h.2]
 | [],_::_,h=>h.elim
 | _::_,[],h=>h.elim
theorem bW.app: ∀ {l:List α}{k:List β}{l2:List α}{k2:List β},bW R l k->bW R l2 k2->bW R (l++l2) (k++k2)
 | [],[],_,_,_,h2=>h2
 | _::_,_::_,_,_,h,h2=>⟨h.1,bW.app h.2 h2⟩
 | [],_::_,_,_,h,_=>h.elim
 | _::_,[],_,_,h,_=>h.elim
theorem bW.cons_l {x:α}{l:List α}{k:List β} (h:bW R (x::l) k): ∃y k',k=y::k'/\R x y/\bW R l k':=by
 cases k with
 | nil=>exact h.elim
 | cons y k=>exact⟨y,k,rfl,h.1,h.2⟩
theorem bW.nil_l {k:List β} (h:bW R [] k):k= []:=by
 cases k with
 | nil=>rfl
 | cons y k=>exact h.elim
theorem bW.at: ∀ {l:List α}{k:List β},bW R l k-> ∀(i:Nat) (x:α),l[i]?=some x-> ∃y,k[i]?=some y/\R x y
 | [],[],_,i,x,hx=>by simp at hx
 | u::l,v::k,h,0,x,hx=>by
  obtain rfl:u=x:=by simpa using hx
  exact⟨v,rfl,h.1⟩
 | u::l,v::k,h,i+1,x,hx=>by
  rw[cD] at hx;rw[cD];exact bW.at h.2 i x hx
 | [],_::_,h,_,_,_=>h.elim
 | _::_,[],h,_,_,_=>h.elim
end
structure TR (txt txt':List UInt8) (a b:Nat) (t t':aL):Prop where
 kind:t'.kind=t.kind
 sf:t.sf+a=t'.sf+b
 st:t.st+a=t'.st+b
 key:(txt'.drop t'.sf).take (t'.st-t'.sf)=(txt.drop t.sf).take (t.st-t.sf)
section
variable {txt txt':List UInt8}{a b m n:Nat}{deep:Prop}{V V':VF}
end
theorem Qj {k:Nat}{x:JR}{r:List aL}{l:Sp}{ns:List aD} (hx:mC k x= .ok r l ns): ∃ns',x= .ok r l ns'/\ns=jP k l.2 ns':=by
 cases x with
 | bad a e=>cases hx
 | ok r' l' ns'=>
  injection hx with h1 h2 h3;subst h1 h2;exact⟨ns',rfl,h3.symm⟩
theorem Qk (l b:List UInt8) (hne:l≠ []) (r1: ∀c,l.head?=some c->bR c=true->bA bR (l++b)=bA bR l) (r2:bA gD (l++b)=bA gD l) (r3:bA dS (l++b)=bA dS l) (hq:l.head?=some 34->bN (l++b) 0=bN l 0):bB (l++b)=bB l:=by
 cases l with
 | nil=>exact absurd rfl hne
 | cons c r=>
  have tk: ∀n,n<=(c::r).length->(c::(r++b)).take n=(c::r).take n:=λn hn=>by
   rw[<-dH,Ab hn]
  rw[dH] at r1 r2 r3 hq;unfold bB;simp only[dH];cases hs:jG c with
  | some k=>rfl
  | none=>
   simp only[];by_cases hb:bR c=true
   ·rw[if_pos hb,if_pos hb,r1 c rfl hb]
   rw[if_neg hb,if_neg hb];by_cases h34:c=34
   ·subst h34;rw[if_pos rfl,if_pos rfl,hq rfl]
   rw[if_neg h34,if_neg h34];by_cases hd:c=45\/dR c=true
   ·rw[if_pos hd,if_pos hd,r2,tk _ (mO _ _)]
   rw[if_neg hd,if_neg hd,r3,tk _ (mO _ _)]
theorem Fs (r:List UInt8) (h:(bB (34::r)).2.2=0):(bN (34::r) 0).2.2=0:=by
 unfold bB at h;simp only[show jG 34=none from rfl] at h;rw[if_neg (by decide),if_pos trivial] at h;by_cases h0:(bN (34::r) 0).2.2=0
 ·exact h0
 ·rw[if_neg h0] at h;exact h
theorem Ql (l b:List UInt8) (h:(bB l).2.2=0) (hq:l.head?=some 34):bN (l++b) 0=bN l 0:=by
 cases l with
 | nil=>cases hq
 | cons c r=>
  obtain rfl:c=34:=by simpa using hq
  have h0:=Fs r h;have hk:=xF (34::r) h0;refine Fl _ _ h0 ?_;rw[Ab (by omega)]
def eR (ts:List aL):List aL:=ts.filter (λt=>t.kind !=1)
theorem Qm (n:Nat) (ts:List aL):eR (ts.map (kF n))=(eR ts).map (kF n):=by
 unfold eR;rw[List.filter_map];rfl
theorem Ac: ∀(f:Nat) (l:List UInt8) (i:Nat),∀t∈(bS f l i).1,t.sf<=t.st/\t.st<=i+l.length
 | 0,l,i,t,ht=>by simp[bS] at ht
 | f+1,[],i,t,ht=>by simp[bS] at ht
 | f+1,c::r,i,t,ht=>by
  have hok:=nS (c::r) (List.cons_ne_nil _ _);rw[iU] at ht;by_cases h0:(bB (c::r)).2.2=0
  ·rw[if_pos h0] at ht;rcases dN.1 ht with rfl | ht
   ·exact⟨by simp,by simp only[];omega⟩
   ·have:=Ac f _ _ t ht;rw[aV] at this;omega
  ·rw[if_neg h0] at ht;simp at ht
theorem Ft: ∀(f:Nat) (l:List UInt8) (i:Nat),(bS f l i).1.length<=l.length
 | 0,l,i=>by simp[bS]
 | f+1,[],i=>by simp[bS]
 | f+1,c::r,i=>by
  have hok:=nS (c::r) (List.cons_ne_nil _ _);rw[iU];by_cases h0:(bB (c::r)).2.2=0
  ·have h1:=Ft f ((c::r).drop (bB (c::r)).2.1) (i+(bB (c::r)).2.1);have h2:=hok.2 h0;rw[aV] at h1;have hlc:(c::r).length=r.length+1:=rfl;rw[if_pos h0];simp only[aT] at h1 ⊢;omega
  ·rw[if_neg h0];simp
theorem Fu (p s q:List UInt8) (a n:Nat) (h:a+n<=s.length):((p++(s++q)).drop (a+p.length)).take n=(s.drop a).take n:=by
 rw[Nat.add_comm,<-kB,List.drop_append_of_le_length (aE _),List.drop_of_length_le (aE _),iL,List.drop_append_of_le_length (by omega),Ab (by rw[aV];omega)]
theorem Fv {α β γ:Type}{R:β->γ->Prop} (f:α->β) (g:α->γ): ∀l:List α,(∀x∈l,R (f x) (g x))->bW R (l.map f) (l.map g)
 | [],_=>trivial
 | x::l,h=>⟨h x iB,Fv f g l λy hy=>h y (List.mem_cons_of_mem _ hy)⟩
theorem Qn (p1 q1 p2 q2 s:List UInt8) (T:List aL) (hT: ∀t∈T,t.sf<=t.st/\t.st<=s.length):bW (TR (p1++(s++q1)) (p2++(s++q2)) p2.length p1.length) (T.map (kF p1.length)) (T.map (kF p2.length)):=
 Fv _ _ T λt ht=>by
  have:=hT t ht;refine⟨rfl,by simp only[kF];omega,by simp only[kF];omega,?_⟩;simp only[kF];rw[show t.st+p2.length-(t.sf+p2.length)=t.st-t.sf by omega,show t.st+p1.length-(t.sf+p1.length)=t.st-t.sf by omega,Fu p2 s q2 _ _ (by omega),Fu p1 s q1 _ _ (by omega)]
theorem Qo (T:List aL):T.map (kF 0)=T:=by
 have:kF 0=id:=by funext t;rfl
 rw[this,List.map_id]
theorem Qp (p q s:List UInt8) (T:List aL) (hT: ∀t∈T,t.sf<=t.st/\t.st<=s.length):bW (TR (p++(s++q)) s 0 p.length) (T.map (kF p.length)) T:=by
 have:=Qn p q [] [] s T hT;rw[iL,List.append_nil,gR,Qo] at this;exact this
def rQ (n:Nat):JR->List aD×Int×Int
 | .bad a e=>([],(a:Int),e)
 | .ok [] _ ns=>(ns,(n:Int),0)
 | .ok (t::_) _ _=>([],(t.sf:Int),2)
def Bd (V:VF):Prop:= ∀rest last nodes key a e,V rest last nodes key= .bad a e->e≠0
theorem Qq {txt:List UInt8}{V:VF} (hV:Bd V) {obj:Bool}{had had':List (List UInt8)}{rest:List aL}{last:Sp}{nodes:List aD}{a:Nat}{e:Int} (h:gE txt V obj had rest last nodes=(.bad a e,had')):e≠0:=by
 unfold gE at h;split at h
 ·injection h with h _;exact hV _ _ _ _ _ _ h
 ·split at h
  ·injection h with h _;injection h with _ h;rw[<-h];decide
  ·split at h
   ·injection h with h _;injection h with _ h;rw[<-h];decide
   ·split at h
    ·injection h with h _;injection h with _ h;rw[<-h];decide
    ·split at h
     ·injection h with h _;injection h with _ h;rw[<-h];decide
     ·split at h
      ·injection h with h _;injection h with _ h;rw[<-h];decide
      ·injection h with h _;exact hV _ _ _ _ _ _ h
theorem Ad {txt:List UInt8}{V:VF} (hV:Bd V) (hE:qQ V) {closing:Nat}{obj:Bool}{n:Nat}: ∀(f:Nat) {had:List (List UInt8)}{rest:List aL}{last:Sp}{nodes:List aD}{a:Nat}{e:Int},rest.length<f->iA txt V closing obj n f had rest last nodes= .bad a e->e≠0
 | 0,_,_,_,_,_,_,hf,_=>by omega
 | f +1,had,rest,last,nodes,a,e,hf,h=>by
  unfold iA at h;split at h
  ·rename_i hk;injection h with h1 h2;subst h1 h2;exact Qq hV hk
  ·rename_i r1 l1 ns1 had1 hk;obtain⟨more,_,h2,h3,_⟩:=xI hE hk;split at h
   ·injection h with _ h;rw[<-h];decide
   ·simp only[aT] at h3;split at h
    ·cases h
    ·split at h
     ·exact Ad hV hE f (by omega) h
     ·injection h with _ h;rw[<-h];decide
theorem Fw {txt:List UInt8}{V:VF} (hV:Bd V) (hE:qQ V) {closing:Nat}{obj:Bool}{n:Nat}{rest:List aL}{last:Sp}{nodes:List aD}{a:Nat}{e:Int} (h:gS txt V closing obj n rest last nodes= .bad a e):e≠0:=by
 unfold gS at h;split at h
 ·exact Ad hV hE 1 (by simp) h
 ·split at h
  ·cases h
  ·exact Ad hV hE _ (by simp) h
theorem Qr {k:Nat}{x:JR}{a:Nat}{e:Int} (hx:mC k x= .bad a e):x= .bad a e:=by
 cases x with
 | bad a' e'=>exact hx
 | ok r' l' ns'=>cases hx
theorem Fx (txt:List UInt8): ∀lv,Bd (bP txt lv)
 | 0=>λrest last nodes key a e h=>by
  unfold bP at h;split at h
  ·injection h with _ h;rw[<-h];decide
  ·injection h with _ h;rw[<-h];decide
 | lv +1=>λrest last nodes key a e h=>by
  have ih:=Fx txt lv;have hE:=mP txt lv;unfold bP at h;split at h
  ·injection h with _ h;rw[<-h];decide
  ·rename_i hk;split at h
   ·injection h with _ h;rw[<-h];decide
   ·cases rest with
    | nil=>exact absurd rfl hk
    | cons t r=>
     simp only[] at h;have h1:=Qr h;split at h1
     ·exact Fw ih hE h1
     ·split at h1
      ·exact Fw ih hE h1
      ·cases h1
theorem Ae (s:List UInt8):eC s=if(dT s).2.2≠0 then([],(dT s).2.1,(dT s).2.2) else rQ s.length (bP s 32 (eR (dT s).1) (0,0) [] (0,0)):=by
 unfold eC eR rQ;rfl
theorem Qs (s:List UInt8) (T:List aL) (hs:s.length<=65536) (hT:bS s.length s 0=(T,none)):eC s=rQ s.length (bP s 32 (eR T) (0,0) [] (0,0)):=by
 have h:dT s=(T,(s.length:Int),0):=by
  unfold dT;rw[if_neg (by omega),hT]
 rw[Ae,h];rfl
theorem Qt {s:List UInt8} (h:(dT s).2.2=0):s.length<=65536/\bS s.length s 0=((dT s).1,none):=by
 unfold dT at h ⊢;by_cases hb:65536<s.length
 ·rw[if_pos hb] at h;exact absurd h (by simp)
 ·rw[if_neg hb] at h ⊢;cases hG:(bS s.length s 0).2 with
  | none=>exact⟨by omega,Prod.ext rfl hG⟩
  | some x=>
   obtain⟨p,e⟩:=x;rw[hG] at h;exact absurd h (xG s.length s 0 p e (aE _) hG).2.2
theorem uZ {s:List UInt8} (h:(eC s).2.2=0):s.length<=65536/\ ∃T l ns,bS s.length s 0=(T,none)/\bP s 32 (eR T) (0,0) [] (0,0)= .ok [] l ns/\eC s=(ns,(s.length:Int),0):=by
 rw[Ae] at h ⊢;by_cases h0:(dT s).2.2=0
 ·rw[if_neg (by simpa using h0)] at h ⊢;obtain⟨h1,h2⟩:=Qt h0;refine⟨h1,(dT s).1,?_⟩;cases hv:bP s 32 (eR (dT s).1) (0,0) [] (0,0) with
  | bad a e=>rw[hv] at h;exact absurd h (Fx s 32 _ _ _ _ _ _ hv)
  | ok r l ns=>
   cases r with
   | cons t r=>rw[hv] at h;exact absurd h (by simp[rQ])
   | nil=>exact⟨l,ns,h2,rfl,rfl⟩
 ·rw[if_pos h0] at h;exact absurd h h0
def Bl (b:List UInt8):Prop:= ∀c∈b,bR c=true
theorem Af {c:UInt8} (h:bR c=true):c=32\/c=9\/c=10\/c=13:=by
 unfold bR at h;simpa [or_assoc] using h
theorem Ag (c:UInt8) (r:List UInt8) (h:bR c=true):bB (c::r)=(1,bA bR (c::r),0):=by
 rcases Af h with rfl|rfl|rfl|rfl<;>rfl
theorem Ah (p:UInt8->Bool) (b:List UInt8): ∀l:List UInt8,(∀c∈l,p c=true)->bA p (l++b)=l.length+bA p b
 | [],_=>by simp
 | c::l,h=>by
  rw[dH,jO,if_pos (h c iB),Ah p b l (λx hx=>h x (List.mem_cons_of_mem _ hx)),aT];omega
theorem Fy (p:UInt8->Bool) (l:List UInt8) (h: ∀c∈l,p c=true):bA p l=l.length:=by
 have:=Ah p [] l h
 rwa [List.append_nil,show bA p []=0 from rfl,Nat.add_zero] at this
theorem Fz (p:UInt8->Bool): ∀l:List UInt8,bA p l=l.length-> ∀c∈l,p c=true
 | [],_,c,hc=>by cases hc
 | d::l,h,c,hc=>by
  rw[jO] at h;by_cases hd:p d=true
  ·rw[if_pos hd,aT] at h;rcases dN.1 hc with rfl | hc
   ·exact hd
   ·exact Fz p l (by omega) c hc
  ·rw[if_neg hd,aT] at h;omega
theorem Ga (p:UInt8->Bool) (b:List UInt8): ∀l:List UInt8,bA p l<l.length->bA p (l++b)=bA p l
 | [],h=>by simp[bA] at h
 | c::l,h=>by
  rw[jO] at h;rw[dH,jO,jO];by_cases hc:p c=true
  ·rw[if_pos hc,aT] at h;rw[if_pos hc,if_pos hc,Ga p b l (by omega)]
  ·rw[if_neg hc,if_neg hc]
theorem vA (f:Nat) (s:List UInt8) (i:Nat) (hf:s.length<=f):eR (bS f s i).1=eR (bS f (s.drop (bA bR s)) (i+bA bR s)).1/\(bS f s i).2=(bS f (s.drop (bA bR s)) (i+bA bR s)).2:=by
 cases s with
 | nil=>exact⟨rfl,rfl⟩
 | cons c r=>
  by_cases hb:bR c=true
  ·have hlc:(c::r).length=r.length+1:=rfl;obtain⟨g,rfl⟩: ∃g,f=g+1:=⟨f-1,by omega⟩;have hk:=mO bR (c::r);have hk1:0<bA bR (c::r):=by rw[jO,if_pos hb];omega
   rw[zZ (g+1) g ((c::r).drop _) _ (by rw[aV];omega) (by rw[aV];omega),iU,Ag c r hb,if_pos rfl];exact⟨rfl,rfl⟩
  ·have:bA bR (c::r)=0:=(by rw[jO,if_neg hb]);rw[this];exact⟨rfl,rfl⟩
theorem Qu (b s:List UInt8) (hb:Bl b):eR (bS (b++s).length (b++s) 0).1=(eR (bS s.length s 0).1).map (kF b.length)/\((bS (b++s).length (b++s) 0).2=none↔(bS s.length s 0).2=none):=by
 obtain⟨h1,h2⟩:=vA (b++s).length (b++s) 0 (aE _);obtain⟨g1,g2⟩:=vA s.length s 0 (aE _);rw[Ah bR s b hb] at h1 h2;have hd:(b++s).drop (b.length+bA bR s)=s.drop (bA bR s):=by
  rw[<-kB,uW]
 rw[hd,show 0+(b.length+bA bR s)=(0+bA bR s)+b.length by omega,Fq,zZ (b++s).length s.length (s.drop (bA bR s)) _ (by rw[aV,aS];omega) (by rw[aV];omega)] at h1 h2;refine⟨by rw[h1,g1,Qm],?_⟩;rw[h2,g2];simp only[Option.map_eq_none_iff]
theorem Gb: ∀(f:Nat) (l:List UInt8) (i:Nat) (acc:List UInt8),(bY f l i acc).2.2=0->l[((bY f l i acc).2.1-i).toNat-1]?=some 34
 | 0,_,_,_,h=>by simp[bY] at h
 | _+1,[],_,_,h=>by simp[bY] at h
 | f+1,c::r,i,acc,h=>by
  rw[nR] at h ⊢;by_cases h34:c=34
  ·rw[if_pos h34];rw[show (((i:Int)+1-i).toNat-1)=0 by omega,h34];rfl
  rw[if_neg h34] at h ⊢;by_cases h0:(cI (c::r)).2=0
  ·rw[if_pos h0] at h;exact absurd h (by simp)
  rw[if_neg h0] at h ⊢;have hp:=nP (c::r) (List.cons_ne_nil _ _);have hok:=tK f _ _ _ h;have ih:=Gb f _ _ _ h;rw[iI] at ih;rw[<-ih];congr 1;omega
theorem Qv (l:List UInt8) (h:(bN l 0).2.2=0):l[(bN l 0).2.1.toNat-1]?=some 34:=by
 unfold bN at h ⊢;simp only[Int.toNat_zero] at h ⊢;by_cases h1:0<=(0:Int)/\l[0]?=some 34
 ·rw[if_pos h1] at h ⊢;have:=Gb _ _ _ _ h;have hok:=tK _ _ _ _ h;rw[iI] at this;rw[<-this];congr 1;omega
 ·rw[if_neg h1] at h;exact absurd h (by simp)
theorem Qw {c:UInt8} (h:bR c=true):gD c=false/\dS c=false/\c≠34:=by
 rcases Af h with rfl|rfl|rfl|rfl<;>exact⟨by decide,by decide,by decide⟩
theorem Qx (c:UInt8) (r b:List UInt8) (hc:bR c=false) (hb:Bl b):((bB (c::r++b)).2.2=0↔(bB (c::r)).2.2=0)/\((bB (c::r)).2.2=0->bB (c::r++b)=bB (c::r)):=by
 have key:((bB (c::r++b)).2.2=0\/(bB (c::r)).2.2=0)->bB (c::r++b)=bB (c::r):=by
  intro ho;cases b with
  | nil=>rw[List.append_nil]
  | cons d b=>
   have hd:=Qw (hb d iB);refine Qk (c::r) (d::b) (List.cons_ne_nil _ _) (λx hx hbx=>?_) (zY gD d b hd.1 _) (zY dS d b hd.2.1 _) (λhq=>?_)
   ·obtain rfl:c=x:=(by simpa using hx);rw[hc] at hbx;cases hbx
   ·rcases ho with ho | ho
    ·obtain rfl:c=34:=(by simpa using hq);have h0:=Fs (r++d::b) ho;have hl:=Qv _ h0;have hk:=xF _ h0;have hlen:(bN (34::(r++d::b)) 0).2.1.toNat<=(34::r).length:=by
      apply Classical.byContradiction;intro hgt;rw[<-dH,kX (by rw[<-dH] at hgt;omega)] at hl;have:=hb _ (aX hl);exact absurd this (by decide)
     refine(Fl (34::(r++d::b)) (34::r) h0 ?_).symm;rw[<-dH];rw[<-dH] at hlen;rw[Ab hlen]
    ·exact Ql _ _ ho hq
 refine⟨⟨λh=>by rw[<-key (.inl h)];exact h,λh=>by rw[key (.inr h)];exact h⟩,λh=>key (.inr h)⟩
theorem Ai (b:List UInt8) (hb:Bl b): ∀(f g:Nat) (s:List UInt8) (i:Nat),s.length<=f->s.length+b.length<=g->eR (bS g (s++b) i).1=eR (bS f s i).1/\((bS g (s++b) i).2=none↔(bS f s i).2=none)
 | f,g,[],i,hf,hg=>by
  obtain⟨h1,h2⟩:=vA g b i (by simpa using hg);rw[Fy bR b hb,List.drop_length,lM] at h1 h2;rw[iL,h1,h2,lM];exact⟨rfl,Iff.rfl⟩
 | 0,_,_::_,_,h,_=>by simp at h
 | f +1,g,c::r,i,hf,hg=>by
  have hlc:(c::r).length=r.length+1:=rfl;obtain⟨g,rfl⟩: ∃k,g=k+1:=⟨g-1,by omega⟩;by_cases hc:bR c=true
  ·by_cases hfull:bA bR (c::r)=(c::r).length
   ·have hall:=Fz bR _ hfull;obtain⟨h1,h2⟩:=vA (g+1) (c::r++b) i (by rw[aS];omega);obtain⟨g1,g2⟩:=vA (f+1) (c::r) i (by omega);have hall2: ∀x∈c::r++b,bR x=true:=λx hx=>by
     rcases pP.1 hx with hx | hx
     ·exact hall x hx
     ·exact hb x hx
    rw[Fy bR _ hall2,List.drop_length,lM] at h1 h2;rw[hfull,List.drop_length,lM] at g1 g2;rw[h1,h2,g1,g2];exact⟨rfl,Iff.rfl⟩
   ·have hlt:bA bR (c::r)<(c::r).length:=by have:=mO bR (c::r);omega
    have hr:=Ga bR b (c::r) hlt;have hk1:0<bA bR (c::r):=by rw[jO,if_pos hc];omega
    rw[dH] at hr;have hd:(c::(r++b)).drop (bA bR (c::r))=(c::r).drop (bA bR (c::r))++b:=by
     rw[<-dH,List.drop_append_of_le_length (by omega)]
    have hdl:((c::r).drop (bA bR (c::r))).length=(c::r).length-bA bR (c::r):=aV;obtain⟨i1,i2⟩:=Ai b hb f g ((c::r).drop (bA bR (c::r))) (i+bA bR (c::r)) (by omega) (by omega);rw[dH,iU,iU,Ag c _ hc,Ag c _ hc,if_pos rfl,if_pos rfl,hr,hd];exact⟨i1,i2⟩
  ·have hcf:bR c=false:=by cases h:bR c with
    | true=>exact absurd h hc
    | false=>rfl
   obtain⟨t1,t2⟩:=Qx c r b hcf hb;by_cases h0:(bB (c::r)).2.2=0
   ·have ht:=t2 h0;have hle:=(nS (c::r) (List.cons_ne_nil _ _)).1;have hok:=(nS (c::r) (List.cons_ne_nil _ _)).2 h0;have hd:(c::(r++b)).drop (bB (c::r)).2.1=(c::r).drop (bB (c::r)).2.1++b:=by
     rw[<-dH,List.drop_append_of_le_length hle]
    have hdl:((c::r).drop (bB (c::r)).2.1).length=(c::r).length-(bB (c::r)).2.1:=aV;obtain⟨i1,i2⟩:=Ai b hb f g ((c::r).drop (bB (c::r)).2.1) (i+(bB (c::r)).2.1) (by omega) (by omega);rw[dH] at ht;rw[dH,iU,iU,ht,if_pos h0,if_pos h0,hd];refine⟨?_,i2⟩;show eR (_::_)=eR (_::_);unfold eR at i1 ⊢;rw[List.filter_cons,List.filter_cons,i1]
   ·have h0': ¬(bB (c::(r++b))).2.2=0:=λh=>h0 (t1.1 h);rw[dH,iU,iU,if_neg h0,if_neg h0'];exact⟨rfl,by simp⟩
theorem Qy (p q s:List UInt8) (hp:Bl p) (hq:Bl q):eR (bS (p++(s++q)).length (p++(s++q)) 0).1=(eR (bS s.length s 0).1).map (kF p.length)/\((bS (p++(s++q)).length (p++(s++q)) 0).2=none↔(bS s.length s 0).2=none):=by
 obtain⟨a1,a2⟩:=Qu p (s++q) hp;obtain⟨b1,b2⟩:=Ai q hq s.length (s++q).length s 0 (aE _) (by rw[aS];omega);exact⟨by rw[a1,b1],a2.trans b2⟩
theorem Qz {α β:Type}{x:α×Option β} (h:x.2=none):x=(x.1,none):=by rw[<-h]
theorem Ra {s:List UInt8}{T:List aL}{l:Sp}{ns:List aD} (hT:bS s.length s 0=(T,none)) (hv:bP s 32 (eR T) (0,0) [] (0,0)= .ok [] l ns):1<=ns.length/\ns.length<=s.length/\(∀t∈eR T,t.sf<=t.st/\t.st<=s.length):=by
 have hT1:(bS s.length s 0).1=T:=by rw[hT]
 have hcnt:(eR T).length<=s.length:=by
  have:=Ft s.length s 0;rw[hT1] at this;exact aW (List.length_filter_le _ _) this
 obtain⟨more,hm,hm1,hm2,_⟩:=mP s 32 _ _ _ _ _ _ _ hv;rw[iL] at hm;subst hm;simp only[gR] at hm2;refine⟨hm1,by omega,λt ht=>?_⟩;have:=Ac s.length s 0 t (by rw[hT1];exact(List.mem_filter.1 ht).1);omega
theorem Rb {pre:List aD}{x:aD}{post nodes:List aD} (h:fJ pre x post nodes):nodes[pre.length]?=some x:=by
 rw[h.1,kX (aE _),Nat.sub_self];rfl
theorem Rc {pre:List aD}{x:aD}{post nodes:List aD} (h:fJ pre x post nodes):nodes.length=pre.length+1+post.length:=by
 rw[h.1,aS,aT];omega
end
section
open Go.Lib
end
section
open Go.Lib (compareBytes)
open Go.Lib (compareBytes compareInt)
open Go.Lib (compareBytes compareInt itoa decDigits nDigits)
theorem Gc (p:UInt8->Bool): ∀l:List UInt8,(∀c∈l,p c=true)->l.dropWhile p= []
 | [],_=>rfl
 | c::t,h=>by rw[List.dropWhile_cons,if_pos (h c iB)];exact Gc p t λx hx=>h x (List.mem_cons_of_mem _ hx)
theorem Rd (p:UInt8->Bool) (l:List UInt8) (h: ∀c∈l,p c=false):cV p l=(l,[],false):=by
 unfold cV;rw[Gc _ l λc hc=>by simp[h c hc]]
theorem Gd (p:UInt8->Bool): ∀(a:List UInt8) (b:UInt8) (t:List UInt8),(∀c∈a,p c=false)->p b=true->cV p (a++b::t)=(a,t,true)
 | [],b,t,_,hb=>by simp[cV,hb]
 | c::a,b,t,h,hb=>by
  have ih:=Gd p a b t (λx hx=>h x (List.mem_cons_of_mem _ hx)) hb;have hc:=h c (iB);unfold cV at ih ⊢;rw[dH,List.dropWhile_cons,List.takeWhile_cons,hc];simp only[Bool.not_false,if_true];cases hd:(a++b::t).dropWhile (λc=>!p c) with
  | nil=>rw[hd] at ih;simp at ih
  | cons y r=>rw[hd] at ih;simp at ih ⊢;exact ih
theorem Re (u:Nat): ∀k,u<10 ^ k->1<=k->(decDigits u).length<=k:=by
 induction u using Nat.strongRecOn with
 | _ u ih=>
  intro k hk h1;by_cases h:u<10
  ·rw[decDigits,dif_pos h];exact h1
  ·rw[decDigits,dif_neg h,aS];obtain⟨m,rfl⟩: ∃m,k=m+1:=⟨k-1,by omega⟩;rw[Nat.pow_succ] at hk;rcases Nat.eq_zero_or_pos m with h0 | h0
   ·subst h0;simp at hk;omega
   ·have:=ih (u / 10) (by omega) m (by omega) h0;simp;omega
theorem vB (l:List UInt8):l=cW l++List.replicate (l.length-(cW l).length) 48:=by
 unfold cW;have h:=List.takeWhile_append_dropWhile (p:=λx:UInt8=>x==48) (l:=l.reverse);have h1:(l.reverse.takeWhile (· ==48))=List.replicate (l.reverse.takeWhile (· ==48)).length 48:=by
  rw[List.eq_replicate_iff];refine⟨rfl,λb hb=>?_⟩;have:=fG.1 (List.all_takeWhile (p:=λx:UInt8=>x==48) (l:=l.reverse)) b hb;simpa using this
 have h2:l=(l.reverse.dropWhile (· ==48)).reverse++(l.reverse.takeWhile (· ==48)).reverse:=by
  rw[<-List.reverse_append,h,List.reverse_reverse]
 have h3:l.length-(l.reverse.dropWhile (· ==48)).reverse.length=(l.reverse.takeWhile (· ==48)).length:=by
  have:=congrArg List.length h2;rw[aS,(show (l.reverse.takeWhile (· ==48)).reverse.length=(l.reverse.takeWhile (· ==48)).length from List.length_reverse)] at this;omega
 rw[h3,<-List.reverse_replicate,<-h1];exact h2
theorem Ge (l:List UInt8):(cW l).getLast?≠some 48:=by
 unfold cW;rw[List.getLast?_reverse];intro h;have:=List.head?_dropWhile_not (p:=λx:UInt8=>x==48) (l:=l.reverse);rw[h] at this;simp at this
open Go.Lib (compareBytes compareInt itoa decDigits nDigits)
def iV (n:eB):List UInt8:=
 if lJ n=false then [] else if n.dig= [] then [48] else
 (if n.neg then [45] else [])++(n.dig++(if n.exp≠0 then 101::itoa n.exp else []))
theorem Gf {p:UInt8->Bool}{l a b:List UInt8} (h:cV p l=(a,b,false)):a=l/\b= []:=by
 unfold cV at h;split at h
 ·injection h with h1 h2;injection h2 with h3 _;exact⟨h1.symm,h3.symm⟩
 ·injection h with h1 h2;injection h2 with h3 h4;cases h4
theorem tM {l:List UInt8} (h:fA l=true):l≠ []/\l.all dR=true:=by
 unfold fA at h;rw[fB] at h;exact⟨by intro e;rw[e] at h;simp at h,h.2⟩
theorem Gg {l:List UInt8} (h:l≠ []) (h2:l.all dR=true):fA l=true:=by
 unfold fA;rw[h2,Bool.and_true];cases l with
 | nil=>exact absurd rfl h
 | cons _ _=>rfl
theorem Gh {l:List UInt8} (h:l.head?≠some 48) (hne:l≠ []):cW l≠ []/\(cW l).head?≠some 48:=by
 have hsp:=vB l;have hn:cW l≠ []:=by
  intro e;rw[e,iL] at hsp;cases hc:l with
  | nil=>exact hne hc
  | cons x t=>
   rw[hc] at hsp h;simp only[aT,gR,Nat.sub_zero,List.replicate_succ] at hsp;injection hsp with hx _;apply h;rw[hx];rfl
 refine⟨hn,?_⟩;rw[hsp] at h;cases hc:cW l with
 | nil=>exact absurd hc hn
 | cons x t=>rw[hc] at h;exact h
theorem Gi (l:List UInt8):(iJ l).head?≠some 48:=by
 unfold iJ;intro h;have:=List.head?_dropWhile_not (p:=λx:UInt8=>x==48) (l:=l);rw[h] at this;simp at this
theorem Aj {l:List UInt8} (h:l.all dR=true):(iJ l).all dR=true:=by
 rw[fG] at h ⊢;intro x hx;exact h x ((List.dropWhile_sublist _).subset hx)
theorem Gj {l:List UInt8} (h:l.all dR=true):(cW l).all dR=true:=by
 rw[vB l,List.all_append,fB] at h;exact h.1
theorem Gk {l:List UInt8}{x:tI} (h:kC l=some x):fA x.whole=true/\x.rest.all dR=true/\x.exp.all dR=true:=by
 unfold kC at h;simp only[] at h;have hx0:(cV jE (gC l)).2.2=false->(if(cV jE (gC l)).2.2=true then gZ (cV jE (gC l)).2.1 else [])= []:=λe=>by rw[e];rfl
 generalize (if(cV jE (gC l)).2.2=true then gZ (cV jE (gC l)).2.1 else [])=xx at h hx0;split at h
 ·rename_i hok;injection h with h;subst h;unfold rM at hok;simp only[fB,Bool.or_eq_true,Bool.not_eq_true'] at hok;obtain⟨⟨h1,h2,h3⟩,_⟩:=hok;refine⟨h2,?_,?_⟩
  ·rcases h3 with h3 | h3
   ·have:=(Gf (p:=qP) (l:=(cV jE (gC l)).1) (a:=(cV qP (cV jE (gC l)).1).1) (b:=(cV qP (cV jE (gC l)).1).2.1) (by rw[<-h3])).2;rw[this];rfl
   ·exact(tM h3).2
  ·rcases h1 with h1 | h1
   ·rw[hx0 h1];rfl
   ·exact(tM h1).2
 ·cases h
theorem Rf {x:tI}{n:eB} (h1:fA x.whole=true) (h2:x.rest.all dR=true) (h:pM x=(n,0)):lJ n=true:=by
 unfold pM at h;split at h
 ·injection h with _ h;cases h
 rename_i hlen;split at h
 ·injection h with _ h;cases h
 simp only[] at h;generalize (if x.low=true then-gJ x.exp else gJ x.exp)=ee at h;split at h
 ·injection h with h _;subst h;rfl
 rename_i hd;split at h
 ·injection h with _ h;cases h
 rename_i hk;injection h with h _;subst h;have hall:(iJ (x.whole++x.rest)).all dR=true:=Aj (by rw[List.all_append,fB];exact⟨(tM h1).2,h2⟩);have hh:=Gh (Gi _) hd;have hl1:(iJ (x.whole++x.rest)).length<=x.whole.length+x.rest.length:=by
  have:=(List.dropWhile_sublist (p:=λc:UInt8=>c==48) (l:=x.whole++x.rest)).length_le;rw[aS] at this;exact this
 have hl2:=congrArg List.length (vB (iJ (x.whole++x.rest)));rw[aS] at hl2;refine aN (.inr ⟨Gg hh.1 (Gj hall),?_,hh.2,Ge _,?_,?_⟩)
 ·show (cW (iJ (x.whole++x.rest))).length<=1000;omega
 ·simp only[];omega
 ·simp only[];omega
theorem Gl {l:List UInt8}{n:eB} (h:cZ l=(n,0)):lJ n=true:=by
 unfold cZ at h;cases hl:kC l with
 | none=>rw[hl] at h;injection h with _ h;cases h
 | some x=>
  rw[hl] at h;obtain⟨h1,h2,_⟩:=Gk hl;exact Rf h1 h2 h
abbrev aA:=List UInt8
inductive VT where
 | mk (kind:Int) (text:aA) (keys:List aA) (items:List VT)
def VT.kind:VT->Int | .mk k _ _ _=>k
def VT.text:VT->aA | .mk _ s _ _=>s
def VT.keys:VT->List aA | .mk _ _ ks _=>ks
def VT.items:VT->List VT | .mk _ _ _ l=>l
theorem VT.eta (t:VT):VT.mk t.kind t.text t.keys t.items=t:=by cases t;rfl
theorem VT.ind {P:VT->Prop} (h: ∀k s ks l,(∀x∈l,P x)->P (.mk k s ks l)) (t:VT):P t:=by
 match t with
 | .mk k s ks l=>exact h k s ks l (λx hx=>VT.ind h x)
termination_by SizeOf.sizeOf t
decreasing_by
 have:=List.sizeOf_lt_of_mem hx;simp;omega
def kG (l:List aA):Nat:=(l.map List.length).sum
theorem Gm (y:aA) (l:List aA):kG (y::l)=y.length+kG l:=rfl
theorem Rg {l:List aA}{x:aA} (h:x∈l):x.length<=kG l:=by
 induction l with
 | nil=>cases h
 | cons y l ih=>
  rw[Gm];rcases dN.1 h with rfl | h
  ·omega
  ·have:=ih h;omega
mutual
def VT.size:VT->Nat
 | .mk _ _ _ l=>eS l+1
def eS:List VT->Nat
 | []=>0
 | x::l=>x.size+eS l
end
mutual
def VT.depth:VT->Nat
 | .mk _ _ _ l=>dI l+1
def dI:List VT->Nat
 | []=>0
 | x::l=>max x.depth (dI l)
end
mutual
def VT.bulk:VT->Nat
 | .mk _ s ks l=>s.length+(kG ks+ks.length)+eK l+1
def eK:List VT->Nat
 | []=>0
 | x::l=>x.bulk+eK l
end
mutual
def dO (p:VT->Bool):VT->Bool
 | .mk k s ks l=>p (.mk k s ks l)&&pQ p l
def pQ (p:VT->Bool):List VT->Bool
 | []=>true
 | x::l=>dO p x&&pQ p l
end
theorem Rh (l:List VT):eS l=(l.map VT.size).sum:=by
 induction l with
 | nil=>rfl
 | cons x l ih=>rw[eS,ih];rfl
theorem Gn (p:VT->Bool) (l:List VT):pQ p l=l.all (dO p):=by
 induction l with
 | nil=>rfl
 | cons x l ih=>rw[pQ,ih];rfl
theorem Gp (a b:List VT):eS (a++b)=eS a+eS b:=by simp[Rh]
theorem Gq (a b:List VT):dI (a++b)=max (dI a) (dI b):=by
 induction a with
 | nil=>simp[dI]
 | cons x a ih=>rw[dH,dI,dI,ih];omega
theorem Ak (t:VT):0<t.size:=by cases t;rw[VT.size];omega
theorem vC (t:VT):t.size<=t.bulk:=by
 induction t using VT.ind with
 | h k s ks l ih=>
  rw[VT.size,VT.bulk];have:eS l<=eK l:=by
   clear k s ks
   induction l with
   | nil=>exact aE _
   | cons x l ihl=>
    rw[eS,eK];have h1:=ih x iB;have h2:=ihl (λy hy=>ih y (List.mem_cons_of_mem _ hy));omega
  omega
theorem Ri (l:List VT):eS l<=eK l:=by
 induction l with
 | nil=>exact aE _
 | cons x l ih=>rw[eS,eK];have:=vC x;omega
theorem Al (t:VT):t.depth<=t.size:=by
 induction t using VT.ind with
 | h k s ks l ih=>
  rw[VT.size,VT.depth];have:dI l<=eS l:=by
   clear k s ks
   induction l with
   | nil=>exact aE _
   | cons x l ihl=>
    rw[eS,dI];have h1:=ih x iB;have h2:=ihl (λy hy=>ih y (List.mem_cons_of_mem _ hy));omega
  omega
theorem Am (l:List VT):dI l<=eK l:=by
 induction l with
 | nil=>exact aE _
 | cons x l ih=>rw[dI,eK];have:=Al x;have:=vC x;omega
theorem rR (l:List VT):l.length<=eK l:=by
 induction l with
 | nil=>exact aE _
 | cons x l ih=>rw[eK,aT];have:=Ak x;have:=vC x;omega
theorem tN {l:List VT}{x:VT} (h:x∈l):x.bulk<=eK l:=by
 induction l with
 | nil=>cases h
 | cons y l ih=>
  rw[eK];rcases dN.1 h with rfl | h
  ·omega
  ·have:=ih h;omega
theorem Rj {l:List VT}{x:VT} (h:x∈l):x.size<=eS l:=by
 induction l with
 | nil=>cases h
 | cons y l ih=>
  rw[eS];rcases dN.1 h with rfl | h
  ·omega
  ·have:=ih h;omega
theorem Gr {l:List VT}{x:VT} (h:x∈l):x.depth<=dI l:=by
 induction l with
 | nil=>cases h
 | cons y l ih=>
  rw[dI];rcases dN.1 h with rfl | h
  ·omega
  ·have:=ih h;omega
end
section
open Go.RowKit
def nT (w:World) (p:Option Addr) (l:List aA):Prop:=l= []\/ ∃g o,p=some ⟨g,o,none⟩/\g<w.heap.size/\ ∀(j:Nat) (x:aA),l[j]?=some x->w.cell? ⟨g,o+j,none⟩=some (.string (bs x))
theorem nT.keep {w w':World}{p:Option Addr}{l:List aA} (h:nT w p l) (hb:Below w.heap.size w w'):nT w' p l:=by
 rcases h with h | ⟨g,o,h2,h3,h4⟩
 ·exact .inl h
 ·exact .inr ⟨g,o,h2,iN h3 hb.size,λj x hx=>by rw[hb.cell (p:=⟨g,o+j,none⟩) h3];exact h4 j x hx⟩
theorem nT.at_ {w:World}{p:Option Addr}{l:List aA} (h:nT w p l) {j:Nat}{x:aA} (hx:l[j]?=some x): ∃g o,p=some ⟨g,o,none⟩/\w.cell? ⟨g,o+j,none⟩=some (.string (bs x)):=by
 rcases h with h | ⟨g,o,h2,h3,h4⟩
 ·rw[h] at hx;simp at hx
 ·exact⟨g,o,h2,h4 j x hx⟩
def SV (w:World) (v:Value) (l:List aA):Prop:= ∃p c,v= .slice p l.length c/\l.length<=c/\nT w p l
theorem SV.keep {w w':World}{v:Value}{l:List aA} (h:SV w v l) (hb:Below w.heap.size w w'):SV w' v l:=by
 obtain⟨p,c,h1,h2,h3⟩:=h;exact⟨p,c,h1,h2,h3.keep hb⟩
def VD (w:World):Nat->VT->Value->Value->Prop
 | 0,_,_,_=>False
 | n+1,t,kv,iv=>SV w kv t.keys/\ ∃p c,iv= .slice p t.items.length c/\t.items.length<=c/\(t.items= []\/ ∃g o,p=some ⟨g,o,none⟩/\g<w.heap.size/\ ∀(j:Nat) (x:VT),t.items[j]?=some x-> ∃kv' iv',w.cell? ⟨g,o+j*4,none⟩=some (.int .i64 x.kind)/\w.cell? ⟨g,o+j*4+1,none⟩=some (.string (bs x.text))/\w.cell? ⟨g,o+j*4+2,none⟩=some kv'/\w.cell? ⟨g,o+j*4+3,none⟩=some iv'/\VD w n x kv' iv')
def vv (t:VT) (kv iv:Value):Value:= .agg #[.int .i64 t.kind, .string (bs t.text),kv,iv]
theorem VD.keep {w w':World} (hb:Below w.heap.size w w'): ∀ {n:Nat}{t:VT}{kv iv:Value},VD w n t kv iv->VD w' n t kv iv
 | 0,_,_,_,h=>h
 | n+1,t,kv,iv,h=>by
  obtain⟨h1,p,c,h2,h3,h4⟩:=h;refine⟨h1.keep hb,p,c,h2,h3,?_⟩;rcases h4 with h4 | ⟨g,o,h4,h5,h6⟩
  ·exact .inl h4
  ·refine .inr ⟨g,o,h4,iN h5 hb.size,λj x hx=>?_⟩;obtain⟨kv',iv',e0,e1,e2,e3,e4⟩:=h6 j x hx;exact⟨kv',iv',by rw[hb.cell (p:=⟨g,_,none⟩) h5];exact e0,by rw[hb.cell (p:=⟨g,_,none⟩) h5];exact e1,by rw[hb.cell (p:=⟨g,_,none⟩) h5];exact e2,by rw[hb.cell (p:=⟨g,_,none⟩) h5];exact e3,VD.keep hb e4⟩
def tO (w:World) (m:Nat) (p:Option Addr) (l:List VT):Prop:= ∀(j:Nat) (x:VT),l[j]?=some x-> ∃g o kv' iv',p=some ⟨g,o,none⟩/\g<w.heap.size/\w.cell? ⟨g,o+j*4,none⟩=some (.int .i64 x.kind)/\w.cell? ⟨g,o+j*4+1,none⟩=some (.string (bs x.text))/\w.cell? ⟨g,o+j*4+2,none⟩=some kv'/\w.cell? ⟨g,o+j*4+3,none⟩=some iv'/\VD w m x kv' iv'
theorem tO.keep {w w':World}{m:Nat}{p:Option Addr}{l:List VT} (h:tO w m p l) (hb:Below w.heap.size w w'):tO w' m p l:=by
 intro j x hx;obtain⟨g,o,kv,iv,e0,e1,e2,e3,e4,e5,e6⟩:=h j x hx;exact⟨g,o,kv,iv,e0,iN e1 hb.size,by rw[hb.cell (p:=⟨g,_,none⟩) e1];exact e2,by rw[hb.cell (p:=⟨g,_,none⟩) e1];exact e3,by rw[hb.cell (p:=⟨g,_,none⟩) e1];exact e4,by rw[hb.cell (p:=⟨g,_,none⟩) e1];exact e5,e6.keep hb⟩
theorem VD.parts {w:World}{n:Nat}{t:VT}{kv iv:Value} (h:VD w n t kv iv): ∃m,n=m+1/\SV w kv t.keys/\ ∃p c,iv= .slice p t.items.length c/\t.items.length<=c/\tO w m p t.items:=by
 cases n with
 | zero=>exact h.elim
 | succ m=>
  obtain⟨h1,p,c,h2,h3,h4⟩:=h;refine⟨m,rfl,h1,p,c,h2,h3,λj x hx=>?_⟩;rcases h4 with h4 | ⟨g,o,h4,h5,h6⟩
  ·rw[h4] at hx;simp at hx
  ·obtain⟨kv',iv',e⟩:=h6 j x hx;exact⟨g,o,kv',iv',h4,h5,e⟩
theorem VD.form {w:World}{n:Nat}{t:VT}{kv iv:Value} (h:VD w n t kv iv): ∃pk ck p c,kv= .slice pk t.keys.length ck/\iv= .slice p t.items.length c:=by
 obtain⟨_,_,⟨pk,ck,h1,_,_⟩,p,c,h2,_,_⟩:=h.parts;exact⟨pk,ck,p,c,h1,h2⟩
def cR (w:World) (b:Nat) (t:VT) (kv iv:Value):Prop:=w.heap[b]?=some (.cells #[.int .i64 t.kind, .string (bs t.text),kv,iv] 26)
theorem cR.new (w:World) (t:VT) (kv iv:Value):cR (w.alloc (.cells #[.int .i64 t.kind, .string (bs t.text),kv,iv] 26)) w.heap.size t kv iv:=heap_alloc_new w _
theorem cR.keep {w w':World}{b:Nat}{t:VT}{kv iv:Value} (h:cR w b t kv iv) (hb:Below w.heap.size w w'):cR w' b t kv iv:=by
 unfold cR at h;exact(hb.block _ (aF h)).trans h
theorem cR.cells {w:World}{b:Nat}{t:VT}{kv iv:Value} (h:cR w b t kv iv):w.cell? ⟨b,0,none⟩=some (.int .i64 t.kind)/\w.cell? ⟨b,1,none⟩=some (.string (bs t.text))/\w.cell? ⟨b,2,none⟩=some kv/\w.cell? ⟨b,3,none⟩=some iv:=by
 unfold cR at h;refine⟨?_,?_,?_,?_⟩<;>simp[World.cell?,h]
theorem vD {α:Type}{l:List α}{k:Nat}{x:α} (h:l[k]?=some x):l.take (k+1)=l.take k++ [x]:=by
 rw[List.take_add_one,h];rfl
theorem Gs: ∀(n:Nat) (t:VT) (kv iv:Value) (w:World),VD w n t kv iv->t.bulk<=1099511627776->
  Calls Tryz.prog 78 #[vv t kv iv] w λe w'=>e= .returned (.int .i64 (t.size:Int))/\Below w.heap.size w w':=by
 intro n
 induction n with
 | zero=>intro t kv iv w h;exact h.elim
 | succ m ih=>
  intro t kv iv w h hbk;obtain⟨m',hm,hsv,p,c,rfl,hlc,hit⟩:=h.parts;obtain rfl:m=m':=by omega
  obtain⟨k,s,ks,l⟩:=t;obtain⟨R,hR⟩:=exQ<|(VT.mk k s ks l).size;rw[hR];rw[VT.size] at hR;simp only[VT.items] at hlc hit;have hbl:eK l<=1099511627776:=by rw[VT.bulk] at hbk;omega
  have hll:l.length<=1099511627776:=aW (rR l) hbl;have HR:=hid hR;have HIT:=hid hit;have HIH:=hid ih;clear hR hit ih h hsv hm hbk;unfold vv;simp only[VT.kind,VT.text,VT.items];go_enter Tryz.func78,Tryz.ntmps78;go_wp2_with fail;go_loopw [3,9] (λs3 s9 wr=> ∃(i:Nat),s3= .int .i64 ((eS (l.take i)+1:Nat):Int)/\s9= .int .i64 (i:Int)/\i<=l.length/\Hid (Below w.heap.size w wr)) (λ_ s9 _=>l.length-(RowKit.intOf s9).toNat)
  case atStart=>exact⟨0,rfl,rfl,cN _,hid (aH w _)⟩
  case round=>
   obtain⟨i,rfl,rfl,hi,HBr⟩:=hrel;by_cases hil:i<l.length
   ·obtain⟨x,hx⟩: ∃x,l[i]?=some x:=⟨_,bJ hil⟩;obtain⟨g,o,kv',iv',rfl,hg,n0,n1,n2,n3,hvd⟩:=HIT.out.keep HBr.out i x hx;obtain⟨pk,ck,px,cx,rfl,rfl⟩:=hvd.form;have hxb:=aW (tN (aX hx)) hbl;have hi1:(i:Int)<(l.length:Int):=(by omega);have dk:decide ((i:Int)<(l.length:Int))=true:=aN hi1;have hsz:eS (l.take i)+1+x.size=eS (l.take (i+1))+1:=by rw[vD hx,Gp,eS,eS];omega
    have hbd:eS (l.take (i+1))<=eK l:=by
     have h1:eS (l.take (i+1))<=eS l:=by
      have:=Gp (l.take (i+1)) (l.drop (i+1));rw[rO] at this;omega
     exact aW h1 (Ri l)
    have HX:=hid hx;have HVD:=hid hvd;have HSZ:=hid hsz;have HBd:=hid hbd;clear hx hvd hsz hbd;go_upto_region 5 with fail;have HB5:=hid (aH wr (.cells #[.int .i64 x.kind, .string (bs x.text), .slice pk x.keys.length ck, .slice px x.items.length cx] 26));have HC:=hid (HIH.out x _ _ (wr.alloc (.cells #[.int .i64 x.kind, .string (bs x.text), .slice pk x.keys.length ck, .slice px x.items.length cx] 26)) (HVD.out.keep HB5.out) hxb);unfold vv at HC;go_wp2_with fail;refine HC.out.mono ?_;rintro e w2 ⟨rfl,hb2⟩;have HB6:=hid (aC HBr.out (aC HB5.out hb2));have hbd:=HBd.out;have hsz:=HSZ.out;have hszz:((eS (l.take i)+1:Nat):Int)+(x.size:Int)=((eS (l.take (i+1))+1:Nat):Int):=(by omega);clear hb2;go_wp2_with fail;go_roundw
    ·exact⟨i+1,by congr 1<;>omega,rfl,hil,HB6⟩
    ·simp only[RowKit.intOf];omega
   ·have dk:decide ((i:Int)<(l.length:Int))=false:=aJ (by omega);obtain rfl:i=l.length:=(by omega);rw[List.take_length];have hdl:dI l<=1099511627776:=aW (Am l) hbl;go_wp2_with fail;go_ret;exact⟨by rw[<-HR.out];first | rfl | simp,HBr.out⟩
theorem Gt: ∀(n:Nat) (t:VT) (kv iv:Value) (w:World),VD w n t kv iv->t.bulk<=1099511627776->
  Calls Tryz.prog 79 #[vv t kv iv] w λe w'=>e= .returned (.int .i64 (t.depth:Int))/\Below w.heap.size w w':=by
 intro n
 induction n with
 | zero=>intro t kv iv w h;exact h.elim
 | succ m ih=>
  intro t kv iv w h hbk;obtain⟨m',hm,hsv,p,c,rfl,hlc,hit⟩:=h.parts;obtain rfl:m=m':=by omega
  obtain⟨k,s,ks,l⟩:=t;obtain⟨R,hR⟩:=exQ<|(VT.mk k s ks l).depth;rw[hR];rw[VT.depth] at hR;simp only[VT.items] at hlc hit;have hbl:eK l<=1099511627776:=by rw[VT.bulk] at hbk;omega
  have hll:l.length<=1099511627776:=aW (rR l) hbl;have HR:=hid hR;have HIT:=hid hit;have HIH:=hid ih;clear hR hit ih h hsv hm hbk;unfold vv;simp only[VT.kind,VT.text,VT.items];go_enter Tryz.func79,Tryz.ntmps79;go_wp2_with fail;go_loopw [3,9] (λs3 s9 wr=> ∃(i:Nat),s3= .int .i64 ((dI (l.take i):Nat):Int)/\s9= .int .i64 (i:Int)/\i<=l.length/\Hid (Below w.heap.size w wr)) (λ_ s9 _=>l.length-(RowKit.intOf s9).toNat)
  case atStart=>exact⟨0,rfl,rfl,cN _,hid (aH w _)⟩
  case round=>
   obtain⟨i,rfl,rfl,hi,HBr⟩:=hrel;by_cases hil:i<l.length
   ·obtain⟨x,hx⟩: ∃x,l[i]?=some x:=⟨_,bJ hil⟩;obtain⟨g,o,kv',iv',rfl,hg,n0,n1,n2,n3,hvd⟩:=HIT.out.keep HBr.out i x hx;obtain⟨pk,ck,px,cx,rfl,rfl⟩:=hvd.form;have hxb:=aW (tN (aX hx)) hbl;have hi1:(i:Int)<(l.length:Int):=(by omega);have dk:decide ((i:Int)<(l.length:Int))=true:=aN hi1;have hsz:max (dI (l.take i)) x.depth=dI (l.take (i+1)):=by rw[vD hx,Gq,dI,dI];omega
    have hbd:dI (l.take (i+1))<=eK l:=by
     have h1:dI (l.take (i+1))<=dI l:=by
      have:=Gq (l.take (i+1)) (l.drop (i+1));rw[rO] at this;omega
     exact aW h1 (Am l)
    have HX:=hid hx;have HVD:=hid hvd;have HSZ:=hid hsz;have HBd:=hid hbd;clear hx hvd hsz hbd;go_upto_region 5 with fail;have HB5:=hid (aH wr (.cells #[.int .i64 x.kind, .string (bs x.text), .slice pk x.keys.length ck, .slice px x.items.length cx] 26));have HC:=hid (HIH.out x _ _ (wr.alloc (.cells #[.int .i64 x.kind, .string (bs x.text), .slice pk x.keys.length ck, .slice px x.items.length cx] 26)) (HVD.out.keep HB5.out) hxb);unfold vv at HC;go_wp2_with fail;refine HC.out.mono ?_;rintro e w2 ⟨rfl,hb2⟩;have HB6:=hid (aC HBr.out (aC HB5.out hb2));have hbd:=HBd.out;have hsz:=HSZ.out;have hszz:max ((dI (l.take i):Nat):Int) (x.depth:Int)=((dI (l.take (i+1)):Nat):Int):=(by omega);clear hb2;go_wp2_with fail;go_roundw
    ·exact⟨i+1,by congr 1<;>omega,rfl,hil,HB6⟩
    ·simp only[RowKit.intOf];omega
   ·have dk:decide ((i:Int)<(l.length:Int))=false:=aJ (by omega);obtain rfl:i=l.length:=(by omega);rw[List.take_length];have hdl:dI l<=1099511627776:=aW (Am l) hbl;go_wp2_with fail;go_ret;exact⟨by rw[<-HR.out];first | rfl | simp,HBr.out⟩
end
section
open Go.Lib
def dE (txt:List UInt8) (s:Sp):aA:=if s.2<s.1\/txt.length<s.2 then [] else(txt.take s.2).drop s.1
def mD (k:Nat) (s:aA):aA:=if k=2 then s else if k=3 then iV (cZ s).1 else if k=4 then(fW s).1 else []
def eT (txt:List UInt8) (ns:List aD) (k:Nat):aA:=match ns[k]? with
 | some x=>(fW (dE txt x.key)).1
 | none=> []
def bG (txt:List UInt8) (ns:List aD):Nat->Nat->VT
 | 0,_=> .mk 0 [] [] []
 | f+1,k=>match ns[k]? with
  | none=> .mk 0 [] [] []
  | some x=> .mk (x.kind:Int) (mD x.kind (dE txt (x.sf,x.st))) (if x.kind=6 then x.kids.map (eT txt ns) else []) (x.kids.map (bG txt ns f))
def cX (P:Nat->Nat->Prop):List Nat->Nat->Nat->Prop
 | [],a,hi=>a=hi
 | kid::l,a,hi=>kid=a/\ ∃m,P kid m/\cX P l m hi
theorem cX.snoc {P:Nat->Nat->Prop}{hi:Nat}: ∀ {l:List Nat}{a k:Nat},cX P l a k->P k hi->cX P (l++ [k]) a hi
 | [],a,k,h,hp=>by
  have e:a=k:=h;exact⟨e.symm,hi,hp,rfl⟩
 | x::l,a,k,h,hp=>by
  obtain⟨h1,m,h2,h3⟩:=h;exact⟨h1,m,h2,h3.snoc hp⟩
def dJ (ns:List aD):Nat->Nat->Nat->Prop
 | 0,_,_=>False
 | lv+1,k,hi=> ∃x,ns[k]?=some x/\cX (dJ ns lv) x.kids (k+1) hi
theorem cX.imp {P Q:Nat->Nat->Prop} (hi:Nat) (hlt: ∀k m,P k m->k<m): ∀ {l:List Nat}{a:Nat},cX P l a hi->(∀k m,a<=k->m<=hi->P k m->Q k m)->cX Q l a hi
 | [],a,h,_=>h
 | x::l,a,h,hq=>by
  obtain⟨rfl,m,h2,h3⟩:=h;have hle: ∀ {l:List Nat}{a:Nat},cX P l a hi->a<=hi:=by
   intro l
   induction l with
   | nil=>intro a h;exact nU h
   | cons y l ih=>
    intro a h;obtain⟨rfl,m,h2,h3⟩:=h;have:=ih h3;have:=hlt _ _ h2;omega
  have h4:=hlt _ _ h2;exact⟨rfl,m,hq _ _ (aE _) (hle h3) h2,h3.imp hi hlt (λk m' h5 h6 h7=>hq k m' (by omega) h6 h7)⟩
theorem dJ.lt {ns:List aD}: ∀ {lv k hi:Nat},dJ ns lv k hi->k<hi
 | lv+1,k,hi,h=>by
  obtain⟨x,hx,h2⟩:=h;have: ∀(l:List Nat) (a:Nat),cX (dJ ns lv) l a hi->a<=hi:=by
   intro l
   induction l with
   | nil=>intro a h;exact nU h
   | cons y l ih=>
    intro a h;obtain⟨rfl,m,h2,h3⟩:=h;have:=ih m h3;have:=dJ.lt h2;omega
  have:=this _ _ h2;omega
theorem dJ.mono {ns ns':List aD}: ∀ {lv k hi:Nat},dJ ns lv k hi->(∀j y,k<=j->j<hi->ns[j]?=some y-> ∃y',ns'[j]?=some y'/\y'.kids=y.kids)->dJ ns' lv k hi
 | lv+1,k,hi,h,hs=>by
  have hlt:=h.lt;obtain⟨x,hx,h2⟩:=h;obtain⟨x',hx',hk⟩:=hs k x (aE _) hlt hx;refine⟨x',hx',?_⟩;rw[hk];exact h2.imp hi (λ_ _=>dJ.lt) (λa m h3 h4 h5=>h5.mono (λj y h6 h7=>hs j y (by omega) (by omega)))
def xK (lv:Nat) (V:VF):Prop:= ∀rest last nodes key r l ns,V rest last nodes key= .ok r l ns->dJ ns lv nodes.length ns.length
theorem Rk {txt:List UInt8}{V:VF}{lv:Nat} (hV:xK lv V) {obj:Bool}{had had':List (List UInt8)}{rest r:List aL}{last l:Sp}{nodes ns:List aD} (h:gE txt V obj had rest last nodes=(.ok r l ns,had')):dJ ns lv nodes.length ns.length:=by
 unfold gE at h;split at h
 ·injection h with h _;exact hV _ _ _ _ _ _ _ h
 ·split at h
  ·injection h with h _;cases h
  ·split at h
   ·injection h with h _;cases h
   ·split at h
    ·injection h with h _;cases h
    ·split at h
     ·injection h with h _;cases h
     ·split at h
      ·injection h with h _;cases h
      ·injection h with h _;exact hV _ _ _ _ _ _ _ h
theorem An {txt:List UInt8}{V:VF}{lv:Nat} (hV:xK lv V) (hE:qQ V) {closing:Nat}{obj:Bool}{pre:List aD}: ∀(f:Nat) {had:List (List UInt8)}{rest:List aL}{last:Sp}{nodes:List aD}{r:List aL}{l:Sp}{ns:List aD}{x:aD}{post:List aD},
  fJ pre x post nodes->cX (dJ nodes lv) x.kids (pre.length+1) nodes.length->iA txt V closing obj pre.length f had rest last nodes= .ok r l ns-> ∃x' post',fJ pre x' post' ns/\cX (dJ ns lv) x'.kids (pre.length+1) ns.length
 | 0,_,_,_,_,_,_,_,_,_,_,_,h=>by cases h
 | f +1,had,rest,last,nodes,r,l,ns,x,post,hm,hK,h=>by
  unfold iA at h;split at h
  ·cases h
  ·rename_i r1 l1 ns1 had1 hk;have ht:=Rk hV hk;obtain⟨more,rfl,h2,h3,⟨kk,h4⟩,h5⟩:=xI hE hk;split at h
   ·cases h
   ·rename_i t r';have hm2:=hm.add h5 h2 nodes.length (last.2,t.sf);have hst: ∀j y,pre.length+1<=j->(nodes++more)[j]?=some y-> ∃y',(dU pre.length nodes.length (last.2,t.sf) (nodes++more))[j]?=some y'/\y'.kids=y.kids:=by
     intro j y hj hy;unfold dU;rw[tL,if_neg (by omega)];exact⟨y,hy,rfl⟩
    have hml:=Rc hm;have hK2:cX (dJ (dU pre.length nodes.length (last.2,t.sf) (nodes++more)) lv) (x.kids++ [nodes.length]) (pre.length+1) (dU pre.length nodes.length (last.2,t.sf) (nodes++more)).length:=by
     have hlen:(dU pre.length nodes.length (last.2,t.sf) (nodes++more)).length=(nodes++more).length:=pO _ _ _;rw[hlen];refine cX.snoc (hK.imp _ (λ_ _=>dJ.lt) (λk m h6 h7 h8=>h8.mono (λj y h9 h10 h11=>?_))) (ht.mono (λj y h9 h10 h11=>hst j y (by omega) h11));exact hst j y (by omega) (by rw[mE (by omega)];exact h11)
    split at h
    ·injection h with e1 e2 e3;subst e3;exact⟨_,_,hm2,hK2⟩
    ·split at h
     ·exact An hV hE f hm2 hK2 h
     ·cases h
theorem Gu {txt:List UInt8}{V:VF}{lv:Nat} (hV:xK lv V) (hE:qQ V) {closing:Nat}{obj:Bool}{pre:List aD}{rest:List aL}{last:Sp}{nodes:List aD}{r:List aL}{l:Sp}{ns:List aD}{x:aD}{post:List aD}
  (hm:fJ pre x post nodes) (hK:cX (dJ nodes lv) x.kids (pre.length+1) nodes.length) (h:gS txt V closing obj pre.length rest last nodes= .ok r l ns): ∃x' post',fJ pre x' post' ns/\cX (dJ ns lv) x'.kids (pre.length+1) ns.length:=by
 unfold gS at h;split at h
 ·exact An hV hE _ hm hK h
 ·split at h
  ·injection h with h1 h2 h3;subst h3;exact⟨x,post,hm,hK⟩
  ·exact An hV hE _ hm hK h
theorem Gv (txt:List UInt8): ∀lv,xK lv (bP txt lv)
 | 0=>λrest last nodes key r l ns h=>by
  unfold bP at h;split at h<;>cases h
 | lv +1=>λrest last nodes key r l ns h=>by
  have ih:=Gv txt lv;have ie:=mP txt lv;cases rest with
  | nil=>
   unfold bP at h;rw[if_pos (show cJ (eP [])=0 from rfl)] at h;cases h
  | cons t q=>
   unfold bP at h;split at h
   ·cases h
   ·split at h
    ·cases h
    ·simp only[] at h;obtain⟨ns',h1,rfl⟩:=Qj h;have hm0:fJ nodes ⟨cJ t.kind,t.sf,t.st,key,[],[]⟩ [] (nodes++ [⟨cJ t.kind,t.sf,t.st,key,[],[]⟩]):=⟨rfl,aE _,aE _,λy hy=>by cases hy⟩;have hK0:cX (dJ (nodes++ [(⟨cJ t.kind,t.sf,t.st,key,[],[]⟩:aD)]) lv) ([]:List Nat) (nodes.length+1) (nodes++ [(⟨cJ t.kind,t.sf,t.st,key,[],[]⟩:aD)]).length:=by
      show nodes.length+1=_;rw[aS,eD]
     have fin: ∀ {x':aD}{post':List aD},fJ nodes x' post' ns'->cX (dJ ns' lv) x'.kids (nodes.length+1) ns'.length->dJ (jP nodes.length l.2 ns') (lv+1) nodes.length (jP nodes.length l.2 ns').length:=by
      intro x' post' hm hk;have hlen:(jP nodes.length l.2 ns').length=ns'.length:=pO _ _ _;have hxa:=Rb hm;refine⟨{ x' with st:=l.2 },?_,?_⟩
      ·unfold jP;rw[tL,if_pos rfl,hxa];rfl
      ·rw[hlen];refine hk.imp _ (λ_ _=>dJ.lt) (λk m h6 h7 h8=>h8.mono (λj y h9 h10 h11=>?_));refine⟨y,?_,rfl⟩;unfold jP;rw[tL,if_neg (by omega)];exact h11
     split at h1
     ·obtain⟨x',post',i1,i2⟩:=Gu ih ie hm0 hK0 h1;exact fin i1 i2
     ·split at h1
      ·obtain⟨x',post',i1,i2⟩:=Gu ih ie hm0 hK0 h1;exact fin i1 i2
      ·injection h1 with h2 h3 h4;subst h4;exact fin hm0 hK0
theorem tP {s:List UInt8}{ns:List aD}{n:Int} (h:eC s=(ns,n,0)):dJ ns 32 0 ns.length:=by
 obtain⟨hs,T,l,ns',hT,hv,hp⟩:=uZ (s:=s) (by rw[h]);rw[h] at hp;injection hp with e1 e2;subst e1;exact Gv s 32 _ _ _ _ _ _ _ hv
theorem cX.mem {P:Nat->Nat->Prop}{hi:Nat}: ∀ {l:List Nat}{a:Nat},cX P l a hi-> ∀k∈l,∃m,P k m
 | [],_,_,k,hk=>by cases hk
 | x::l,a,h,k,hk=>by
  obtain⟨rfl,m,h2,h3⟩:=h;rcases dN.1 hk with rfl | hk
  ·exact⟨m,h2⟩
  ·exact h3.mem k hk
theorem dJ.kid {ns:List aD}{lv k hi:Nat} (h:dJ ns (lv+1) k hi) {x:aD} (hx:ns[k]?=some x) {q:Nat} (hq:q∈x.kids):(∃m,dJ ns lv q m)/\q<ns.length:=by
 obtain⟨x',hx',h2⟩:=h;rw[hx] at hx';injection hx' with e;subst e;obtain⟨m,hm⟩:=h2.mem q hq;refine⟨⟨m,hm⟩,?_⟩;cases lv with
 | zero=>exact hm.elim
 | succ lv=>
  obtain⟨y,hy,_⟩:=hm;exact(aQ.1 hy).1
theorem Gw {txt:List UInt8}{ns:List aD}: ∀ {lv k hi:Nat},dJ ns lv k hi->(bG txt ns lv k).size=hi-k/\(bG txt ns lv k).depth<=lv
 | lv+1,k,hi,h=>by
  have hlt:=h.lt;obtain⟨x,hx,h2⟩:=h;rw[bG,hx];simp only[];rw[VT.size,VT.depth];have: ∀(l:List Nat) (a:Nat),cX (dJ ns lv) l a hi->eS (l.map (bG txt ns lv))=hi-a/\a<=hi/\dI (l.map (bG txt ns lv))<=lv:=by
   intro l
   induction l with
   | nil=>intro a h;have e:a=hi:=h;subst e;simp[eS,dI]
   | cons y l ih=>
    intro a h;obtain⟨rfl,m',h2,h3⟩:=h;obtain⟨i1,i2⟩:=Gw (txt:=txt) h2;have i3:=h2.lt;obtain⟨j1,j2,j3⟩:=ih _ h3;rw[kD,eS,dI,i1,j1];omega
  obtain⟨a,b,c⟩:=this _ _ h2;omega
end
end Go.Proofs.YtaifnmjjpddikaaGreatDoor
