import Derived.Test.YtfhjncbdgjlcoaaGreatDoorYn18
set_option linter.unusedVariables false
set_option linter.unusedSimpArgs false
set_option maxRecDepth 100000
set_option maxHeartbeats 4000000
namespace Go.Proofs.YtfhjncbdgjlcoaaGreatDoor
open Tryz
section
open Go.RowKit
def lk:List Value->Nat->Value
 | [],_=>undef
 | v::_,0=>v
 | _::l,i+1=>lk l i
def dS (a:Array Value):List (Nat×Value)->Prop
 | []=>True
 | p::r=>a[p.1]?.getD undef=p.2/\dS a r
theorem dW {a a0:Array Value}{sl:List Nat} (h: ∀k,k ∉ sl->a.getD k undef=a0.getD k undef): ∀(L:List (Nat×Value)),(L.map λp=>a0.getD p.1 undef)=L.map (·.2)->(L.all λp=>!sl.contains p.1)=true->dS a L
 | [],_,_=>trivial
 | p::r,h1,h2=>by
  rw[List.all_cons,fQ] at h2;rw[pN,pN] at h1;refine⟨?_,dW h r (List.cons.inj h1).2 h2.2⟩;rw[<-aN,h p.1 (by simpa using h2.1)];exact(List.cons.inj h1).1
def iU (t:Array Value):List Nat->List Value->Array Value
 | [],_=>t
 | k::ks,[]=>(iU t ks []).setIfInBounds k undef
 | k::ks,v::vs=>(iU t ks vs).setIfInBounds k v
theorem Bu (t:Array Value) (v:Nat->Value): ∀(sl:List Nat) (vl:List Value),(∀i k,sl[i]?=some k->v k=lk vl i)->cU t v sl=iU t sl vl
 | [],_,_=>rfl
 | k::ks,[],h=>by
  rw[cU,iU,h 0 k rfl,Bu t v ks [] (λi j hj=>(h (i+1) j (by simpa using hj)).trans rfl)];rfl
 | k::ks,x::vs,h=>by
  rw[cU,iU,h 0 k rfl,Bu t v ks vs (λi j hj=>h (i+1) j (by simpa using hj))];rfl
structure GF (sl:List Nat) (val:Nat->Value) (S:World->Prop) (d:Nat->Bool) (v:Nat->Value) (w':World):Prop where
 cl: ∀i k,sl[i]?=some k->d i=true->v k=val i
 st:S w'
theorem Nj {l:List Nat} (h:l.Nodup) {i j a:Nat} (hi:l[i]?=some a) (hj:l[j]?=some a):i=j:=EB
def Fw (o:Option Value):Option Bool:=match o with | some (.bool b)=>some b | _=>none
theorem Zy {o:Option Value}{v:Value}{b:Bool} (h:o.getD undef=v) (hv:v≠ .bool b): ¬Fw o=some b:=by
 intro e;cases o with
 | none=>cases e
 | some u=>
  have c:u=v:=h;subst c;cases u<;>simp[Fw] at e;subst e;exact hv rfl
theorem Zz {o:Option Value}{b:Bool} (h:o.getD undef= .bool b):Fw o=some b:=by
 cases o with
 | none=>cases h
 | some u=>
  have c:u= .bool b:=h;subst c;rfl
def Fx (v:Value) (b:Bool):Bool:=match v with
 | .bool c=>c !=b
 | _=>true
theorem aAa {v:Value}{b:Bool} (h:Fx v b=true):v≠ .bool b:=by
 intro e;subst e;simp[Fx] at h
theorem jD {o:Oper}{y:Nat->Option Bool}{A B:Prop} (ha:A) (h:o.guard=none:=by rfl):if Region.wanted o y=true then A else B:=by rw[if_pos (by simp[Region.wanted,h])];exact ha
theorem nO {ops:Array Oper}{o og:Oper}{tmps:Array Value}{g k:Nat}{b:Bool}{A B:Prop} (hc:tmps[k]?.getD undef= .bool b) (ha:A) (hg:o.guard=some (g,b):=by rfl) (ho:ops[g]?=some og:=by rfl) (hk:og.dst=some k:=by rfl):if Region.wanted o (yielded ops tmps)=true then A else B:=by
 rw[if_pos]
 .exact ha
 .simp only[Region.wanted,yielded,hg,ho,hk,Option.bind,beq_iff_eq];exact Zz hc
def dM (vl:List Value) (d:Nat->Bool) (a:Array Value):List (Nat×Nat)->Prop
 | []=>True
 | p::r=>(d p.1=true->a[p.2]?.getD undef=lk vl p.1)/\dM vl d a r
section
variable {sl:List Nat}{vl:List Value}{S:World->Prop}{d:Nat->Bool}{v:Nat->Value}{w' w2:World}{ops:Array Oper}{a:Array Value}{i k:Nat}{x:Value}
theorem GF.sc (h:GF sl (lk vl) S d v w') (hS:S w2) (hx:x=lk vl i:=by first | rfl | simp[lk]) (hk:sl[i]?=some k:=by rfl) (hnd:sl.Nodup:=by decide):GF sl (lk vl) S (bE d i) (cE v (some k) x) w2:=by
 refine⟨λj q b l=>?_,hS⟩;by_cases hji:j=i
 .exact FS
 .have g:q≠k:=λe=>hji (Nj hnd b JU);show (if q=k then x else v q)=lk vl j;rw[if_neg g];refine h.cl j q b ?_;unfold bE at l;rw[if_neg hji] at l;exact l
theorem GF.sp (h:GF sl (lk vl) S d v w') (hx:x=lk vl i:=by first | rfl | simp[lk]) (hk:sl[i]?=some k:=by rfl) (hnd:sl.Nodup:=by decide):GF sl (lk vl) S (bE d i) (cE v (some k) x) w':=h.sc h.st hx hk hnd
theorem GF.g (h:GF sl (lk vl) S d (λk=>a.getD k undef) w') (i k:Nat) (hd:d i=true) (hk:sl[i]?=some k:=by rfl):a[k]?.getD undef=lk vl i:=by rw[<-aN];exact h.cl i k hk hd
theorem GF.all (h:GF sl (lk vl) S d (λk=>a.getD k undef) w'): ∀L:List (Nat×Nat),(L.all λp=>sl[p.1]?==some p.2)=true->dM vl d a L
 | [],_=>trivial
 | p::r,hL=>by
  rw[List.all_cons,fQ] at hL;exact⟨λhd=>h.g p.1 p.2 hd (eq_of_beq hL.1),h.all r hL.2⟩
theorem GF.on (h:GF sl (lk vl) S d (λk=>a.getD k undef) w') {o og:Oper}{g:Nat}{b:Bool}{A B:Prop} (ha:A) (hg:o.guard=some (g,b):=by rfl) (ho:ops[g]?=some og:=by rfl) (hk:og.dst=some k:=by rfl) (hs:sl[g]?=some k:=by rfl) (hv:lk vl g= .bool b:=by rfl) (hd:d g=true):if Region.wanted o (yielded ops a)=true then A else B:=nO ((h.g g k hd hs).trans hv) ha hg ho hk
theorem GF.sk {c:Act} (h:GF sl (lk vl) S d (λk=>c.tmps.getD k undef) w') {o og:Oper}{g j:Nat}{b:Bool}{A:Prop}{R:Act->World->Prop} (hR: ∀x w',GF sl (lk vl) S (bE d i) (cE (λk=>c.tmps.getD k undef) o.dst x) w'->R (c.put o.dst x) w') (hg:o.guard=some (g,b):=by rfl) (ho:ops[g]?=some og:=by rfl) (hk:og.dst=some k:=by rfl) (hs:sl[g]?=some k:=by rfl) (hv:Fx (lk vl g) b=true:=by rfl)
  (h1:o.dst=some j:=by rfl) (h2:sl[i]?=some j:=by rfl) (hx:undef=lk vl i:=by rfl) (hnd:sl.Nodup:=by decide) (hd:d g=true):if Region.wanted o (yielded ops c.tmps)=true then A else R (c.put o.dst undef) w':=by
 rw[if_neg]
 .refine hR _ _ ?_;rw[h1];exact h.sp hx h2 hnd
 .simp only[Region.wanted,yielded,hg,ho,hk,Option.bind,beq_iff_eq];exact Zy (h.g g k hd hs) (aAa hv)
end
def yN (OR:List Nat) (n:Nat):Bool:=(List.range n).all (OR.contains ·)
theorem yO {OR:List Nat}{ops:Array Oper} (h:yN OR ops.size=true) {i:Nat}{o:Oper} (ho:ops[i]?=some o):i∈OR:=by
 have:=iN.1 h i (List.mem_range.2 (mK.1 ho).1);simpa using this
theorem mZ {P:Program}{ops:Array Oper}{Q:Exit->Act->World->Prop}{id:Nat}{a0:Act}{w0:World} (sl:List Nat) (n:Nat) (vl:List Value) (S:World->Prop) (OR:List Nat) (h0:S w0.drew)
  (hs: ∀(d:Nat->Bool) (a:Act) (w:World) (i:Nat) (o:Oper),i∈OR->ops[i]?=some o->d i=false->(∀e∈o.after,Region.binds .any e=true->d e.on=true)->(∀k,k ∉ sl->a.tmps.getD k undef=a0.tmps.getD k undef)->GF sl (lk vl) S d (λk=>a.tmps.getD k undef) w->
   ∀R:Act->World->Prop,(∀x w',GF sl (lk vl) S (bE d i) (cE (λk=>a.tmps.getD k undef) o.dst x) w'->R (a.put o.dst x) w')->if Region.wanted o (yielded ops a.tmps)=true then o.wp P a w R Q else R (a.put o.dst undef) w)
  (hd: ∀w:World,S w->Q .normal { a0 with tmps:=iU a0.tmps sl vl } w)
  (hm:P.follows .mixedOrders=true:=by kernel_rfl) (hn:a0.tmps.size=n:=by rfl) (hback:(yL ops&&rK ops sl n&&yN OR ops.size&&decide (sl.length<=ops.size))=true:=by kernel_rfl):(Code.region id ops true).wp P Q a0 w0:=by
 simp only[fQ] at hback;refine Nd hm sl n hn hback.1.1.1 hback.1.1.2 (λd v w'=>GF sl (lk vl) S d v w') ⟨λ_ _ _ h=>Bool.noConfusion h,h0⟩ (λd a w i o b=>hs d a w i o (yO hback.1.2 b) b) (λv w h=>?_);have hl:=of_decide_eq_true hback.2;rw[Bu a0.tmps v sl vl (λi k c=>h.cl i k c (aQ (by have:=(aW.1 c).1;omega)))];exact hd w h.st
def mD:List Nat->List Nat->Nat->List (Option Nat)
 | sl,[],_=>sl.map some
 | sl,p::ps,i=>(sl.take (p-i)).map some++none::mD (sl.drop (p-i)) ps (p+1)
section
variable {ops:Array Oper}{sl:List (Option Nat)}{eff:List Nat}{fr:Nat}{Fb:Value->World->Prop}{vl:List Value}{S:World->Prop}{Ph:Nat->Value->World->Prop}{d:Nat->Bool}{v:Nat->Value}{w' w2:World}{i k j:Nat}{o:Oper}{x:Value}{a:Array Value}
theorem cJ.pu (h:cJ ops sl eff fr Fb (lk vl) S Ph d v w') (ho:ops[i]?=some o) (hall: ∀e∈o.after,Region.binds .any e=true->d e.on=true) (hx:x=lk vl i:=by first | rfl | simp[lk]) (hk:gI sl i=some k:=by rfl) (hnd:pZ sl=true:=by kernel_rfl) (hne:i ∉ eff:=by decide) (hfr:i≠fr:=by decide) (hel:eff≠ []:=by decide):cJ ops sl eff fr Fb (lk vl) S Ph (bE d i) (cE v (some k) x) w':=h.pure hnd ho hall hk hne hfr hel hx
theorem cJ.ln (h:cJ ops sl eff fr Fb (lk vl) S Ph d v w') (hi:d i=false) (hr:nH ops ops.size (eff.getLastD 0) i=true:=by kernel_rfl):d (eff.getLastD 0)=false:=h.lastNot hr hi
theorem cJ.ea (h:cJ ops sl eff fr Fb (lk vl) S Ph d v w') (hi:d i=false) (hr:nH ops ops.size (eff.getLastD 0) i=true:=by kernel_rfl):S w':=h.early hr hi
theorem cJ.gg (h:cJ ops sl eff fr Fb (lk vl) S Ph d (λk=>a.getD k undef) w') (i k:Nat) (hd:d i=true) (hs:gI sl i=some k:=by rfl) (hl:i<sl.length:=by decide) (h1:i ∉ eff:=by decide) (h2:i≠fr:=by decide):a[k]?.getD undef=lk vl i:=h.g i k hs hl h1 h2 hd
theorem cJ.all (h:cJ ops sl eff fr Fb (lk vl) S Ph d (λk=>a.getD k undef) w'): ∀L:List (Nat×Nat),(L.all λp=>gI sl p.1==some p.2&&decide (p.1<sl.length)&&decide (p.1 ∉ eff)&&decide (p.1≠fr))=true->dM vl d a L
 | [],_=>trivial
 | p::r,hL=>by
  rw[List.all_cons,fQ] at hL;simp only[fQ,kB] at hL;exact⟨λhd=>h.g p.1 p.2 (eq_of_beq hL.1.1.1.1) hL.1.1.1.2 hL.1.1.2 hL.1.2 hd,h.all r hL.2⟩
theorem cJ.fe (h:cJ ops sl eff fr Fb (lk vl) S Ph d v w') (ho:ops[i]?=some o) (hall: ∀e∈o.after,Region.binds .any e=true->d e.on=true) (hi:d i=false) (hS:S w'->S w2) (hP: ∀k c,Ph k c w'->Ph k c w2) (hx:Fb x w2) (hk:gI sl i=some k:=by rfl) (hnd:pZ sl=true:=by kernel_rfl) (hne:i ∉ eff:=by decide) (hfr:i=fr:=by rfl) (hel:eff≠ []:=by decide)
  (hsl:eff.all (λe=>e==eff.getLastD 0||(gI sl e).isSome)=true:=by kernel_rfl) (hnl:eff.Nodup:=by decide) (hr:nH ops ops.size (eff.getLastD 0) i=true:=by kernel_rfl):cJ ops sl eff fr Fb (lk vl) S Ph (bE d i) (cE v (some k) x) w2:=h.free hnd ho hall hk hne hfr hel hsl hnl (h.ln hi hr) hS hP hx
theorem cJ.ef (h:cJ ops sl eff fr Fb (lk vl) S Ph d v w') (j:Nat) (ho:ops[i]?=some o) (hall: ∀e∈o.after,Region.binds .any e=true->d e.on=true) (hi:d i=false) (hp:j=0\/ ∃e',eff[j-1]?=some e'/\d e'=true)
  {dst:Option Nat} (hF:i≠eff.getLastD 0-> ∀x,Fb x w'->Fb x w2) (hS:i≠eff.getLastD 0->S w2) (hP:Ph (j+1) (match dst with | some _=>x | none=>fY sl v fr) w2) (hk:gI sl i=dst:=by rfl) (he:eff[j]?=some i:=by rfl) (hnd:pZ sl=true:=by kernel_rfl) (hne:eff.Nodup:=by decide) (hfr:i≠fr:=by decide):cJ ops sl eff fr Fb (lk vl) S Ph (bE d i) (cE v dst x) w2:=
 h.eff2 hnd hne j ho hall he hi hp hk hfr hF hS (by cases dst<;>exact hP)
def wS (D:List Nat):Nat->List Value->List Value
 | _,[]=> []
 | i,x::r=>(bif D.contains i then undef else x)::wS D (i+1) r
theorem yP (D:List Nat): ∀(l:List Value) (i j:Nat),D.contains (i+j)=false->lk (wS D i l) j=lk l j
 | [],_,_,_=>rfl
 | x::r,i,0,h=>by
  rw[Nat.add_zero] at h;show (bif D.contains i then undef else x)=x;rw[h];rfl
 | x::r,i,j+1,h=>yP D r (i+1) j (by rw[<-h];congr 1;omega)
theorem cJ.sw {F0:Value->World->Prop}{v0:List Value}{S0:World->Prop}{P0:Nat->Value->World->Prop} (h:cJ ops sl eff fr F0 (lk v0) S0 P0 d v w') (D:List Nat) (ho:ops[i]?=some o) (hall: ∀e∈o.after,Region.binds .any e=true->d e.on=true) (hi:d i=false)
  (hS:S0 w'->S w2) (hP: ∀k c,k<eff.length->P0 k c w'->Ph k c w2) (hF: ∀x,F0 x w'->Fb x w2) (hag:wS D 0 vl=wS D 0 v0:=by rfl) (hx:x=lk vl i:=by first | rfl | simp[lk]) (hk:gI sl i=some k:=by rfl) (hnd:pZ sl=true:=by kernel_rfl) (hne:i ∉ eff:=by decide) (hfr:i≠fr:=by decide) (hel:eff≠ []:=by decide) (hr:(nH ops ops.size (eff.getLastD 0) i&&D.all λj=>nH ops ops.size j i)=true:=by kernel_rfl):cJ ops sl eff fr Fb (lk vl) S Ph (bE d i) (cE v (some k) x) w2:=by
 have NS:=trivial;exact JC
theorem cJ.qu (h:cJ ops sl eff fr Fb (lk vl) S Ph d v w') (ho:ops[i]?=some o) (hall: ∀e∈o.after,Region.binds .any e=true->d e.on=true) (hi:d i=false)
  (hS:S w'->S w2) (hP: ∀k c,k<eff.length->Ph k c w'->Ph k c w2) (hF: ∀x,Fb x w'->Fb x w2) (hx:x=lk vl i:=by first | rfl | simp[lk]) (hk:gI sl i=some k:=by rfl) (hnd:pZ sl=true:=by kernel_rfl) (hne:i ∉ eff:=by decide) (hfr:i≠fr:=by decide) (hel:eff≠ []:=by decide) (hr:nH ops ops.size (eff.getLastD 0) i=true:=by kernel_rfl):cJ ops sl eff fr Fb (lk vl) S Ph (bE d i) (cE v (some k) x) w2:=
 h.sw [] ho hall hi hS hP hF rfl hx hk hnd hne hfr hel (by rw[hr];rfl)
end
def yQ (vl:List Value) (v:Nat->Value):List (Nat×Nat)->Prop
 | []=>True
 | p::r=>v p.2=lk vl p.1/\yQ vl v r
theorem Bv {sl:List (Option Nat)}{eff:List Nat}{fr n:Nat}{vl:List Value}{v:Nat->Value} (h: ∀i,i<sl.length->i<n->i ∉ eff->i≠fr->fY sl v i=lk vl i): ∀L:List (Nat×Nat),(L.all λp=>gI sl p.1==some p.2&&decide (p.1<sl.length)&&decide (p.1<n)&&decide (p.1 ∉ eff)&&decide (p.1≠fr))=true->yQ vl v L
 | [],_=>trivial
 | p::r,hL=>by
  rw[List.all_cons,fQ] at hL;simp only[fQ,kB] at hL;refine⟨?_,Bv h r hL.2⟩;have:=h p.1 hL.1.1.1.1.2 hL.1.1.1.2 hL.1.1.2 hL.1.2;unfold fY at this;rw[eq_of_beq hL.1.1.1.1.1] at this;exact this
theorem iV {P:Program}{ops:Array Oper}{Q:Exit->Act->World->Prop}{id:Nat}{a0:Act}{w0:World} (sl st eff:List Nat) (fr:Nat) (Fb:Value->World->Prop) (n:Nat) (vl:List Value) (S:World->Prop) (Ph:Nat->Value->World->Prop) (OR:List Nat) (h0:S w0.drew) (hP:Ph 0 undef w0.drew)
  (hs: ∀(d:Nat->Bool) (a:Act) (w:World) (i:Nat) (o:Oper),i∈OR->ops[i]?=some o->d i=false->(∀e∈o.after,Region.binds .any e=true->d e.on=true)->(∀k,k ∉ sl->a.tmps.getD k undef=a0.tmps.getD k undef)->cJ ops (mD sl st 0) eff fr Fb (lk vl) S Ph d (λk=>a.tmps.getD k undef) w->
   ∀R:Act->World->Prop,(∀x w',cJ ops (mD sl st 0) eff fr Fb (lk vl) S Ph (bE d i) (cE (λk=>a.tmps.getD k undef) o.dst x) w'->R (a.put o.dst x) w')->o.wp P a w R Q)
  (hd: ∀(v:Nat->Value) (w:World),(∀i,i<(mD sl st 0).length->i<ops.size->i ∉ eff->i≠fr->fY (mD sl st 0) v i=lk vl i)->Ph eff.length (pH eff (mD sl st 0) fr v eff.length) w->Q .normal { a0 with tmps:=cU a0.tmps v sl } w)
  (hm:P.follows .mixedOrders=true:=by kernel_rfl) (hn:a0.tmps.size=n:=by rfl) (hback:(uK ops&&rK ops sl n&&eff.all (λe=>decide (e<ops.size))&&yN OR ops.size)=true:=by kernel_rfl):(Code.region id ops true).wp P Q a0 w0:=by
 simp only[fQ] at hback;exact Zx hm (mD sl st 0) sl eff fr Fb n hn hback.1.1.1 hback.1.1.2 hback.1.2 (lk vl) S Ph h0 hP (λd a w i o b=>hs d a w i o (yO hback.2 b) b) hd
theorem rgX {P:Program}{ops:Array Oper}{Q:Exit->Act->World->Prop}{id:Nat}{a0:Act}{w0:World}{α:Type} (c:Nat) (sl st eff:List Nat) (fr:Nat) (Fb:Option α->Value->World->Prop) (n:Nat) (vl:Option α->List Value) (S:Option α->World->Prop) (Ph:Option α->Nat->Value->World->Prop) (OR:List Nat) (h0:S none w0.drew) (hP:Ph none 0 undef w0.drew)
  (hc: ∀(d:Nat->Bool) (a:Act) (w:World) (o:Oper),ops[c]?=some o->d c=false->(∀e∈o.after,Region.binds .any e=true->d e.on=true)->(∀k,k ∉ sl->a.tmps.getD k undef=a0.tmps.getD k undef)->cJ ops (mD sl st 0) eff fr (Fb none) (lk (vl none)) (S none) (Ph none) d (λk=>a.tmps.getD k undef) w->
   ∀R:Act->World->Prop,(∀p x w',cJ ops (mD sl st 0) eff fr (Fb (some p)) (lk (vl (some p))) (S (some p)) (Ph (some p)) (bE d c) (cE (λk=>a.tmps.getD k undef) o.dst x) w'->R (a.put o.dst x) w')->o.wp P a w R Q)
  (hs: ∀(q:Option α) (d:Nat->Bool) (a:Act) (w:World) (i:Nat) (o:Oper),i∈OR->ops[i]?=some o->d i=false->(∀e∈o.after,Region.binds .any e=true->d e.on=true)->(∀k,k ∉ sl->a.tmps.getD k undef=a0.tmps.getD k undef)->cJ ops (mD sl st 0) eff fr (Fb q) (lk (vl q)) (S q) (Ph q) d (λk=>a.tmps.getD k undef) w->
   ∀R:Act->World->Prop,(∀x w',cJ ops (mD sl st 0) eff fr (Fb q) (lk (vl q)) (S q) (Ph q) (bE d i) (cE (λk=>a.tmps.getD k undef) o.dst x) w'->R (a.put o.dst x) w')->o.wp P a w R Q)
  (hd: ∀(p:α) (v:Nat->Value) (w:World),(∀i,i<(mD sl st 0).length->i<ops.size->i ∉ eff->i≠fr->fY (mD sl st 0) v i=lk (vl (some p)) i)->Ph (some p) eff.length (pH eff (mD sl st 0) fr v eff.length) w->Q .normal { a0 with tmps:=cU a0.tmps v sl } w)
  (hm:P.follows .mixedOrders=true:=by kernel_rfl) (hn:a0.tmps.size=n:=by rfl) (hback:(uK ops&&rK ops sl n&&eff.all (λe=>decide (e<ops.size))&&yN (c::OR) ops.size&&decide (c<ops.size))=true:=by kernel_rfl):(Code.region id ops true).wp P Q a0 w0:=by
 simp only[fQ] at hback;obtain⟨⟨⟨⟨D,y⟩,A⟩,u⟩,G⟩:=hback;refine uL hm sl n hn D y (λd v w'=>(d c=false/\cJ ops (mD sl st 0) eff fr (Fb none) (lk (vl none)) (S none) (Ph none) d v w')\/ ∃p,d c=true/\cJ ops (mD sl st 0) eff fr (Fb (some p)) (lk (vl (some p))) (S (some p)) (Ph (some p)) d v w') ?_ ?_ ?_
 .exact .inl ⟨rfl,λ_ _ _ _ h=>Bool.noConfusion h,λ_ _ _ h=>Bool.noConfusion h,λ_=>h0,λ_ h=>Bool.noConfusion h,0,cI _,λj e _=>⟨λh=>Bool.noConfusion h,λh=>absurd h (oW _)⟩,hP⟩
 .intro d a w i o s t f m l R C;rcases l with⟨b,l⟩ | ⟨p,b,l⟩
  .by_cases g:i=c
   .subst g;exact hc d a w o s t f m l R (λp x w' h=>C x w' (.inr ⟨p,vZ,h⟩))
   .have r:i∈OR:=by
     rcases fT.1 (yO u s) with h | h
     .exact absurd h g
     .exact h
    exact hs none d a w i o r s t f m l R (λx w' h=>C x w' (.inl ⟨by rw[iQ (Ne.symm g)];exact b,h⟩))
  .have g:i≠c:=λe=>by rw[e,b] at t;cases t
   have r:i∈OR:=by
    rcases fT.1 (yO u s) with h | h
    .exact absurd h g
    .exact h
   exact hs (some p) d a w i o r s t f m l R (λx w' h=>C x w' (.inr ⟨p,Dv b,h⟩))
 .intro v w l;rcases l with⟨b,_⟩ | ⟨p,_,h⟩
  .have E:decide (c<ops.size)=false:=b;rw[G] at E;cases E
  .exact hd p v w (λi D y A u=>h.cl i D A u (aQ y)) (h.fin (λe F=>iN.1 A e F))
end
section
open Go.RowKit
open Go.Lib hiding intOf
def bW (e:TypeId) (B:Nat) (v:Value) (n:Nat) (xs:List Value) (el:Array Value) (X i:Nat) (W0:World):Nat->Value->World->Prop
 | 0,_,w'=>Below W0.heap.size W0 w'
 | 1,c,w'=> ∃w1,Below W0.heap.size W0 w1/\c= .slice (some ⟨w1.heap.size,0,none⟩) 1 1/\w'=w1.alloc (.cells el e)
 | 2,c,w'=> ∃w1,Below W0.heap.size W0 w1/\w'.ownsRow B e el.size c (n+1) (xs++el.toList)/\w1.grownBy w' v.ownBlock/\(c.ownBlock=v.ownBlock\/c.ownBlock=some (w1.heap.size+1))/\ ∃g cap,c= .slice (some ⟨g,0,none⟩) (n+1) cap
 | _,_,w'=> ∃c w2,(∃w1,Below W0.heap.size W0 w1/\w2.ownsRow B e el.size c (n+1) (xs++el.toList)/\w1.grownBy w2 v.ownBlock/\(c.ownBlock=v.ownBlock\/c.ownBlock=some (w1.heap.size+1))/\ ∃g cap,c= .slice (some ⟨g,0,none⟩) (n+1) cap)/\w'=w2.setCell ⟨X,i,none⟩ c
section
variable {e:TypeId}{B:Nat}{v:Value}{n:Nat}{xs:List Value}{el:Array Value}{X i:Nat}{W0 w':World}
theorem bW.form {c:Value} (h:bW e B v n xs el X i W0 2 c w'): ∃g cap,c= .slice (some ⟨g,0,none⟩) (n+1) cap:=by
 obtain⟨_,_,_,_,_,h⟩:=h;exact h
theorem bW.app {P:Program}{o:Oper}{a:Act}{K:Act->World->Prop}{Q:Exit->Act->World->Prop} (hgd:o.guard=none) (s x:Operand) (t:TypeId)
  (ho:o.op= .call { callee:= .builtin .append,args:= #[s,x],argTypes:= #[t,t] }) {i0:TypeInfo}{zv:Value}{bytes:Nat} (hu:P.underlying t=some (.slice e)) (hi:P.info? e=some i0) (hz:i0.zero=some zv) {size:Nat}
  (hsize:i0.size=size) (hby:i0.bytes=bytes) (hzs:zv.cells.size=size) (hsz:0<size) (hel:el.size=size) (h1: ∀u∈el.toList,u.oneCell'=true)
  (hown:W0.ownsRow B e size v n xs) (hn:n+1<=4294967296) (hbt:bytes<=256) (hB:B<=W0.heap.size) {c:Value} (h:bW e B v n xs el X i W0 1 c w') (hs:a.eval s=v) (hx:a.eval x=c)
  (hK: ∀v' w2,bW e B v n xs el X i W0 2 v' w2->K (a.put o.dst v') w2):o.wp P a w' K Q:=by
 obtain⟨w1,q,rfl,rfl⟩:=h;have hmul:(n+1)*bytes<=4294967296*256:=Nat.mul_le_mul hn hbt;refine wp_append_lies _ s x t ho B e i0 _ size bytes hu hi hz hsize hby hzs hsz v n xs hs ((iP hown q).alloc _) ⟨w1.heap.size,0,none⟩ 1 1 el.toList hx (by simp[hel]) (tD w1 el _) h1 b_ r_ a_ (by have:=q.size;simp;omega) _ rfl ?_;intro g cap w2 A y r _;refine hK _ _ ⟨w1,q,by rw[hel];exact A,uS y,?_,g,cap,rfl⟩;exact fx
end
def vG (W0:World) (t:TypeId) (cs:Array Value):Nat->Value->World->Prop
 | 0,_,w'=>Below W0.heap.size W0 w'
 | _,c,w'=> ∃Y,c= .pointer (some ⟨Y,0,none⟩)/\W0.heap.size<=Y/\w'.heap[Y]?=some (.cells cs t (0,0))/\Below W0.heap.size W0 w'
theorem vG.keep {W0 w' w2:World}{t:TypeId}{cs:Array Value}{k:Nat}{c:Value} (h:vG W0 t cs k c w') (hb:aA w' w2):vG W0 t cs k c w2:=by
 cases k with
 | zero=>exact aE (show aA W0 w' from h) hb
 | succ k=>
  obtain⟨Y,f,g,b,l⟩:=h;exact⟨Y,f,g,(hb.block Y (aG b)).trans b,aE l hb⟩
def oJ (W0:World) (t:TypeId) (z:Array Value) (x:Value) (w':World):Prop:= ∃Y,x= .pointer (some ⟨Y,0,none⟩)/\W0.heap.size<=Y/\w'.heap[Y]?=some (.cells z t (0,0))
theorem oJ.new {W0 w':World}{t:TypeId}{z:Array Value} (h:W0.heap.size<=w'.heap.size):oJ W0 t z (.pointer (some ⟨w'.heap.size,0,none⟩)) (w'.alloc (.cells z t)):=⟨_,rfl,h,heap_alloc_new w' _⟩
theorem oJ.keep {W0 w' w2:World}{t:TypeId}{z:Array Value}{x:Value} (h:oJ W0 t z x w') (hb:aA w' w2):oJ W0 t z x w2:=ot
def lineA (r:aS):Array Value:= #[r.kind,r.sf,r.st,r.ind,r.kf,r.kt,r.rf,r.rt,r.nf,r.nt]
theorem Fy (r:aS): ∀u∈(lineA r).toList,u.oneCell'=true:=by
 intro u b;simp only[lineA,fT,List.not_mem_nil,or_false] at b;rcases b with rfl|rfl|rfl|rfl|rfl|rfl|rfl|rfl|rfl|rfl<;>rfl
theorem Nk {W0 w':World}{Y:Nat} (h:aA W0 w') (hY:W0.heap.size<=Y) (r:aS):aA W0 (dJ w' Y r):=by
 unfold dJ
 (repeat (refine Below.setCell ?_ (by first | exact hY) _))
 exact h
structure sG (T:TypeId) (Pr:aO) (P:Nat) (txt:aB) (sv lv nv:Value) (tot:Nat) (a er:Int) (w':World):Prop where
 box:w'.heap[P]?=some (.cells #[bs txt,sv,lv,nv,tot,a,er] T (0,0))
 fr: ∀k o,Pr k=some o->w'.heap[k]?=some o
section
variable {T:TypeId}{Pr:aO}{w0 w w' W0:World}{P:Nat}{txt:aB}{sp:List (Nat×Nat)}{lines:List aS}{z:List YN}{tot:Nat}{a er:Int}{sv lv nv:Value}
theorem sG.c2 (h:sG T Pr P txt sv lv nv tot a er w):w.cell? (P,2)=some lv/\w.frozen? ⟨P,2,none⟩=false:=pg
theorem sG.c3 (h:sG T Pr P txt sv lv nv tot a er w):w.cell? (P,3)=some nv/\w.frozen? ⟨P,3,none⟩=false:=pg
theorem YK.seen (h:YK T Pr w0 P txt sp lines z tot a er sv lv nv w):sG T Pr P txt sv lv nv tot a er w:=⟨h.box,λk o b=>(h.fr k o b).1⟩
theorem YK.seenA (h:YK T Pr w0 P txt sp lines z tot a er sv lv nv W0) {B2 s n:Nat}{e:TypeId}{v:Value}{xs:List Value}{el:Array Value}{X i:Nat} (hr:W0.ownsRow B2 e s v n xs) (he:e≠T) (hv: ∀k o,Pr k=some o->v.ownBlock≠some k) {k:Nat}{c:Value} (hk:k<3) (hp:bW e B2 v n xs el X i W0 k c w'):sG T Pr P txt sv lv nv tot a er w':=by
 have l: ∀w1,aA W0 w1-> ∀r,w1.grownBy w' r->(r=none\/r=v.ownBlock)->sG T Pr P txt sv lv nv tot a er w':=λw1 b r g f=>by
  have m:=h.keep b;have q:=iP hr b;refine⟨qU g m.box (λe2=>?_),λk o hk=>qU g (m.fr k o hk).1 (λe2=>?_)⟩
  .rcases f with rfl|rfl
   .cases e2
   .rcases dG q m.box he with p | p
    .rw[p] at e2;cases e2
    .exact p e2
  .rcases f with rfl|rfl
   .cases e2
   .exact hv k o hk e2
 match k,hp with
 | 0,hp=>
  have hp:aA W0 w':=hp;exact(h.keep hp).seen
 | 1,⟨w1,b,_,hw⟩=>
  rw[hw];exact((h.keep b).keep (aL w1 _)).seen
 | 2,⟨w1,b,_,g,_⟩=>exact l w1 b _ g (.inr rfl)
 | k+3,_=>omega
theorem YK.lineA (h:YK T Pr w0 P txt sp lines z tot a er sv lv nv W0) {r:aS}{c:Value} (hp:bW 68 w0.heap.size lv lines.length (gY lines) (Go.Proofs.YtfhjncbdgjlcoaaGreatDoor.lineA r) P 2 W0 3 c w'): ∃lv',YK T Pr w0 P txt sp (lines++ [r]) z tot a er sv lv' nv w':=by
 obtain⟨c,w2,⟨w1,g,b,l,f,_⟩,rfl⟩:=hp;exact⟨c,(h.keep g).line (H:=w1.heap.size+1) (Nat.le_succ _) b l f⟩
end
theorem bV.mvar {w:World} (h:bV w):nJ w:=h.1.2.2
theorem infoLine:(prog.info? 68).map (λi=>(i.zero,i.size,i.bytes))=some (some (.agg #[(0:Int),(0:Int),(0:Int),(0:Int),(0:Int),(0:Int),(0:Int),(0:Int),(0:Int),(0:Int)]),10,80):=d'
def iL (T:TypeId) (Pr:aO) (w0:World) (P:Nat) (txt:aB) (sp:List (Nat×Nat)) (ls:List aS) (z:List YN) (nv:Value) (tot:Nat) (a er:Int) (w:World):Prop:= ∃sv lv,YK T Pr w0 P txt sp ls z tot a er sv lv nv w
theorem iL.toJ {T:TypeId}{Pr:aO}{w0:World}{P:Nat}{txt:aB}{sp:List (Nat×Nat)}{ls:List aS}{z:List YN}{nv:Value}{tot:Nat}{a er:Int}{w:World} (h:iL T Pr w0 P txt sp ls z nv tot a er w) {ns:List aV} (hz:z.map (·.1)=ns):YJ T Pr w0 P txt sp ⟨ls,ns,tot⟩ a er w:=by
 obtain⟨sv,lv,h⟩:=h;exact⟨z,sv,lv,nv,hz,h⟩
theorem iL.keep {T:TypeId}{Pr:aO}{w0:World}{P:Nat}{txt:aB}{sp:List (Nat×Nat)}{ls:List aS}{z:List YN}{nv:Value}{tot:Nat}{a er:Int}{w w':World} (h:iL T Pr w0 P txt sp ls z nv tot a er w) (hb:aA w w'):iL T Pr w0 P txt sp ls z nv tot a er w':=by
 obtain⟨sv,lv,h⟩:=h;exact⟨sv,lv,h.keep hb⟩
def aAc (Pr:aO) (w0:World) (P:Nat) (txt:aB) (sp:List (Nat×Nat)) (st:YS) (z:List YN) (nv:Value) (R:aS×Int×Int) (e:Ending) (w':World):Prop:=
 (R.2.2≠0/\e= .returned (.bool false)/\gH YP Pr w0 P txt sp R.2.1 R.2.2 w')\/(R.2.2=0/\e= .returned (.bool true)/\iL YP Pr w0 P txt sp (st.lines++ [R.1]) z nv st.total 0 0 w')
theorem aAd {Pr:aO}{w0:World}{P:Nat}{txt:aB}{sp:List (Nat×Nat)}{st:YS}{z:List YN}{nv:Value} (x:Nat×Nat) (w:World) (h:iL YP Pr w0 P txt sp st.lines z nv st.total 0 0 w) (hz:z.map (·.1)=st.nodes) (hx:sp[st.lines.length]?=some x) (hs:txt.length<=65536) (hn:sp.length<=131072) (hV:bV w0):
  Calls prog 72 #[some P] w (aAc Pr w0 P txt sp st z nv (fN txt x.1 x.2)):=by
 have RJ:=trivial;exact PO
def Fz (T:TypeId) (Pr:aO) (w0:World) (P:Nat) (txt:aB) (sp:List (Nat×Nat)) (st:YS) (z:List YN) (nv:Value) (R:NX) (e:Ending) (w':World):Prop:=match R with
 | .ok k ls=>e= .returned (.tuple #[k,true])/\iL T Pr w0 P txt sp ls z nv st.total 0 0 w'
 | .bad a er=>(∃m:Int,e= .returned (.tuple #[m,false]))/\gH T Pr w0 P txt sp a er w'
theorem Nl {Pr:aO}{w0:World}{P:Nat}{txt:aB}{sp:List (Nat×Nat)}{st:YS}{z:List YN}{nv:Value} (k:Nat) (w:World) (h:iL YP Pr w0 P txt sp st.lines z nv st.total 0 0 w) (hz:z.map (·.1)=st.nodes) (hkl:k<=st.lines.length) (hll:st.lines.length<=sp.length) (hs:txt.length<=65536) (hn:sp.length<=131072) (hV:bV w0):
  Calls prog 42 #[some P,k] w (Fz YP Pr w0 P txt sp st z nv (eX txt sp k st.lines)):=by
 obtain⟨R,I⟩:=exQ<|eX txt sp k st.lines;rw[I];unfold eX at I;have HR:=hid I;have HJ:Hid (iL YP Pr w0 P txt sp st.lines z nv st.total 0 0 w):=hid h;have xK:=hid hz;have HV:=hid hV;have HL:=hid (aK hkl hll);have fR:k<=sp.length:=bF hkl hll;clear h I hV hkl hll hz;go_in;go_wp2;go_loopw [6] (λs6 wr=> ∃(i:Nat) (ls:List aS),s6= .int .i64 (i:Int)/\i<=sp.length/\Hid (i<=ls.length/\ls.length<=sp.length)/\Hid (mX txt (sp.drop i) i ls=R)/\Hid (iL YP Pr w0 P txt sp ls z nv st.total 0 0 wr)) (λs6 _=>sp.length+1-(RowKit.intOf s6).toNat)
 case atStart=>exact⟨k,st.lines,rfl,fR,HL,HR,HJ⟩
 case round=>
  clear HR HJ HL fR;obtain⟨i,ls,rfl,hi,HL,HR,HJ⟩:=hrel;obtain⟨n,ep⟩:=exQ<|ls.length;have HN:=hid ep;obtain⟨sv,lv,hK⟩:=HJ.out;obtain⟨⟨c0,c1,c2,c3,c4,c5,c6⟩,f2,f3,f4,f5,f6⟩:=hK.cells;obtain⟨ps,cs,rfl⟩:=hK.spSlice;obtain⟨pl,cl,rfl⟩:=hK.lnSlice;have hPl:=hK.lt;simp only[ep] at c2;have du:(0:Int)<=(i:Int):=a_
  clear hK;by_cases hil:i<sp.length
  .obtain⟨x,hx⟩: ∃x,sp[i]?=some x:=⟨_,bI hil⟩;have fc:sp.drop i=x::sp.drop (i+1):=D5;have hr:=HR.out;rw[fc] at hr;unfold mX at hr;have d1:decide ((i:Int)<(sp.length:Int))=true:=aQ a_;obtain⟨i1,cN⟩:=exQ<|i+1;have bt:(i:Int)+1=(i1:Int):=a_;have fy:i1<=sp.length:=a_;have jr:=hid cN;by_cases im:i<n
   .have de:((i:Int)==(n:Int))=false:=aI.2 a_;have de2:(i==n)=false:=aI.2 a_;have de3:decide (i=n)=false:=aJ a_;have yK:(i:Int)<(n:Int):=a_;obtain⟨l,hl⟩: ∃l,ls[i]?=some l:=⟨_,bI a_⟩;rw[hl] at hr;simp only[] at hr;obtain⟨sv,lv,hK⟩:=HJ.out;obtain⟨gl,c9,e9,vo,L⟩:=hK.lineAt hl;have b0:=L 0 _ a_ rfl;have b1:=L 1 _ a_ rfl;have b2:=L 2 _ a_ rfl;have b3:=L 3 _ a_ rfl;have b4:=L 4 _ a_ rfl;have b5:=L 5 _ a_ rfl;have b6:=L 6 _ a_ rfl;have b7:=L 7 _ a_ rfl;have b8:=L 8 _ a_ rfl;have b9:=L 9 _ a_ rfl;have e8:=hK.cells.1.2.2.1;rw[c2,e9] at e8;have e7:=(Value.slice.inj (bA e8)).1;clear e8;subst e7;have CC:=hid (λw=>Nb l w);unfold eL at CC;have bw:=hid hr;simp only[Nat.add_zero] at b0;clear hr hK hl fc e9 vo L hx im cN ep;by_cases hc:kY l=true
    .rw[if_pos hc] at bw;rw[hc] at CC;clear hc;go_wp2_with fail;refine aH (CC.out _) λw2 bS=>?_;have HF:=hid (HJ.out.keep bS);clear bS;exact jd
    .rw[if_neg hc] at bw;have pp:kY l=false:=F_;rw[pp] at CC;clear hc pp;go_wp2_with fail;refine aH (CC.out _) λw2 bS=>?_;have HF:=hid (HJ.out.keep bS);clear bS;go_wp2;go_roundw
     .exact⟨i1,ls,by rw[<-bt],fy,hid (by have:=jr.out;have:=HL.out;have:=HN.out;omega),hid (by rw[<-jr.out];exact bw.out),HF⟩
     .exact ao
   .have mR:i=n:=by have:=HL.out.1;have:=HN.out;omega
    subst mR;have de:((i:Int)==(i:Int))=true:=e_;have pd:ls[i]?=none:=List.getElem?_eq_none a_;rw[pd] at hr;simp only[] at hr;have CK:=hid (λw' hj=>aAd (Pr:=Pr) (w0:=w0) (P:=P) (txt:=txt) (sp:=sp) (st:=⟨ls,st.nodes,st.total⟩) (z:=z) (nv:=nv) x w' hj xK.out (by simp only[];rw[HN.out];exact hx) hs hn HV.out);obtain⟨⟨r,at_,er⟩,nG⟩:=exQ<|fN txt x.1 x.2;rw[nG] at hr CK;simp only[] at hr;have bw:=hid hr;clear hr nG pd fc hx cN;by_cases h0:er=0
    .subst h0;rw[if_neg e_] at bw;have vO:Hid (∀w',iL YP Pr w0 P txt sp ls z nv st.total 0 0 w'->Calls prog 72 #[some P] w' λe w2=>e= .returned (.bool true)/\iL YP Pr w0 P txt sp (ls++ [r]) z nv st.total 0 0 w2):=hid (λw' hj=>(CK.out w' hj).mono (λe w2 hE=>by
      rcases hE with⟨h1,_⟩ | ⟨_,h2,h3⟩
      .exact absurd rfl h1
      .exact⟨h2,h3⟩))
     clear CK;have CC:=hid (λw=>Nb r w);unfold eL at CC;go_wp2_with (go_at_call 72;refine(vO.out _ K_).mono ?_;rintro e w2 ⟨rfl,gf⟩;have fo:=hid gf;obtain⟨sv2,lv2,bd⟩:=gf;obtain⟨gl,c9,e9,_,L⟩:=bd.lineAt (k:=i) (r:=r) (by show (ls++ [r])[i]?=some r;rw[lR (by have:=HN.out;omega),show i-ls.length=0 by have:=HN.out;omega];rfl);have b0:=L 0 _ a_ rfl;have b1:=L 1 _ a_ rfl;have b2:=L 2 _ a_ rfl;have b3:=L 3 _ a_ rfl;have b4:=L 4 _ a_ rfl;have b5:=L 5 _ a_ rfl;have b6:=L 6 _ a_ rfl;have b7:=L 7 _ a_ rfl;have b8:=L 8 _ a_ rfl;have b9:=L 9 _ a_ rfl;have q2:=bd.cells.1.2.2.1;have q1:=bd.cells.1.2.1;have us:(ls++ [r]).length=i1:=(by rw[aZ,dF];have:=HN.out;have:=jr.out;omega);subst e9;simp only[us] at q2;have yK:(i:Int)<(i1:Int):=a_;have lq:=bd.lt;simp only[Nat.add_zero] at b0;clear bd L)
     all_goals
      by_cases hc:kY r=true
      .rw[if_pos hc] at bw;rw[hc] at CC;clear hc;go_wp2_with fail;refine aH (CC.out _) λw3 cj=>?_;have HF:=hid (fo.out.keep cj);clear cj;exact jd
      .rw[if_neg hc] at bw;have pp:kY r=false:=F_;rw[pp] at CC;clear hc pp;go_wp2_with fail;refine aH (CC.out _) λw3 cj=>?_;have HF:=hid (fo.out.keep cj);clear cj;go_wp2;go_roundw
       .exact⟨i1,ls++ [r],by rw[<-bt],fy,hid (by rw[aZ,dF];have:=jr.out;have:=HN.out;omega),hid (by rw[<-jr.out];exact bw.out),HF⟩
       .exact ao
    .have gj:er≠0:=h0;rw[if_pos gj] at bw;have vO:Hid (∀w',iL YP Pr w0 P txt sp ls z nv st.total 0 0 w'->Calls prog 72 #[some P] w' λe w2=>e= .returned (.bool false)/\gH YP Pr w0 P txt sp at_ er w2):=hid (λw' hj=>(CK.out w' hj).mono (λe w2 hE=>by
      rcases hE with⟨_,h2,h3⟩ | ⟨h1,_⟩
      .exact⟨h2,h3⟩
      .exact absurd h1 h0))
     clear CK h0 gj;go_wp2_with (go_at_call 72;refine(vO.out _ K_).mono ?_;rintro e w2 ⟨rfl,gf⟩;have fo:=hid gf;clear gf)
     all_goals
      go_ret2;rw[<-bw.out];exact⟨⟨_,rfl⟩,fo.out⟩
  .have jh:i=sp.length:=a_;exact E6
theorem Ga {Pr:aO}{w0:World}{P:Nat}{txt:aB}{sp:List (Nat×Nat)}{st:YS} (k:Nat) (w:World) (h:YJ YP Pr w0 P txt sp st 0 0 w) (hkl:k<=st.lines.length) (hll:st.lines.length<=sp.length) (hs:txt.length<=65536) (hn:sp.length<=131072) (hV:bV w0):
  Calls prog 42 #[some P,k] w (sF YP Pr w0 P txt sp st (eX txt sp k st.lines)):=by
 obtain⟨z,sv,lv,nv,c,f⟩:=h;refine(Nl k w ⟨sv,lv,f⟩ c hkl hll hs hn hV).mono (λe w' b=>?_);exact FJ
end
end Go.Proofs.YtfhjncbdgjlcoaaGreatDoor
