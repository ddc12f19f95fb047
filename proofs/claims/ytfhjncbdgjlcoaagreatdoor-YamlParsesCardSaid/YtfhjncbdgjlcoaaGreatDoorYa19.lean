import Derived.Test.YtfhjncbdgjlcoaaGreatDoorYa18
set_option maxRecDepth 100000
set_option maxHeartbeats 4000000
set_option linter.unusedVariables false
set_option linter.unusedSimpArgs false
namespace Go.Proofs.YtfhjncbdgjlcoaaGreatDoor
section
open Go.RowKit
def lk:List Value->Nat->Value
 | [],_=>undef
 | v::_,0=>v
 | _::l,i+1=>lk l i
def dX (a:Array Value):List (Nat×Value)->Prop
 | []=>True
 | p::r=>a[p.1]?.getD undef=p.2/\dX a r
theorem eA {a a0:Array Value}{sl:List Nat} (h: ∀k,k ∉ sl->a.getD k undef=a0.getD k undef): ∀(L:List (Nat×Value)),(L.map λp=>a0.getD p.1 undef)=L.map (·.2)->(L.all λp=>!sl.contains p.1)=true->dX a L
 | [],_,_=>trivial
 | p::r,h1,h2=>by
  rw[List.all_cons,fK] at h2;rw[oR,oR] at h1;refine⟨?_,eA h r (List.cons.inj h1).2 h2.2⟩;rw[<-aI,h p.1 (by simpa using h2.1)];exact(List.cons.inj h1).1
def jE (t:Array Value):List Nat->List Value->Array Value
 | [],_=>t
 | k::ks,[]=>(jE t ks []).setIfInBounds k undef
 | k::ks,v::vs=>(jE t ks vs).setIfInBounds k v
theorem Ez (t:Array Value) (v:Nat->Value): ∀(sl:List Nat) (vl:List Value),(∀i k,sl[i]?=some k->v k=lk vl i)->cS t v sl=jE t sl vl
 | [],_,_=>rfl
 | k::ks,[],h=>by
  rw[cS,jE,h 0 k rfl,Ez t v ks [] (λi j hj=>(h (i+1) j (by simpa using hj)).trans rfl)];rfl
 | k::ks,x::vs,h=>by
  rw[cS,jE,h 0 k rfl,Ez t v ks vs (λi j hj=>h (i+1) j (by simpa using hj))];rfl
structure GF (sl:List Nat) (val:Nat->Value) (S:World->Prop) (d:Nat->Bool) (v:Nat->Value) (w':World):Prop where
 cl: ∀i k,sl[i]?=some k->d i=true->v k=val i
 st:S w'
theorem Ye {l:List Nat} (h:l.Nodup) {i j a:Nat} (hi:l[i]?=some a) (hj:l[j]?=some a):i=j:=ev
def Fa (o:Option Value):Option Bool:=match o with | some (.bool b)=>some b | _=>none
theorem Yf {o:Option Value}{v:Value}{b:Bool} (h:o.getD undef=v) (hv:v≠ .bool b): ¬Fa o=some b:=by
 intro e;cases o with
 | none=>cases e
 | some u=>
  have c:u=v:=h;subst c;cases u<;>simp[Fa] at e;subst e;exact hv rfl
theorem Yg {o:Option Value}{b:Bool} (h:o.getD undef= .bool b):Fa o=some b:=by
 cases o with
 | none=>cases h
 | some u=>
  have c:u= .bool b:=h;subst c;rfl
def Fc (v:Value) (b:Bool):Bool:=match v with
 | .bool c=>c !=b
 | _=>true
theorem Yh {v:Value}{b:Bool} (h:Fc v b=true):v≠ .bool b:=by
 intro e;subst e;simp[Fc] at h
theorem jF {o:Oper}{y:Nat->Option Bool}{A B:Prop} (ha:A) (h:o.guard=none:=by rfl):if Region.wanted o y=true then A else B:=by rw[if_pos (by simp[Region.wanted,h])];exact ha
theorem rE {ops:Array Oper}{o og:Oper}{tmps:Array Value}{g k:Nat}{b:Bool}{A B:Prop} (hc:tmps[k]?.getD undef= .bool b) (ha:A) (hg:o.guard=some (g,b):=by rfl) (ho:ops[g]?=some og:=by rfl) (hk:og.dst=some k:=by rfl):if Region.wanted o (yielded ops tmps)=true then A else B:=by
 rw[if_pos]
 ·exact ha
 ·simp only[Region.wanted,yielded,hg,ho,hk,Option.bind,beq_iff_eq];exact Yg hc
def dT (vl:List Value) (d:Nat->Bool) (a:Array Value):List (Nat×Nat)->Prop
 | []=>True
 | p::r=>(d p.1=true->a[p.2]?.getD undef=lk vl p.1)/\dT vl d a r
section
variable {sl:List Nat}{vl:List Value}{S:World->Prop}{d:Nat->Bool}{v:Nat->Value}{w' w2:World}{ops:Array Oper}{a:Array Value}{i k:Nat}{x:Value}
theorem GF.sc (h:GF sl (lk vl) S d v w') (hS:S w2) (hx:x=lk vl i:=by first | rfl | simp[lk]) (hk:sl[i]?=some k:=by rfl) (hnd:sl.Nodup:=by decide):GF sl (lk vl) S (aY d i) (cB v (some k) x) w2:=by
 refine⟨λj q b f=>?_,hS⟩;by_cases hji:j=i
 ·subst hji;rw[hk] at b;obtain rfl:=aV b;show (if k=k then x else v k)=lk vl j;rw[if_pos rfl];exact hx
 ·have c:q≠k:=λe=>hji (Ye hnd b (by rw[e];exact hk));show (if q=k then x else v q)=lk vl j;rw[if_neg c];refine h.cl j q b ?_;unfold aY at f;rw[if_neg hji] at f;exact f
theorem GF.sp (h:GF sl (lk vl) S d v w') (hx:x=lk vl i:=by first | rfl | simp[lk]) (hk:sl[i]?=some k:=by rfl) (hnd:sl.Nodup:=by decide):GF sl (lk vl) S (aY d i) (cB v (some k) x) w':=h.sc h.st hx hk hnd
theorem GF.g (h:GF sl (lk vl) S d (λk=>a.getD k undef) w') (i k:Nat) (hd:d i=true) (hk:sl[i]?=some k:=by rfl):a[k]?.getD undef=lk vl i:=by rw[<-aI];exact h.cl i k hk hd
theorem GF.all (h:GF sl (lk vl) S d (λk=>a.getD k undef) w'): ∀L:List (Nat×Nat),(L.all λp=>sl[p.1]?==some p.2)=true->dT vl d a L
 | [],_=>trivial
 | p::r,hL=>by
  rw[List.all_cons,fK] at hL;exact⟨λhd=>h.g p.1 p.2 hd (eq_of_beq hL.1),h.all r hL.2⟩
theorem GF.on (h:GF sl (lk vl) S d (λk=>a.getD k undef) w') {o og:Oper}{g:Nat}{b:Bool}{A B:Prop} (ha:A) (hg:o.guard=some (g,b):=by rfl) (ho:ops[g]?=some og:=by rfl) (hk:og.dst=some k:=by rfl) (hs:sl[g]?=some k:=by rfl) (hv:lk vl g= .bool b:=by rfl) (hd:d g=true):if Region.wanted o (yielded ops a)=true then A else B:=rE ((h.g g k hd hs).trans hv) ha hg ho hk
theorem GF.sk {c:Act} (h:GF sl (lk vl) S d (λk=>c.tmps.getD k undef) w') {o og:Oper}{g j:Nat}{b:Bool}{A:Prop}{R:Act->World->Prop} (hR: ∀x w',GF sl (lk vl) S (aY d i) (cB (λk=>c.tmps.getD k undef) o.dst x) w'->R (c.put o.dst x) w') (hg:o.guard=some (g,b):=by rfl) (ho:ops[g]?=some og:=by rfl) (hk:og.dst=some k:=by rfl) (hs:sl[g]?=some k:=by rfl) (hv:Fc (lk vl g) b=true:=by rfl)
  (h1:o.dst=some j:=by rfl) (h2:sl[i]?=some j:=by rfl) (hx:undef=lk vl i:=by rfl) (hnd:sl.Nodup:=by decide) (hd:d g=true):if Region.wanted o (yielded ops c.tmps)=true then A else R (c.put o.dst undef) w':=by
 rw[if_neg]
 ·refine hR _ _ ?_;rw[h1];exact h.sp hx h2 hnd
 ·simp only[Region.wanted,yielded,hg,ho,hk,Option.bind,beq_iff_eq];exact Yf (h.g g k hd hs) (Yh hv)
end
def Av (OR:List Nat) (n:Nat):Bool:=(List.range n).all (OR.contains ·)
theorem Aw {OR:List Nat}{ops:Array Oper} (h:Av OR ops.size=true) {i:Nat}{o:Oper} (ho:ops[i]?=some o):i∈OR:=by
 have:=gW.1 h i (List.mem_range.2 (lI.1 ho).1);simpa using this
theorem lX {P:Program}{ops:Array Oper}{Q:Exit->Act->World->Prop}{id:Nat}{a0:Act}{w0:World} (sl:List Nat) (n:Nat) (vl:List Value) (S:World->Prop) (OR:List Nat) (h0:S w0.drew)
  (hs: ∀(d:Nat->Bool) (a:Act) (w:World) (i:Nat) (o:Oper),i∈OR->ops[i]?=some o->d i=false->(∀e∈o.after,Region.binds .any e=true->d e.on=true)->(∀k,k ∉ sl->a.tmps.getD k undef=a0.tmps.getD k undef)->GF sl (lk vl) S d (λk=>a.tmps.getD k undef) w->
   ∀R:Act->World->Prop,(∀x w',GF sl (lk vl) S (aY d i) (cB (λk=>a.tmps.getD k undef) o.dst x) w'->R (a.put o.dst x) w')->if Region.wanted o (yielded ops a.tmps)=true then o.wp P a w R Q else R (a.put o.dst undef) w)
  (hd: ∀w:World,S w->Q .normal { a0 with tmps:=jE a0.tmps sl vl } w)
  (hm:P.follows .mixedOrders=true:=by kernel_rfl) (hn:a0.tmps.size=n:=by rfl) (hback:(At ops&&rV ops sl n&&Av OR ops.size&&decide (sl.length<=ops.size))=true:=by kernel_rfl):(Code.region id ops true).wp P Q a0 w0:=by
 simp only[fK] at hback;refine Ya hm sl n hn hback.1.1.1 hback.1.1.2 (λd v w'=>GF sl (lk vl) S d v w') ⟨λ_ _ _ h=>Bool.noConfusion h,h0⟩ (λd a w i o c=>hs d a w i o (Aw hback.1.2 c) c) (λv w h=>?_);have hl:=of_decide_eq_true hback.2;rw[Ez a0.tmps v sl vl (λi k b=>h.cl i k b (aO (by have:=(aR.1 b).1;omega)))];exact hd w h.st
def lC:List Nat->List Nat->Nat->List (Option Nat)
 | sl,[],_=>sl.map some
 | sl,p::ps,i=>(sl.take (p-i)).map some++none::lC (sl.drop (p-i)) ps (p+1)
section
variable {ops:Array Oper}{sl:List (Option Nat)}{eff:List Nat}{fr:Nat}{Fb:Value->World->Prop}{vl:List Value}{S:World->Prop}{Ph:Nat->Value->World->Prop}{d:Nat->Bool}{v:Nat->Value}{w' w2:World}{i k j:Nat}{o:Oper}{x:Value}{a:Array Value}
theorem cC.pu (h:cC ops sl eff fr Fb (lk vl) S Ph d v w') (ho:ops[i]?=some o) (hall: ∀e∈o.after,Region.binds .any e=true->d e.on=true) (hx:x=lk vl i:=by first | rfl | simp[lk]) (hk:fT sl i=some k:=by rfl) (hnd:pH sl=true:=by kernel_rfl) (hne:i ∉ eff:=by decide) (hfr:i≠fr:=by decide) (hel:eff≠ []:=by decide):cC ops sl eff fr Fb (lk vl) S Ph (aY d i) (cB v (some k) x) w':=h.pure hnd ho hall hk hne hfr hel hx
theorem cC.ln (h:cC ops sl eff fr Fb (lk vl) S Ph d v w') (hi:d i=false) (hr:mD ops ops.size (eff.getLastD 0) i=true:=by kernel_rfl):d (eff.getLastD 0)=false:=h.lastNot hr hi
theorem cC.ea (h:cC ops sl eff fr Fb (lk vl) S Ph d v w') (hi:d i=false) (hr:mD ops ops.size (eff.getLastD 0) i=true:=by kernel_rfl):S w':=h.early hr hi
theorem cC.gg (h:cC ops sl eff fr Fb (lk vl) S Ph d (λk=>a.getD k undef) w') (i k:Nat) (hd:d i=true) (hs:fT sl i=some k:=by rfl) (hl:i<sl.length:=by decide) (h1:i ∉ eff:=by decide) (h2:i≠fr:=by decide):a[k]?.getD undef=lk vl i:=h.g i k hs hl h1 h2 hd
theorem cC.all (h:cC ops sl eff fr Fb (lk vl) S Ph d (λk=>a.getD k undef) w'): ∀L:List (Nat×Nat),(L.all λp=>fT sl p.1==some p.2&&decide (p.1<sl.length)&&decide (p.1 ∉ eff)&&decide (p.1≠fr))=true->dT vl d a L
 | [],_=>trivial
 | p::r,hL=>by
  rw[List.all_cons,fK] at hL;simp only[fK,jS] at hL;exact⟨λhd=>h.g p.1 p.2 (eq_of_beq hL.1.1.1.1) hL.1.1.1.2 hL.1.1.2 hL.1.2 hd,h.all r hL.2⟩
theorem cC.fe (h:cC ops sl eff fr Fb (lk vl) S Ph d v w') (ho:ops[i]?=some o) (hall: ∀e∈o.after,Region.binds .any e=true->d e.on=true) (hi:d i=false) (hS:S w'->S w2) (hP: ∀k c,Ph k c w'->Ph k c w2) (hx:Fb x w2) (hk:fT sl i=some k:=by rfl) (hnd:pH sl=true:=by kernel_rfl) (hne:i ∉ eff:=by decide) (hfr:i=fr:=by rfl) (hel:eff≠ []:=by decide)
  (hsl:eff.all (λe=>e==eff.getLastD 0||(fT sl e).isSome)=true:=by kernel_rfl) (hnl:eff.Nodup:=by decide) (hr:mD ops ops.size (eff.getLastD 0) i=true:=by kernel_rfl):cC ops sl eff fr Fb (lk vl) S Ph (aY d i) (cB v (some k) x) w2:=h.free hnd ho hall hk hne hfr hel hsl hnl (h.ln hi hr) hS hP hx
theorem cC.ef (h:cC ops sl eff fr Fb (lk vl) S Ph d v w') (j:Nat) (ho:ops[i]?=some o) (hall: ∀e∈o.after,Region.binds .any e=true->d e.on=true) (hi:d i=false) (hp:j=0\/ ∃e',eff[j-1]?=some e'/\d e'=true)
  {dst:Option Nat} (hF:i≠eff.getLastD 0-> ∀x,Fb x w'->Fb x w2) (hS:i≠eff.getLastD 0->S w2) (hP:Ph (j+1) (match dst with | some _=>x | none=>fI sl v fr) w2) (hk:fT sl i=dst:=by rfl) (he:eff[j]?=some i:=by rfl) (hnd:pH sl=true:=by kernel_rfl) (hne:eff.Nodup:=by decide) (hfr:i≠fr:=by decide):cC ops sl eff fr Fb (lk vl) S Ph (aY d i) (cB v dst x) w2:=
 h.eff2 hnd hne j ho hall he hi hp hk hfr hF hS (by cases dst<;>exact hP)
def Ax (D:List Nat):Nat->List Value->List Value
 | _,[]=> []
 | i,x::r=>(bif D.contains i then undef else x)::Ax D (i+1) r
theorem Fd (D:List Nat): ∀(l:List Value) (i j:Nat),D.contains (i+j)=false->lk (Ax D i l) j=lk l j
 | [],_,_,_=>rfl
 | x::r,i,0,h=>by
  rw[Nat.add_zero] at h;show (bif D.contains i then undef else x)=x;rw[h];rfl
 | x::r,i,j+1,h=>Fd D r (i+1) j (by rw[<-h];congr 1;omega)
theorem cC.sw {F0:Value->World->Prop}{v0:List Value}{S0:World->Prop}{P0:Nat->Value->World->Prop} (h:cC ops sl eff fr F0 (lk v0) S0 P0 d v w') (D:List Nat) (ho:ops[i]?=some o) (hall: ∀e∈o.after,Region.binds .any e=true->d e.on=true) (hi:d i=false)
  (hS:S0 w'->S w2) (hP: ∀k c,k<eff.length->P0 k c w'->Ph k c w2) (hF: ∀x,F0 x w'->Fb x w2) (hag:Ax D 0 vl=Ax D 0 v0:=by rfl) (hx:x=lk vl i:=by first | rfl | simp[lk]) (hk:fT sl i=some k:=by rfl) (hnd:pH sl=true:=by kernel_rfl) (hne:i ∉ eff:=by decide) (hfr:i≠fr:=by decide) (hel:eff≠ []:=by decide) (hr:(mD ops ops.size (eff.getLastD 0) i&&D.all λj=>mD ops ops.size j i)=true:=by kernel_rfl):cC ops sl eff fr Fb (lk vl) S Ph (aY d i) (cB v (some k) x) w2:=by
 have BD:=trivial;exact ud
theorem cC.qu (h:cC ops sl eff fr Fb (lk vl) S Ph d v w') (ho:ops[i]?=some o) (hall: ∀e∈o.after,Region.binds .any e=true->d e.on=true) (hi:d i=false)
  (hS:S w'->S w2) (hP: ∀k c,k<eff.length->Ph k c w'->Ph k c w2) (hF: ∀x,Fb x w'->Fb x w2) (hx:x=lk vl i:=by first | rfl | simp[lk]) (hk:fT sl i=some k:=by rfl) (hnd:pH sl=true:=by kernel_rfl) (hne:i ∉ eff:=by decide) (hfr:i≠fr:=by decide) (hel:eff≠ []:=by decide) (hr:mD ops ops.size (eff.getLastD 0) i=true:=by kernel_rfl):cC ops sl eff fr Fb (lk vl) S Ph (aY d i) (cB v (some k) x) w2:=
 h.sw [] ho hall hi hS hP hF rfl hx hk hnd hne hfr hel (by rw[hr];rfl)
end
def xZ (vl:List Value) (v:Nat->Value):List (Nat×Nat)->Prop
 | []=>True
 | p::r=>v p.2=lk vl p.1/\xZ vl v r
theorem Ay {sl:List (Option Nat)}{eff:List Nat}{fr n:Nat}{vl:List Value}{v:Nat->Value} (h: ∀i,i<sl.length->i<n->i ∉ eff->i≠fr->fI sl v i=lk vl i): ∀L:List (Nat×Nat),(L.all λp=>fT sl p.1==some p.2&&decide (p.1<sl.length)&&decide (p.1<n)&&decide (p.1 ∉ eff)&&decide (p.1≠fr))=true->xZ vl v L
 | [],_=>trivial
 | p::r,hL=>by
  rw[List.all_cons,fK] at hL;simp only[fK,jS] at hL;refine⟨?_,Ay h r hL.2⟩;have:=h p.1 hL.1.1.1.1.2 hL.1.1.1.2 hL.1.1.2 hL.1.2;unfold fI at this;rw[eq_of_beq hL.1.1.1.1.1] at this;exact this
theorem iW {P:Program}{ops:Array Oper}{Q:Exit->Act->World->Prop}{id:Nat}{a0:Act}{w0:World} (sl st eff:List Nat) (fr:Nat) (Fb:Value->World->Prop) (n:Nat) (vl:List Value) (S:World->Prop) (Ph:Nat->Value->World->Prop) (OR:List Nat) (h0:S w0.drew) (hP:Ph 0 undef w0.drew)
  (hs: ∀(d:Nat->Bool) (a:Act) (w:World) (i:Nat) (o:Oper),i∈OR->ops[i]?=some o->d i=false->(∀e∈o.after,Region.binds .any e=true->d e.on=true)->(∀k,k ∉ sl->a.tmps.getD k undef=a0.tmps.getD k undef)->cC ops (lC sl st 0) eff fr Fb (lk vl) S Ph d (λk=>a.tmps.getD k undef) w->
   ∀R:Act->World->Prop,(∀x w',cC ops (lC sl st 0) eff fr Fb (lk vl) S Ph (aY d i) (cB (λk=>a.tmps.getD k undef) o.dst x) w'->R (a.put o.dst x) w')->o.wp P a w R Q)
  (hd: ∀(v:Nat->Value) (w:World),(∀i,i<(lC sl st 0).length->i<ops.size->i ∉ eff->i≠fr->fI (lC sl st 0) v i=lk vl i)->Ph eff.length (oI eff (lC sl st 0) fr v eff.length) w->Q .normal { a0 with tmps:=cS a0.tmps v sl } w)
  (hm:P.follows .mixedOrders=true:=by kernel_rfl) (hn:a0.tmps.size=n:=by rfl) (hback:(tQ ops&&rV ops sl n&&eff.all (λe=>decide (e<ops.size))&&Av OR ops.size)=true:=by kernel_rfl):(Code.region id ops true).wp P Q a0 w0:=by
 simp only[fK] at hback;exact Yd hm (lC sl st 0) sl eff fr Fb n hn hback.1.1.1 hback.1.1.2 hback.1.2 (lk vl) S Ph h0 hP (λd a w i o b=>hs d a w i o (Aw hback.2 b) b) hd
theorem Yi {P:Program}{ops:Array Oper}{Q:Exit->Act->World->Prop}{id:Nat}{a0:Act}{w0:World}{α:Type} (c:Nat) (sl st eff:List Nat) (fr:Nat) (Fb:Option α->Value->World->Prop) (n:Nat) (vl:Option α->List Value) (S:Option α->World->Prop) (Ph:Option α->Nat->Value->World->Prop) (OR:List Nat) (h0:S none w0.drew) (hP:Ph none 0 undef w0.drew)
  (hc: ∀(d:Nat->Bool) (a:Act) (w:World) (o:Oper),ops[c]?=some o->d c=false->(∀e∈o.after,Region.binds .any e=true->d e.on=true)->(∀k,k ∉ sl->a.tmps.getD k undef=a0.tmps.getD k undef)->cC ops (lC sl st 0) eff fr (Fb none) (lk (vl none)) (S none) (Ph none) d (λk=>a.tmps.getD k undef) w->
   ∀R:Act->World->Prop,(∀p x w',cC ops (lC sl st 0) eff fr (Fb (some p)) (lk (vl (some p))) (S (some p)) (Ph (some p)) (aY d c) (cB (λk=>a.tmps.getD k undef) o.dst x) w'->R (a.put o.dst x) w')->o.wp P a w R Q)
  (hs: ∀(q:Option α) (d:Nat->Bool) (a:Act) (w:World) (i:Nat) (o:Oper),i∈OR->ops[i]?=some o->d i=false->(∀e∈o.after,Region.binds .any e=true->d e.on=true)->(∀k,k ∉ sl->a.tmps.getD k undef=a0.tmps.getD k undef)->cC ops (lC sl st 0) eff fr (Fb q) (lk (vl q)) (S q) (Ph q) d (λk=>a.tmps.getD k undef) w->
   ∀R:Act->World->Prop,(∀x w',cC ops (lC sl st 0) eff fr (Fb q) (lk (vl q)) (S q) (Ph q) (aY d i) (cB (λk=>a.tmps.getD k undef) o.dst x) w'->R (a.put o.dst x) w')->o.wp P a w R Q)
  (hd: ∀(p:α) (v:Nat->Value) (w:World),(∀i,i<(lC sl st 0).length->i<ops.size->i ∉ eff->i≠fr->fI (lC sl st 0) v i=lk (vl (some p)) i)->Ph (some p) eff.length (oI eff (lC sl st 0) fr v eff.length) w->Q .normal { a0 with tmps:=cS a0.tmps v sl } w)
  (hm:P.follows .mixedOrders=true:=by kernel_rfl) (hn:a0.tmps.size=n:=by rfl) (hback:(tQ ops&&rV ops sl n&&eff.all (λe=>decide (e<ops.size))&&Av (c::OR) ops.size&&decide (c<ops.size))=true:=by kernel_rfl):(Code.region id ops true).wp P Q a0 w0:=by
 simp only[fK] at hback;obtain⟨⟨⟨⟨y,C⟩,D⟩,u⟩,F⟩:=hback;refine tR hm sl n hn y C (λd v w'=>(d c=false/\cC ops (lC sl st 0) eff fr (Fb none) (lk (vl none)) (S none) (Ph none) d v w')\/ ∃p,d c=true/\cC ops (lC sl st 0) eff fr (Fb (some p)) (lk (vl (some p))) (S (some p)) (Ph (some p)) d v w') ?_ ?_ ?_
 ·exact .inl ⟨rfl,λ_ _ _ _ h=>Bool.noConfusion h,λ_ _ _ h=>Bool.noConfusion h,λ_=>h0,λ_ h=>Bool.noConfusion h,0,dY _,λj e _=>⟨λh=>Bool.noConfusion h,λh=>absurd h (rY _)⟩,hP⟩
 ·intro d a w i o t s g m l R A;rcases l with⟨b,l⟩ | ⟨p,b,l⟩
  ·by_cases f:i=c
   ·subst f;exact hc d a w o t s g m l R (λp x w' h=>A x w' (.inr ⟨p,xE,h⟩))
   ·have r:i∈OR:=by
     rcases fY.1 (Aw u t) with h | h
     ·exact absurd h f
     ·exact h
    exact hs none d a w i o r t s g m l R (λx w' h=>A x w' (.inl ⟨by rw[iH (Ne.symm f)];exact b,h⟩))
  ·have f:i≠c:=λe=>by rw[e,b] at s;cases s
   have r:i∈OR:=by
    rcases fY.1 (Aw u t) with h | h
    ·exact absurd h f
    ·exact h
   exact hs (some p) d a w i o r t s g m l R (λx w' h=>A x w' (.inr ⟨p,Cy b,h⟩))
 ·intro v w l;rcases l with⟨b,_⟩ | ⟨p,_,h⟩
  ·have E:decide (c<ops.size)=false:=b;rw[F] at E;cases E
  ·exact hd p v w (λi y C D u=>h.cl i y D u (aO C)) (h.fin (λe G=>gW.1 D e G))
end
section
open Go.RowKit
open Go.Lib hiding intOf
def bM (e:TypeId) (B:Nat) (v:Value) (n:Nat) (xs:List Value) (el:Array Value) (X i:Nat) (W0:World):Nat->Value->World->Prop
 | 0,_,w'=>Below W0.heap.size W0 w'
 | 1,c,w'=> ∃w1,Below W0.heap.size W0 w1/\c= .slice (some ⟨w1.heap.size,0,none⟩) 1 1/\w'=w1.alloc (.cells el e)
 | 2,c,w'=> ∃w1,Below W0.heap.size W0 w1/\w'.ownsRow B e el.size c (n+1) (xs++el.toList)/\w1.grownBy w' v.ownBlock/\(c.ownBlock=v.ownBlock\/c.ownBlock=some (w1.heap.size+1))/\ ∃g cap,c= .slice (some ⟨g,0,none⟩) (n+1) cap
 | _,_,w'=> ∃c w2,(∃w1,Below W0.heap.size W0 w1/\w2.ownsRow B e el.size c (n+1) (xs++el.toList)/\w1.grownBy w2 v.ownBlock/\(c.ownBlock=v.ownBlock\/c.ownBlock=some (w1.heap.size+1))/\ ∃g cap,c= .slice (some ⟨g,0,none⟩) (n+1) cap)/\w'=w2.setCell ⟨X,i,none⟩ c
section
variable {e:TypeId}{B:Nat}{v:Value}{n:Nat}{xs:List Value}{el:Array Value}{X i:Nat}{W0 w':World}
theorem bM.form {c:Value} (h:bM e B v n xs el X i W0 2 c w'): ∃g cap,c= .slice (some ⟨g,0,none⟩) (n+1) cap:=by
 obtain⟨_,_,_,_,_,h⟩:=h;exact h
theorem bM.app {P:Program}{o:Oper}{a:Act}{K:Act->World->Prop}{Q:Exit->Act->World->Prop} (hgd:o.guard=none) (s x:Operand) (t:TypeId)
  (ho:o.op= .call { callee:= .builtin .append,args:= #[s,x],argTypes:= #[t,t] }) {i0:TypeInfo}{zv:Value}{bytes:Nat} (hu:P.underlying t=some (.slice e)) (hi:P.info? e=some i0) (hz:i0.zero=some zv) {size:Nat}
  (hsize:i0.size=size) (hby:i0.bytes=bytes) (hzs:zv.cells.size=size) (hsz:0<size) (hel:el.size=size) (h1: ∀u∈el.toList,u.oneCell'=true)
  (hown:W0.ownsRow B e size v n xs) (hn:n+1<=4294967296) (hbt:bytes<=256) (hB:B<=W0.heap.size) {c:Value} (h:bM e B v n xs el X i W0 1 c w') (hs:a.eval s=v) (hx:a.eval x=c)
  (hK: ∀v' w2,bM e B v n xs el X i W0 2 v' w2->K (a.put o.dst v') w2):o.wp P a w' K Q:=by
 obtain⟨w1,q,rfl,rfl⟩:=h;have hmul:(n+1)*bytes<=4294967296*256:=Nat.mul_le_mul hn hbt;refine wp_append_lies _ s x t ho B e i0 _ size bytes hu hi hz hsize hby hzs hsz v n xs hs ((gH hown q).alloc _) ⟨w1.heap.size,0,none⟩ 1 1 el.toList hx (by simp[hel]) (sF w1 el _) h1 b_ o_ a_ (by have:=q.size;simp;omega) _ rfl ?_;intro g cap w2 y A r _;refine hK _ _ ⟨w1,q,by rw[hel];exact y,tZ A,?_,g,cap,rfl⟩;exact fp
end
def uQ (W0:World) (t:TypeId) (cs:Array Value):Nat->Value->World->Prop
 | 0,_,w'=>Below W0.heap.size W0 w'
 | _,c,w'=> ∃Y,c= .pointer (some ⟨Y,0,none⟩)/\W0.heap.size<=Y/\w'.heap[Y]?=some (.cells cs t (0,0))/\Below W0.heap.size W0 w'
theorem uQ.keep {W0 w' w2:World}{t:TypeId}{cs:Array Value}{k:Nat}{c:Value} (h:uQ W0 t cs k c w') (hb:Below w'.heap.size w' w2):uQ W0 t cs k c w2:=by
 cases k with
 | zero=>exact aC (show Below W0.heap.size W0 w' from h) hb
 | succ k=>
  obtain⟨Y,g,f,b,l⟩:=h;exact⟨Y,g,f,(hb.block Y (aF b)).trans b,aC l hb⟩
def nI (W0:World) (t:TypeId) (z:Array Value) (x:Value) (w':World):Prop:= ∃Y,x= .pointer (some ⟨Y,0,none⟩)/\W0.heap.size<=Y/\w'.heap[Y]?=some (.cells z t (0,0))
theorem nI.new {W0 w':World}{t:TypeId}{z:Array Value} (h:W0.heap.size<=w'.heap.size):nI W0 t z (.pointer (some ⟨w'.heap.size,0,none⟩)) (w'.alloc (.cells z t)):=⟨_,rfl,h,heap_alloc_new w' _⟩
theorem nI.keep {W0 w' w2:World}{t:TypeId}{z:Array Value}{x:Value} (h:nI W0 t z x w') (hb:Below w'.heap.size w' w2):nI W0 t z x w2:=np
def lineA (r:aP):Array Value:= #[r.kind,r.sf,r.st,r.ind,r.kf,r.kt,r.rf,r.rt,r.nf,r.nt]
theorem Fe (r:aP): ∀u∈(lineA r).toList,u.oneCell'=true:=by
 intro u b;simp only[lineA,fY,List.not_mem_nil,or_false] at b;rcases b with rfl|rfl|rfl|rfl|rfl|rfl|rfl|rfl|rfl|rfl<;>rfl
theorem Mj {W0 w':World}{Y:Nat} (h:Below W0.heap.size W0 w') (hY:W0.heap.size<=Y) (r:aP):Below W0.heap.size W0 (cY w' Y r):=by
 unfold cY
 (repeat (refine Below.setCell ?_ (by first | exact hY) _))
 exact h
structure rF (T:TypeId) (Pr:aJ) (P:Nat) (txt:aA) (sv lv nv:Value) (tot:Nat) (a er:Int) (w':World):Prop where
 box:w'.heap[P]?=some (.cells #[bs txt,sv,lv,nv,tot,a,er] T (0,0))
 fr: ∀k o,Pr k=some o->w'.heap[k]?=some o
section
variable {T:TypeId}{Pr:aJ}{w0 w w' W0:World}{P:Nat}{txt:aA}{sp:List (Nat×Nat)}{lines:List aP}{z:List YN}{tot:Nat}{a er:Int}{sv lv nv:Value}
theorem rF.c2 (h:rF T Pr P txt sv lv nv tot a er w):w.cell? ⟨P,2,none⟩=some lv/\w.frozen? ⟨P,2,none⟩=false:=oh
theorem rF.c3 (h:rF T Pr P txt sv lv nv tot a er w):w.cell? ⟨P,3,none⟩=some nv/\w.frozen? ⟨P,3,none⟩=false:=oh
theorem YK.seen (h:YK T Pr w0 P txt sp lines z tot a er sv lv nv w):rF T Pr P txt sv lv nv tot a er w:=⟨h.box,λk o b=>(h.fr k o b).1⟩
theorem YK.seenA (h:YK T Pr w0 P txt sp lines z tot a er sv lv nv W0) {B2 s n:Nat}{e:TypeId}{v:Value}{xs:List Value}{el:Array Value}{X i:Nat} (hr:W0.ownsRow B2 e s v n xs) (he:e≠T) (hv: ∀k o,Pr k=some o->v.ownBlock≠some k) {k:Nat}{c:Value} (hk:k<3) (hp:bM e B2 v n xs el X i W0 k c w'):rF T Pr P txt sv lv nv tot a er w':=by
 have p: ∀w1,Below W0.heap.size W0 w1-> ∀r,w1.grownBy w' r->(r=none\/r=v.ownBlock)->rF T Pr P txt sv lv nv tot a er w':=λw1 b r g f=>by
  have q:=h.keep b;have m:=gH hr b;refine⟨pW g q.box (λe2=>?_),λk o hk=>pW g (q.fr k o hk).1 (λe2=>?_)⟩
  ·rcases f with rfl|rfl
   ·cases e2
   ·rcases cQ m q.box he with l | l
    ·rw[l] at e2;cases e2
    ·exact l e2
  ·rcases f with rfl|rfl
   ·cases e2
   ·exact hv k o hk e2
 match k,hp with
 | 0,hp=>
  have hp:Below W0.heap.size W0 w':=hp;exact(h.keep hp).seen
 | 1,⟨w1,b,_,hw⟩=>
  rw[hw];exact((h.keep b).keep (aL w1 _)).seen
 | 2,⟨w1,b,_,g,_⟩=>exact p w1 b _ g (.inr rfl)
 | k+3,_=>omega
theorem YK.lineA (h:YK T Pr w0 P txt sp lines z tot a er sv lv nv W0) {r:aP}{c:Value} (hp:bM 68 w0.heap.size lv lines.length (gK lines) (Go.Proofs.YtfhjncbdgjlcoaaGreatDoor.lineA r) P 2 W0 3 c w'): ∃lv',YK T Pr w0 P txt sp (lines++ [r]) z tot a er sv lv' nv w':=by
 obtain⟨c,w2,⟨w1,g,b,l,f,_⟩,rfl⟩:=hp;exact⟨c,(h.keep g).line (H:=w1.heap.size+1) (Nat.le_succ _) b l f⟩
end
theorem bU.mvar {w:World} (h:bU w):mF w:=h.1.2.2
theorem Tryz.infoLine:(Tryz.prog.info? 68).map (λi=>(i.zero,i.size,i.bytes))=some (some (.agg #[(0:Int),(0:Int),(0:Int),(0:Int),(0:Int),(0:Int),(0:Int),(0:Int),(0:Int),(0:Int)]),10,80):=d'
def gU (T:TypeId) (Pr:aJ) (w0:World) (P:Nat) (txt:aA) (sp:List (Nat×Nat)) (ls:List aP) (z:List YN) (nv:Value) (tot:Nat) (a er:Int) (w:World):Prop:= ∃sv lv,YK T Pr w0 P txt sp ls z tot a er sv lv nv w
theorem gU.toJ {T:TypeId}{Pr:aJ}{w0:World}{P:Nat}{txt:aA}{sp:List (Nat×Nat)}{ls:List aP}{z:List YN}{nv:Value}{tot:Nat}{a er:Int}{w:World} (h:gU T Pr w0 P txt sp ls z nv tot a er w) {ns:List bA} (hz:z.map (·.1)=ns):YJ T Pr w0 P txt sp ⟨ls,ns,tot⟩ a er w:=by
 obtain⟨sv,lv,h⟩:=h;exact⟨z,sv,lv,nv,hz,h⟩
theorem gU.keep {T:TypeId}{Pr:aJ}{w0:World}{P:Nat}{txt:aA}{sp:List (Nat×Nat)}{ls:List aP}{z:List YN}{nv:Value}{tot:Nat}{a er:Int}{w w':World} (h:gU T Pr w0 P txt sp ls z nv tot a er w) (hb:Below w.heap.size w w'):gU T Pr w0 P txt sp ls z nv tot a er w':=by
 obtain⟨sv,lv,h⟩:=h;exact⟨sv,lv,h.keep hb⟩
def Yj (Pr:aJ) (w0:World) (P:Nat) (txt:aA) (sp:List (Nat×Nat)) (st:YS) (z:List YN) (nv:Value) (R:aP×Int×Int) (e:Ending) (w':World):Prop:=
 (R.2.2≠0/\e= .returned (.bool false)/\fS YP Pr w0 P txt sp R.2.1 R.2.2 w')\/(R.2.2=0/\e= .returned (.bool true)/\gU YP Pr w0 P txt sp (st.lines++ [R.1]) z nv st.total 0 0 w')
theorem Yk {Pr:aJ}{w0:World}{P:Nat}{txt:aA}{sp:List (Nat×Nat)}{st:YS}{z:List YN}{nv:Value} (x:Nat×Nat) (w:World) (h:gU YP Pr w0 P txt sp st.lines z nv st.total 0 0 w) (hz:z.map (·.1)=st.nodes) (hx:sp[st.lines.length]?=some x) (hs:txt.length<=65536) (hn:sp.length<=131072) (hV:bU w0):
  Calls Tryz.prog 72 #[some P] w (Yj Pr w0 P txt sp st z nv (eZ txt x.1 x.2)):=by
 have ya:=trivial;exact qj
def Ff (T:TypeId) (Pr:aJ) (w0:World) (P:Nat) (txt:aA) (sp:List (Nat×Nat)) (st:YS) (z:List YN) (nv:Value) (R:NX) (e:Ending) (w':World):Prop:=match R with
 | .ok k ls=>e= .returned (.tuple #[k,true])/\gU T Pr w0 P txt sp ls z nv st.total 0 0 w'
 | .bad a er=>(∃m:Int,e= .returned (.tuple #[m,false]))/\fS T Pr w0 P txt sp a er w'
theorem Mk {Pr:aJ}{w0:World}{P:Nat}{txt:aA}{sp:List (Nat×Nat)}{st:YS}{z:List YN}{nv:Value} (k:Nat) (w:World) (h:gU YP Pr w0 P txt sp st.lines z nv st.total 0 0 w) (hz:z.map (·.1)=st.nodes) (hkl:k<=st.lines.length) (hll:st.lines.length<=sp.length) (hs:txt.length<=65536) (hn:sp.length<=131072) (hV:bU w0):
  Calls Tryz.prog 42 #[some P,k] w (Ff YP Pr w0 P txt sp st z nv (fR txt sp k st.lines)):=by
 obtain⟨R,G⟩:=exQ<|fR txt sp k st.lines;rw[G];unfold fR at G;have HR:=hid G;have HJ:Hid (gU YP Pr w0 P txt sp st.lines z nv st.total 0 0 w):=hid h;have ur:=hid hz;have HV:=hid hV;have HL:=hid (aK hkl hll);have eH:k<=sp.length:=aZ hkl hll;clear h G hV hkl hll hz;go_enter Tryz.func42,Tryz.ntmps42;go_wp2_with fail;go_loopw [6] (λs6 wr=> ∃(i:Nat) (ls:List aP),s6= .int .i64 (i:Int)/\i<=sp.length/\Hid (i<=ls.length/\ls.length<=sp.length)/\Hid (lW txt (sp.drop i) i ls=R)/\Hid (gU YP Pr w0 P txt sp ls z nv st.total 0 0 wr)) (λs6 _=>sp.length+1-(RowKit.intOf s6).toNat)
 case atStart=>exact⟨k,st.lines,rfl,eH,HL,HR,HJ⟩
 case round=>
  clear HR HJ HL eH;obtain⟨i,ls,rfl,hi,HL,HR,HJ⟩:=hrel;obtain⟨n,dv⟩:=exQ<|ls.length;have HN:=hid dv;obtain⟨sv,lv,hK⟩:=HJ.out;obtain⟨⟨c0,c1,c2,c3,c4,c5,c6⟩,f2,f3,f4,f5,f6⟩:=hK.cells;obtain⟨ps,cs,rfl⟩:=hK.spSlice;obtain⟨pl,cl,rfl⟩:=hK.lnSlice;have hPl:=hK.lt;simp only[dv] at c2;have cy:(0:Int)<=(i:Int):=a_
  clear hK;by_cases hil:i<sp.length
  ·obtain⟨x,hx⟩: ∃x,sp[i]?=some x:=⟨_,bC hil⟩;have eg:sp.drop i=x::sp.drop (i+1):=dy;have hr:=HR.out;rw[eg] at hr;unfold lW at hr;have d1:decide ((i:Int)<(sp.length:Int))=true:=aO a_;obtain⟨i1,cL⟩:=exQ<|i+1;have br:(i:Int)+1=(i1:Int):=a_;have eo:i1<=sp.length:=a_;have il:=hid cL;by_cases gO:i<n
   ·have B0:=trivial;exact uw
   ·have kE:i=n:=by have:=HL.out.1;have:=HN.out;omega
    subst kE;have de:((i:Int)==(i:Int))=true:=e_;have os:ls[i]?=none:=List.getElem?_eq_none a_;rw[os] at hr;simp only[] at hr;have CK:=hid (λw' hj=>Yk (Pr:=Pr) (w0:=w0) (P:=P) (txt:=txt) (sp:=sp) (st:=⟨ls,st.nodes,st.total⟩) (z:=z) (nv:=nv) x w' hj ur.out (by simp only[];rw[HN.out];exact hx) hs hn HV.out);obtain⟨⟨r,at_,er⟩,kW⟩:=exQ<|eZ txt x.1 x.2;rw[kW] at hr CK;simp only[] at hr;have bi:=hid hr;clear hr kW os eg hx cL;by_cases h0:er=0
    ·subst h0;rw[if_neg e_] at bi;have su:Hid (∀w',gU YP Pr w0 P txt sp ls z nv st.total 0 0 w'->Calls Tryz.prog 72 #[some P] w' λe w2=>e= .returned (.bool true)/\gU YP Pr w0 P txt sp (ls++ [r]) z nv st.total 0 0 w2):=hid (λw' hj=>(CK.out w' hj).mono (λe w2 hE=>by
      rcases hE with⟨h1,_⟩ | ⟨_,h2,h3⟩
      ·exact absurd rfl h1
      ·exact⟨h2,h3⟩))
     clear CK;have CC:=hid (λw=>Md r w);unfold dW at CC;go_wp2_with (go_at_call 72;refine(su.out _ D6).mono ?_;rintro e w2 ⟨rfl,fj⟩;have ed:=hid fj;obtain⟨sv2,lv2,av⟩:=fj;obtain⟨gl,c9,e9,_,I⟩:=av.lineAt (k:=i) (r:=r) (by show (ls++ [r])[i]?=some r;rw[kT (by have:=HN.out;omega),show i-ls.length=0 by have:=HN.out;omega];rfl);have b0:=I 0 _ a_ rfl;have b1:=I 1 _ a_ rfl;have b2:=I 2 _ a_ rfl;have b3:=I 3 _ a_ rfl;have b4:=I 4 _ a_ rfl;have b5:=I 5 _ a_ rfl;have b6:=I 6 _ a_ rfl;have b7:=I 7 _ a_ rfl;have b8:=I 8 _ a_ rfl;have b9:=I 9 _ a_ rfl;have q2:=av.cells.1.2.2.1;have q1:=av.cells.1.2.1;have sQ:(ls++ [r]).length=i1:=(by rw[aT,dS];have:=HN.out;have:=il.out;omega);subst e9;simp only[sQ] at q2;have xO:(i:Int)<(i1:Int):=a_;have jp:=av.lt;simp only[Nat.add_zero] at b0;clear av I)
     all_goals exact uw
    ·have ga:er≠0:=h0;rw[if_pos ga] at bi;have su:Hid (∀w',gU YP Pr w0 P txt sp ls z nv st.total 0 0 w'->Calls Tryz.prog 72 #[some P] w' λe w2=>e= .returned (.bool false)/\fS YP Pr w0 P txt sp at_ er w2):=hid (λw' hj=>(CK.out w' hj).mono (λe w2 hE=>by
      rcases hE with⟨_,h2,h3⟩ | ⟨h1,_⟩
      ·exact⟨h2,h3⟩
      ·exact absurd h1 h0))
     clear CK h0 ga;go_wp2_with (go_at_call 72;refine(su.out _ D6).mono ?_;rintro e w2 ⟨rfl,fj⟩;have ed:=hid fj;clear fj)
     all_goals
      go_ret2;rw[<-bi.out];exact⟨⟨_,rfl⟩,ed.out⟩
  ·have hI:i=sp.length:=a_;exact jj
theorem Fg {Pr:aJ}{w0:World}{P:Nat}{txt:aA}{sp:List (Nat×Nat)}{st:YS} (k:Nat) (w:World) (h:YJ YP Pr w0 P txt sp st 0 0 w) (hkl:k<=st.lines.length) (hll:st.lines.length<=sp.length) (hs:txt.length<=65536) (hn:sp.length<=131072) (hV:bU w0):
  Calls Tryz.prog 42 #[some P,k] w (rD YP Pr w0 P txt sp st (fR txt sp k st.lines)):=by
 obtain⟨z,sv,lv,nv,c,f⟩:=h;refine(Mk k w ⟨sv,lv,f⟩ c hkl hll hs hn hV).mono (λe w' b=>?_);exact kj
end
end Go.Proofs.YtfhjncbdgjlcoaaGreatDoor
