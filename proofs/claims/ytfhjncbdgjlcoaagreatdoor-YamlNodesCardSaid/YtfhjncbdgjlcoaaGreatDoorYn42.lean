import Derived.Test.YtfhjncbdgjlcoaaGreatDoorYn7
set_option linter.unusedVariables false
set_option linter.unusedSimpArgs false
namespace Go.Proofs.YtfhjncbdgjlcoaaGreatDoor
open Tryz
open Go.RowKit
structure RG (n s0 ic im il ia ip is:Nat) (val:Nat->Value) (S1 S A0:World->Prop) (Al Ap:Value->World->Prop) (Fin:World->Prop) (d:Nat->Bool) (v:Nat->Value) (w':World):Prop where
 cl: ∀i,i<n->i≠ia->i≠ip->d i=true->v (s0+i)=val i
 st1:S1 w'
 st:d is=false->S w'
 upl:d ip=true->d il=true
 upc:d im=true->d ic=true
 up0:d ia=true->d im=true
 up1:d ip=true->d ia=true
 up2:d is=true->d ip=true
 w0:d ia=false->A0 w'
 w1:d ia=true->d ip=false->Al (v (s0+ia)) w'
 w2:d ip=true->d is=false->Ap (v (s0+ip)) w'
 w3:d is=true->Fin w'
section
variable {n s0 ic im il ia ip is:Nat}{val:Nat->Value}{S1 S A0:World->Prop}{Al Ap:Value->World->Prop}{Fin:World->Prop}{d:Nat->Bool}{v:Nat->Value}{w' w2:World}
theorem oN {a b:Bool} (h:a=true->b=true) (hb:b=false):a=false:=by
 cases a with
 | false=>rfl
 | true=>rw[h rfl] at hb;cases hb
theorem RG.clSet (h:RG n s0 ic im il ia ip is val S1 S A0 Al Ap Fin d v w') {i k:Nat} (hk:k=s0+i) {x:Value} (hx:(i=ia\/i=ip)\/x=val i): ∀j,j<n->j≠ia->j≠ip->bE d i j=true->cE v (some k) x (s0+j)=val j:=by
 subst hk;intro j e a b c;by_cases hji:j=i
 .subst hji;rw[uT];rcases hx with(rfl|rfl) | hx
  .exact absurd rfl a
  .exact absurd rfl b
  .exact hx
 .rw[uU a_];exact h.cl j e a b ((Ai c).resolve_left hji)
theorem RG.pure (h:RG n s0 ic im il ia ip is val S1 S A0 Al Ap Fin d v w') {i k:Nat} (hk:k=s0+i) {x:Value} (hx:x=val i) (h1:i≠ia) (h2:i≠ip) (h3:i≠is) (hm:i=im->i=ic\/d ic=true):RG n s0 ic im il ia ip is val S1 S A0 Al Ap Fin (bE d i) (cE v (some k) x) w':=by
 have e1:bE d i ia=d ia:=cV (Ne.symm h1);have e2:bE d i ip=d ip:=cV (Ne.symm h2);have e3:bE d i is=d is:=cV (Ne.symm h3);refine⟨h.clSet hk (.inr hx),h.st1,λa=>?_,λa=>?_,λa=>?_,λa=>?_,λa=>?_,λa=>?_,λa=>?_,λa b=>?_,λa b=>?_,λa=>?_⟩
 .rw[e3] at a;exact h.st a
 .rw[e2] at a;by_cases hc:il=i
  .rw[hc];exact kU
  .rw[cV hc];exact h.upl a
 .by_cases hc:ic=i
  .rw[hc];exact kU
  .rw[cV hc];rcases Ai a with e | a
   .exact(hm e.symm).resolve_left (λe=>hc e.symm)
   .exact h.upc a
 .rw[e1] at a;by_cases hc:im=i
  .rw[hc];exact kU
  .rw[cV hc];exact h.up0 a
 .rw[e2] at a;rw[e1];exact h.up1 a
 .rw[e3] at a;rw[e2];exact h.up2 a
 .rw[e1] at a;exact h.w0 a
 .rw[e1] at a;rw[e2] at b;subst hk;rw[uU a_];exact h.w1 a b
 .rw[e2] at a;rw[e3] at b;subst hk;rw[uU a_];exact h.w2 a b
 .rw[e3] at a;exact h.w3 a
theorem RG.call (h:RG n s0 ic im il ia ip is val S1 S A0 Al Ap Fin d v w') (ho:ic≠ia/\ic≠ip/\ic≠is) (hd:d ic=false) {k:Nat} (hk:k=s0+ic) {x:Value} (hx:x=val ic) (hS1:S1 w2) (hS:S w2) (hA:A0 w2):RG n s0 ic im il ia ip is val S1 S A0 Al Ap Fin (bE d ic) (cE v (some k) x) w2:=by
 obtain⟨o1,o2,o3⟩:=ho;have e:=oN h.up0 (oN h.upc hd);have b:=oN h.up1 e;have c:=oN h.up2 b;have e1:bE d ic ia=d ia:=cV (Ne.symm o1);have e2:bE d ic ip=d ip:=cV (Ne.symm o2);have e3:bE d ic is=d is:=cV (Ne.symm o3);refine⟨h.clSet hk (.inr hx),hS1,λ_=>hS,λa=>?_,λ_=>kU,λa=>(by rw[e1,e] at a;cases a),λa=>?_,λa=>?_,λ_=>hA,λa=>?_,λa=>?_,λa=>?_⟩
 .exact bp
 .exact bp
 .exact br
 .rw[e1,e] at a;cases a
 .exact bp
 .exact br
theorem RG.alloc (h:RG n s0 ic im il ia ip is val S1 S A0 Al Ap Fin d v w') (ho:ia≠ic/\ia≠ip/\ia≠is/\ia≠im) (hd:d ia=false) (hc:d im=true) {k:Nat} (hk:k=s0+ia) {x:Value} (hS1:S1 w2) (hS:S w2) (hA:Al x w2):RG n s0 ic im il ia ip is val S1 S A0 Al Ap Fin (bE d ia) (cE v (some k) x) w2:=by
 obtain⟨o1,o2,o3,o4⟩:=ho;have b:=oN h.up1 hd;have c:=oN h.up2 b;have e0:bE d ia im=d im:=cV (Ne.symm o4);have e4:bE d ia ic=d ic:=cV (Ne.symm o1);have e2:bE d ia ip=d ip:=cV (Ne.symm o2);have e3:bE d ia is=d is:=cV (Ne.symm o3);refine⟨h.clSet hk (.inl (.inl rfl)),hS1,λ_=>hS,λa=>?_,λa=>(by rw[e4];exact h.upc hc),λ_=>by rw[e0];exact hc,λa=>?_,λa=>?_,λa=>?_,λ_ _=>?_,λa=>?_,λa=>?_⟩
 .exact bp
 .exact bp
 .exact br
 .rw[kU] at a;cases a
 .subst hk;rw[uT];exact hA
 .exact bp
 .exact br
theorem RG.app (h:RG n s0 ic im il ia ip is val S1 S A0 Al Ap Fin d v w') (ho:ip≠ic/\ip≠ia/\ip≠is/\ip≠il/\ip≠im) (hd:d ip=false) (ha:d ia=true) (hl:d il=true) {k:Nat} (hk:k=s0+ip) {x:Value} (hS1:S1 w2) (hS:S w2) (hA:Ap x w2):RG n s0 ic im il ia ip is val S1 S A0 Al Ap Fin (bE d ip) (cE v (some k) x) w2:=by
 obtain⟨o1,o2,o3,o4,o5⟩:=ho;have c:=oN h.up2 hd;have e0:bE d ip im=d im:=cV (Ne.symm o5);have e4:bE d ip ic=d ic:=cV (Ne.symm o1);have e1:bE d ip ia=d ia:=cV (Ne.symm o2);have e3:bE d ip is=d is:=cV (Ne.symm o3);refine⟨h.clSet hk (.inl (.inr rfl)),hS1,λ_=>hS,λ_=>by rw[cV (Ne.symm o4)];exact hl,λa=>(by rw[e0] at a;rw[e4];exact h.upc a),λa=>?_,λ_=>by rw[e1];exact ha,λa=>?_,λa=>?_,λ_ a=>?_,λ_ _=>?_,λa=>?_⟩
 .rw[e1] at a;rw[e0];exact h.up0 a
 .exact br
 .rw[e1,ha] at a;cases a
 .rw[kU] at a;cases a
 .subst hk;rw[uT];exact hA
 .exact br
theorem RG.sto (h:RG n s0 ic im il ia ip is val S1 S A0 Al Ap Fin d v w') (ho:is≠ic/\is≠ia/\is≠ip/\n<=is/\is≠il/\is≠im) (hd:d is=false) (hp:d ip=true) {x:Value} (hS1:S1 w2) (hF:Fin w2):RG n s0 ic im il ia ip is val S1 S A0 Al Ap Fin (bE d is) (cE v none x) w2:=by
 obtain⟨o0,o1,o2,o3,o4,o5⟩:=ho;have e0:bE d is im=d im:=cV (Ne.symm o5);have e4:bE d is ic=d ic:=cV (Ne.symm o0);have e1:bE d is ia=d ia:=cV (Ne.symm o1);have e2:bE d is ip=d ip:=cV (Ne.symm o2);refine⟨λj f g e c=>?_,hS1,λa=>?_,λa=>by rw[cV (Ne.symm o4)];exact h.upl (by rw[<-e2];exact a),λa=>(by rw[e0] at a;rw[e4];exact h.upc a),λa=>?_,λa=>?_,λ_=>by rw[e2];exact hp,λa=>?_,λa b=>?_,λ_ b=>?_,λ_=>hF⟩
 .rw[cV a_] at c;exact h.cl j f g e c
 .rw[kU] at a;cases a
 .rw[e1] at a;rw[e0];exact h.up0 a
 .rw[e2] at a;rw[e1];exact h.up1 a
 .rw[e1,h.up1 hp] at a;cases a
 .rw[e2,hp] at b;cases b
 .rw[kU] at b;cases b
theorem Qd {ops:Array Oper}{o:Oper}{t:Array Value}{A E:Prop} (hgd:o.guard=none) (h:if Region.wanted o (yielded ops t)=true then A else E):A:=by
 rw[if_pos (by simp[Region.wanted,hgd])] at h;exact h
theorem aDk {i:Nat} (h:i<19):i=0\/i=1\/i=2\/i=3\/i=4\/i=5\/i=6\/i=7\/i=8\/i=9\/i=10\/i=11\/i=12\/i=13\/i=14\/i=15\/i=16\/i=17\/i=18:=a_
theorem aDl {i:Nat} (h:i<22):i=0\/i=1\/i=2\/i=3\/i=4\/i=5\/i=6\/i=7\/i=8\/i=9\/i=10\/i=11\/i=12\/i=13\/i=14\/i=15\/i=16\/i=17\/i=18\/i=19\/i=20\/i=21:=a_
end
end Go.Proofs.YtfhjncbdgjlcoaaGreatDoor
