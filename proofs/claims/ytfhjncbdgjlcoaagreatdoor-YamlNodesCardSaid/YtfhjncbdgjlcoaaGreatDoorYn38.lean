import Derived.Test.YtfhjncbdgjlcoaaGreatDoorYn37
set_option linter.unusedVariables false
set_option linter.unusedSimpArgs false
set_option maxRecDepth 100000
set_option maxHeartbeats 8000000
namespace Go.Proofs.YtfhjncbdgjlcoaaGreatDoor
open Tryz
open Go.RowKit
open Go.Lib hiding intOf
theorem eI.kid {ns:List aV}{lv k hi:Nat}{x:aV} (h:eI ns (lv+1) k hi) (hx:ns[k]?=some x): ∀q∈x.kids,(∃m,eI ns lv q m)/\q<ns.length:=by
 obtain⟨x',c,f⟩:=h;rw[hx] at c;obtain rfl:=bA c;have d: ∀(l:List Nat) (a:Nat),eV (eI ns lv) l a hi-> ∀q∈l,∃m,eI ns lv q m:=by
  intro l
  induction l with
  | nil=>intro a _ q b;cases b
  | cons y l ih=>
   intro a h q b;obtain⟨rfl,m,i,j⟩:=h;rcases fT.1 b with rfl | b
   .exact⟨m,i⟩
   .exact ih m j q b
 intro q b;obtain⟨m,e⟩:=d _ _ f q b;refine⟨⟨m,e⟩,?_⟩;cases lv with
 | zero=>exact e.elim
 | succ lv=>obtain⟨y,g,_⟩:=e;exact(aW.1 g).1
def eB (s:aB) (ns:List aV) (kd:Nat) (l:List Nat):List aB:=if kd=3 then l.map (lM s ns) else []
theorem Cu (s:aB) (ns:List aV) (kd:Nat):eB s ns kd []= []:=by unfold eB;split<;>rfl
def Cv (s:aB) (d:dU) (lv:Nat):Prop:= ∀(B:Nat) (lvv nv:Value) (k m:Nat) (lev:Int) (w:World),eI d.nodes lv k m->Hid (lev=33-(lv:Int))->lv<=32->eP B d lvv nv w->bV w->
 Calls prog 26 #[.agg #[bs s,lvv,nv],k,lev] w (jJ (aX s d lv k) w)
theorem aCE (s:aB) (d:dU) (hb:oM s d) (hi64: ∀l∈d.lines,l.ind<=1099511627776) (lv:Nat) (IH:Cv s d lv) (B:Nat) (lvv nv:Value) (k m:Nat) (lev:Int) (w:World) (hT:eI d.nodes (lv+1) k m) (hlev:Hid (lev=33-((lv+1:Nat):Int))) (hlv:lv+1<=32) (hD0:eP B d lvv nv w) (hV:bV w) (x:aV) (hx:d.nodes[k]?=some x) (hkd:x.kind=1):
  Calls prog 26 #[.agg #[bs s,lvv,nv],k,lev] w (jJ (aX s d (lv+1) k) w):=by
 have Q6:=trivial;exact PI
theorem aCF (s:aB) (d:dU) (hb:oM s d) (hi64: ∀l∈d.lines,l.ind<=1099511627776) (lv:Nat) (IH:Cv s d lv) (B:Nat) (lvv nv:Value) (k m:Nat) (lev:Int) (w:World) (hT:eI d.nodes (lv+1) k m) (hlev:Hid (lev=33-((lv+1:Nat):Int))) (hlv:lv+1<=32) (hD0:eP B d lvv nv w) (hV:bV w) (x:aV) (hx:d.nodes[k]?=some x) (hkd:x.kind=4):
  Calls prog 26 #[.agg #[bs s,lvv,nv],k,lev] w (jJ (aX s d (lv+1) k) w):=by
 have QX:=trivial;exact PG
theorem aCG (s:aB) (d:dU) (hb:oM s d) (hi64: ∀l∈d.lines,l.ind<=1099511627776) (lv:Nat) (IH:Cv s d lv) (B:Nat) (lvv nv:Value) (k m:Nat) (lev:Int) (w:World) (hT:eI d.nodes (lv+1) k m) (hlev:Hid (lev=33-((lv+1:Nat):Int))) (hlv:lv+1<=32) (hD0:eP B d lvv nv w) (hV:bV w) (x:aV) (hx:d.nodes[k]?=some x) (h1:x.kind≠1) (h4:x.kind≠4):
    Calls prog 26 #[.agg #[bs s,lvv,nv],k,lev] w (jJ (aX s d (lv+1) k) w):=by
  have QN:=trivial;exact PC
theorem Pp (s:aB) (d:dU) (hb:oM s d) (hi64: ∀l∈d.lines,l.ind<=1099511627776): ∀lv,Cv s d lv
 | 0=>λ_ _ _ _ _ _ _ h=>h.elim
 | lv+1=>λB lvv nv k m lev w hT hlev hlv hD hV=>by
  obtain⟨x,hx⟩: ∃x,d.nodes[k]?=some x:=by obtain⟨x,hx,_⟩:=hT;exact⟨x,hx⟩
  have IH:=Pp s d hb hi64 lv;by_cases h1:x.kind=1
  .exact aCE s d hb hi64 lv IH B lvv nv k m lev w hT hlev hlv hD hV x hx h1
  .by_cases h4:x.kind=4
   .exact aCF s d hb hi64 lv IH B lvv nv k m lev w hT hlev hlv hD hV x hx h4
   .exact aCG s d hb hi64 lv IH B lvv nv k m lev w hT hlev hlv hD hV x hx h1 h4
end Go.Proofs.YtfhjncbdgjlcoaaGreatDoor
