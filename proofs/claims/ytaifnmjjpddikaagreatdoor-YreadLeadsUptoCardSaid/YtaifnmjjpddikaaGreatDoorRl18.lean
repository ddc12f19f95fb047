import Derived.Test.YtaifnmjjpddikaaGreatDoorRl17
import Derived.Test.YtaifnmjjpddikaaGreatDoorRl15
import Derived.Deep.AppendLies
import Derived.Deep.DeepCutAuto
set_option maxRecDepth 100000
set_option maxHeartbeats 4000000
namespace Go.Proofs.YtaifnmjjpddikaaGreatDoor
set_option linter.unusedVariables false
set_option linter.unusedSimpArgs false
section
open Go.RowKit
structure GF (sl:List Nat) (val:Nat->Value) (S:World->Prop) (d:Nat->Bool) (v:Nat->Value) (w':World):Prop where
 cl: ∀i k,sl[i]?=some k->d i=true->v k=val i
 st:S w'
theorem Yi {l:List Nat} (h:l.Nodup) {i j a:Nat} (hi:l[i]?=some a) (hj:l[j]?=some a):i=j:=by
 obtain⟨m,o⟩:=aR.1 hi;obtain⟨k,f⟩:=aR.1 hj;have g:=List.pairwise_iff_getElem.1 h;rcases Nat.lt_trichotomy i j with b | d | c
 ·exact absurd (o.trans f.symm) (g i j m k b)
 ·exact d
 ·exact absurd (f.trans o.symm) (g j i k m c)
theorem GF.step {sl:List Nat}{val:Nat->Value}{S:World->Prop}{d:Nat->Bool}{v:Nat->Value}{w' w2:World} (h:GF sl val S d v w') (hnd:sl.Nodup) {i k:Nat} (hk:sl[i]?=some k) {x:Value} (hx:x=val i) (hS:S w2):GF sl val S (bF d i) (bP v (some k) x) w2:=by
 refine⟨λj q b f=>?_,hS⟩;by_cases hji:j=i
 ·subst hji;rw[hk] at b;obtain rfl:=bD b;show (if k=k then x else v k)=val j;rw[if_pos rfl];exact hx
 ·have c:q≠k:=λe=>hji (Yi hnd b (by rw[e];exact hk));show (if q=k then x else v q)=val j;rw[if_neg c];refine h.cl j q b ?_;unfold bF at f;rw[if_neg hji] at f;exact f
theorem lE {o:Oper}{y:Nat->Option Bool} (h:o.guard=none):Region.wanted o y=true:=by simp[Region.wanted,h]
def Do (o:Option Value):Option Bool:=match o with | some (.bool b)=>some b | _=>none
theorem Yj {o:Option Value}{v:Value}{b:Bool} (h:o.getD undef=v) (hv:v≠ .bool b): ¬Do o=some b:=by
 intro e;cases o with
 | none=>cases e
 | some u=>
  have c:u=v:=h;subst c;cases u<;>simp[Do] at e;subst e;exact hv rfl
theorem Yk {o:Option Value}{b:Bool} (h:o.getD undef= .bool b):Do o=some b:=by
 cases o with
 | none=>cases h
 | some u=>
  have c:u= .bool b:=h;subst c;rfl
theorem Yl {ops:Array Oper}{o og:Oper}{tmps:Array Value}{g k:Nat}{b:Bool}{v:Value} (hg:o.guard=some (g,b)) (ho:ops[g]?=some og) (hk:og.dst=some k) (hc:tmps[k]?.getD undef=v) (hv:v≠ .bool b): ¬Region.wanted o (yielded ops tmps)=true:=by
 simp only[Region.wanted,yielded,hg,ho,hk,Option.bind,beq_iff_eq];exact Yj hc hv
theorem qU {ops:Array Oper}{o og:Oper}{tmps:Array Value}{g k:Nat}{b:Bool} (hg:o.guard=some (g,b)) (ho:ops[g]?=some og) (hk:og.dst=some k) (hc:tmps[k]?.getD undef= .bool b):Region.wanted o (yielded ops tmps)=true:=by
 simp only[Region.wanted,yielded,hg,ho,hk,Option.bind,beq_iff_eq];exact Yk hc
theorem GF.g {sl:List Nat}{val:Nat->Value}{S:World->Prop}{d:Nat->Bool}{a:Array Value}{w':World} (h:GF sl val S d (λk=>a.getD k undef) w') (i k:Nat) (hk:sl[i]?=some k) (hd:d i=true):a[k]?.getD undef=val i:=by rw[<-aO];exact h.cl i k hk hd
theorem tI {c:Prop} [Decidable c] {A B:Prop} (h: ¬c) (hb:B):if c then A else B:=by rw[if_neg h];exact hb
theorem fB {c:Prop} [Decidable c] {A B:Prop} (h:c) (ha:A):if c then A else B:=by rw[if_pos h];exact ha
def Dp (v:Value) (b:Bool):Bool:=match v with
 | .bool c=>c !=b
 | _=>true
theorem Ym {v:Value}{b:Bool} (h:Dp v b=true):v≠ .bool b:=by
 intro e;subst e;simp[Dp] at h
theorem GF.on {sl:List Nat}{val:Nat->Value}{S:World->Prop}{d:Nat->Bool}{a:Array Value}{w':World} (h:GF sl val S d (λk=>a.getD k undef) w') {ops:Array Oper}{o og:Oper}{g k:Nat}{b:Bool} (hg:o.guard=some (g,b)) (ho:ops[g]?=some og) (hk:og.dst=some k) (hs:sl[g]?=some k) (hd:d g=true) (hv:val g= .bool b):Region.wanted o (yielded ops a)=true:=qU hg ho hk ((h.g g k hs hd).trans hv)
theorem GF.off {sl:List Nat}{val:Nat->Value}{S:World->Prop}{d:Nat->Bool}{a:Array Value}{w':World} (h:GF sl val S d (λk=>a.getD k undef) w') {ops:Array Oper}{o og:Oper}{g k:Nat}{b:Bool} (hg:o.guard=some (g,b)) (ho:ops[g]?=some og) (hk:og.dst=some k) (hs:sl[g]?=some k) (hd:d g=true) (hv:Dp (val g) b=true): ¬Region.wanted o (yielded ops a)=true:=Yl hg ho hk (h.g g k hs hd) (Ym hv)
def fC (val:Nat->Value) (d:Nat->Bool) (a:Array Value):List (Nat×Nat)->Prop
 | []=>True
 | p::r=>(d p.1=true->a[p.2]?.getD undef=val p.1)/\fC val d a r
theorem GF.all {sl:List Nat}{val:Nat->Value}{S:World->Prop}{d:Nat->Bool}{a:Array Value}{w':World} (h:GF sl val S d (λk=>a.getD k undef) w'): ∀L:List (Nat×Nat),(L.all λp=>sl[p.1]?==some p.2)=true->fC val d a L
 | [],_=>trivial
 | p::r,hL=>by
  rw[List.all_cons,cT] at hL;exact⟨λhd=>h.g p.1 p.2 (eq_of_beq hL.1) hd,h.all r hL.2⟩
theorem eL.all {ops:Array Oper}{sl:List (Option Nat)}{eff:List Nat}{fr:Nat}{Fb:Value->World->Prop}{val:Nat->Value}{S:World->Prop}{Ph:Nat->Value->World->Prop}{d:Nat->Bool}{a:Array Value}{w':World} (h:eL ops sl eff fr Fb val S Ph d (λk=>a.getD k undef) w'): ∀L:List (Nat×Nat),(L.all λp=>gN sl p.1==some p.2&&decide (p.1<sl.length)&&decide (p.1 ∉ eff)&&decide (p.1≠fr))=true->fC val d a L
 | [],_=>trivial
 | p::r,hL=>by
  rw[List.all_cons,cT] at hL;simp only[cT,kQ] at hL;exact⟨λhd=>h.g p.1 p.2 (eq_of_beq hL.1.1.1.1) hL.1.1.1.2 hL.1.1.2 hL.1.2 hd,h.all r hL.2⟩
def lS (val v:Nat->Value):List Nat->Nat->Prop
 | [],_=>True
 | k::r,i=>v k=val i/\lS val v r (i+1)
theorem Lv {val v:Nat->Value}{n:Nat}{sl:List Nat} (h: ∀i k,sl[i]?=some k->i<n->v k=val i) (hn:sl.length<=n): ∀(l:List Nat) (i:Nat),sl.drop i=l->lS val v l i
 | [],_,_=>trivial
 | k::r,i,e=>by
  have hk:sl[i]?=some k:=by
   have:=congrArg List.head? e;rw[List.head?_drop] at this;exact this
  have hi:=(aR.1 hk).1;refine⟨h i k hk (by omega),Lv h hn r (i+1) ?_⟩;rw[<-jH,e];rfl
theorem oF {val v:Nat->Value}{n:Nat}{l:List Nat} (h: ∀i k,l[i]?=some k->i<n->v k=val i) (hn:l.length<=n):lS val v l 0:=Lv h hn l 0 rfl
theorem bA {a a0:Array Value}{sl:List Nat} (h: ∀k,k ∉ sl->a.getD k undef=a0.getD k undef) (k:Nat) (hk:k ∉ sl):a[k]?.getD undef=a0.getD k undef:=by rw[<-aO];exact h k hk
theorem oH {P:Program}{ops:Array Oper}{Q:Exit->Act->World->Prop}{id:Nat}{a0:Act}{w0:World} (hm:P.follows .mixedOrders=true) (sl:List Nat) (n:Nat) (hn:a0.tmps.size=n) (hback:zK ops=true) (hdst:nR ops sl n=true)
  (val:Nat->Value) (S:World->Prop) (h0:S w0.drew)
  (hs: ∀(d:Nat->Bool) (a:Act) (w:World) (i:Nat) (o:Oper),ops[i]?=some o->d i=false->(∀e∈o.after,Region.binds .any e=true->d e.on=true)->(∀k,k ∉ sl->a.tmps.getD k undef=a0.tmps.getD k undef)->GF sl val S d (λk=>a.tmps.getD k undef) w->
   ∀R:Act->World->Prop,(∀x w',GF sl val S (bF d i) (bP (λk=>a.tmps.getD k undef) o.dst x) w'->R (a.put o.dst x) w')->if Region.wanted o (yielded ops a.tmps)=true then o.wp P a w R Q else R (a.put o.dst undef) w)
  (hd: ∀(v:Nat->Value) (w:World),(∀i k,sl[i]?=some k->i<ops.size->v k=val i)->S w->Q .normal { a0 with tmps:=cC a0.tmps v sl } w):(Code.region id ops true).wp P Q a0 w0:=
 Yf hm sl n hn hback hdst (λd v w'=>GF sl val S d v w') ⟨λ_ _ _ h=>Bool.noConfusion h,h0⟩ hs (λv w h=>hd v w (λi k b c=>h.cl i k b (aM c)) h.st)
theorem eL.quiet {ops:Array Oper}{sl:List (Option Nat)}{eff:List Nat}{fr:Nat}{Fb:Value->World->Prop}{val:Nat->Value}{S:World->Prop}{Ph:Nat->Value->World->Prop}{d:Nat->Bool}{v:Nat->Value}{w' w2:World}
  (h:eL ops sl eff fr Fb val S Ph d v w') (hnd:tH sl=true) {i k:Nat}{o:Oper} (ho:ops[i]?=some o) (hall: ∀e∈o.after,Region.binds .any e=true->d e.on=true) (hk:gN sl i=some k) (hne:i ∉ eff) (hfr:i≠fr) (hel:eff≠ []) {x:Value} (hx:x=val i) (hdl:d (eff.getLastD 0)=false)
  (hS:S w'->S w2) (hP: ∀k c,k<eff.length->Ph k c w'->Ph k c w2) (hF: ∀x,Fb x w'->Fb x w2):eL ops sl eff fr Fb val S Ph (bF d i) (bP v (some k) x) w2:=by
 have b: ∀e∈eff,fL sl (bP v (some k) x) e=fL sl v e:=λe f=>oE hnd hk x (λe2=>hne (e2 ▸ f));have r: ∀e∈eff,bF d i e=d e:=λe f=>aS (λe2=>hne (e2 ▸ f));have hlast:bF d i (eff.getLastD 0)=d (eff.getLastD 0):=r _ (Dn hel);refine⟨λj A m l g=>?_,h.clo.step ho hall,λD=>hS (h.st hdl),λD t=>?_,?_⟩
 ·by_cases hji:j=i
  ·subst hji;rw[zL hk];exact hx
  ·rw[oE hnd hk x hji];rw[aS hji] at g;exact h.cl j A m l g
 ·rw[oE hnd hk x (Ne.symm hfr)];rw[aS (Ne.symm hfr)] at t;exact hF _ (h.fb hdl t)
 ·obtain⟨q,s,u,y⟩:=h.ph;have p:q<eff.length:=by
   refine Nat.lt_of_le_of_ne s (λe=>?_);have hpos:0<eff.length:=sE.2 hel;have C:eff[eff.length-1]?=some (eff.getLastD 0):=by
    rw[List.getLastD_eq_getLast?,List.getLast?_eq_getElem?,bE (by omega)];rfl
   have:=(u (eff.length-1) _ C).2 (by omega);rw[hdl] at this;cases this
  refine⟨q,s,λj e f=>?_,?_⟩
  ·rw[r e (aX f)];exact u j e f
  ·rw[Lt b (oE hnd hk x (Ne.symm hfr))];exact hP _ _ p y
end
section
open Go.RowKit
open Go.Lib hiding intOf
def cS (e:TypeId) (B:Nat) (v:Value) (n:Nat) (xs:List Value) (el:Array Value) (X i:Nat) (W0:World):Nat->Value->World->Prop
 | 0,_,w'=>Below W0.heap.size W0 w'
 | 1,c,w'=> ∃w1,Below W0.heap.size W0 w1/\c= .slice (some ⟨w1.heap.size,0,none⟩) 1 1/\w'=w1.alloc (.cells el e)
 | 2,c,w'=> ∃w1,Below W0.heap.size W0 w1/\w'.ownsRow B e el.size c (n+1) (xs++el.toList)/\w1.grownBy w' v.ownBlock/\(c.ownBlock=v.ownBlock\/c.ownBlock=some (w1.heap.size+1))/\ ∃g cap,c= .slice (some ⟨g,0,none⟩) (n+1) cap
 | _,_,w'=> ∃c w2,(∃w1,Below W0.heap.size W0 w1/\w2.ownsRow B e el.size c (n+1) (xs++el.toList)/\w1.grownBy w2 v.ownBlock/\(c.ownBlock=v.ownBlock\/c.ownBlock=some (w1.heap.size+1))/\ ∃g cap,c= .slice (some ⟨g,0,none⟩) (n+1) cap)/\w'=w2.setCell ⟨X,i,none⟩ c
section
variable {e:TypeId}{B:Nat}{v:Value}{n:Nat}{xs:List Value}{el:Array Value}{X i:Nat}{W0 w':World}
theorem cS.form {c:Value} (h:cS e B v n xs el X i W0 2 c w'): ∃g cap,c= .slice (some ⟨g,0,none⟩) (n+1) cap:=by
 obtain⟨_,_,_,_,_,h⟩:=h;exact h
theorem cS.app {P:Program}{o:Oper}{a:Act}{K:Act->World->Prop}{Q:Exit->Act->World->Prop} (hgd:o.guard=none) (s x:Operand) (t:TypeId)
  (ho:o.op= .call { callee:= .builtin .append,args:= #[s,x],argTypes:= #[t,t] }) {i0:TypeInfo}{zv:Value}{bytes:Nat} (hu:P.underlying t=some (.slice e)) (hi:P.info? e=some i0) (hz:i0.zero=some zv) {size:Nat}
  (hsize:i0.size=size) (hby:i0.bytes=bytes) (hzs:zv.cells.size=size) (hsz:0<size) (hel:el.size=size) (h1: ∀u∈el.toList,u.oneCell'=true)
  (hown:W0.ownsRow B e size v n xs) (hn:n+1<=4294967296) (hbt:bytes<=256) (hB:B<=W0.heap.size) {c:Value} (h:cS e B v n xs el X i W0 1 c w') (hs:a.eval s=v) (hx:a.eval x=c)
  (hK: ∀v' w2,cS e B v n xs el X i W0 2 v' w2->K (a.put o.dst v') w2):o.wp P a w' K Q:=by
 obtain⟨w1,b,rfl,rfl⟩:=h;have hmul:(n+1)*bytes<=4294967296*256:=Nat.mul_le_mul hn hbt;refine wp_append_lies _ s x t ho B e i0 _ size bytes hu hi hz hsize hby hzs hsz v n xs hs ((jZ hown b).alloc _) ⟨w1.heap.size,0,none⟩ 1 1 el.toList hx (by simp[hel]) (wD w1 el _) h1 (by decide) (by unfold maxLen;omega) (by omega) (by have:=b.size;simp;omega) _ rfl ?_;intro g cap w2 f j d _;refine hK _ _ ⟨w1,b,by rw[hel];exact f,wE j,?_,g,cap,rfl⟩;rcases d with d | d
 ·exact .inl d.symm
 ·exact .inr (by rw[d];simp[Value.ownBlock])
end
def vB (W0:World) (t:TypeId) (cs:Array Value):Nat->Value->World->Prop
 | 0,_,w'=>Below W0.heap.size W0 w'
 | _,c,w'=> ∃Y,c= .pointer (some ⟨Y,0,none⟩)/\W0.heap.size<=Y/\w'.heap[Y]?=some (.cells cs t (0,0))/\Below W0.heap.size W0 w'
theorem vB.keep {W0 w' w2:World}{t:TypeId}{cs:Array Value}{k:Nat}{c:Value} (h:vB W0 t cs k c w') (hb:Below w'.heap.size w' w2):vB W0 t cs k c w2:=by
 cases k with
 | zero=>exact aC (show Below W0.heap.size W0 w' from h) hb
 | succ k=>
  obtain⟨Y,f,g,b,d⟩:=h;exact⟨Y,f,g,(hb.block Y (aF b)).trans b,aC d hb⟩
def oI (W0:World) (t:TypeId) (z:Array Value) (x:Value) (w':World):Prop:= ∃Y,x= .pointer (some ⟨Y,0,none⟩)/\W0.heap.size<=Y/\w'.heap[Y]?=some (.cells z t (0,0))
theorem oI.new {W0 w':World}{t:TypeId}{z:Array Value} (h:W0.heap.size<=w'.heap.size):oI W0 t z (.pointer (some ⟨w'.heap.size,0,none⟩)) (w'.alloc (.cells z t)):=⟨_,rfl,h,heap_alloc_new w' _⟩
theorem oI.keep {W0 w' w2:World}{t:TypeId}{z:Array Value}{x:Value} (h:oI W0 t z x w') (hb:Below w'.heap.size w' w2):oI W0 t z x w2:=by
 obtain⟨Y,c,d,b⟩:=h;exact⟨Y,c,d,(hb.block Y (aF b)).trans b⟩
def lineA (r:aP):Array Value:= #[.int .i64 r.kind, .int .i64 r.sf, .int .i64 r.st, .int .i64 r.ind, .int .i64 r.kf, .int .i64 r.kt, .int .i64 r.rf, .int .i64 r.rt, .int .i64 r.nf, .int .i64 r.nt]
theorem Lw (r:aP): ∀u∈(lineA r).toList,u.oneCell'=true:=by
 intro u b;simp only[lineA,dC,List.not_mem_nil,or_false] at b;rcases b with rfl|rfl|rfl|rfl|rfl|rfl|rfl|rfl|rfl|rfl<;>rfl
theorem Yn {W0 w':World}{Y:Nat} (h:Below W0.heap.size W0 w') (hY:W0.heap.size<=Y) (r:aP):Below W0.heap.size W0 (eE w' Y r):=by
 unfold eE
 (repeat (refine Below.setCell ?_ (by first | exact hY) _))
 exact h
structure tJ (T:TypeId) (Pr:aL) (P:Nat) (txt:aA) (sv lv nv:Value) (tot:Nat) (a er:Int) (w':World):Prop where
 box:w'.heap[P]?=some (.cells #[.string (bs txt),sv,lv,nv, .int .i64 (tot:Int), .int .i64 a, .int .i64 er] T (0,0))
 fr: ∀k o,Pr k=some o->w'.heap[k]?=some o
section
variable {T:TypeId}{Pr:aL}{w0 w w' W0:World}{P:Nat}{txt:aA}{sp:List (Nat×Nat)}{lines:List aP}{z:List YN}{tot:Nat}{a er:Int}{sv lv nv:Value}
theorem tJ.c2 (h:tJ T Pr P txt sv lv nv tot a er w):w.cell? ⟨P,2,none⟩=some lv/\w.frozen? ⟨P,2,none⟩=false:=by
 have b:=h.box;refine⟨?_,?_⟩<;>simp[World.cell?,World.frozen?,b]
theorem tJ.c3 (h:tJ T Pr P txt sv lv nv tot a er w):w.cell? ⟨P,3,none⟩=some nv/\w.frozen? ⟨P,3,none⟩=false:=by
 have b:=h.box;refine⟨?_,?_⟩<;>simp[World.cell?,World.frozen?,b]
theorem YK.seen (h:YK T Pr w0 P txt sp lines z tot a er sv lv nv w):tJ T Pr P txt sv lv nv tot a er w:=⟨h.box,λk o b=>(h.fr k o b).1⟩
theorem YK.seenA (h:YK T Pr w0 P txt sp lines z tot a er sv lv nv W0) {B2 s n:Nat}{e:TypeId}{v:Value}{xs:List Value}{el:Array Value}{X i:Nat} (hr:W0.ownsRow B2 e s v n xs) (he:e≠T) (hv: ∀k o,Pr k=some o->v.ownBlock≠some k) {k:Nat}{c:Value} (hk:k<3) (hp:cS e B2 v n xs el X i W0 k c w'):tJ T Pr P txt sv lv nv tot a er w':=by
 have key: ∀w1,Below W0.heap.size W0 w1-> ∀r,w1.grownBy w' r->(r=none\/r=v.ownBlock)->tJ T Pr P txt sv lv nv tot a er w':=λw1 b r f d=>by
  have l:=h.keep b;have g:=jZ hr b;refine⟨qQ f l.box (λe2=>?_),λk o hk=>qQ f (l.fr k o hk).1 (λe2=>?_)⟩
  ·rcases d with rfl|rfl
   ·cases e2
   ·rcases dK g l.box he with j | j
    ·rw[j] at e2;cases e2
    ·exact j e2
  ·rcases d with rfl|rfl
   ·cases e2
   ·exact hv k o hk e2
 match k,hp with
 | 0,hp=>
  have hp:Below W0.heap.size W0 w':=hp;exact(h.keep hp).seen
 | 1,⟨w1,b,_,hw⟩=>
  rw[hw];exact((h.keep b).keep (aI w1 _)).seen
 | 2,⟨w1,b,_,f,_⟩=>exact key w1 b _ f (.inr rfl)
 | k+3,_=>omega
theorem YK.lineA (h:YK T Pr w0 P txt sp lines z tot a er sv lv nv W0) {r:aP}{c:Value} (hp:cS 121 w0.heap.size lv lines.length (jB lines) (Go.Proofs.YtaifnmjjpddikaaGreatDoor.lineA r) P 2 W0 3 c w'): ∃lv',YK T Pr w0 P txt sp (lines++ [r]) z tot a er sv lv' nv w':=by
 obtain⟨c,w2,⟨w1,f,b,g,d,_⟩,rfl⟩:=hp;exact⟨c,(h.keep f).line (H:=w1.heap.size+1) (sS _) b g d⟩
end
theorem bU.mvar {w:World} (h:bU w):lL w:=h.1.2.2
theorem Tryz.infoLine:(Tryz.prog.info? 121).map (λi=>(i.zero,i.size,i.bytes))=some (some (.agg #[.int .i64 0, .int .i64 0, .int .i64 0, .int .i64 0, .int .i64 0, .int .i64 0, .int .i64 0, .int .i64 0, .int .i64 0, .int .i64 0]),10,80):=by kernel_rfl
def jD (T:TypeId) (Pr:aL) (w0:World) (P:Nat) (txt:aA) (sp:List (Nat×Nat)) (ls:List aP) (z:List YN) (nv:Value) (tot:Nat) (a er:Int) (w:World):Prop:= ∃sv lv,YK T Pr w0 P txt sp ls z tot a er sv lv nv w
theorem jD.toJ {T:TypeId}{Pr:aL}{w0:World}{P:Nat}{txt:aA}{sp:List (Nat×Nat)}{ls:List aP}{z:List YN}{nv:Value}{tot:Nat}{a er:Int}{w:World} (h:jD T Pr w0 P txt sp ls z nv tot a er w) {ns:List aG} (hz:z.map (·.1)=ns):YJ T Pr w0 P txt sp ⟨ls,ns,tot⟩ a er w:=by
 obtain⟨sv,lv,h⟩:=h;exact⟨z,sv,lv,nv,hz,h⟩
theorem jD.keep {T:TypeId}{Pr:aL}{w0:World}{P:Nat}{txt:aA}{sp:List (Nat×Nat)}{ls:List aP}{z:List YN}{nv:Value}{tot:Nat}{a er:Int}{w w':World} (h:jD T Pr w0 P txt sp ls z nv tot a er w) (hb:Below w.heap.size w w'):jD T Pr w0 P txt sp ls z nv tot a er w':=by
 obtain⟨sv,lv,h⟩:=h;exact⟨sv,lv,h.keep hb⟩
def Yo (Pr:aL) (w0:World) (P:Nat) (txt:aA) (sp:List (Nat×Nat)) (st:YS) (z:List YN) (nv:Value) (R:aP×Int×Int) (e:Ending) (w':World):Prop:=
 (R.2.2≠0/\e= .returned (.bool false)/\gB YP Pr w0 P txt sp R.2.1 R.2.2 w')\/(R.2.2=0/\e= .returned (.bool true)/\jD YP Pr w0 P txt sp (st.lines++ [R.1]) z nv st.total 0 0 w')
theorem Yp {Pr:aL}{w0:World}{P:Nat}{txt:aA}{sp:List (Nat×Nat)}{st:YS}{z:List YN}{nv:Value} (x:Nat×Nat) (w:World) (h:jD YP Pr w0 P txt sp st.lines z nv st.total 0 0 w) (hz:z.map (·.1)=st.nodes) (hx:sp[st.lines.length]?=some x) (hs:txt.length<=65536) (hn:sp.length<=131072) (hV:bU w0):
  Calls Tryz.prog 67 #[.pointer (some ⟨P,0,none⟩)] w (Yo Pr w0 P txt sp st z nv (fD txt x.1 x.2)):=by
 obtain⟨⟨r,at_,er⟩,y⟩:=exQ<|fD txt x.1 x.2;rw[y];obtain⟨i0,ay,az,ax,aw⟩:=info_parts Tryz.infoLine;have aD:=(aR.1 hx).1;obtain⟨k,hk⟩:=exQ<|st.lines.length;rw[hk] at aD hx;obtain⟨W0,Z⟩:=exQ<|w.drew;have ao:Below w.heap.size w W0:=by rw[<-Z];exact(aB _ _).drew
 have V:=h.keep ao;have HJ:=hid (V.toJ hz);obtain⟨sv,lv,hK⟩:=V;obtain⟨gs,cs,rfl,Q,_,_⟩:=hK.spanAt hx;obtain⟨pl,cl,rfl⟩:=hK.lnSlice;rw[hk] at hK;have HK:=hid hK;have ar:bU W0:=hV.keep hK.bel;have CL:Hid (∀w',Below W0.heap.size W0 w'->Calls Tryz.prog 106 #[.string (bs txt), .agg #[.int .i64 (x.1:Int), .int .i64 (x.2:Int)]] w' λe w2=>e=rR (r,at_,er)/\Below w'.heap.size w' w2):=hid (λw' hb=>by have hv:=ar.keep hb;have:=Xr txt x.1 x.2 w' (by omega) hv.2 hv.tabs hv.mvar;rw[y] at this;exact this);unfold rR fZ at CL;obtain⟨SA,ab⟩: ∃S:World->Prop,(λw'=>(w'.cell? ⟨P,0,none⟩=some (.string (bs txt))/\w'.cell? ⟨P,1,none⟩=some (.slice (some ⟨gs,0,none⟩) sp.length cs)/\w'.cell? ⟨P,2,none⟩=some (.slice pl k cl))/\w'.cell? ⟨gs,k*2,none⟩=some (.int .i64 (x.1:Int))/\w'.cell? ⟨gs,k*2+1,none⟩=some (.int .i64 (x.2:Int)))=S:=⟨_,rfl⟩;have M:Hid (∀w',Below W0.heap.size W0 w'->SA w'):=hid (λw' hb=>by rw[<-ab];have t:=HK.out.keep hb;obtain⟨⟨c0,c1,c2,_⟩,_⟩:=t.cells;obtain⟨g2,c2',e2,_,s0,s1⟩:=t.spanAt hx;injection e2 with e2;injection e2 with e2;injection e2 with e2;subst e2;exact⟨⟨c0,c1,c2⟩,s0,s1⟩);have hk0:(0:Int)<=(k:Int):=by omega
 have hki:(k:Int)<(sp.length:Int):=by omega
 have HX:=hid hx;have am:=hid hk;have HZ:=hid hz;clear hK h ao ar hz y hx hk;go_enter Tryz.func67,Tryz.ntmps67;go_upto_region 1 with fail;have F:Tryz.prog.follows .mixedOrders=true:=by kernel_rfl
 refine lD F [some 7,some 8,some 9,some 10,some 11,some 12,some 13,some 14,some 15,some 16,some 17,some 18,some 19,some 20,some 21,some 22,some 6,some 23,some 24,some 25,some 3,none,some 4,some 5] [7,8,9,10,11,12,13,14,15,16,17,18,19,20,21,22,6,23,24,25,3,4,5] [21] 20 (oI W0 121 (lineA dA)) 42 rfl (by kernel_rfl) (by kernel_rfl) (by kernel_rfl) (λiz=>match iz with | 0=> .pointer (some ⟨P,0,none⟩) | 1=> .pointer (some ⟨P,0,none⟩) | 2=> .pointer (some ⟨P,0,none⟩) | 3=> .string (bs txt) | 4=> .pointer (some ⟨P,0,none⟩) | 5=> .pointer (some ⟨P,0,none⟩) | 6=> .pointer (some ⟨P,1,none⟩) | 7=> .slice (some ⟨gs,0,none⟩) sp.length cs | 8=> .pointer (some ⟨P,0,none⟩) | 9=> .pointer (some ⟨P,0,none⟩) | 10=> .pointer (some ⟨P,2,none⟩) | 11=> .slice pl k cl | 12=> .int .i64 (k:Int) | 13=> .pointer (some ⟨gs,k*2,none⟩) | 14=> .agg #[.int .i64 (x.1:Int), .int .i64 (x.2:Int)] | 15=> .tuple #[.agg #[.int .i64 r.kind, .int .i64 r.sf, .int .i64 r.st, .int .i64 r.ind, .int .i64 r.kf, .int .i64 r.kt, .int .i64 r.rf, .int .i64 r.rt, .int .i64 r.nf, .int .i64 r.nt], .int .i64 at_, .int .i64 er] | 16=> .tuple #[.agg #[.int .i64 r.kind, .int .i64 r.sf, .int .i64 r.st, .int .i64 r.ind, .int .i64 r.kf, .int .i64 r.kt, .int .i64 r.rf, .int .i64 r.rt, .int .i64 r.nf, .int .i64 r.nt], .int .i64 at_, .int .i64 er] | 17=> .agg #[.int .i64 r.kind, .int .i64 r.sf, .int .i64 r.st, .int .i64 r.ind, .int .i64 r.kf, .int .i64 r.kt, .int .i64 r.rf, .int .i64 r.rt, .int .i64 r.nf, .int .i64 r.nt] | 18=> .int .i64 at_ | 19=> .int .i64 er | 22=> .int .i64 at_ | 23=> .int .i64 er | _=>undef) SA (vB W0 121 (lineA r)) (by rw[Z];exact M.out _ (aB _ _)) (by rw[Z];exact aB _ _) ?_ ?_
 ·intro d a w' iq o' K p b A l R' y;have aa:iq<24:=(cJ.1 K).1;have q0:a.tmps[0]?.getD undef= .pointer (some ⟨P,0,none⟩):=bA A 0 (by decide);have hc:=l.all [(16,6),(0,7),(1,8),(2,9),(3,10),(4,11),(5,12),(6,13),(7,14),(8,15),(9,16),(10,17),(11,18),(12,19),(13,20),(14,21),(15,22),(17,23),(18,24),(19,25)] (by decide);dsimp only[fC] at hc;clear A;have G:=b;have m:=K;have Q:iq=15\/iq=20\/iq=21\/iq=0\/iq=1\/iq=2\/iq=4\/iq=5\/iq=6\/iq=8\/iq=9\/iq=10\/iq=12\/iq=16\/iq=17\/iq=18\/iq=19\/iq=22\/iq=23\/iq=3\/iq=7\/iq=11\/iq=13\/iq=14:=by omega
  clear aa;rcases Q with rfl|rfl|rfl|rfl|rfl|rfl|rfl|rfl|rfl|rfl|rfl|rfl|rfl|rfl|rfl|rfl|rfl|rfl|rfl|rfl|rfl|rfl|rfl|rfl<;>simp only[eC,dV,cH,cN] at K<;>subst K<;>(try simp[Region.binds] at b)
  ·have c10:=l.g 3 10 rfl (by decide) (by decide) (by decide) (by simp[b]);have c21:=l.g 14 21 rfl (by decide) (by decide) (by decide) (by simp[b]);have J:Below W0.heap.size W0 w':=l.at2 (j:=0) rfl (l.lastNot (f:=24) (i:=15) (by kernel_rfl) p) (.inl rfl);go_simp;go_at_call 106;refine(CL.out _ J).mono ?_;rintro e w5 ⟨rfl,ad⟩;exact y _ _ (l.quiet (by kernel_rfl) m G rfl (by decide) (by decide) (by decide) rfl (l.lastNot (f:=24) (i:=15) (by kernel_rfl) p) (λ_=>M.out _ (aC J ad)) (λk c _ R=>R.keep ad) (λx hx=>hx.keep ad))
  ·have J:Below W0.heap.size W0 w':=l.at2 (j:=0) rfl (l.lastNot (f:=24) (i:=20) (by kernel_rfl) p) (.inl rfl);have ak:=aI w' (.cells (lineA dA) 121);go_simp;exact y _ _ (l.free (by kernel_rfl) m G rfl (by decide) rfl (by decide) (by kernel_rfl) (by decide) (l.lastNot (f:=24) (i:=20) (by kernel_rfl) p) (λ_=>M.out _ (aC J ak)) (λk c R=>R.keep ak) (oI.new J.size))
  ·have c23:=l.g 17 23 rfl (by decide) (by decide) (by decide) (by simp[b]);have u:=l.at2 (j:=0) rfl p (.inl rfl);obtain⟨Y,hY,C,D⟩:=l.fb p (by simp[b]);have hY:a.tmps.getD 3 undef= .pointer (some ⟨Y,0,none⟩):=hY;have c3:a.tmps[3]?.getD undef= .pointer (some ⟨Y,0,none⟩):=by rw[<-aO];exact hY
   have hL:bY w' Y dA:=D;obtain⟨b0,b1,b2,b3,b4,b5,b6,b7,b8,b9,V,h1,h2,h3,h4,h5,h6,h7,h8,h9⟩:=hL.cells;have J:Below W0.heap.size W0 w':=u;go_simp;exact y undef _ (l.eff2 (by kernel_rfl) (by decide) 0 m G rfl p (.inl rfl) rfl (by decide) (λh=>absurd rfl h) (λh=>absurd rfl h) ⟨Y,hY,C,bY.put (r2:=r) hL,Yn J C r⟩)
  iterate 16 (go_simp;exact y _ _ (l.pure (by kernel_rfl) m G rfl (by decide) (by decide) (by decide) rfl))
  all_goals
   have s:=l.early (f:=24) (by kernel_rfl) p;rw[<-ab] at s;obtain⟨⟨p0,p1,p2⟩,s0,s1⟩:=s;go_simp;exact y _ _ (l.pure (by kernel_rfl) m G rfl (by decide) (by decide) (by decide) rfl)
 intro v wz E av;obtain⟨Y,hY,C,D,af⟩:=av;have al:v 3= .pointer (some ⟨Y,0,none⟩):=hY;have aj:v 4= .int .i64 at_:=E 22 (by decide) (by decide) (by decide) (by decide);have ai:v 5= .int .i64 er:=E 23 (by decide) (by decide) (by decide) (by decide);simp only[cC,eJ,dO,eK,al,aj,ai];have HY:=hid D;have aF:=hid C;have ag:=hid (HK.out.put af C D);have an:=hid af;clear E hY C D af al aj ai M ab CL;by_cases V:er=0
 ·subst V;obtain⟨W2,L⟩:=exQ<|wz.drew;have t:YK YP (Pr.put Y (.cells (lineA r) 121)) w0 P txt sp st.lines z st.total 0 0 (.slice (some ⟨gs,0,none⟩) sp.length cs) (.slice pl k cl) nv W2:=by rw[<-L];exact ag.out.keep (aB _ wz).drew
  have ah:=hid t;have ae:=hid (aL.put_less (Pr:=Pr) (o:= .cells (lineA r) 121) (λq o' hq=>HK.out.frLt hq) aF.out);have I:=t.lnr;rw[am.out] at I;have U:=hid I;have aE:=hid t.bel.size;obtain⟨SB,O⟩: ∃S:World->Prop,(λw'=>(w'.cell? ⟨P,2,none⟩=some (.slice pl k cl)/\w'.frozen? ⟨P,2,none⟩=false)/\w'.cell? ⟨Y,0,none⟩=some (.int .i64 r.kind)/\w'.cell? ⟨Y,1,none⟩=some (.int .i64 r.sf)/\w'.cell? ⟨Y,2,none⟩=some (.int .i64 r.st)/\w'.cell? ⟨Y,3,none⟩=some (.int .i64 r.ind)/\w'.cell? ⟨Y,4,none⟩=some (.int .i64 r.kf)/\w'.cell? ⟨Y,5,none⟩=some (.int .i64 r.kt)/\w'.cell? ⟨Y,6,none⟩=some (.int .i64 r.rf)/\w'.cell? ⟨Y,7,none⟩=some (.int .i64 r.rt)/\w'.cell? ⟨Y,8,none⟩=some (.int .i64 r.nf)/\w'.cell? ⟨Y,9,none⟩=some (.int .i64 r.nt))=S:=⟨_,rfl⟩;have N:Hid (∀q c w',q<3->cS 121 w0.heap.size (.slice pl k cl) k (jB st.lines) (lineA r) P 2 W2 q c w'->SB w'):=hid (λq c w' hq R=>by rw[<-O];have hs:=ah.out.seenA U.out (by decide) (λj o hj=>(ah.out.fr j o hj).2.2.1) hq R;obtain⟨c2,f2⟩:=hs.c2;have hl:bY w' Y r:=hs.fr Y _ (aL.put_eq _ _ _);obtain⟨b0,b1,b2,b3,b4,b5,b6,b7,b8,b9,_⟩:=hl.cells;exact⟨⟨c2,f2⟩,b0,b1,b2,b3,b4,b5,b6,b7,b8,b9⟩);clear t I ag HK HJ;go_upto_region 4 with fail;have F:Tryz.prog.follows .mixedOrders=true:=by kernel_rfl
  refine lD F [some 32,some 33,some 34,some 35,some 36,some 37,some 38,some 39,some 40,some 41,none] [32,33,34,35,36,37,38,39,40,41] [6,7,10] 1000000 (λ_ _=>True) 42 rfl (by kernel_rfl) (by kernel_rfl) (by kernel_rfl) (λiz=>match iz with | 0=> .pointer (some ⟨P,0,none⟩) | 1=> .pointer (some ⟨P,0,none⟩) | 2=> .pointer (some ⟨P,0,none⟩) | 3=> .pointer (some ⟨P,2,none⟩) | 4=> .slice pl k cl | 5=> .agg #[.int .i64 r.kind, .int .i64 r.sf, .int .i64 r.st, .int .i64 r.ind, .int .i64 r.kf, .int .i64 r.kt, .int .i64 r.rf, .int .i64 r.rt, .int .i64 r.nf, .int .i64 r.nt] | 8=> .pointer (some ⟨P,0,none⟩) | 9=> .pointer (some ⟨P,2,none⟩) | _=>undef) SB (cS 121 w0.heap.size (.slice pl k cl) k (jB st.lines) (lineA r) P 2 W2) (by rw[L];exact N.out 0 undef _ (by decide) (aB _ _)) (by rw[L];exact aB _ _) ?_ ?_
  ·intro d a w' iq o' K p b A l R' y;have aa:iq<11:=(cJ.1 K).1;have q0:a.tmps[0]?.getD undef= .pointer (some ⟨P,0,none⟩):=bA A 0 (by decide);have q3:a.tmps[3]?.getD undef= .pointer (some ⟨Y,0,none⟩):=bA A 3 (by decide);have hc:=l.all [(0,32),(1,33),(2,34),(3,35),(4,36),(5,37),(8,40),(9,41)] (by decide);dsimp only[fC] at hc;clear A;have G:=b;have m:=K;have Q:iq=6\/iq=7\/iq=10\/iq=0\/iq=1\/iq=2\/iq=3\/iq=8\/iq=9\/iq=4\/iq=5:=(by omega);clear aa;rcases Q with rfl|rfl|rfl|rfl|rfl|rfl|rfl|rfl|rfl|rfl|rfl<;>simp only[eC,dV,cH,cN] at K<;>subst K<;>(try simp[Region.binds] at b)
   ·have c37:=l.g 5 37 rfl (by decide) (by decide) (by decide) (by simp[b]);have u:=l.at2 (j:=0) rfl p (.inl rfl);have J:Below W2.heap.size W2 w':=u;go_simp;exact y _ _ (l.eff2 (by kernel_rfl) (by decide) 0 m G rfl p (.inl rfl) rfl (by decide) (λ_ _ _=>trivial) (λ_=>N.out 1 _ _ (by decide) ⟨w',J,rfl,rfl⟩) ⟨w',J,rfl,rfl⟩)
   ·have c36:=l.g 4 36 rfl (by decide) (by decide) (by decide) (by simp[b]);have H:d 6=true:=(by simp[b]);have u:=l.at2 (j:=1) rfl p (.inr ⟨6,rfl,H⟩);have ca':a.tmps.getD 36 undef= .slice pl k cl:=by rw[aO];exact c36
    exact cS.app rfl (.tmp 36) (.tmp 38) 33 rfl Tryz.underlying33 ay az ax aw rfl (by decide) rfl (Lw r) U.out (by omega) (by decide) aE.out u ca' rfl (λv' w2 R=>y _ _ (l.eff2 (by kernel_rfl) (by decide) 1 m G rfl p (.inr ⟨6,rfl,H⟩) rfl (by decide) (λ_ _ _=>trivial) (λ_=>N.out 2 _ _ (by decide) R) R))
   ·have c41:=l.g 9 41 rfl (by decide) (by decide) (by decide) (by simp[b]);have H:d 7=true:=(by simp[b]);have u:=l.at2 (j:=2) rfl p (.inr ⟨7,rfl,H⟩);have s:=l.st p;rw[<-O] at s;obtain⟨⟨p2,p2f⟩,b0,b1,b2,b3,b4,b5,b6,b7,b8,b9⟩:=s;have W:cS 121 w0.heap.size (.slice pl k cl) k (jB st.lines) (lineA r) P 2 W2 2 (a.tmps.getD 39 undef) w':=u;obtain⟨gz,cz,hz⟩:=W.form;rw[hz] at W;have c39:a.tmps[39]?.getD undef= .slice (some ⟨gz,0,none⟩) (k+1) cz:=by rw[<-aO];exact hz
    go_simp;exact y undef _ (l.eff2 (by kernel_rfl) (by decide) 2 m G rfl p (.inr ⟨7,rfl,H⟩) rfl (by decide) (λ_ _ _=>trivial) (λh=>absurd rfl h) ⟨_,_,W,rfl⟩)
   iterate 6 (go_simp;exact y _ _ (l.pure (by kernel_rfl) m G rfl (by decide) (by decide) (by decide) rfl))
   all_goals
    have s:=l.early (f:=11) (by kernel_rfl) p;rw[<-O] at s;obtain⟨⟨p2,p2f⟩,b0,b1,b2,b3,b4,b5,b6,b7,b8,b9⟩:=s;go_simp;exact y _ _ (l.pure (by kernel_rfl) m G rfl (by decide) (by decide) (by decide) rfl)
  intro v wy E aq;obtain⟨cz,au⟩: ∃c,cS 121 w0.heap.size (.slice pl k cl) st.lines.length (jB st.lines) (lineA r) P 2 W2 3 c wy:=⟨_,by rw[am.out];exact aq⟩;obtain⟨lv',ap⟩:=ah.out.lineA au;have HF:=hid (ap.less ae.out);clear aq ap au E N O L;simp only[cC,eJ,dO,eK];go_wp2_with fail;go_ret;exact .inr ⟨rfl,rfl,_,_,HF.out⟩
 ·have CF:=hid (pQ at_ er wz (HJ.out.keep an.out));have d0:(er !=0)=true:=by simpa using V
  have H0:=hid V;clear V ag HK HJ an;go_wp2_with fail;refine CF.out.mono ?_;rintro e w7 ⟨rfl,hj⟩;have HF:=hid hj;clear hj;go_wp2_with fail;go_ret;exact .inl ⟨H0.out,rfl,HF.out.bad⟩
def Lx (T:TypeId) (Pr:aL) (w0:World) (P:Nat) (txt:aA) (sp:List (Nat×Nat)) (st:YS) (z:List YN) (nv:Value) (R:NX) (e:Ending) (w':World):Prop:=match R with
 | .ok k ls=>e= .returned (.tuple #[.int .i64 (k:Int), .bool true])/\jD T Pr w0 P txt sp ls z nv st.total 0 0 w'
 | .bad a er=>(∃m:Int,e= .returned (.tuple #[.int .i64 m, .bool false]))/\gB T Pr w0 P txt sp a er w'
theorem Ly {Pr:aL}{w0:World}{P:Nat}{txt:aA}{sp:List (Nat×Nat)}{st:YS}{z:List YN}{nv:Value} (k:Nat) (w:World) (h:jD YP Pr w0 P txt sp st.lines z nv st.total 0 0 w) (hz:z.map (·.1)=st.nodes) (hkl:k<=st.lines.length) (hll:st.lines.length<=sp.length) (hs:txt.length<=65536) (hn:sp.length<=131072) (hV:bU w0):
  Calls Tryz.prog 33 #[.pointer (some ⟨P,0,none⟩), .int .i64 (k:Int)] w (Lx YP Pr w0 P txt sp st z nv (gH txt sp k st.lines)):=by
 obtain⟨R,S⟩:=exQ<|gH txt sp k st.lines;rw[S];unfold gH at S;have I:=hid S;have f:Hid (jD YP Pr w0 P txt sp st.lines z nv st.total 0 0 w):=hid h;have V:=hid hz;have HV:=hid hV;have N:=hid (aJ hkl hll);have Q:k<=sp.length:=aY hkl hll;clear h S hV hkl hll hz;go_enter Tryz.func33,Tryz.ntmps33;go_wp2_with fail;go_loopw [6] (λs6 wr=> ∃(i:Nat) (ls:List aP),s6= .int .i64 (i:Int)/\i<=sp.length/\Hid (i<=ls.length/\ls.length<=sp.length)/\Hid (oB txt (sp.drop i) i ls=R)/\Hid (jD YP Pr w0 P txt sp ls z nv st.total 0 0 wr)) (λs6 _=>sp.length+1-(RowKit.intOf s6).toNat)
 case atStart=>exact⟨k,st.lines,rfl,Q,N,I,f⟩
 case round=>
  clear I f N Q;obtain⟨i,ls,rfl,hi,N,I,f⟩:=hrel;obtain⟨n,G⟩:=exQ<|ls.length;have E:=hid G;obtain⟨sv,lv,u⟩:=f.out;obtain⟨⟨c0,c1,c2,c3,c4,c5,c6⟩,f2,f3,f4,f5,f6⟩:=u.cells;obtain⟨ps,cs,rfl⟩:=u.spSlice;obtain⟨pl,cl,rfl⟩:=u.lnSlice;have hPl:=u.lt;simp only[G] at c2;have hi0:(0:Int)<=(i:Int):=by omega
  clear u;by_cases hil:i<sp.length
  ·obtain⟨x,L⟩: ∃x,sp[i]?=some x:=⟨_,bE hil⟩;have F:sp.drop i=x::sp.drop (i+1):=by
    rw[iH hil];rw[bE hil] at L;rw[bD L]
   have d:=I.out;rw[F] at d;unfold oB at d;have d1:decide ((i:Int)<(sp.length:Int))=true:=aM (by omega);obtain⟨i1,D⟩:=exQ<|i+1;have A:(i:Int)+1=(i1:Int):=(by omega);have C:i1<=sp.length:=(by omega);have s:=hid D;by_cases hin:i<n
   ·have de:((i:Int)==(n:Int))=false:=aK.2 (by omega);have de2:(i==n)=false:=aK.2 (by omega);have de3:decide (i=n)=false:=aH (by omega);have O:(i:Int)<(n:Int):=(by omega);obtain⟨l,hl⟩: ∃l,ls[i]?=some l:=⟨_,bE (by omega)⟩;rw[hl] at d;simp only[] at d;obtain⟨sv,lv,u⟩:=f.out;obtain⟨gl,c9,e9,e10,b⟩:=u.lineAt hl;have b0:=b 0 _ (by omega) rfl;have b1:=b 1 _ (by omega) rfl;have b2:=b 2 _ (by omega) rfl;have b3:=b 3 _ (by omega) rfl;have b4:=b 4 _ (by omega) rfl;have b5:=b 5 _ (by omega) rfl;have b6:=b 6 _ (by omega) rfl;have b7:=b 7 _ (by omega) rfl;have b8:=b 8 _ (by omega) rfl;have b9:=b 9 _ (by omega) rfl;have e8:=u.cells.1.2.2.1;rw[c2,e9] at e8;have e7:=(Value.slice.inj (bD e8)).1;clear e8;subst e7;have CC:=hid (λw=>Lq l w);unfold fZ at CC;have c:=hid d;simp only[Nat.add_zero] at b0;clear d u hl F e9 e10 b L hin D G;by_cases hc:kJ l=true
    ·rw[if_pos hc] at c;rw[hc] at CC;clear hc;go_wp2_with fail;refine(CC.out _).mono ?_;rintro e w2 ⟨rfl,q⟩;have y:=hid (f.out.keep q);clear q;go_wp2_with fail;go_ret2;rw[<-c.out];exact⟨rfl,y.out⟩
    ·rw[if_neg hc] at c;have g:kJ l=false:=(by simpa using hc);rw[g] at CC;clear hc g;go_wp2_with fail;refine(CC.out _).mono ?_;rintro e w2 ⟨rfl,q⟩;have y:=hid (f.out.keep q);clear q;go_wp2_with fail;go_roundw
     ·exact⟨i1,ls,by rw[<-A],C,hid (by have:=s.out;have:=N.out;have:=E.out;omega),hid (by rw[<-s.out];exact c.out),y⟩
     ·(try simp only[RowKit.intOf]);omega
   ·have K:i=n:=by have:=N.out.1;have:=E.out;omega
    subst K;have de:((i:Int)==(i:Int))=true:=(by simp);have j:ls[i]?=none:=List.getElem?_eq_none (by omega);rw[j] at d;simp only[] at d;have CK:=hid (λw' H=>Yp (Pr:=Pr) (w0:=w0) (P:=P) (txt:=txt) (sp:=sp) (st:=⟨ls,st.nodes,st.total⟩) (z:=z) (nv:=nv) x w' H V.out (by simp only[];rw[E.out];exact L) hs hn HV.out);obtain⟨⟨r,at_,er⟩,M⟩:=exQ<|fD txt x.1 x.2;rw[M] at d CK;simp only[] at d;have c:=hid d;clear d M j F L D;by_cases h0:er=0
    ·subst h0;rw[if_neg (by simp)] at c;have CK2:Hid (∀w',jD YP Pr w0 P txt sp ls z nv st.total 0 0 w'->Calls Tryz.prog 67 #[.pointer (some ⟨P,0,none⟩)] w' λe w2=>e= .returned (.bool true)/\jD YP Pr w0 P txt sp (ls++ [r]) z nv st.total 0 0 w2):=hid (λw' H=>(CK.out w' H).mono (λe w2 U=>by
      rcases U with⟨h1,_⟩ | ⟨_,W,Z⟩
      ·exact absurd rfl h1
      ·exact⟨W,Z⟩))
     clear CK;have CC:=hid (λw=>Lq r w);unfold fZ at CC;go_wp2_with (go_at_call 67;refine(CK2.out _ (by first | exact f.out | exact f.out.keep (aB _ _).drew)).mono ?_;rintro e w2 ⟨rfl,m⟩;have t:=hid m;obtain⟨sv2,lv2,p⟩:=m;obtain⟨gl,c9,e9,_,b⟩:=p.lineAt (k:=i) (r:=r) (by show (ls++ [r])[i]?=some r;rw[mC (by have:=E.out;omega),show i-ls.length=0 by have:=E.out;omega];rfl);have b0:=b 0 _ (by omega) rfl;have b1:=b 1 _ (by omega) rfl;have b2:=b 2 _ (by omega) rfl;have b3:=b 3 _ (by omega) rfl;have b4:=b 4 _ (by omega) rfl;have b5:=b 5 _ (by omega) rfl;have b6:=b 6 _ (by omega) rfl;have b7:=b 7 _ (by omega) rfl;have b8:=b 8 _ (by omega) rfl;have b9:=b 9 _ (by omega) rfl;have q2:=p.cells.1.2.2.1;have q1:=p.cells.1.2.1;have aa:(ls++ [r]).length=i1:=(by rw[aW,dU];have:=E.out;have:=s.out;omega);subst e9;simp only[aa] at q2;have O:(i:Int)<(i1:Int):=(by omega);have hPl2:=p.lt;simp only[Nat.add_zero] at b0;clear p b)
     all_goals
      by_cases hc:kJ r=true
      ·rw[if_pos hc] at c;rw[hc] at CC;clear hc;go_wp2_with fail;refine(CC.out _).mono ?_;rintro e w3 ⟨rfl,o⟩;have y:=hid (t.out.keep o);clear o;go_wp2_with fail;go_ret2;rw[<-c.out];exact⟨rfl,y.out⟩
      ·rw[if_neg hc] at c;have g:kJ r=false:=(by simpa using hc);rw[g] at CC;clear hc g;go_wp2_with fail;refine(CC.out _).mono ?_;rintro e w3 ⟨rfl,o⟩;have y:=hid (t.out.keep o);clear o;go_wp2_with fail;go_roundw
       ·exact⟨i1,ls++ [r],by rw[<-A],C,hid (by rw[aW,dU];have:=s.out;have:=E.out;omega),hid (by rw[<-s.out];exact c.out),y⟩
       ·(try simp only[RowKit.intOf]);omega
    ·have J:er≠0:=h0;rw[if_pos J] at c;have CK2:Hid (∀w',jD YP Pr w0 P txt sp ls z nv st.total 0 0 w'->Calls Tryz.prog 67 #[.pointer (some ⟨P,0,none⟩)] w' λe w2=>e= .returned (.bool false)/\gB YP Pr w0 P txt sp at_ er w2):=hid (λw' H=>(CK.out w' H).mono (λe w2 U=>by
      rcases U with⟨_,W,Z⟩ | ⟨h1,_⟩
      ·exact⟨W,Z⟩
      ·exact absurd h1 h0))
     clear CK h0 J;go_wp2_with (go_at_call 67;refine(CK2.out _ (by first | exact f.out | exact f.out.keep (aB _ _).drew)).mono ?_;rintro e w2 ⟨rfl,m⟩;have t:=hid m;clear m)
     all_goals
      go_ret2;rw[<-c.out];exact⟨⟨_,rfl⟩,t.out⟩
  ·have Y:i=sp.length:=(by omega);subst Y;have d:=I.out;rw[List.drop_length] at d;unfold oB at d;have c:=hid d;have d1:decide ((sp.length:Int)<(sp.length:Int))=false:=aH (by omega);have y:=f;clear d hil;go_wp2_with fail;go_ret2;rw[<-c.out];exact⟨rfl,y.out⟩
theorem Dq {Pr:aL}{w0:World}{P:Nat}{txt:aA}{sp:List (Nat×Nat)}{st:YS} (k:Nat) (w:World) (h:YJ YP Pr w0 P txt sp st 0 0 w) (hkl:k<=st.lines.length) (hll:st.lines.length<=sp.length) (hs:txt.length<=65536) (hn:sp.length<=131072) (hV:bU w0):
  Calls Tryz.prog 33 #[.pointer (some ⟨P,0,none⟩), .int .i64 (k:Int)] w (zI YP Pr w0 P txt sp st (gH txt sp k st.lines)):=by
 obtain⟨z,sv,lv,nv,c,d⟩:=h;refine(Ly k w ⟨sv,lv,d⟩ c hkl hll hs hn hV).mono (λe w' b=>?_);cases hN:gH txt sp k st.lines with
 | ok m ls=>
  rw[hN] at b;exact⟨b.1,jD.toJ b.2 c⟩
 | bad a er=>
  rw[hN] at b;exact b
def Dr (x:aG):Value:= .agg #[.int .i64 (x.kind:Int), .int .i64 x.ind, .int .i64 (x.fr:Int), .int .i64 (x.til:Int), .int .i64 x.kf, .int .i64 x.kt, .int .i64 x.rf, .int .i64 x.rt, .slice none 0 0]
def gV (x:aG):Array Value:= #[.int .i64 (x.kind:Int), .int .i64 x.ind, .int .i64 (x.fr:Int), .int .i64 (x.til:Int), .int .i64 x.kf, .int .i64 x.kt, .int .i64 x.rf, .int .i64 x.rt, .slice none 0 0]
theorem Lz (x:aG): ∀u∈(gV x).toList,u.oneCell'=true:=by
 intro u b;simp only[gV,dC,List.not_mem_nil,or_false] at b;rcases b with rfl|rfl|rfl|rfl|rfl|rfl|rfl|rfl|rfl<;>rfl
theorem YK.nodeA {T:TypeId}{Pr:aL}{w0 w' W0:World}{P:Nat}{txt:aA}{sp:List (Nat×Nat)}{lines:List aP}{z:List YN}{tot:Nat}{a er:Int}{sv lv nv:Value} (h:YK T Pr w0 P txt sp lines z tot a er sv lv nv W0) {x:aG} (hx:x.kids= []) {c:Value} (hp:cS 62 w0.heap.size nv z.length (iM z) (gV x) P 3 W0 3 c w'):
  ∃g cap,YK T Pr w0 P txt sp lines (z++ [(x, .slice none 0 0)]) tot a er sv lv (.slice (some ⟨g,0,none⟩) (z.length+1) cap) w':=by
 obtain⟨c,w2,⟨w1,f,b,j,d,g,cap,rfl⟩,rfl⟩:=hp;exact⟨g,cap,(h.keep f).node hx (H:=w1.heap.size+1) (sS _) b j d⟩
theorem YK.ndSlice {T:TypeId}{Pr:aL}{w0 w:World}{P:Nat}{txt:aA}{sp:List (Nat×Nat)}{lines:List aP}{z:List YN}{tot:Nat}{a er:Int}{sv lv nv:Value} (h:YK T Pr w0 P txt sp lines z tot a er sv lv nv w): ∃p cap,nv= .slice p z.length cap:=by
 rcases h.nod.row.2 with⟨c,b⟩ | ⟨g,cap,cur,b,h2,h3,h4,_⟩
 ·exact⟨none,0,by rw[c,b]⟩
 ·exact⟨_,cap,b⟩
theorem Tryz.infoYnode:(Tryz.prog.info? 62).map (λi=>(i.zero,i.size,i.bytes))=some (some (.agg #[.int .i64 0, .int .i64 0, .int .i64 0, .int .i64 0, .int .i64 0, .int .i64 0, .int .i64 0, .int .i64 0, .slice none 0 0]),9,88):=by kernel_rfl
theorem pS {w:World}{X:Nat}{a0 a1 a2 a3 a4 a5 a6 a7 a8:Value}{t:TypeId} (hb:w.heap[X]?=some (.cells #[a0,a1,a2,a3,a4,a5,a6,a7,a8] t)):w.cell? ⟨X,0,none⟩=some a0/\w.cell? ⟨X,1,none⟩=some a1/\w.cell? ⟨X,2,none⟩=some a2/\w.cell? ⟨X,3,none⟩=some a3/\w.cell? ⟨X,4,none⟩=some a4/\w.cell? ⟨X,5,none⟩=some a5/\w.cell? ⟨X,6,none⟩=some a6/\w.cell? ⟨X,7,none⟩=some a7/\w.cell? ⟨X,8,none⟩=some a8:=by
 refine⟨?_,?_,?_,?_,?_,?_,?_,?_,?_⟩<;>simp[World.cell?,hb]
def Ma (T:TypeId) (Pr:aL) (w0:World) (P:Nat) (txt:aA) (sp:List (Nat×Nat)) (R:YR) (e:Ending) (w':World):Prop:=match R with
 | .ok n st=>e= .returned (.tuple #[.int .i64 (n:Int), .bool true])/\YJ T Pr w0 P txt sp st 0 0 w'
 | .bad a er=>e= .returned (.tuple #[.int .i64 0, .bool false])/\gB T Pr w0 P txt sp a er w'
theorem Mb {Pr:aL}{w0:World}{P:Nat}{txt:aA}{sp:List (Nat×Nat)}{st:YS} (x:aG) (lv:Nat) (lev a:Int) (w:World) (h:YJ YP Pr w0 P txt sp st 0 0 w) (hx:x.kids= []) (hl:Hid (lev=33-(lv:Int))) (hlv:lv<=32) (hN:st.nodes.length<=4096):
  Calls Tryz.prog 72 #[.pointer (some ⟨P,0,none⟩),Dr x, .int .i64 lev, .int .i64 a] w (Ma YP Pr w0 P txt sp (jA x lv a st)):=by
 obtain⟨R,m⟩:=exQ<|jA x lv a st;rw[m];unfold jA at m;obtain⟨i0,ak,am,ar,an⟩:=info_parts Tryz.infoYnode;unfold Dr;have b0:=aI w (.cells (gV x) 62);have t:=heap_alloc_new w (.cells (gV x) 62);have V:w.heap.size<(w.alloc (.cells (gV x) 62)).heap.size:=by simp
 have p:=h.put b0 (aE _) t;have l: ∀k o,Pr k=some o->(Pr.put w.heap.size (.cells (gV x) 62)) k=some o:=aL.put_less (λk o hk=>h.frLt k o hk) (aE _);have H:=hid (h.keep b0);unfold gV at b0 t H p V l;obtain⟨X,ab⟩:=exQ<|w.heap.size;obtain⟨W1,ai⟩:=exQ<|w.alloc (.cells #[.int .i64 (x.kind:Int), .int .i64 x.ind, .int .i64 (x.fr:Int), .int .i64 (x.til:Int), .int .i64 x.kf, .int .i64 x.kt, .int .i64 x.rf, .int .i64 x.rt, .slice none 0 0] 62);rw[ai] at b0 t H p V;rw[ab] at t p V l;have HP:=hid p;have HX:=hid t;have N:=hid l;clear h b0 p l t;by_cases h0:lv=0
 ·rw[if_pos h0] at m;have ad:=hl.out;have d1:decide ((32:Int)<lev)=true:=aM (by omega);have CF:=hid (λw' A=>pQ (Pr:=Pr) (w0:=w0) (P:=P) (txt:=txt) (sp:=sp) (st:=st) (a0:=0) (e0:=0) a 5 w' A);have HR:=hid m;clear ad h0 m;go_enter Tryz.func72,Tryz.ntmps72;go_wp2_with fail;refine(CF.out _ H.out).mono ?_;rintro e w2 ⟨rfl,A⟩;have HF:=hid A;clear A;go_wp2_with fail;go_ret2;rw[<-HR.out];exact⟨rfl,HF.out.bad⟩
 rw[if_neg h0] at m;have d1:decide ((32:Int)<lev)=false:=aH (by have:=hl.out;omega);obtain⟨z,sv,lvv,nv,Q,hK⟩:=HP.out;obtain⟨⟨c0,c1,c2,c3,c4,c5,c6⟩,f2,f3,f4,f5,f6⟩:=hK.cells;have hPl:=hK.lt;have Z:z.length=st.nodes.length:=by rw[<-Q,bK]
 by_cases h4:4096<=st.total
 ·rw[if_pos h4] at m;have d2:decide ((4096:Int)<=(st.total:Int))=true:=aM (by omega);have CF:=hid (λw' A=>pQ (Pr:=Pr) (w0:=w0) (P:=P) (txt:=txt) (sp:=sp) (st:=st) (a0:=0) (e0:=0) a 6 w' A);have HR:=hid m;clear h0 m h4 hK Q Z;go_enter Tryz.func72,Tryz.ntmps72;go_wp2_with fail;refine(CF.out _ (by first | exact H.out | exact H.out.keep (aB _ _).drew)).mono ?_;rintro e w2 ⟨rfl,A⟩;have HF:=hid A;clear A;go_wp2_with fail;go_ret2;rw[<-HR.out];exact⟨rfl,HF.out.bad⟩
 rw[if_neg h4] at m;have d2:decide ((4096:Int)<=(st.total:Int))=false:=aH (by omega);have ht1:IntKind.i64.wrap ((st.total:Int)+1)=(st.total:Int)+1:=IntWalk.i64_in _ (by omega);have HR:=hid m;have W:=hK.count (st.total+1);rw[show ((st.total+1:Nat):Int)=(st.total:Int)+1 by omega] at W;obtain⟨n,hn⟩:=exQ<|z.length;have hn4:n<=4096:=by omega
 have r:=hid (aJ Q (aJ Z hn));have ae:=hid W;clear h0 m h4 hK Q Z W hn hN;go_enter Tryz.func72,Tryz.ntmps72;go_upto_region 6 with fail;clear ai ab;obtain⟨W2,K⟩:=exQ<|(W1.setCell ⟨P,4,none⟩ (.int .i64 ((st.total:Int)+1))).drew;have u:=ae.out.keep (aB _ _).drew;rw[K] at u;obtain⟨pn,cn,af⟩:=u.ndSlice;rw[r.out.2.2] at af;subst af;have Y:=hid u;have F:=u.nod.row;rw[r.out.2.2] at F;have L:=hid F;have aq:=hid u.bel.size;obtain⟨SB,J⟩: ∃S:World->Prop,(λw'=>(w'.cell? ⟨P,3,none⟩=some (.slice pn n cn)/\w'.frozen? ⟨P,3,none⟩=false)/\w'.cell? ⟨X,0,none⟩=some (.int .i64 (x.kind:Int))/\w'.cell? ⟨X,1,none⟩=some (.int .i64 x.ind)/\w'.cell? ⟨X,2,none⟩=some (.int .i64 (x.fr:Int))/\w'.cell? ⟨X,3,none⟩=some (.int .i64 (x.til:Int))/\w'.cell? ⟨X,4,none⟩=some (.int .i64 x.kf)/\w'.cell? ⟨X,5,none⟩=some (.int .i64 x.kt)/\w'.cell? ⟨X,6,none⟩=some (.int .i64 x.rf)/\w'.cell? ⟨X,7,none⟩=some (.int .i64 x.rt)/\w'.cell? ⟨X,8,none⟩=some (.slice none 0 0))=S:=⟨_,rfl⟩;have I:Hid (∀q c w',q<3->cS 62 w0.heap.size (.slice pn n cn) n (iM z) (gV x) P 3 W2 q c w'->SB w'):=hid (λq c w' hq hp=>by rw[<-J];have hs:=Y.out.seenA L.out (by decide) (λj o A=>(Y.out.fr j o A).2.2.2.1) hq hp;obtain⟨c2,f2⟩:=hs.c3;have hl:=hs.fr X _ (aL.put_eq _ _ _);exact⟨⟨c2,f2⟩,pS hl⟩);clear u F ae HP c0 c1 c2 c3 c4 c5 c6 f2 f3 f4 f5 f6;have aa:Tryz.prog.follows .mixedOrders=true:=by kernel_rfl
 refine lD aa [some 32,some 33,some 34,some 35,some 36,some 37,some 38,some 39,some 40,some 41,none] [32,33,34,35,36,37,38,39,40,41] [6,7,10] 1000000 (λ_ _=>True) 48 rfl (by kernel_rfl) (by kernel_rfl) (by kernel_rfl) (λiz=>match iz with | 0=> .pointer (some ⟨P,0,none⟩) | 1=> .pointer (some ⟨P,0,none⟩) | 2=> .pointer (some ⟨P,0,none⟩) | 3=> .pointer (some ⟨P,3,none⟩) | 4=> .slice pn n cn | 5=> .agg #[.int .i64 (x.kind:Int), .int .i64 x.ind, .int .i64 (x.fr:Int), .int .i64 (x.til:Int), .int .i64 x.kf, .int .i64 x.kt, .int .i64 x.rf, .int .i64 x.rt, .slice none 0 0] | 8=> .pointer (some ⟨P,0,none⟩) | 9=> .pointer (some ⟨P,3,none⟩) | _=>undef) SB (cS 62 w0.heap.size (.slice pn n cn) n (iM z) (gV x) P 3 W2) (by rw[K];exact I.out 0 undef _ (by decide) (aB _ _)) (by rw[K];exact aB _ _) ?_ ?_
 ·intro d a w' iq o' ho M b U s R' m;have ao:iq<11:=(cJ.1 ho).1;have q0:a.tmps[0]?.getD undef= .pointer (some ⟨P,0,none⟩):=bA U 0 (by decide);have q5:a.tmps[5]?.getD undef= .pointer (some ⟨X,0,none⟩):=bA U 5 (by decide);have hc:=s.all [(0,32),(1,33),(2,34),(3,35),(4,36),(5,37),(8,40),(9,41)] (by decide);dsimp only[fC] at hc;clear U;have ha:=b;have C:=ho;have ap:iq=6\/iq=7\/iq=10\/iq=0\/iq=1\/iq=2\/iq=3\/iq=8\/iq=9\/iq=4\/iq=5:=by omega
  clear ao;rcases ap with rfl|rfl|rfl|rfl|rfl|rfl|rfl|rfl|rfl|rfl|rfl<;>simp only[eC,dV,cH,cN] at ho<;>subst ho<;>(try simp[Region.binds] at b)
  ·have c37:=s.g 5 37 rfl (by decide) (by decide) (by decide) (by simp[b]);have y:=s.at2 (j:=0) rfl M (.inl rfl);have hA:Below W2.heap.size W2 w':=y;go_simp;exact m _ _ (s.eff2 (by kernel_rfl) (by decide) 0 C ha rfl M (.inl rfl) rfl (by decide) (λ_ _ _=>trivial) (λ_=>I.out 1 _ _ (by decide) ⟨w',hA,rfl,rfl⟩) ⟨w',hA,rfl,rfl⟩)
  ·have c36:=s.g 4 36 rfl (by decide) (by decide) (by decide) (by simp[b]);have E:d 6=true:=(by simp[b]);have y:=s.at2 (j:=1) rfl M (.inr ⟨6,rfl,E⟩);have ca':a.tmps.getD 36 undef= .slice pn n cn:=by rw[aO];exact c36
   exact cS.app rfl (.tmp 36) (.tmp 38) 34 rfl Tryz.underlying34 ak am ar an rfl (by decide) rfl (Lz x) L.out (by omega) (by decide) aq.out y ca' rfl (λv' w2 hp=>m _ _ (s.eff2 (by kernel_rfl) (by decide) 1 C ha rfl M (.inr ⟨6,rfl,E⟩) rfl (by decide) (λ_ _ _=>trivial) (λ_=>I.out 2 _ _ (by decide) hp) hp))
  ·have c41:=s.g 9 41 rfl (by decide) (by decide) (by decide) (by simp[b]);have E:d 7=true:=(by simp[b]);have y:=s.at2 (j:=2) rfl M (.inr ⟨7,rfl,E⟩);have D:=s.st M;rw[<-J] at D;obtain⟨⟨p3,p3f⟩,b0,b1,b2,b3,b4,b5,b6,b7,b8⟩:=D;have O:cS 62 w0.heap.size (.slice pn n cn) n (iM z) (gV x) P 3 W2 2 (a.tmps.getD 39 undef) w':=y;obtain⟨gz,cz,Q⟩:=O.form;rw[Q] at O;have c39:a.tmps[39]?.getD undef= .slice (some ⟨gz,0,none⟩) (n+1) cz:=by rw[<-aO];exact Q
   go_simp;exact m undef _ (s.eff2 (by kernel_rfl) (by decide) 2 C ha rfl M (.inr ⟨7,rfl,E⟩) rfl (by decide) (λ_ _ _=>trivial) (λh=>absurd rfl h) ⟨_,_,O,rfl⟩)
  iterate 6 (go_simp;exact m _ _ (s.pure (by kernel_rfl) C ha rfl (by decide) (by decide) (by decide) rfl))
  all_goals
   have D:=s.early (f:=11) (by kernel_rfl) M;rw[<-J] at D;obtain⟨⟨p3,p3f⟩,b0,b1,b2,b3,b4,b5,b6,b7,b8⟩:=D;go_simp;exact m _ _ (s.pure (by kernel_rfl) C ha rfl (by decide) (by decide) (by decide) rfl)
 intro v wy al ah;obtain⟨cz,aj⟩: ∃c,cS 62 w0.heap.size (.slice pn n cn) z.length (iM z) (gV x) P 3 W2 3 c wy:=⟨_,by rw[r.out.2.2];exact ah⟩;obtain⟨g,cap,ag⟩:=Y.out.nodeA hx aj;have G:=ag.less N.out;rw[r.out.2.2] at G;obtain⟨⟨_,_,_,c3,_⟩,_⟩:=G.cells;have hPl2:=G.lt;have HF:=hid G;clear ah ag G aj al I J K;simp only[cC,eJ,dO,eK];go_wp2_with fail;go_ret2;rw[<-HR.out];refine⟨by rw[<-r.out.2.1,r.out.2.2];first | rfl | (congr 3;omega),_,_,_,_,?_,HF.out⟩;rw[mZ,r.out.1];rfl
theorem Mc {Pr:aL}{w0:World}{P:Nat}{txt:aA}{sp:List (Nat×Nat)}{st:YS} (x:aG) (lv:Nat) (lev a:Int) (w:World) (h:YJ YP Pr w0 P txt sp st 0 0 w) (hx:x.kids= []) (hl:Hid (lev=33-(lv:Int))) (hlv:lv<=32) (hN:st.nodes.length<=4096):
  Calls Tryz.prog 72 #[.pointer (some ⟨P,0,none⟩),Dr x, .int .i64 lev, .int .i64 a] w (iD YP Pr w0 P txt sp (jA x lv a st)):=by
 refine(Mb x lv lev a w h hx hl hlv hN).mono (λe w' c=>?_);cases hA:jA x lv a st with
 | ok n s1=>rw[hA] at c;exact c
 | bad b er=>rw[hA] at c;exact⟨⟨_,c.1⟩,c.2⟩
end
end Go.Proofs.YtaifnmjjpddikaaGreatDoor
