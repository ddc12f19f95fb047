import Derived.Test.YtjnooaljcgkfpaaGreatDoorBk21
import Derived.Test.YtjnooaljcgkfpaaGreatDoorBk16
import Derived.Deep.AppendLies
import Derived.Deep.DeepCutAuto
set_option maxRecDepth 100000
set_option maxHeartbeats 4000000
namespace Go.Proofs.YtjnooaljcgkfpaaGreatDoor
set_option linter.unusedVariables false
set_option linter.unusedSimpArgs false
section
open Go.RowKit
structure GF (sl:List Nat) (val:Nat->Value) (S:World->Prop) (d:Nat->Bool) (v:Nat->Value) (w':World):Prop where
 cl: ∀i k,sl[i]?=some k->d i=true->v k=val i
 st:S w'
theorem aCQ {l:List Nat} (h:l.Nodup) {i j a:Nat} (hi:l[i]?=some a) (hj:l[j]?=some a):i=j:=by
 obtain⟨f,g⟩:=aP.1 hi;obtain⟨m,k⟩:=aP.1 hj;have o:=List.pairwise_iff_getElem.1 h;rcases Nat.lt_trichotomy i j with c | b | d
 ·exact absurd (g.trans k.symm) (o i j f m c)
 ·exact b
 ·exact absurd (k.trans g.symm) (o j i m f d)
theorem GF.step {sl:List Nat}{val:Nat->Value}{S:World->Prop}{d:Nat->Bool}{v:Nat->Value}{w' w2:World} (h:GF sl val S d v w') (hnd:sl.Nodup) {i k:Nat} (hk:sl[i]?=some k) {x:Value} (hx:x=val i) (hS:S w2):GF sl val S (bK d i) (dH v (some k) x) w2:=by
 refine⟨λj q b c=>?_,hS⟩;by_cases hji:j=i
 ·subst hji;rw[hk] at b;obtain rfl:=bC b;show (if k=k then x else v k)=val j;rw[if_pos rfl];exact hx
 ·have f:q≠k:=λe=>hji (aCQ hnd b (by rw[e];exact hk));show (if q=k then x else v q)=val j;rw[if_neg f];refine h.cl j q b ?_;unfold bK at c;rw[if_neg hji] at c;exact c
theorem mB {o:Oper}{y:Nat->Option Bool} (h:o.guard=none):Region.wanted o y=true:=by simp[Region.wanted,h]
def Gv (o:Option Value):Option Bool:=match o with | some (.bool b)=>some b | _=>none
theorem aCR {o:Option Value}{v:Value}{b:Bool} (h:o.getD undef=v) (hv:v≠ .bool b): ¬Gv o=some b:=by
 intro e;cases o with
 | none=>cases e
 | some u=>
  have c:u=v:=h;subst c;cases u<;>simp[Gv] at e;subst e;exact hv rfl
theorem aCS {o:Option Value}{b:Bool} (h:o.getD undef= .bool b):Gv o=some b:=by
 cases o with
 | none=>cases h
 | some u=>
  have c:u= .bool b:=h;subst c;rfl
theorem aCT {ops:Array Oper}{o og:Oper}{tmps:Array Value}{g k:Nat}{b:Bool}{v:Value} (hg:o.guard=some (g,b)) (ho:ops[g]?=some og) (hk:og.dst=some k) (hc:tmps[k]?.getD undef=v) (hv:v≠ .bool b): ¬Region.wanted o (yielded ops tmps)=true:=by
 simp only[Region.wanted,yielded,hg,ho,hk,Option.bind,beq_iff_eq];exact aCR hc hv
theorem rS {ops:Array Oper}{o og:Oper}{tmps:Array Value}{g k:Nat}{b:Bool} (hg:o.guard=some (g,b)) (ho:ops[g]?=some og) (hk:og.dst=some k) (hc:tmps[k]?.getD undef= .bool b):Region.wanted o (yielded ops tmps)=true:=by
 simp only[Region.wanted,yielded,hg,ho,hk,Option.bind,beq_iff_eq];exact aCS hc
theorem GF.g {sl:List Nat}{val:Nat->Value}{S:World->Prop}{d:Nat->Bool}{a:Array Value}{w':World} (h:GF sl val S d (λk=>a.getD k undef) w') (i k:Nat) (hk:sl[i]?=some k) (hd:d i=true):a[k]?.getD undef=val i:=by rw[<-aU];exact h.cl i k hk hd
theorem uP {c:Prop} [Decidable c] {A B:Prop} (h: ¬c) (hb:B):if c then A else B:=by rw[if_neg h];exact hb
theorem fF {c:Prop} [Decidable c] {A B:Prop} (h:c) (ha:A):if c then A else B:=by rw[if_pos h];exact ha
def Gw (v:Value) (b:Bool):Bool:=match v with
 | .bool c=>c !=b
 | _=>true
theorem aCU {v:Value}{b:Bool} (h:Gw v b=true):v≠ .bool b:=by
 intro e;subst e;simp[Gw] at h
theorem GF.on {sl:List Nat}{val:Nat->Value}{S:World->Prop}{d:Nat->Bool}{a:Array Value}{w':World} (h:GF sl val S d (λk=>a.getD k undef) w') {ops:Array Oper}{o og:Oper}{g k:Nat}{b:Bool} (hg:o.guard=some (g,b)) (ho:ops[g]?=some og) (hk:og.dst=some k) (hs:sl[g]?=some k) (hd:d g=true) (hv:val g= .bool b):Region.wanted o (yielded ops a)=true:=rS hg ho hk ((h.g g k hs hd).trans hv)
theorem GF.off {sl:List Nat}{val:Nat->Value}{S:World->Prop}{d:Nat->Bool}{a:Array Value}{w':World} (h:GF sl val S d (λk=>a.getD k undef) w') {ops:Array Oper}{o og:Oper}{g k:Nat}{b:Bool} (hg:o.guard=some (g,b)) (ho:ops[g]?=some og) (hk:og.dst=some k) (hs:sl[g]?=some k) (hd:d g=true) (hv:Gw (val g) b=true): ¬Region.wanted o (yielded ops a)=true:=aCT hg ho hk (h.g g k hs hd) (aCU hv)
def fU (val:Nat->Value) (d:Nat->Bool) (a:Array Value):List (Nat×Nat)->Prop
 | []=>True
 | p::r=>(d p.1=true->a[p.2]?.getD undef=val p.1)/\fU val d a r
theorem GF.all {sl:List Nat}{val:Nat->Value}{S:World->Prop}{d:Nat->Bool}{a:Array Value}{w':World} (h:GF sl val S d (λk=>a.getD k undef) w'): ∀L:List (Nat×Nat),(L.all λp=>sl[p.1]?==some p.2)=true->fU val d a L
 | [],_=>trivial
 | p::r,hL=>by
  rw[List.all_cons,bV] at hL;exact⟨λhd=>h.g p.1 p.2 (eq_of_beq hL.1) hd,h.all r hL.2⟩
theorem eN.all {ops:Array Oper}{sl:List (Option Nat)}{eff:List Nat}{fr:Nat}{Fb:Value->World->Prop}{val:Nat->Value}{S:World->Prop}{Ph:Nat->Value->World->Prop}{d:Nat->Bool}{a:Array Value}{w':World} (h:eN ops sl eff fr Fb val S Ph d (λk=>a.getD k undef) w'): ∀L:List (Nat×Nat),(L.all λp=>gU sl p.1==some p.2&&decide (p.1<sl.length)&&decide (p.1 ∉ eff)&&decide (p.1≠fr))=true->fU val d a L
 | [],_=>trivial
 | p::r,hL=>by
  rw[List.all_cons,bV] at hL;simp only[bV,eA] at hL;exact⟨λhd=>h.g p.1 p.2 (eq_of_beq hL.1.1.1.1) hL.1.1.1.2 hL.1.1.2 hL.1.2 hd,h.all r hL.2⟩
def mQ (val v:Nat->Value):List Nat->Nat->Prop
 | [],_=>True
 | k::r,i=>v k=val i/\mQ val v r (i+1)
theorem Rb {val v:Nat->Value}{n:Nat}{sl:List Nat} (h: ∀i k,sl[i]?=some k->i<n->v k=val i) (hn:sl.length<=n): ∀(l:List Nat) (i:Nat),sl.drop i=l->mQ val v l i
 | [],_,_=>trivial
 | k::r,i,e=>by
  have hk:sl[i]?=some k:=by
   have:=congrArg List.head? e;rw[List.head?_drop] at this;exact this
  have hi:=(aP.1 hk).1;refine⟨h i k hk (by omega),Rb h hn r (i+1) ?_⟩;rw[<-lP,e];rfl
theorem pA {val v:Nat->Value}{n:Nat}{l:List Nat} (h: ∀i k,l[i]?=some k->i<n->v k=val i) (hn:l.length<=n):mQ val v l 0:=Rb h hn l 0 rfl
theorem bD {a a0:Array Value}{sl:List Nat} (h: ∀k,k ∉ sl->a.getD k undef=a0.getD k undef) (k:Nat) (hk:k ∉ sl):a[k]?.getD undef=a0.getD k undef:=by rw[<-aU];exact h k hk
theorem pB {P:Program}{ops:Array Oper}{Q:Exit->Act->World->Prop}{id:Nat}{a0:Act}{w0:World} (hm:P.follows .mixedOrders=true) (sl:List Nat) (n:Nat) (hn:a0.tmps.size=n) (hback:Bz ops=true) (hdst:vG ops sl n=true)
  (val:Nat->Value) (S:World->Prop) (h0:S w0.drew)
  (hs: ∀(d:Nat->Bool) (a:Act) (w:World) (i:Nat) (o:Oper),ops[i]?=some o->d i=false->(∀e∈o.after,Region.binds .any e=true->d e.on=true)->(∀k,k ∉ sl->a.tmps.getD k undef=a0.tmps.getD k undef)->GF sl val S d (λk=>a.tmps.getD k undef) w->
   ∀R:Act->World->Prop,(∀x w',GF sl val S (bK d i) (dH (λk=>a.tmps.getD k undef) o.dst x) w'->R (a.put o.dst x) w')->if Region.wanted o (yielded ops a.tmps)=true then o.wp P a w R Q else R (a.put o.dst undef) w)
  (hd: ∀(v:Nat->Value) (w:World),(∀i k,sl[i]?=some k->i<ops.size->v k=val i)->S w->Q .normal { a0 with tmps:=cV a0.tmps v sl } w):(Code.region id ops true).wp P Q a0 w0:=
 aCN hm sl n hn hback hdst (λd v w'=>GF sl val S d v w') ⟨λ_ _ _ h=>Bool.noConfusion h,h0⟩ hs (λv w h=>hd v w (λi k b c=>h.cl i k b (aN c)) h.st)
theorem eN.quiet {ops:Array Oper}{sl:List (Option Nat)}{eff:List Nat}{fr:Nat}{Fb:Value->World->Prop}{val:Nat->Value}{S:World->Prop}{Ph:Nat->Value->World->Prop}{d:Nat->Bool}{v:Nat->Value}{w' w2:World}
  (h:eN ops sl eff fr Fb val S Ph d v w') (hnd:uO sl=true) {i k:Nat}{o:Oper} (ho:ops[i]?=some o) (hall: ∀e∈o.after,Region.binds .any e=true->d e.on=true) (hk:gU sl i=some k) (hne:i ∉ eff) (hfr:i≠fr) (hel:eff≠ []) {x:Value} (hx:x=val i) (hdl:d (eff.getLastD 0)=false)
  (hS:S w'->S w2) (hP: ∀k c,k<eff.length->Ph k c w'->Ph k c w2) (hF: ∀x,Fb x w'->Fb x w2):eN ops sl eff fr Fb val S Ph (bK d i) (dH v (some k) x) w2:=by
 have b: ∀e∈eff,fT sl (dH v (some k) x) e=fT sl v e:=λe f=>oZ hnd hk x (λe2=>hne (e2 ▸ f));have u: ∀e∈eff,bK d i e=d e:=λe f=>iA (λe2=>hne (e2 ▸ f));have hlast:bK d i (eff.getLastD 0)=d (eff.getLastD 0):=u _ (Gu hel);refine⟨λj y l p g=>?_,h.clo.step ho hall,λC=>hS (h.st hdl),λC s=>?_,?_⟩
 ·by_cases hji:j=i
  ·subst hji;rw[Ca hk];exact hx
  ·rw[oZ hnd hk x hji];rw[iA hji] at g;exact h.cl j y l p g
 ·rw[oZ hnd hk x (Ne.symm hfr)];rw[iA (Ne.symm hfr)] at s;exact hF _ (h.fb hdl s)
 ·obtain⟨q,r,t,A⟩:=h.ph;have m:q<eff.length:=by
   refine Nat.lt_of_le_of_ne r (λe=>?_);have hpos:0<eff.length:=mX.2 hel;have D:eff[eff.length-1]?=some (eff.getLastD 0):=by
    rw[List.getLastD_eq_getLast?,List.getLast?_eq_getElem?,bH (by omega)];rfl
   have:=(t (eff.length-1) _ D).2 (by omega);rw[hdl] at this;cases this
  refine⟨q,r,λj e f=>?_,?_⟩
  ·rw[u e (bA f)];exact t j e f
  ·rw[Qz b (oZ hnd hk x (Ne.symm hfr))];exact hP _ _ m A
end
section
open Go.RowKit
open Go.Lib hiding intOf
def cS (e:TypeId) (B:Nat) (v:Value) (n:Nat) (xs:List Value) (el:Array Value) (X i:Nat) (W0:World):Nat->Value->World->Prop
 | 0,_,w'=>Below W0.heap.size W0 w'
 | 1,c,w'=> ∃w1,Below W0.heap.size W0 w1/\c= .slice (some ⟨w1.heap.size,0,none⟩) 1 1/\w'=w1.alloc (.cells el e)
 | 2,c,w'=> ∃w1,Below W0.heap.size W0 w1/\w'.ownsRow B e el.size c (n+1) (xs++el.toList)/\w1.grownBy w' v.ownBlock/\(c.ownBlock=v.ownBlock\/c.ownBlock=some (w1.heap.size+1))/\ ∃g cap,c= .slice (some ⟨g,0,none⟩) (n+1) cap
 | _,_,w'=> ∃c w2,(∃w1,Below W0.heap.size W0 w1/\w2.ownsRow B e el.size c (n+1) (xs++el.toList)/\w1.grownBy w2 v.ownBlock/\(c.ownBlock=v.ownBlock\/c.ownBlock=some (w1.heap.size+1))/\ ∃g cap,c= .slice (some ⟨g,0,none⟩) (n+1) cap)/\w'=w2.setCell ⟨X,i,none⟩ c
section
variable {e:TypeId}{B:Nat}{v:Value}{n:Nat}{xs:List Value}{el:Array Value}{X i:Nat}{W0 w':World}
theorem cS.form {c:Value} (h:cS e B v n xs el X i W0 2 c w'): ∃g cap,c= .slice (some ⟨g,0,none⟩) (n+1) cap:=by
 obtain⟨_,_,_,_,_,h⟩:=h;exact h
theorem cS.app {P:Program}{o:Oper}{a:Act}{K:Act->World->Prop}{Q:Exit->Act->World->Prop} (hgd:o.guard=none) (s x:Operand) (t:TypeId)
  (ho:o.op= .call { callee:= .builtin .append,args:= #[s,x],argTypes:= #[t,t] }) {i0:TypeInfo}{zv:Value}{bytes:Nat} (hu:P.underlying t=some (.slice e)) (hi:P.info? e=some i0) (hz:i0.zero=some zv) {size:Nat}
  (hsize:i0.size=size) (hby:i0.bytes=bytes) (hzs:zv.cells.size=size) (hsz:0<size) (hel:el.size=size) (h1: ∀u∈el.toList,u.oneCell'=true)
  (hown:W0.ownsRow B e size v n xs) (hn:n+1<=4294967296) (hbt:bytes<=256) (hB:B<=W0.heap.size) {c:Value} (h:cS e B v n xs el X i W0 1 c w') (hs:a.eval s=v) (hx:a.eval x=c)
  (hK: ∀v' w2,cS e B v n xs el X i W0 2 v' w2->K (a.put o.dst v') w2):o.wp P a w' K Q:=by
 obtain⟨w1,b,rfl,rfl⟩:=h;have hmul:(n+1)*bytes<=4294967296*256:=Nat.mul_le_mul hn hbt;refine wp_append_lies _ s x t ho B e i0 _ size bytes hu hi hz hsize hby hzs hsz v n xs hs ((kX hown b).alloc _) ⟨w1.heap.size,0,none⟩ 1 1 el.toList hx (by simp[hel]) (xF w1 el _) h1 (by decide) (by unfold maxLen;omega) (by omega) (by have:=b.size;simp;omega) _ rfl ?_;intro g cap w2 j f d _;refine hK _ _ ⟨w1,b,by rw[hel];exact j,xG f,?_,g,cap,rfl⟩;rcases d with d | d
 ·exact .inl d.symm
 ·exact .inr (by rw[d];simp[Value.ownBlock])
end
def wJ (W0:World) (t:TypeId) (cs:Array Value):Nat->Value->World->Prop
 | 0,_,w'=>Below W0.heap.size W0 w'
 | _,c,w'=> ∃Y,c= .pointer (some ⟨Y,0,none⟩)/\W0.heap.size<=Y/\w'.heap[Y]?=some (.cells cs t (0,0))/\Below W0.heap.size W0 w'
theorem wJ.keep {W0 w' w2:World}{t:TypeId}{cs:Array Value}{k:Nat}{c:Value} (h:wJ W0 t cs k c w') (hb:Below w'.heap.size w' w2):wJ W0 t cs k c w2:=by
 cases k with
 | zero=>exact aC (show Below W0.heap.size W0 w' from h) hb
 | succ k=>
  obtain⟨Y,f,g,b,d⟩:=h;exact⟨Y,f,g,(hb.block Y (aE b)).trans b,aC d hb⟩
def pC (W0:World) (t:TypeId) (z:Array Value) (x:Value) (w':World):Prop:= ∃Y,x= .pointer (some ⟨Y,0,none⟩)/\W0.heap.size<=Y/\w'.heap[Y]?=some (.cells z t (0,0))
theorem pC.new {W0 w':World}{t:TypeId}{z:Array Value} (h:W0.heap.size<=w'.heap.size):pC W0 t z (.pointer (some ⟨w'.heap.size,0,none⟩)) (w'.alloc (.cells z t)):=⟨_,rfl,h,heap_alloc_new w' _⟩
theorem pC.keep {W0 w' w2:World}{t:TypeId}{z:Array Value}{x:Value} (h:pC W0 t z x w') (hb:Below w'.heap.size w' w2):pC W0 t z x w2:=by
 obtain⟨Y,c,d,b⟩:=h;exact⟨Y,c,d,(hb.block Y (aE b)).trans b⟩
def lineA (r:aO):Array Value:= #[.int .i64 r.kind, .int .i64 r.sf, .int .i64 r.st, .int .i64 r.ind, .int .i64 r.kf, .int .i64 r.kt, .int .i64 r.rf, .int .i64 r.rt, .int .i64 r.nf, .int .i64 r.nt]
theorem Rc (r:aO): ∀u∈(lineA r).toList,u.oneCell'=true:=by
 intro u b;simp only[lineA,eV,List.not_mem_nil,or_false] at b;rcases b with rfl|rfl|rfl|rfl|rfl|rfl|rfl|rfl|rfl|rfl<;>rfl
theorem aCV {W0 w':World}{Y:Nat} (h:Below W0.heap.size W0 w') (hY:W0.heap.size<=Y) (r:aO):Below W0.heap.size W0 (eG w' Y r):=by
 unfold eG
 (repeat (refine Below.setCell ?_ (by first | exact hY) _))
 exact h
structure uQ (T:TypeId) (Pr:aK) (P:Nat) (txt:aA) (sv lv nv:Value) (tot:Nat) (a er:Int) (w':World):Prop where
 box:w'.heap[P]?=some (.cells #[.string (bs txt),sv,lv,nv, .int .i64 (tot:Int), .int .i64 a, .int .i64 er] T (0,0))
 fr: ∀k o,Pr k=some o->w'.heap[k]?=some o
section
variable {T:TypeId}{Pr:aK}{w0 w w' W0:World}{P:Nat}{txt:aA}{sp:List (Nat×Nat)}{lines:List aO}{z:List YN}{tot:Nat}{a er:Int}{sv lv nv:Value}
theorem uQ.c2 (h:uQ T Pr P txt sv lv nv tot a er w):w.cell? ⟨P,2,none⟩=some lv/\w.frozen? ⟨P,2,none⟩=false:=by
 have b:=h.box;refine⟨?_,?_⟩<;>simp[World.cell?,World.frozen?,b]
theorem uQ.c3 (h:uQ T Pr P txt sv lv nv tot a er w):w.cell? ⟨P,3,none⟩=some nv/\w.frozen? ⟨P,3,none⟩=false:=by
 have b:=h.box;refine⟨?_,?_⟩<;>simp[World.cell?,World.frozen?,b]
theorem YK.seen (h:YK T Pr w0 P txt sp lines z tot a er sv lv nv w):uQ T Pr P txt sv lv nv tot a er w:=⟨h.box,λk o b=>(h.fr k o b).1⟩
theorem YK.seenA (h:YK T Pr w0 P txt sp lines z tot a er sv lv nv W0) {B2 s n:Nat}{e:TypeId}{v:Value}{xs:List Value}{el:Array Value}{X i:Nat} (hr:W0.ownsRow B2 e s v n xs) (he:e≠T) (hv: ∀k o,Pr k=some o->v.ownBlock≠some k) {k:Nat}{c:Value} (hk:k<3) (hp:cS e B2 v n xs el X i W0 k c w'):uQ T Pr P txt sv lv nv tot a er w':=by
 have key: ∀w1,Below W0.heap.size W0 w1-> ∀r,w1.grownBy w' r->(r=none\/r=v.ownBlock)->uQ T Pr P txt sv lv nv tot a er w':=λw1 b r f d=>by
  have g:=h.keep b;have l:=kX hr b;refine⟨rR f g.box (λe2=>?_),λk o hk=>rR f (g.fr k o hk).1 (λe2=>?_)⟩
  ·rcases d with rfl|rfl
   ·cases e2
   ·rcases dM l g.box he with j | j
    ·rw[j] at e2;cases e2
    ·exact j e2
  ·rcases d with rfl|rfl
   ·cases e2
   ·exact hv k o hk e2
 match k,hp with
 | 0,hp=>
  have hp:Below W0.heap.size W0 w':=hp;exact(h.keep hp).seen
 | 1,⟨w1,b,_,hw⟩=>
  rw[hw];exact((h.keep b).keep (aH w1 _)).seen
 | 2,⟨w1,b,_,f,_⟩=>exact key w1 b _ f (.inr rfl)
 | k+3,_=>omega
theorem YK.lineA (h:YK T Pr w0 P txt sp lines z tot a er sv lv nv W0) {r:aO}{c:Value} (hp:cS 143 w0.heap.size lv lines.length (kE lines) (Go.Proofs.YtjnooaljcgkfpaaGreatDoor.lineA r) P 2 W0 3 c w'): ∃lv',YK T Pr w0 P txt sp (lines++ [r]) z tot a er sv lv' nv w':=by
 obtain⟨c,w2,⟨w1,f,b,g,d,_⟩,rfl⟩:=hp;exact⟨c,(h.keep f).line (H:=w1.heap.size+1) (tU _) b g d⟩
end
theorem cG.mvar {w:World} (h:cG w):lC w:=h.1.2.2
theorem Tryz.infoLine:(Tryz.prog.info? 143).map (λi=>(i.zero,i.size,i.bytes))=some (some (.agg #[.int .i64 0, .int .i64 0, .int .i64 0, .int .i64 0, .int .i64 0, .int .i64 0, .int .i64 0, .int .i64 0, .int .i64 0, .int .i64 0]),10,80):=by kernel_rfl
def kF (T:TypeId) (Pr:aK) (w0:World) (P:Nat) (txt:aA) (sp:List (Nat×Nat)) (ls:List aO) (z:List YN) (nv:Value) (tot:Nat) (a er:Int) (w:World):Prop:= ∃sv lv,YK T Pr w0 P txt sp ls z tot a er sv lv nv w
theorem kF.toJ {T:TypeId}{Pr:aK}{w0:World}{P:Nat}{txt:aA}{sp:List (Nat×Nat)}{ls:List aO}{z:List YN}{nv:Value}{tot:Nat}{a er:Int}{w:World} (h:kF T Pr w0 P txt sp ls z nv tot a er w) {ns:List aM} (hz:z.map (·.1)=ns):YJ T Pr w0 P txt sp ⟨ls,ns,tot⟩ a er w:=by
 obtain⟨sv,lv,h⟩:=h;exact⟨z,sv,lv,nv,hz,h⟩
theorem kF.keep {T:TypeId}{Pr:aK}{w0:World}{P:Nat}{txt:aA}{sp:List (Nat×Nat)}{ls:List aO}{z:List YN}{nv:Value}{tot:Nat}{a er:Int}{w w':World} (h:kF T Pr w0 P txt sp ls z nv tot a er w) (hb:Below w.heap.size w w'):kF T Pr w0 P txt sp ls z nv tot a er w':=by
 obtain⟨sv,lv,h⟩:=h;exact⟨sv,lv,h.keep hb⟩
def aCW (Pr:aK) (w0:World) (P:Nat) (txt:aA) (sp:List (Nat×Nat)) (st:YS) (z:List YN) (nv:Value) (R:aO×Int×Int) (e:Ending) (w':World):Prop:=
 (R.2.2≠0/\e= .returned (.bool false)/\gI YP Pr w0 P txt sp R.2.1 R.2.2 w')\/(R.2.2=0/\e= .returned (.bool true)/\kF YP Pr w0 P txt sp (st.lines++ [R.1]) z nv st.total 0 0 w')
theorem aCX {Pr:aK}{w0:World}{P:Nat}{txt:aA}{sp:List (Nat×Nat)}{st:YS}{z:List YN}{nv:Value} (x:Nat×Nat) (w:World) (h:kF YP Pr w0 P txt sp st.lines z nv st.total 0 0 w) (hz:z.map (·.1)=st.nodes) (hx:sp[st.lines.length]?=some x) (hs:txt.length<=65536) (hn:sp.length<=131072) (hV:cG w0):
  Calls Tryz.prog 107 #[.pointer (some ⟨P,0,none⟩)] w (aCW Pr w0 P txt sp st z nv (dI txt x.1 x.2)):=by
 obtain⟨⟨r,at_,er⟩,y⟩:=exQ<|dI txt x.1 x.2;rw[y];obtain⟨i0,aw,az,aF,ax⟩:=info_parts Tryz.infoLine;have aD:=(aP.1 hx).1;obtain⟨k,hk⟩:=exQ<|st.lines.length;rw[hk] at aD hx;obtain⟨W0,ag⟩:=exQ<|w.drew;have al:Below w.heap.size w W0:=by rw[<-ag];exact(aB _ _).drew
 have R:=h.keep al;have HJ:=hid (R.toJ hz);obtain⟨sv,lv,hK⟩:=R;obtain⟨gs,cs,rfl,N,_,_⟩:=hK.spanAt hx;obtain⟨pl,cl,rfl⟩:=hK.lnSlice;rw[hk] at hK;have HK:=hid hK;have ao:cG W0:=hV.keep hK.bel;have CL:Hid (∀w',Below W0.heap.size W0 w'->Calls Tryz.prog 138 #[.string (bs txt), .agg #[.int .i64 (x.1:Int), .int .i64 (x.2:Int)]] w' λe w2=>e=sW (r,at_,er)/\Below w'.heap.size w' w2):=hid (λw' hb=>by have hv:=ao.keep hb;have:=aBm txt x.1 x.2 w' (by omega) hv.2 hv.tabs hv.mvar;rw[y] at this;exact this);unfold sW gG at CL;obtain⟨SA,Z⟩: ∃S:World->Prop,(λw'=>(w'.cell? ⟨P,0,none⟩=some (.string (bs txt))/\w'.cell? ⟨P,1,none⟩=some (.slice (some ⟨gs,0,none⟩) sp.length cs)/\w'.cell? ⟨P,2,none⟩=some (.slice pl k cl))/\w'.cell? ⟨gs,k*2,none⟩=some (.int .i64 (x.1:Int))/\w'.cell? ⟨gs,k*2+1,none⟩=some (.int .i64 (x.2:Int)))=S:=⟨_,rfl⟩;have O:Hid (∀w',Below W0.heap.size W0 w'->SA w'):=hid (λw' hb=>by rw[<-Z];have u:=HK.out.keep hb;obtain⟨⟨c0,c1,c2,_⟩,_⟩:=u.cells;obtain⟨g2,c2',e2,_,s0,s1⟩:=u.spanAt hx;injection e2 with e2;injection e2 with e2;injection e2 with e2;subst e2;exact⟨⟨c0,c1,c2⟩,s0,s1⟩);have hk0:(0:Int)<=(k:Int):=by omega
 have hki:(k:Int)<(sp.length:Int):=by omega
 have HX:=hid hx;have ai:=hid hk;have HZ:=hid hz;clear hK h al ao hz y hx hk;go_enter Tryz.func107,Tryz.ntmps107;go_upto_region 1 with fail;have I:Tryz.prog.follows .mixedOrders=true:=by kernel_rfl
 refine nL I [some 7,some 8,some 9,some 10,some 11,some 12,some 13,some 14,some 15,some 16,some 17,some 18,some 19,some 20,some 21,some 22,some 6,some 23,some 24,some 25,some 3,none,some 4,some 5] [7,8,9,10,11,12,13,14,15,16,17,18,19,20,21,22,6,23,24,25,3,4,5] [21] 20 (pC W0 143 (lineA cX)) 42 rfl (by kernel_rfl) (by kernel_rfl) (by kernel_rfl) (λiz=>match iz with | 0=> .pointer (some ⟨P,0,none⟩) | 1=> .pointer (some ⟨P,0,none⟩) | 2=> .pointer (some ⟨P,0,none⟩) | 3=> .string (bs txt) | 4=> .pointer (some ⟨P,0,none⟩) | 5=> .pointer (some ⟨P,0,none⟩) | 6=> .pointer (some ⟨P,1,none⟩) | 7=> .slice (some ⟨gs,0,none⟩) sp.length cs | 8=> .pointer (some ⟨P,0,none⟩) | 9=> .pointer (some ⟨P,0,none⟩) | 10=> .pointer (some ⟨P,2,none⟩) | 11=> .slice pl k cl | 12=> .int .i64 (k:Int) | 13=> .pointer (some ⟨gs,k*2,none⟩) | 14=> .agg #[.int .i64 (x.1:Int), .int .i64 (x.2:Int)] | 15=> .tuple #[.agg #[.int .i64 r.kind, .int .i64 r.sf, .int .i64 r.st, .int .i64 r.ind, .int .i64 r.kf, .int .i64 r.kt, .int .i64 r.rf, .int .i64 r.rt, .int .i64 r.nf, .int .i64 r.nt], .int .i64 at_, .int .i64 er] | 16=> .tuple #[.agg #[.int .i64 r.kind, .int .i64 r.sf, .int .i64 r.st, .int .i64 r.ind, .int .i64 r.kf, .int .i64 r.kt, .int .i64 r.rf, .int .i64 r.rt, .int .i64 r.nf, .int .i64 r.nt], .int .i64 at_, .int .i64 er] | 17=> .agg #[.int .i64 r.kind, .int .i64 r.sf, .int .i64 r.st, .int .i64 r.ind, .int .i64 r.kf, .int .i64 r.kt, .int .i64 r.rf, .int .i64 r.rt, .int .i64 r.nf, .int .i64 r.nt] | 18=> .int .i64 at_ | 19=> .int .i64 er | 22=> .int .i64 at_ | 23=> .int .i64 er | _=>undef) SA (wJ W0 143 (lineA r)) (by rw[ag];exact O.out _ (aB _ _)) (by rw[ag];exact aB _ _) ?_ ?_
 ·intro d a w' iq o' K p b C l R' y;have af:iq<24:=(dW.1 K).1;have q0:a.tmps[0]?.getD undef= .pointer (some ⟨P,0,none⟩):=bD C 0 (by decide);have hc:=l.all [(16,6),(0,7),(1,8),(2,9),(3,10),(4,11),(5,12),(6,13),(7,14),(8,15),(9,16),(10,17),(11,18),(12,19),(13,20),(14,21),(15,22),(17,23),(18,24),(19,25)] (by decide);dsimp only[fU] at hc;clear C;have H:=b;have m:=K;have N:iq=15\/iq=20\/iq=21\/iq=0\/iq=1\/iq=2\/iq=4\/iq=5\/iq=6\/iq=8\/iq=9\/iq=10\/iq=12\/iq=16\/iq=17\/iq=18\/iq=19\/iq=22\/iq=23\/iq=3\/iq=7\/iq=11\/iq=13\/iq=14:=by omega
  clear af;rcases N with rfl|rfl|rfl|rfl|rfl|rfl|rfl|rfl|rfl|rfl|rfl|rfl|rfl|rfl|rfl|rfl|rfl|rfl|rfl|rfl|rfl|rfl|rfl|rfl<;>simp only[fN,dG,bM,cP] at K<;>subst K<;>(try simp[Region.binds] at b)
  ·have c10:=l.g 3 10 rfl (by decide) (by decide) (by decide) (by simp[b]);have c21:=l.g 14 21 rfl (by decide) (by decide) (by decide) (by simp[b]);have J:Below W0.heap.size W0 w':=l.at2 (j:=0) rfl (l.lastNot (f:=24) (i:=15) (by kernel_rfl) p) (.inl rfl);go_simp;go_at_call 138;refine(CL.out _ J).mono ?_;rintro e w5 ⟨rfl,W⟩;exact y _ _ (l.quiet (by kernel_rfl) m H rfl (by decide) (by decide) (by decide) rfl (l.lastNot (f:=24) (i:=15) (by kernel_rfl) p) (λ_=>O.out _ (aC J W)) (λk c _ V=>V.keep W) (λx hx=>hx.keep W))
  ·have J:Below W0.heap.size W0 w':=l.at2 (j:=0) rfl (l.lastNot (f:=24) (i:=20) (by kernel_rfl) p) (.inl rfl);have am:=aH w' (.cells (lineA cX) 143);go_simp;exact y _ _ (l.free (by kernel_rfl) m H rfl (by decide) rfl (by decide) (by kernel_rfl) (by decide) (l.lastNot (f:=24) (i:=20) (by kernel_rfl) p) (λ_=>O.out _ (aC J am)) (λk c V=>V.keep am) (pC.new J.size))
  ·have c23:=l.g 17 23 rfl (by decide) (by decide) (by decide) (by simp[b]);have t:=l.at2 (j:=0) rfl p (.inl rfl);obtain⟨Y,hY,A,E⟩:=l.fb p (by simp[b]);have hY:a.tmps.getD 3 undef= .pointer (some ⟨Y,0,none⟩):=hY;have c3:a.tmps[3]?.getD undef= .pointer (some ⟨Y,0,none⟩):=by rw[<-aU];exact hY
   have hL:bR w' Y cX:=E;obtain⟨b0,b1,b2,b3,b4,b5,b6,b7,b8,b9,R,h1,h2,h3,h4,h5,h6,h7,h8,h9⟩:=hL.cells;have J:Below W0.heap.size W0 w':=t;go_simp;exact y undef _ (l.eff2 (by kernel_rfl) (by decide) 0 m H rfl p (.inl rfl) rfl (by decide) (λh=>absurd rfl h) (λh=>absurd rfl h) ⟨Y,hY,A,bR.put (r2:=r) hL,aCV J A r⟩)
  iterate 16 (go_simp;exact y _ _ (l.pure (by kernel_rfl) m H rfl (by decide) (by decide) (by decide) rfl))
  all_goals
   have s:=l.early (f:=24) (by kernel_rfl) p;rw[<-Z] at s;obtain⟨⟨p0,p1,p2⟩,s0,s1⟩:=s;go_simp;exact y _ _ (l.pure (by kernel_rfl) m H rfl (by decide) (by decide) (by decide) rfl)
 intro v wz D av;obtain⟨Y,hY,A,E,ad⟩:=av;have ak:v 3= .pointer (some ⟨Y,0,none⟩):=hY;have aj:v 4= .int .i64 at_:=D 22 (by decide) (by decide) (by decide) (by decide);have an:v 5= .int .i64 er:=D 23 (by decide) (by decide) (by decide) (by decide);simp only[cV,fO,eP,fP,ak,aj,an];have HY:=hid E;have aE:=hid A;have ab:=hid (HK.out.put ad A E);have aq:=hid ad;clear D hY A E ad ak aj an O Z CL;by_cases R:er=0
 ·subst R;obtain⟨W2,Q⟩:=exQ<|wz.drew;have u:YK YP (Pr.put Y (.cells (lineA r) 143)) w0 P txt sp st.lines z st.total 0 0 (.slice (some ⟨gs,0,none⟩) sp.length cs) (.slice pl k cl) nv W2:=by rw[<-Q];exact ab.out.keep (aB _ wz).drew
  have ah:=hid u;have ae:=hid (aK.put_less (Pr:=Pr) (o:= .cells (lineA r) 143) (λq o' hq=>HK.out.frLt hq) aE.out);have F:=u.lnr;rw[ai.out] at F;have U:=hid F;have ay:=hid u.bel.size;obtain⟨SB,L⟩: ∃S:World->Prop,(λw'=>(w'.cell? ⟨P,2,none⟩=some (.slice pl k cl)/\w'.frozen? ⟨P,2,none⟩=false)/\w'.cell? ⟨Y,0,none⟩=some (.int .i64 r.kind)/\w'.cell? ⟨Y,1,none⟩=some (.int .i64 r.sf)/\w'.cell? ⟨Y,2,none⟩=some (.int .i64 r.st)/\w'.cell? ⟨Y,3,none⟩=some (.int .i64 r.ind)/\w'.cell? ⟨Y,4,none⟩=some (.int .i64 r.kf)/\w'.cell? ⟨Y,5,none⟩=some (.int .i64 r.kt)/\w'.cell? ⟨Y,6,none⟩=some (.int .i64 r.rf)/\w'.cell? ⟨Y,7,none⟩=some (.int .i64 r.rt)/\w'.cell? ⟨Y,8,none⟩=some (.int .i64 r.nf)/\w'.cell? ⟨Y,9,none⟩=some (.int .i64 r.nt))=S:=⟨_,rfl⟩;have M:Hid (∀q c w',q<3->cS 143 w0.heap.size (.slice pl k cl) k (kE st.lines) (lineA r) P 2 W2 q c w'->SB w'):=hid (λq c w' hq V=>by rw[<-L];have hs:=ah.out.seenA U.out (by decide) (λj o hj=>(ah.out.fr j o hj).2.2.1) hq V;obtain⟨c2,f2⟩:=hs.c2;have hl:bR w' Y r:=hs.fr Y _ (aK.put_eq _ _ _);obtain⟨b0,b1,b2,b3,b4,b5,b6,b7,b8,b9,_⟩:=hl.cells;exact⟨⟨c2,f2⟩,b0,b1,b2,b3,b4,b5,b6,b7,b8,b9⟩);clear u F ab HK HJ;go_upto_region 4 with fail;have I:Tryz.prog.follows .mixedOrders=true:=by kernel_rfl
  refine nL I [some 32,some 33,some 34,some 35,some 36,some 37,some 38,some 39,some 40,some 41,none] [32,33,34,35,36,37,38,39,40,41] [6,7,10] 1000000 (λ_ _=>True) 42 rfl (by kernel_rfl) (by kernel_rfl) (by kernel_rfl) (λiz=>match iz with | 0=> .pointer (some ⟨P,0,none⟩) | 1=> .pointer (some ⟨P,0,none⟩) | 2=> .pointer (some ⟨P,0,none⟩) | 3=> .pointer (some ⟨P,2,none⟩) | 4=> .slice pl k cl | 5=> .agg #[.int .i64 r.kind, .int .i64 r.sf, .int .i64 r.st, .int .i64 r.ind, .int .i64 r.kf, .int .i64 r.kt, .int .i64 r.rf, .int .i64 r.rt, .int .i64 r.nf, .int .i64 r.nt] | 8=> .pointer (some ⟨P,0,none⟩) | 9=> .pointer (some ⟨P,2,none⟩) | _=>undef) SB (cS 143 w0.heap.size (.slice pl k cl) k (kE st.lines) (lineA r) P 2 W2) (by rw[Q];exact M.out 0 undef _ (by decide) (aB _ _)) (by rw[Q];exact aB _ _) ?_ ?_
  ·intro d a w' iq o' K p b C l R' y;have af:iq<11:=(dW.1 K).1;have q0:a.tmps[0]?.getD undef= .pointer (some ⟨P,0,none⟩):=bD C 0 (by decide);have q3:a.tmps[3]?.getD undef= .pointer (some ⟨Y,0,none⟩):=bD C 3 (by decide);have hc:=l.all [(0,32),(1,33),(2,34),(3,35),(4,36),(5,37),(8,40),(9,41)] (by decide);dsimp only[fU] at hc;clear C;have H:=b;have m:=K;have N:iq=6\/iq=7\/iq=10\/iq=0\/iq=1\/iq=2\/iq=3\/iq=8\/iq=9\/iq=4\/iq=5:=(by omega);clear af;rcases N with rfl|rfl|rfl|rfl|rfl|rfl|rfl|rfl|rfl|rfl|rfl<;>simp only[fN,dG,bM,cP] at K<;>subst K<;>(try simp[Region.binds] at b)
   ·have c37:=l.g 5 37 rfl (by decide) (by decide) (by decide) (by simp[b]);have t:=l.at2 (j:=0) rfl p (.inl rfl);have J:Below W2.heap.size W2 w':=t;go_simp;exact y _ _ (l.eff2 (by kernel_rfl) (by decide) 0 m H rfl p (.inl rfl) rfl (by decide) (λ_ _ _=>trivial) (λ_=>M.out 1 _ _ (by decide) ⟨w',J,rfl,rfl⟩) ⟨w',J,rfl,rfl⟩)
   ·have c36:=l.g 4 36 rfl (by decide) (by decide) (by decide) (by simp[b]);have G:d 6=true:=(by simp[b]);have t:=l.at2 (j:=1) rfl p (.inr ⟨6,rfl,G⟩);have ca':a.tmps.getD 36 undef= .slice pl k cl:=by rw[aU];exact c36
    exact cS.app rfl (.tmp 36) (.tmp 38) 42 rfl Tryz.underlying42 aw az aF ax rfl (by decide) rfl (Rc r) U.out (by omega) (by decide) ay.out t ca' rfl (λv' w2 V=>y _ _ (l.eff2 (by kernel_rfl) (by decide) 1 m H rfl p (.inr ⟨6,rfl,G⟩) rfl (by decide) (λ_ _ _=>trivial) (λ_=>M.out 2 _ _ (by decide) V) V))
   ·have c41:=l.g 9 41 rfl (by decide) (by decide) (by decide) (by simp[b]);have G:d 7=true:=(by simp[b]);have t:=l.at2 (j:=2) rfl p (.inr ⟨7,rfl,G⟩);have s:=l.st p;rw[<-L] at s;obtain⟨⟨p2,p2f⟩,b0,b1,b2,b3,b4,b5,b6,b7,b8,b9⟩:=s;have aa:cS 143 w0.heap.size (.slice pl k cl) k (kE st.lines) (lineA r) P 2 W2 2 (a.tmps.getD 39 undef) w':=t;obtain⟨gz,cz,hz⟩:=aa.form;rw[hz] at aa;have c39:a.tmps[39]?.getD undef= .slice (some ⟨gz,0,none⟩) (k+1) cz:=by rw[<-aU];exact hz
    go_simp;exact y undef _ (l.eff2 (by kernel_rfl) (by decide) 2 m H rfl p (.inr ⟨7,rfl,G⟩) rfl (by decide) (λ_ _ _=>trivial) (λh=>absurd rfl h) ⟨_,_,aa,rfl⟩)
   iterate 6 (go_simp;exact y _ _ (l.pure (by kernel_rfl) m H rfl (by decide) (by decide) (by decide) rfl))
   all_goals
    have s:=l.early (f:=11) (by kernel_rfl) p;rw[<-L] at s;obtain⟨⟨p2,p2f⟩,b0,b1,b2,b3,b4,b5,b6,b7,b8,b9⟩:=s;go_simp;exact y _ _ (l.pure (by kernel_rfl) m H rfl (by decide) (by decide) (by decide) rfl)
  intro v wy D ar;obtain⟨cz,ap⟩: ∃c,cS 143 w0.heap.size (.slice pl k cl) st.lines.length (kE st.lines) (lineA r) P 2 W2 3 c wy:=⟨_,by rw[ai.out];exact ar⟩;obtain⟨lv',au⟩:=ah.out.lineA ap;have HF:=hid (au.less ae.out);clear ar au ap D M L Q;simp only[cV,fO,eP,fP];go_wp2_with fail;go_ret;exact .inr ⟨rfl,rfl,_,_,HF.out⟩
 ·have CF:=hid (qR at_ er wz (HJ.out.keep aq.out));have d0:(er !=0)=true:=by simpa using R
  have H0:=hid R;clear R ab HK HJ aq;go_wp2_with fail;refine CF.out.mono ?_;rintro e w7 ⟨rfl,hj⟩;have HF:=hid hj;clear hj;go_wp2_with fail;go_ret;exact .inl ⟨H0.out,rfl,HF.out.bad⟩
def Rd (T:TypeId) (Pr:aK) (w0:World) (P:Nat) (txt:aA) (sp:List (Nat×Nat)) (st:YS) (z:List YN) (nv:Value) (R:NX) (e:Ending) (w':World):Prop:=match R with
 | .ok k ls=>e= .returned (.tuple #[.int .i64 (k:Int), .bool true])/\kF T Pr w0 P txt sp ls z nv st.total 0 0 w'
 | .bad a er=>(∃m:Int,e= .returned (.tuple #[.int .i64 m, .bool false]))/\gI T Pr w0 P txt sp a er w'
theorem Re {Pr:aK}{w0:World}{P:Nat}{txt:aA}{sp:List (Nat×Nat)}{st:YS}{z:List YN}{nv:Value} (k:Nat) (w:World) (h:kF YP Pr w0 P txt sp st.lines z nv st.total 0 0 w) (hz:z.map (·.1)=st.nodes) (hkl:k<=st.lines.length) (hll:st.lines.length<=sp.length) (hs:txt.length<=65536) (hn:sp.length<=131072) (hV:cG w0):
  Calls Tryz.prog 64 #[.pointer (some ⟨P,0,none⟩), .int .i64 (k:Int)] w (Rd YP Pr w0 P txt sp st z nv (gA txt sp k st.lines)):=by
 obtain⟨R,S⟩:=exQ<|gA txt sp k st.lines;rw[S];unfold gA at S;have O:=hid S;have f:Hid (kF YP Pr w0 P txt sp st.lines z nv st.total 0 0 w):=hid h;have Z:=hid hz;have HV:=hid hV;have H:=hid (aT hkl hll);have K:k<=sp.length:=aV hkl hll;clear h S hV hkl hll hz;go_enter Tryz.func64,Tryz.ntmps64;go_wp2_with fail;go_loopw [6] (λs6 wr=> ∃(i:Nat) (ls:List aO),s6= .int .i64 (i:Int)/\i<=sp.length/\Hid (i<=ls.length/\ls.length<=sp.length)/\Hid (lZ txt (sp.drop i) i ls=R)/\Hid (kF YP Pr w0 P txt sp ls z nv st.total 0 0 wr)) (λs6 _=>sp.length+1-(RowKit.intOf s6).toNat)
 case atStart=>exact⟨k,st.lines,rfl,K,H,O,f⟩
 case round=>
  clear O f H K;obtain⟨i,ls,rfl,hi,H,O,f⟩:=hrel;obtain⟨n,F⟩:=exQ<|ls.length;have E:=hid F;obtain⟨sv,lv,u⟩:=f.out;obtain⟨⟨c0,c1,c2,c3,c4,c5,c6⟩,f2,f3,f4,f5,f6⟩:=u.cells;obtain⟨ps,cs,rfl⟩:=u.spSlice;obtain⟨pl,cl,rfl⟩:=u.lnSlice;have hPl:=u.lt;simp only[F] at c2;have hi0:(0:Int)<=(i:Int):=by omega
  clear u;by_cases hil:i<sp.length
  ·obtain⟨x,L⟩: ∃x,sp[i]?=some x:=⟨_,bH hil⟩;have D:sp.drop i=x::sp.drop (i+1):=by
    rw[iJ hil];rw[bH hil] at L;rw[bC L]
   have d:=O.out;rw[D] at d;unfold lZ at d;have d1:decide ((i:Int)<(sp.length:Int))=true:=aN (by omega);obtain⟨i1,G⟩:=exQ<|i+1;have A:(i:Int)+1=(i1:Int):=(by omega);have C:i1<=sp.length:=(by omega);have j:=hid G;by_cases hin:i<n
   ·have de:((i:Int)==(n:Int))=false:=aG.2 (by omega);have de2:(i==n)=false:=aG.2 (by omega);have de3:decide (i=n)=false:=aJ (by omega);have J:(i:Int)<(n:Int):=(by omega);obtain⟨l,hl⟩: ∃l,ls[i]?=some l:=⟨_,bH (by omega)⟩;rw[hl] at d;simp only[] at d;obtain⟨sv,lv,u⟩:=f.out;obtain⟨gl,c9,e9,e10,b⟩:=u.lineAt hl;have b0:=b 0 _ (by omega) rfl;have b1:=b 1 _ (by omega) rfl;have b2:=b 2 _ (by omega) rfl;have b3:=b 3 _ (by omega) rfl;have b4:=b 4 _ (by omega) rfl;have b5:=b 5 _ (by omega) rfl;have b6:=b 6 _ (by omega) rfl;have b7:=b 7 _ (by omega) rfl;have b8:=b 8 _ (by omega) rfl;have b9:=b 9 _ (by omega) rfl;have e8:=u.cells.1.2.2.1;rw[c2,e9] at e8;have e7:=(Value.slice.inj (bC e8)).1;clear e8;subst e7;have CC:=hid (λw=>Qw l w);unfold gG at CC;have c:=hid d;simp only[Nat.add_zero] at b0;clear d u hl D e9 e10 b L hin G F;by_cases hc:iV l=true
    ·rw[if_pos hc] at c;rw[hc] at CC;clear hc;go_wp2_with fail;refine(CC.out _).mono ?_;rintro e w2 ⟨rfl,o⟩;have t:=hid (f.out.keep o);clear o;go_wp2_with fail;go_ret2;rw[<-c.out];exact⟨rfl,t.out⟩
    ·rw[if_neg hc] at c;have p:iV l=false:=(by simpa using hc);rw[p] at CC;clear hc p;go_wp2_with fail;refine(CC.out _).mono ?_;rintro e w2 ⟨rfl,o⟩;have t:=hid (f.out.keep o);clear o;go_wp2_with fail;go_roundw
     ·exact⟨i1,ls,by rw[<-A],C,hid (by have:=j.out;have:=H.out;have:=E.out;omega),hid (by rw[<-j.out];exact c.out),t⟩
     ·(try simp only[RowKit.intOf]);omega
   ·have I:i=n:=by have:=H.out.1;have:=E.out;omega
    subst I;have de:((i:Int)==(i:Int))=true:=(by simp);have s:ls[i]?=none:=List.getElem?_eq_none (by omega);rw[s] at d;simp only[] at d;have CK:=hid (λw' N=>aCX (Pr:=Pr) (w0:=w0) (P:=P) (txt:=txt) (sp:=sp) (st:=⟨ls,st.nodes,st.total⟩) (z:=z) (nv:=nv) x w' N Z.out (by simp only[];rw[E.out];exact L) hs hn HV.out);obtain⟨⟨r,at_,er⟩,Q⟩:=exQ<|dI txt x.1 x.2;rw[Q] at d CK;simp only[] at d;have c:=hid d;clear d Q s D L G;by_cases h0:er=0
    ·subst h0;rw[if_neg (by simp)] at c;have CK2:Hid (∀w',kF YP Pr w0 P txt sp ls z nv st.total 0 0 w'->Calls Tryz.prog 107 #[.pointer (some ⟨P,0,none⟩)] w' λe w2=>e= .returned (.bool true)/\kF YP Pr w0 P txt sp (ls++ [r]) z nv st.total 0 0 w2):=hid (λw' N=>(CK.out w' N).mono (λe w2 hE=>by
      rcases hE with⟨U,_⟩ | ⟨_,V,h3⟩
      ·exact absurd rfl U
      ·exact⟨V,h3⟩))
     clear CK;have CC:=hid (λw=>Qw r w);unfold gG at CC;go_wp2_with (go_at_call 107;refine(CK2.out _ (by first | exact f.out | exact f.out.keep (aB _ _).drew)).mono ?_;rintro e w2 ⟨rfl,g⟩;have y:=hid g;obtain⟨sv2,lv2,m⟩:=g;obtain⟨gl,c9,e9,_,b⟩:=m.lineAt (k:=i) (r:=r) (by show (ls++ [r])[i]?=some r;rw[jO (by have:=E.out;omega),show i-ls.length=0 by have:=E.out;omega];rfl);have b0:=b 0 _ (by omega) rfl;have b1:=b 1 _ (by omega) rfl;have b2:=b 2 _ (by omega) rfl;have b3:=b 3 _ (by omega) rfl;have b4:=b 4 _ (by omega) rfl;have b5:=b 5 _ (by omega) rfl;have b6:=b 6 _ (by omega) rfl;have b7:=b 7 _ (by omega) rfl;have b8:=b 8 _ (by omega) rfl;have b9:=b 9 _ (by omega) rfl;have q2:=m.cells.1.2.2.1;have q1:=m.cells.1.2.1;have Y:(ls++ [r]).length=i1:=(by rw[aI,dQ];have:=E.out;have:=j.out;omega);subst e9;simp only[Y] at q2;have J:(i:Int)<(i1:Int):=(by omega);have hPl2:=m.lt;simp only[Nat.add_zero] at b0;clear m b)
     all_goals
      by_cases hc:iV r=true
      ·rw[if_pos hc] at c;rw[hc] at CC;clear hc;go_wp2_with fail;refine(CC.out _).mono ?_;rintro e w3 ⟨rfl,q⟩;have t:=hid (y.out.keep q);clear q;go_wp2_with fail;go_ret2;rw[<-c.out];exact⟨rfl,t.out⟩
      ·rw[if_neg hc] at c;have p:iV r=false:=(by simpa using hc);rw[p] at CC;clear hc p;go_wp2_with fail;refine(CC.out _).mono ?_;rintro e w3 ⟨rfl,q⟩;have t:=hid (y.out.keep q);clear q;go_wp2_with fail;go_roundw
       ·exact⟨i1,ls++ [r],by rw[<-A],C,hid (by rw[aI,dQ];have:=j.out;have:=E.out;omega),hid (by rw[<-j.out];exact c.out),t⟩
       ·(try simp only[RowKit.intOf]);omega
    ·have M:er≠0:=h0;rw[if_pos M] at c;have CK2:Hid (∀w',kF YP Pr w0 P txt sp ls z nv st.total 0 0 w'->Calls Tryz.prog 107 #[.pointer (some ⟨P,0,none⟩)] w' λe w2=>e= .returned (.bool false)/\gI YP Pr w0 P txt sp at_ er w2):=hid (λw' N=>(CK.out w' N).mono (λe w2 hE=>by
      rcases hE with⟨_,V,h3⟩ | ⟨U,_⟩
      ·exact⟨V,h3⟩
      ·exact absurd U h0))
     clear CK h0 M;go_wp2_with (go_at_call 107;refine(CK2.out _ (by first | exact f.out | exact f.out.keep (aB _ _).drew)).mono ?_;rintro e w2 ⟨rfl,g⟩;have y:=hid g;clear g)
     all_goals
      go_ret2;rw[<-c.out];exact⟨⟨_,rfl⟩,y.out⟩
  ·have W:i=sp.length:=(by omega);subst W;have d:=O.out;rw[List.drop_length] at d;unfold lZ at d;have c:=hid d;have d1:decide ((sp.length:Int)<(sp.length:Int))=false:=aJ (by omega);have t:=f;clear d hil;go_wp2_with fail;go_ret2;rw[<-c.out];exact⟨rfl,t.out⟩
theorem Gx {Pr:aK}{w0:World}{P:Nat}{txt:aA}{sp:List (Nat×Nat)}{st:YS} (k:Nat) (w:World) (h:YJ YP Pr w0 P txt sp st 0 0 w) (hkl:k<=st.lines.length) (hll:st.lines.length<=sp.length) (hs:txt.length<=65536) (hn:sp.length<=131072) (hV:cG w0):
  Calls Tryz.prog 64 #[.pointer (some ⟨P,0,none⟩), .int .i64 (k:Int)] w (Bw YP Pr w0 P txt sp st (gA txt sp k st.lines)):=by
 obtain⟨z,sv,lv,nv,c,d⟩:=h;refine(Re k w ⟨sv,lv,d⟩ c hkl hll hs hn hV).mono (λe w' b=>?_);cases hN:gA txt sp k st.lines with
 | ok m ls=>
  rw[hN] at b;exact⟨b.1,kF.toJ b.2 c⟩
 | bad a er=>
  rw[hN] at b;exact b
def Gy (x:aM):Value:= .agg #[.int .i64 (x.kind:Int), .int .i64 x.ind, .int .i64 (x.fr:Int), .int .i64 (x.til:Int), .int .i64 x.kf, .int .i64 x.kt, .int .i64 x.rf, .int .i64 x.rt, .slice none 0 0]
def iF (x:aM):Array Value:= #[.int .i64 (x.kind:Int), .int .i64 x.ind, .int .i64 (x.fr:Int), .int .i64 (x.til:Int), .int .i64 x.kf, .int .i64 x.kt, .int .i64 x.rf, .int .i64 x.rt, .slice none 0 0]
theorem Rf (x:aM): ∀u∈(iF x).toList,u.oneCell'=true:=by
 intro u b;simp only[iF,eV,List.not_mem_nil,or_false] at b;rcases b with rfl|rfl|rfl|rfl|rfl|rfl|rfl|rfl|rfl<;>rfl
theorem YK.nodeA {T:TypeId}{Pr:aK}{w0 w' W0:World}{P:Nat}{txt:aA}{sp:List (Nat×Nat)}{lines:List aO}{z:List YN}{tot:Nat}{a er:Int}{sv lv nv:Value} (h:YK T Pr w0 P txt sp lines z tot a er sv lv nv W0) {x:aM} (hx:x.kids= []) {c:Value} (hp:cS 100 w0.heap.size nv z.length (jH z) (iF x) P 3 W0 3 c w'):
  ∃g cap,YK T Pr w0 P txt sp lines (z++ [(x, .slice none 0 0)]) tot a er sv lv (.slice (some ⟨g,0,none⟩) (z.length+1) cap) w':=by
 obtain⟨c,w2,⟨w1,f,b,j,d,g,cap,rfl⟩,rfl⟩:=hp;exact⟨g,cap,(h.keep f).node hx (H:=w1.heap.size+1) (tU _) b j d⟩
theorem YK.ndSlice {T:TypeId}{Pr:aK}{w0 w:World}{P:Nat}{txt:aA}{sp:List (Nat×Nat)}{lines:List aO}{z:List YN}{tot:Nat}{a er:Int}{sv lv nv:Value} (h:YK T Pr w0 P txt sp lines z tot a er sv lv nv w): ∃p cap,nv= .slice p z.length cap:=by
 rcases h.nod.row.2 with⟨c,b⟩ | ⟨g,cap,cur,b,h2,h3,h4,_⟩
 ·exact⟨none,0,by rw[c,b]⟩
 ·exact⟨_,cap,b⟩
theorem Tryz.infoYnode:(Tryz.prog.info? 100).map (λi=>(i.zero,i.size,i.bytes))=some (some (.agg #[.int .i64 0, .int .i64 0, .int .i64 0, .int .i64 0, .int .i64 0, .int .i64 0, .int .i64 0, .int .i64 0, .slice none 0 0]),9,88):=by kernel_rfl
theorem qU {w:World}{X:Nat}{a0 a1 a2 a3 a4 a5 a6 a7 a8:Value}{t:TypeId} (hb:w.heap[X]?=some (.cells #[a0,a1,a2,a3,a4,a5,a6,a7,a8] t)):w.cell? ⟨X,0,none⟩=some a0/\w.cell? ⟨X,1,none⟩=some a1/\w.cell? ⟨X,2,none⟩=some a2/\w.cell? ⟨X,3,none⟩=some a3/\w.cell? ⟨X,4,none⟩=some a4/\w.cell? ⟨X,5,none⟩=some a5/\w.cell? ⟨X,6,none⟩=some a6/\w.cell? ⟨X,7,none⟩=some a7/\w.cell? ⟨X,8,none⟩=some a8:=by
 refine⟨?_,?_,?_,?_,?_,?_,?_,?_,?_⟩<;>simp[World.cell?,hb]
def Rg (T:TypeId) (Pr:aK) (w0:World) (P:Nat) (txt:aA) (sp:List (Nat×Nat)) (R:YR) (e:Ending) (w':World):Prop:=match R with
 | .ok n st=>e= .returned (.tuple #[.int .i64 (n:Int), .bool true])/\YJ T Pr w0 P txt sp st 0 0 w'
 | .bad a er=>e= .returned (.tuple #[.int .i64 0, .bool false])/\gI T Pr w0 P txt sp a er w'
theorem Rh {Pr:aK}{w0:World}{P:Nat}{txt:aA}{sp:List (Nat×Nat)}{st:YS} (x:aM) (lv:Nat) (lev a:Int) (w:World) (h:YJ YP Pr w0 P txt sp st 0 0 w) (hx:x.kids= []) (hl:Hid (lev=33-(lv:Int))) (hlv:lv<=32) (hN:st.nodes.length<=4096):
  Calls Tryz.prog 112 #[.pointer (some ⟨P,0,none⟩),Gy x, .int .i64 lev, .int .i64 a] w (Rg YP Pr w0 P txt sp (jE x lv a st)):=by
 obtain⟨R,m⟩:=exQ<|jE x lv a st;rw[m];unfold jE at m;obtain⟨i0,ao,al,aq,ap⟩:=info_parts Tryz.infoYnode;unfold Gy;have b0:=aH w (.cells (iF x) 100);have u:=heap_alloc_new w (.cells (iF x) 100);have O:w.heap.size<(w.alloc (.cells (iF x) 100)).heap.size:=by simp
 have p:=h.put b0 (aD _) u;have l: ∀k o,Pr k=some o->(Pr.put w.heap.size (.cells (iF x) 100)) k=some o:=aK.put_less (λk o hk=>h.frLt k o hk) (aD _);have A:=hid (h.keep b0);unfold iF at b0 u A p O l;obtain⟨X,aa⟩:=exQ<|w.heap.size;obtain⟨W1,ah⟩:=exQ<|w.alloc (.cells #[.int .i64 (x.kind:Int), .int .i64 x.ind, .int .i64 (x.fr:Int), .int .i64 (x.til:Int), .int .i64 x.kf, .int .i64 x.kt, .int .i64 x.rf, .int .i64 x.rt, .slice none 0 0] 100);rw[ah] at b0 u A p O;rw[aa] at u p O l;have HP:=hid p;have HX:=hid u;have Q:=hid l;clear h b0 p l u;by_cases h0:lv=0
 ·rw[if_pos h0] at m;have af:=hl.out;have d1:decide ((32:Int)<lev)=true:=aN (by omega);have CF:=hid (λw' G=>qR (Pr:=Pr) (w0:=w0) (P:=P) (txt:=txt) (sp:=sp) (st:=st) (a0:=0) (e0:=0) a 5 w' G);have HR:=hid m;clear af h0 m;go_enter Tryz.func112,Tryz.ntmps112;go_wp2_with fail;refine(CF.out _ A.out).mono ?_;rintro e w2 ⟨rfl,G⟩;have HF:=hid G;clear G;go_wp2_with fail;go_ret2;rw[<-HR.out];exact⟨rfl,HF.out.bad⟩
 rw[if_neg h0] at m;have d1:decide ((32:Int)<lev)=false:=aJ (by have:=hl.out;omega);obtain⟨z,sv,lvv,nv,N,hK⟩:=HP.out;obtain⟨⟨c0,c1,c2,c3,c4,c5,c6⟩,f2,f3,f4,f5,f6⟩:=hK.cells;have hPl:=hK.lt;have W:z.length=st.nodes.length:=by rw[<-N,cA]
 by_cases h4:4096<=st.total
 ·rw[if_pos h4] at m;have d2:decide ((4096:Int)<=(st.total:Int))=true:=aN (by omega);have CF:=hid (λw' G=>qR (Pr:=Pr) (w0:=w0) (P:=P) (txt:=txt) (sp:=sp) (st:=st) (a0:=0) (e0:=0) a 6 w' G);have HR:=hid m;clear h0 m h4 hK N W;go_enter Tryz.func112,Tryz.ntmps112;go_wp2_with fail;refine(CF.out _ (by first | exact A.out | exact A.out.keep (aB _ _).drew)).mono ?_;rintro e w2 ⟨rfl,G⟩;have HF:=hid G;clear G;go_wp2_with fail;go_ret2;rw[<-HR.out];exact⟨rfl,HF.out.bad⟩
 rw[if_neg h4] at m;have d2:decide ((4096:Int)<=(st.total:Int))=false:=aJ (by omega);have ht1:IntKind.i64.wrap ((st.total:Int)+1)=(st.total:Int)+1:=IntWalk.i64_in _ (by omega);have HR:=hid m;have U:=hK.count (st.total+1);rw[show ((st.total+1:Nat):Int)=(st.total:Int)+1 by omega] at U;obtain⟨n,hn⟩:=exQ<|z.length;have hn4:n<=4096:=by omega
 have r:=hid (aT N (aT W hn));have ag:=hid U;clear h0 m h4 hK N W U hn hN;go_enter Tryz.func112,Tryz.ntmps112;go_upto_region 6 with fail;clear ah aa;obtain⟨W2,I⟩:=exQ<|(W1.setCell ⟨P,4,none⟩ (.int .i64 ((st.total:Int)+1))).drew;have t:=ag.out.keep (aB _ _).drew;rw[I] at t;obtain⟨pn,cn,ab⟩:=t.ndSlice;rw[r.out.2.2] at ab;subst ab;have Z:=hid t;have H:=t.nod.row;rw[r.out.2.2] at H;have L:=hid H;have ar:=hid t.bel.size;obtain⟨SB,J⟩: ∃S:World->Prop,(λw'=>(w'.cell? ⟨P,3,none⟩=some (.slice pn n cn)/\w'.frozen? ⟨P,3,none⟩=false)/\w'.cell? ⟨X,0,none⟩=some (.int .i64 (x.kind:Int))/\w'.cell? ⟨X,1,none⟩=some (.int .i64 x.ind)/\w'.cell? ⟨X,2,none⟩=some (.int .i64 (x.fr:Int))/\w'.cell? ⟨X,3,none⟩=some (.int .i64 (x.til:Int))/\w'.cell? ⟨X,4,none⟩=some (.int .i64 x.kf)/\w'.cell? ⟨X,5,none⟩=some (.int .i64 x.kt)/\w'.cell? ⟨X,6,none⟩=some (.int .i64 x.rf)/\w'.cell? ⟨X,7,none⟩=some (.int .i64 x.rt)/\w'.cell? ⟨X,8,none⟩=some (.slice none 0 0))=S:=⟨_,rfl⟩;have K:Hid (∀q c w',q<3->cS 100 w0.heap.size (.slice pn n cn) n (jH z) (iF x) P 3 W2 q c w'->SB w'):=hid (λq c w' hq hp=>by rw[<-J];have hs:=Z.out.seenA L.out (by decide) (λj o G=>(Z.out.fr j o G).2.2.2.1) hq hp;obtain⟨c2,f2⟩:=hs.c3;have hl:=hs.fr X _ (aK.put_eq _ _ _);exact⟨⟨c2,f2⟩,qU hl⟩);clear t H ag HP c0 c1 c2 c3 c4 c5 c6 f2 f3 f4 f5 f6;have ai:Tryz.prog.follows .mixedOrders=true:=by kernel_rfl
 refine nL ai [some 32,some 33,some 34,some 35,some 36,some 37,some 38,some 39,some 40,some 41,none] [32,33,34,35,36,37,38,39,40,41] [6,7,10] 1000000 (λ_ _=>True) 48 rfl (by kernel_rfl) (by kernel_rfl) (by kernel_rfl) (λiz=>match iz with | 0=> .pointer (some ⟨P,0,none⟩) | 1=> .pointer (some ⟨P,0,none⟩) | 2=> .pointer (some ⟨P,0,none⟩) | 3=> .pointer (some ⟨P,3,none⟩) | 4=> .slice pn n cn | 5=> .agg #[.int .i64 (x.kind:Int), .int .i64 x.ind, .int .i64 (x.fr:Int), .int .i64 (x.til:Int), .int .i64 x.kf, .int .i64 x.kt, .int .i64 x.rf, .int .i64 x.rt, .slice none 0 0] | 8=> .pointer (some ⟨P,0,none⟩) | 9=> .pointer (some ⟨P,3,none⟩) | _=>undef) SB (cS 100 w0.heap.size (.slice pn n cn) n (jH z) (iF x) P 3 W2) (by rw[I];exact K.out 0 undef _ (by decide) (aB _ _)) (by rw[I];exact aB _ _) ?_ ?_
 ·intro d a w' iq o' ho M b V s R' m;have am:iq<11:=(dW.1 ho).1;have q0:a.tmps[0]?.getD undef= .pointer (some ⟨P,0,none⟩):=bD V 0 (by decide);have q5:a.tmps[5]?.getD undef= .pointer (some ⟨X,0,none⟩):=bD V 5 (by decide);have hc:=s.all [(0,32),(1,33),(2,34),(3,35),(4,36),(5,37),(8,40),(9,41)] (by decide);dsimp only[fU] at hc;clear V;have ha:=b;have D:=ho;have an:iq=6\/iq=7\/iq=10\/iq=0\/iq=1\/iq=2\/iq=3\/iq=8\/iq=9\/iq=4\/iq=5:=by omega
  clear am;rcases an with rfl|rfl|rfl|rfl|rfl|rfl|rfl|rfl|rfl|rfl|rfl<;>simp only[fN,dG,bM,cP] at ho<;>subst ho<;>(try simp[Region.binds] at b)
  ·have c37:=s.g 5 37 rfl (by decide) (by decide) (by decide) (by simp[b]);have y:=s.at2 (j:=0) rfl M (.inl rfl);have hA:Below W2.heap.size W2 w':=y;go_simp;exact m _ _ (s.eff2 (by kernel_rfl) (by decide) 0 D ha rfl M (.inl rfl) rfl (by decide) (λ_ _ _=>trivial) (λ_=>K.out 1 _ _ (by decide) ⟨w',hA,rfl,rfl⟩) ⟨w',hA,rfl,rfl⟩)
  ·have c36:=s.g 4 36 rfl (by decide) (by decide) (by decide) (by simp[b]);have F:d 6=true:=(by simp[b]);have y:=s.at2 (j:=1) rfl M (.inr ⟨6,rfl,F⟩);have ca':a.tmps.getD 36 undef= .slice pn n cn:=by rw[aU];exact c36
   exact cS.app rfl (.tmp 36) (.tmp 38) 43 rfl Tryz.underlying43 ao al aq ap rfl (by decide) rfl (Rf x) L.out (by omega) (by decide) ar.out y ca' rfl (λv' w2 hp=>m _ _ (s.eff2 (by kernel_rfl) (by decide) 1 D ha rfl M (.inr ⟨6,rfl,F⟩) rfl (by decide) (λ_ _ _=>trivial) (λ_=>K.out 2 _ _ (by decide) hp) hp))
  ·have c41:=s.g 9 41 rfl (by decide) (by decide) (by decide) (by simp[b]);have F:d 7=true:=(by simp[b]);have y:=s.at2 (j:=2) rfl M (.inr ⟨7,rfl,F⟩);have E:=s.st M;rw[<-J] at E;obtain⟨⟨p3,p3f⟩,b0,b1,b2,b3,b4,b5,b6,b7,b8⟩:=E;have Y:cS 100 w0.heap.size (.slice pn n cn) n (jH z) (iF x) P 3 W2 2 (a.tmps.getD 39 undef) w':=y;obtain⟨gz,cz,N⟩:=Y.form;rw[N] at Y;have c39:a.tmps[39]?.getD undef= .slice (some ⟨gz,0,none⟩) (n+1) cz:=by rw[<-aU];exact N
   go_simp;exact m undef _ (s.eff2 (by kernel_rfl) (by decide) 2 D ha rfl M (.inr ⟨7,rfl,F⟩) rfl (by decide) (λ_ _ _=>trivial) (λh=>absurd rfl h) ⟨_,_,Y,rfl⟩)
  iterate 6 (go_simp;exact m _ _ (s.pure (by kernel_rfl) D ha rfl (by decide) (by decide) (by decide) rfl))
  all_goals
   have E:=s.early (f:=11) (by kernel_rfl) M;rw[<-J] at E;obtain⟨⟨p3,p3f⟩,b0,b1,b2,b3,b4,b5,b6,b7,b8⟩:=E;go_simp;exact m _ _ (s.pure (by kernel_rfl) D ha rfl (by decide) (by decide) (by decide) rfl)
 intro v wy ak ae;obtain⟨cz,ad⟩: ∃c,cS 100 w0.heap.size (.slice pn n cn) z.length (jH z) (iF x) P 3 W2 3 c wy:=⟨_,by rw[r.out.2.2];exact ae⟩;obtain⟨g,cap,aj⟩:=Z.out.nodeA hx ad;have C:=aj.less Q.out;rw[r.out.2.2] at C;obtain⟨⟨_,_,_,c3,_⟩,_⟩:=C.cells;have hPl2:=C.lt;have HF:=hid C;clear ae aj C ad ak K J I;simp only[cV,fO,eP,fP];go_wp2_with fail;go_ret2;rw[<-HR.out];refine⟨by rw[<-r.out.2.1,r.out.2.2];first | rfl | (congr 3;omega),_,_,_,_,?_,HF.out⟩;rw[qE,r.out.1];rfl
theorem Ri {Pr:aK}{w0:World}{P:Nat}{txt:aA}{sp:List (Nat×Nat)}{st:YS} (x:aM) (lv:Nat) (lev a:Int) (w:World) (h:YJ YP Pr w0 P txt sp st 0 0 w) (hx:x.kids= []) (hl:Hid (lev=33-(lv:Int))) (hlv:lv<=32) (hN:st.nodes.length<=4096):
  Calls Tryz.prog 112 #[.pointer (some ⟨P,0,none⟩),Gy x, .int .i64 lev, .int .i64 a] w (iW YP Pr w0 P txt sp (jE x lv a st)):=by
 refine(Rh x lv lev a w h hx hl hlv hN).mono (λe w' c=>?_);cases hA:jE x lv a st with
 | ok n s1=>rw[hA] at c;exact c
 | bad b er=>rw[hA] at c;exact⟨⟨_,c.1⟩,c.2⟩
end
end Go.Proofs.YtjnooaljcgkfpaaGreatDoor
