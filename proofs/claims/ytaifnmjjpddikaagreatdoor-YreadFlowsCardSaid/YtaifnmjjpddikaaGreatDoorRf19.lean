import Derived.Test.YtaifnmjjpddikaaGreatDoorRf18
import Derived.Test.YtaifnmjjpddikaaGreatDoorRf16
import Derived.Deep.AppendLies
import Derived.Deep.DeepCutAuto
set_option maxRecDepth 100000
set_option maxHeartbeats 4000000
namespace Go.Proofs.YtaifnmjjpddikaaGreatDoor
set_option linter.unusedVariables false
set_option linter.unusedSimpArgs false
section
open Go.RowKit
structure GF (sl:List Nat) (val:Nat->Value) (S:World->Prop) (d:Nat->Bool) (v:Nat->Value) (w':World):Prop where
 cl: ∀i k,sl[i]?=some k->d i=true->v k=val i
 st:S w'
theorem Xg {l:List Nat} (h:l.Nodup) {i j a:Nat} (hi:l[i]?=some a) (hj:l[j]?=some a):i=j:=by
 obtain⟨h1,h2⟩:=aQ.1 hi;obtain⟨h3,h4⟩:=aQ.1 hj;have hp:=List.pairwise_iff_getElem.1 h;rcases Nat.lt_trichotomy i j with hlt | heq | hgt
 ·exact absurd (h2.trans h4.symm) (hp i j h1 h3 hlt)
 ·exact heq
 ·exact absurd (h4.trans h2.symm) (hp j i h3 h1 hgt)
theorem GF.step {sl:List Nat}{val:Nat->Value}{S:World->Prop}{d:Nat->Bool}{v:Nat->Value}{w' w2:World} (h:GF sl val S d v w') (hnd:sl.Nodup) {i k:Nat} (hk:sl[i]?=some k) {x:Value} (hx:x=val i) (hS:S w2):GF sl val S (bI d i) (bZ v (some k) x) w2:=by
 refine⟨λj q hj hd=>?_,hS⟩;by_cases hji:j=i
 ·subst hji;rw[hk] at hj;obtain rfl:=bD hj;show (if k=k then x else v k)=val j;rw[if_pos rfl];exact hx
 ·have hqk:q≠k:=λe=>hji (Xg hnd hj (by rw[e];exact hk));show (if q=k then x else v q)=val j;rw[if_neg hqk];refine h.cl j q hj ?_;unfold bI at hd;rw[if_neg hji] at hd;exact hd
theorem kS {o:Oper}{y:Nat->Option Bool} (h:o.guard=none):Region.wanted o y=true:=by simp[Region.wanted,h]
def Cz (o:Option Value):Option Bool:=match o with | some (.bool b)=>some b | _=>none
theorem Xh {o:Option Value}{v:Value}{b:Bool} (h:o.getD undef=v) (hv:v≠ .bool b): ¬Cz o=some b:=by
 intro e;cases o with
 | none=>cases e
 | some u=>
  have hu:u=v:=h;subst hu;cases u<;>simp[Cz] at e;subst e;exact hv rfl
theorem Xi {o:Option Value}{b:Bool} (h:o.getD undef= .bool b):Cz o=some b:=by
 cases o with
 | none=>cases h
 | some u=>
  have hu:u= .bool b:=h;subst hu;rfl
theorem Xj {ops:Array Oper}{o og:Oper}{tmps:Array Value}{g k:Nat}{b:Bool}{v:Value} (hg:o.guard=some (g,b)) (ho:ops[g]?=some og) (hk:og.dst=some k) (hc:tmps[k]?.getD undef=v) (hv:v≠ .bool b): ¬Region.wanted o (yielded ops tmps)=true:=by
 simp only[Region.wanted,yielded,hg,ho,hk,Option.bind,beq_iff_eq];exact Xh hc hv
theorem qI {ops:Array Oper}{o og:Oper}{tmps:Array Value}{g k:Nat}{b:Bool} (hg:o.guard=some (g,b)) (ho:ops[g]?=some og) (hk:og.dst=some k) (hc:tmps[k]?.getD undef= .bool b):Region.wanted o (yielded ops tmps)=true:=by
 simp only[Region.wanted,yielded,hg,ho,hk,Option.bind,beq_iff_eq];exact Xi hc
theorem GF.g {sl:List Nat}{val:Nat->Value}{S:World->Prop}{d:Nat->Bool}{a:Array Value}{w':World} (h:GF sl val S d (λk=>a.getD k undef) w') (i k:Nat) (hk:sl[i]?=some k) (hd:d i=true):a[k]?.getD undef=val i:=by rw[<-aO];exact h.cl i k hk hd
theorem sW {c:Prop} [Decidable c] {A B:Prop} (h: ¬c) (hb:B):if c then A else B:=by rw[if_neg h];exact hb
theorem eV {c:Prop} [Decidable c] {A B:Prop} (h:c) (ha:A):if c then A else B:=by rw[if_pos h];exact ha
def Da (v:Value) (b:Bool):Bool:=match v with
 | .bool c=>c !=b
 | _=>true
theorem Xk {v:Value}{b:Bool} (h:Da v b=true):v≠ .bool b:=by
 intro e;subst e;simp[Da] at h
theorem GF.on {sl:List Nat}{val:Nat->Value}{S:World->Prop}{d:Nat->Bool}{a:Array Value}{w':World} (h:GF sl val S d (λk=>a.getD k undef) w') {ops:Array Oper}{o og:Oper}{g k:Nat}{b:Bool} (hg:o.guard=some (g,b)) (ho:ops[g]?=some og) (hk:og.dst=some k) (hs:sl[g]?=some k) (hd:d g=true) (hv:val g= .bool b):Region.wanted o (yielded ops a)=true:=qI hg ho hk ((h.g g k hs hd).trans hv)
theorem GF.off {sl:List Nat}{val:Nat->Value}{S:World->Prop}{d:Nat->Bool}{a:Array Value}{w':World} (h:GF sl val S d (λk=>a.getD k undef) w') {ops:Array Oper}{o og:Oper}{g k:Nat}{b:Bool} (hg:o.guard=some (g,b)) (ho:ops[g]?=some og) (hk:og.dst=some k) (hs:sl[g]?=some k) (hd:d g=true) (hv:Da (val g) b=true): ¬Region.wanted o (yielded ops a)=true:=Xj hg ho hk (h.g g k hs hd) (Xk hv)
def eW (val:Nat->Value) (d:Nat->Bool) (a:Array Value):List (Nat×Nat)->Prop
 | []=>True
 | p::r=>(d p.1=true->a[p.2]?.getD undef=val p.1)/\eW val d a r
theorem GF.all {sl:List Nat}{val:Nat->Value}{S:World->Prop}{d:Nat->Bool}{a:Array Value}{w':World} (h:GF sl val S d (λk=>a.getD k undef) w'): ∀L:List (Nat×Nat),(L.all λp=>sl[p.1]?==some p.2)=true->eW val d a L
 | [],_=>trivial
 | p::r,hL=>by
  rw[List.all_cons,fB] at hL;exact⟨λhd=>h.g p.1 p.2 (eq_of_beq hL.1) hd,h.all r hL.2⟩
theorem eA.all {ops:Array Oper}{sl:List (Option Nat)}{eff:List Nat}{fr:Nat}{Fb:Value->World->Prop}{val:Nat->Value}{S:World->Prop}{Ph:Nat->Value->World->Prop}{d:Nat->Bool}{a:Array Value}{w':World} (h:eA ops sl eff fr Fb val S Ph d (λk=>a.getD k undef) w'): ∀L:List (Nat×Nat),(L.all λp=>gG sl p.1==some p.2&&decide (p.1<sl.length)&&decide (p.1 ∉ eff)&&decide (p.1≠fr))=true->eW val d a L
 | [],_=>trivial
 | p::r,hL=>by
  rw[List.all_cons,fB] at hL;simp only[fB,kY] at hL;exact⟨λhd=>h.g p.1 p.2 (eq_of_beq hL.1.1.1.1) hL.1.1.1.2 hL.1.1.2 hL.1.2 hd,h.all r hL.2⟩
def lH (val v:Nat->Value):List Nat->Nat->Prop
 | [],_=>True
 | k::r,i=>v k=val i/\lH val v r (i+1)
theorem Kx {val v:Nat->Value}{n:Nat}{sl:List Nat} (h: ∀i k,sl[i]?=some k->i<n->v k=val i) (hn:sl.length<=n): ∀(l:List Nat) (i:Nat),sl.drop i=l->lH val v l i
 | [],_,_=>trivial
 | k::r,i,e=>by
  have hk:sl[i]?=some k:=by
   have:=congrArg List.head? e;rw[List.head?_drop] at this;exact this
  have hi:=(aQ.1 hk).1;refine⟨h i k hk (by omega),Kx h hn r (i+1) ?_⟩;rw[<-kB,e];rfl
theorem nF {val v:Nat->Value}{n:Nat}{l:List Nat} (h: ∀i k,l[i]?=some k->i<n->v k=val i) (hn:l.length<=n):lH val v l 0:=Kx h hn l 0 rfl
theorem aY {a a0:Array Value}{sl:List Nat} (h: ∀k,k ∉ sl->a.getD k undef=a0.getD k undef) (k:Nat) (hk:k ∉ sl):a[k]?.getD undef=a0.getD k undef:=by rw[<-aO];exact h k hk
theorem nG {P:Program}{ops:Array Oper}{Q:Exit->Act->World->Prop}{id:Nat}{a0:Act}{w0:World} (hm:P.follows .mixedOrders=true) (sl:List Nat) (n:Nat) (hn:a0.tmps.size=n) (hback:yQ ops=true) (hdst:nV ops sl n=true)
  (val:Nat->Value) (S:World->Prop) (h0:S w0.drew)
  (hs: ∀(d:Nat->Bool) (a:Act) (w:World) (i:Nat) (o:Oper),ops[i]?=some o->d i=false->(∀e∈o.after,Region.binds .any e=true->d e.on=true)->(∀k,k ∉ sl->a.tmps.getD k undef=a0.tmps.getD k undef)->GF sl val S d (λk=>a.tmps.getD k undef) w->
   ∀R:Act->World->Prop,(∀x w',GF sl val S (bI d i) (bZ (λk=>a.tmps.getD k undef) o.dst x) w'->R (a.put o.dst x) w')->if Region.wanted o (yielded ops a.tmps)=true then o.wp P a w R Q else R (a.put o.dst undef) w)
  (hd: ∀(v:Nat->Value) (w:World),(∀i k,sl[i]?=some k->i<ops.size->v k=val i)->S w->Q .normal { a0 with tmps:=cE a0.tmps v sl } w):(Code.region id ops true).wp P Q a0 w0:=
 Xd hm sl n hn hback hdst (λd v w'=>GF sl val S d v w') ⟨λ_ _ _ h=>Bool.noConfusion h,h0⟩ hs (λv w h=>hd v w (λi k h1 h2=>h.cl i k h1 (aN h2)) h.st)
theorem eA.quiet {ops:Array Oper}{sl:List (Option Nat)}{eff:List Nat}{fr:Nat}{Fb:Value->World->Prop}{val:Nat->Value}{S:World->Prop}{Ph:Nat->Value->World->Prop}{d:Nat->Bool}{v:Nat->Value}{w' w2:World}
  (h:eA ops sl eff fr Fb val S Ph d v w') (hnd:sV sl=true) {i k:Nat}{o:Oper} (ho:ops[i]?=some o) (hall: ∀e∈o.after,Region.binds .any e=true->d e.on=true) (hk:gG sl i=some k) (hne:i ∉ eff) (hfr:i≠fr) (hel:eff≠ []) {x:Value} (hx:x=val i) (hdl:d (eff.getLastD 0)=false)
  (hS:S w'->S w2) (hP: ∀k c,k<eff.length->Ph k c w'->Ph k c w2) (hF: ∀x,Fb x w'->Fb x w2):eA ops sl eff fr Fb val S Ph (bI d i) (bZ v (some k) x) w2:=by
 have hsame: ∀e∈eff,fF sl (bZ v (some k) x) e=fF sl v e:=λe he=>nE hnd hk x (λe2=>hne (e2 ▸ he));have hd: ∀e∈eff,bI d i e=d e:=λe he=>bM (λe2=>hne (e2 ▸ he));have hlast:bI d i (eff.getLastD 0)=d (eff.getLastD 0):=hd _ (Cy hel);refine⟨λj hj hje hjf hdj=>?_,h.clo.step ho hall,λhl=>hS (h.st hdl),λhl hf=>?_,?_⟩
 ·by_cases hji:j=i
  ·subst hji;rw[yR hk];exact hx
  ·rw[nE hnd hk x hji];rw[bM hji] at hdj;exact h.cl j hj hje hjf hdj
 ·rw[nE hnd hk x (Ne.symm hfr)];rw[bM (Ne.symm hfr)] at hf;exact hF _ (h.fb hdl hf)
 ·obtain⟨q,hq,h2,h3⟩:=h.ph;have hql:q<eff.length:=by
   refine Nat.lt_of_le_of_ne hq (λe=>?_);have hpos:0<eff.length:=tJ.2 hel;have hg:eff[eff.length-1]?=some (eff.getLastD 0):=by
    rw[List.getLastD_eq_getLast?,List.getLast?_eq_getElem?,bJ (by omega)];rfl
   have:=(h2 (eff.length-1) _ hg).2 (by omega);rw[hdl] at this;cases this
  refine⟨q,hq,λj e he=>?_,?_⟩
  ·rw[hd e (aX he)];exact h2 j e he
  ·rw[Kv hsame (nE hnd hk x (Ne.symm hfr))];exact hP _ _ hql h3
end
section
open Go.RowKit
open Go.Lib hiding intOf
def cQ (e:TypeId) (B:Nat) (v:Value) (n:Nat) (xs:List Value) (el:Array Value) (X i:Nat) (W0:World):Nat->Value->World->Prop
 | 0,_,w'=>Below W0.heap.size W0 w'
 | 1,c,w'=> ∃w1,Below W0.heap.size W0 w1/\c= .slice (some ⟨w1.heap.size,0,none⟩) 1 1/\w'=w1.alloc (.cells el e)
 | 2,c,w'=> ∃w1,Below W0.heap.size W0 w1/\w'.ownsRow B e el.size c (n+1) (xs++el.toList)/\w1.grownBy w' v.ownBlock/\(c.ownBlock=v.ownBlock\/c.ownBlock=some (w1.heap.size+1))/\ ∃g cap,c= .slice (some ⟨g,0,none⟩) (n+1) cap
 | _,_,w'=> ∃c w2,(∃w1,Below W0.heap.size W0 w1/\w2.ownsRow B e el.size c (n+1) (xs++el.toList)/\w1.grownBy w2 v.ownBlock/\(c.ownBlock=v.ownBlock\/c.ownBlock=some (w1.heap.size+1))/\ ∃g cap,c= .slice (some ⟨g,0,none⟩) (n+1) cap)/\w'=w2.setCell ⟨X,i,none⟩ c
section
variable {e:TypeId}{B:Nat}{v:Value}{n:Nat}{xs:List Value}{el:Array Value}{X i:Nat}{W0 w':World}
theorem cQ.form {c:Value} (h:cQ e B v n xs el X i W0 2 c w'): ∃g cap,c= .slice (some ⟨g,0,none⟩) (n+1) cap:=by
 obtain⟨_,_,_,_,_,h⟩:=h;exact h
theorem cQ.app {P:Program}{o:Oper}{a:Act}{K:Act->World->Prop}{Q:Exit->Act->World->Prop} (hgd:o.guard=none) (s x:Operand) (t:TypeId)
  (ho:o.op= .call { callee:= .builtin .append,args:= #[s,x],argTypes:= #[t,t] }) {i0:TypeInfo}{zv:Value}{bytes:Nat} (hu:P.underlying t=some (.slice e)) (hi:P.info? e=some i0) (hz:i0.zero=some zv) {size:Nat}
  (hsize:i0.size=size) (hby:i0.bytes=bytes) (hzs:zv.cells.size=size) (hsz:0<size) (hel:el.size=size) (h1: ∀u∈el.toList,u.oneCell'=true)
  (hown:W0.ownsRow B e size v n xs) (hn:n+1<=4294967296) (hbt:bytes<=256) (hB:B<=W0.heap.size) {c:Value} (h:cQ e B v n xs el X i W0 1 c w') (hs:a.eval s=v) (hx:a.eval x=c)
  (hK: ∀v' w2,cQ e B v n xs el X i W0 2 v' w2->K (a.put o.dst v') w2):o.wp P a w' K Q:=by
 obtain⟨w1,hb1,rfl,rfl⟩:=h;have hmul:(n+1)*bytes<=4294967296*256:=Nat.mul_le_mul hn hbt;refine wp_append_lies _ s x t ho B e i0 _ size bytes hu hi hz hsize hby hzs hsz v n xs hs ((jQ hown hb1).alloc _) ⟨w1.heap.size,0,none⟩ 1 1 el.toList hx (by simp[hel]) (vL w1 el _) h1 (by decide) (by unfold maxLen;omega) (by omega) (by have:=hb1.size;simp;omega) _ rfl ?_;intro g cap w2 h5 h6 h7 _;refine hK _ _ ⟨w1,hb1,by rw[hel];exact h5,vM h6,?_,g,cap,rfl⟩;rcases h7 with h7 | h7
 ·exact .inl h7.symm
 ·exact .inr (by rw[h7];simp[Value.ownBlock])
end
def uK (W0:World) (t:TypeId) (cs:Array Value):Nat->Value->World->Prop
 | 0,_,w'=>Below W0.heap.size W0 w'
 | _,c,w'=> ∃Y,c= .pointer (some ⟨Y,0,none⟩)/\W0.heap.size<=Y/\w'.heap[Y]?=some (.cells cs t (0,0))/\Below W0.heap.size W0 w'
theorem uK.keep {W0 w' w2:World}{t:TypeId}{cs:Array Value}{k:Nat}{c:Value} (h:uK W0 t cs k c w') (hb:Below w'.heap.size w' w2):uK W0 t cs k c w2:=by
 cases k with
 | zero=>exact aC (show Below W0.heap.size W0 w' from h) hb
 | succ k=>
  obtain⟨Y,h1,h2,h3,h4⟩:=h;exact⟨Y,h1,h2,(hb.block Y (aF h3)).trans h3,aC h4 hb⟩
def nH (W0:World) (t:TypeId) (z:Array Value) (x:Value) (w':World):Prop:= ∃Y,x= .pointer (some ⟨Y,0,none⟩)/\W0.heap.size<=Y/\w'.heap[Y]?=some (.cells z t (0,0))
theorem nH.new {W0 w':World}{t:TypeId}{z:Array Value} (h:W0.heap.size<=w'.heap.size):nH W0 t z (.pointer (some ⟨w'.heap.size,0,none⟩)) (w'.alloc (.cells z t)):=⟨_,rfl,h,heap_alloc_new w' _⟩
theorem nH.keep {W0 w' w2:World}{t:TypeId}{z:Array Value}{x:Value} (h:nH W0 t z x w') (hb:Below w'.heap.size w' w2):nH W0 t z x w2:=by
 obtain⟨Y,h1,h2,h3⟩:=h;exact⟨Y,h1,h2,(hb.block Y (aF h3)).trans h3⟩
def lineA (r:aP):Array Value:= #[.int .i64 r.kind, .int .i64 r.sf, .int .i64 r.st, .int .i64 r.ind, .int .i64 r.kf, .int .i64 r.kt, .int .i64 r.rf, .int .i64 r.rt, .int .i64 r.nf, .int .i64 r.nt]
theorem Ky (r:aP): ∀u∈(lineA r).toList,u.oneCell'=true:=by
 intro u hu;simp only[lineA,dN,List.not_mem_nil,or_false] at hu;rcases hu with rfl|rfl|rfl|rfl|rfl|rfl|rfl|rfl|rfl|rfl<;>rfl
theorem Xl {W0 w':World}{Y:Nat} (h:Below W0.heap.size W0 w') (hY:W0.heap.size<=Y) (r:aP):Below W0.heap.size W0 (dQ w' Y r):=by
 unfold dQ
 (repeat (refine Below.setCell ?_ (by first | exact hY) _))
 exact h
structure sX (T:TypeId) (Pr:aK) (P:Nat) (txt:aA) (sv lv nv:Value) (tot:Nat) (a er:Int) (w':World):Prop where
 box:w'.heap[P]?=some (.cells #[.string (bs txt),sv,lv,nv, .int .i64 (tot:Int), .int .i64 a, .int .i64 er] T (0,0))
 fr: ∀k o,Pr k=some o->w'.heap[k]?=some o
section
variable {T:TypeId}{Pr:aK}{w0 w w' W0:World}{P:Nat}{txt:aA}{sp:List (Nat×Nat)}{lines:List aP}{z:List YN}{tot:Nat}{a er:Int}{sv lv nv:Value}
theorem sX.c2 (h:sX T Pr P txt sv lv nv tot a er w):w.cell? ⟨P,2,none⟩=some lv/\w.frozen? ⟨P,2,none⟩=false:=by
 have hb:=h.box;refine⟨?_,?_⟩<;>simp[World.cell?,World.frozen?,hb]
theorem sX.c3 (h:sX T Pr P txt sv lv nv tot a er w):w.cell? ⟨P,3,none⟩=some nv/\w.frozen? ⟨P,3,none⟩=false:=by
 have hb:=h.box;refine⟨?_,?_⟩<;>simp[World.cell?,World.frozen?,hb]
theorem YK.seen (h:YK T Pr w0 P txt sp lines z tot a er sv lv nv w):sX T Pr P txt sv lv nv tot a er w:=⟨h.box,λk o hk=>(h.fr k o hk).1⟩
theorem YK.seenA (h:YK T Pr w0 P txt sp lines z tot a er sv lv nv W0) {B2 s n:Nat}{e:TypeId}{v:Value}{xs:List Value}{el:Array Value}{X i:Nat} (hr:W0.ownsRow B2 e s v n xs) (he:e≠T) (hv: ∀k o,Pr k=some o->v.ownBlock≠some k) {k:Nat}{c:Value} (hk:k<3) (hp:cQ e B2 v n xs el X i W0 k c w'):sX T Pr P txt sv lv nv tot a er w':=by
 have key: ∀w1,Below W0.heap.size W0 w1-> ∀r,w1.grownBy w' r->(r=none\/r=v.ownBlock)->sX T Pr P txt sv lv nv tot a er w':=λw1 hb r hg hrr=>by
  have h1:=h.keep hb;have hr1:=jQ hr hb;refine⟨qF hg h1.box (λe2=>?_),λk o hk=>qF hg (h1.fr k o hk).1 (λe2=>?_)⟩
  ·rcases hrr with rfl|rfl
   ·cases e2
   ·rcases cY hr1 h1.box he with h3 | h3
    ·rw[h3] at e2;cases e2
    ·exact h3 e2
  ·rcases hrr with rfl|rfl
   ·cases e2
   ·exact hv k o hk e2
 match k,hp with
 | 0,hp=>
  have hp:Below W0.heap.size W0 w':=hp;exact(h.keep hp).seen
 | 1,⟨w1,hb,_,hw⟩=>
  rw[hw];exact((h.keep hb).keep (aH w1 _)).seen
 | 2,⟨w1,hb,_,hg,_⟩=>exact key w1 hb _ hg (.inr rfl)
 | k+3,_=>omega
theorem YK.lineA (h:YK T Pr w0 P txt sp lines z tot a er sv lv nv W0) {r:aP}{c:Value} (hp:cQ 121 w0.heap.size lv lines.length (jA lines) (Go.Proofs.YtaifnmjjpddikaaGreatDoor.lineA r) P 2 W0 3 c w'): ∃lv',YK T Pr w0 P txt sp (lines++ [r]) z tot a er sv lv' nv w':=by
 obtain⟨c,w2,⟨w1,hb,hrow,hg,hat,_⟩,rfl⟩:=hp;exact⟨c,(h.keep hb).line (H:=w1.heap.size+1) (Nat.le_succ _) hrow hg hat⟩
end
theorem cA.mvar {w:World} (h:cA w):lD w:=h.1.2.2
theorem Tryz.infoLine:(Tryz.prog.info? 121).map (λi=>(i.zero,i.size,i.bytes))=some (some (.agg #[.int .i64 0, .int .i64 0, .int .i64 0, .int .i64 0, .int .i64 0, .int .i64 0, .int .i64 0, .int .i64 0, .int .i64 0, .int .i64 0]),10,80):=by kernel_rfl
def jC (T:TypeId) (Pr:aK) (w0:World) (P:Nat) (txt:aA) (sp:List (Nat×Nat)) (ls:List aP) (z:List YN) (nv:Value) (tot:Nat) (a er:Int) (w:World):Prop:= ∃sv lv,YK T Pr w0 P txt sp ls z tot a er sv lv nv w
theorem jC.toJ {T:TypeId}{Pr:aK}{w0:World}{P:Nat}{txt:aA}{sp:List (Nat×Nat)}{ls:List aP}{z:List YN}{nv:Value}{tot:Nat}{a er:Int}{w:World} (h:jC T Pr w0 P txt sp ls z nv tot a er w) {ns:List aM} (hz:z.map (·.1)=ns):YJ T Pr w0 P txt sp ⟨ls,ns,tot⟩ a er w:=by
 obtain⟨sv,lv,h⟩:=h;exact⟨z,sv,lv,nv,hz,h⟩
theorem jC.keep {T:TypeId}{Pr:aK}{w0:World}{P:Nat}{txt:aA}{sp:List (Nat×Nat)}{ls:List aP}{z:List YN}{nv:Value}{tot:Nat}{a er:Int}{w w':World} (h:jC T Pr w0 P txt sp ls z nv tot a er w) (hb:Below w.heap.size w w'):jC T Pr w0 P txt sp ls z nv tot a er w':=by
 obtain⟨sv,lv,h⟩:=h;exact⟨sv,lv,h.keep hb⟩
def Xm (Pr:aK) (w0:World) (P:Nat) (txt:aA) (sp:List (Nat×Nat)) (st:YS) (z:List YN) (nv:Value) (R:aP×Int×Int) (e:Ending) (w':World):Prop:=
 (R.2.2≠0/\e= .returned (.bool false)/\fU YP Pr w0 P txt sp R.2.1 R.2.2 w')\/(R.2.2=0/\e= .returned (.bool true)/\jC YP Pr w0 P txt sp (st.lines++ [R.1]) z nv st.total 0 0 w')
theorem Xn {Pr:aK}{w0:World}{P:Nat}{txt:aA}{sp:List (Nat×Nat)}{st:YS}{z:List YN}{nv:Value} (x:Nat×Nat) (w:World) (h:jC YP Pr w0 P txt sp st.lines z nv st.total 0 0 w) (hz:z.map (·.1)=st.nodes) (hx:sp[st.lines.length]?=some x) (hs:txt.length<=65536) (hn:sp.length<=131072) (hV:cA w0):
  Calls Tryz.prog 67 #[.pointer (some ⟨P,0,none⟩)] w (Xm Pr w0 P txt sp st z nv (eL txt x.1 x.2)):=by
 obtain⟨⟨r,at_,er⟩,hR⟩:=exQ<|eL txt x.1 x.2;rw[hR];obtain⟨i0,hi0,hz0,hz1,hz2⟩:=info_parts Tryz.infoLine;have hk1:=(aQ.1 hx).1;obtain⟨k,hk⟩:=exQ<|st.lines.length;rw[hk] at hk1 hx;obtain⟨W0,hW0⟩:=exQ<|w.drew;have hb0:Below w.heap.size w W0:=by rw[<-hW0];exact(aB _ _).drew
 have h0:=h.keep hb0;have HJ:=hid (h0.toJ hz);obtain⟨sv,lv,hK⟩:=h0;obtain⟨gs,cs,rfl,hcs,_,_⟩:=hK.spanAt hx;obtain⟨pl,cl,rfl⟩:=hK.lnSlice;rw[hk] at hK;have HK:=hid hK;have hVW:cA W0:=hV.keep hK.bel;have CL:Hid (∀w',Below W0.heap.size W0 w'->Calls Tryz.prog 106 #[.string (bs txt), .agg #[.int .i64 (x.1:Int), .int .i64 (x.2:Int)]] w' λe w2=>e=rD (r,at_,er)/\Below w'.heap.size w' w2):=hid (λw' hb=>by have hv:=hVW.keep hb;have:=Wo txt x.1 x.2 w' (by omega) hv.2 hv.tabs hv.mvar;rw[hR] at this;exact this);unfold rD fQ at CL;obtain⟨SA,hSA⟩: ∃S:World->Prop,(λw'=>(w'.cell? ⟨P,0,none⟩=some (.string (bs txt))/\w'.cell? ⟨P,1,none⟩=some (.slice (some ⟨gs,0,none⟩) sp.length cs)/\w'.cell? ⟨P,2,none⟩=some (.slice pl k cl))/\w'.cell? ⟨gs,k*2,none⟩=some (.int .i64 (x.1:Int))/\w'.cell? ⟨gs,k*2+1,none⟩=some (.int .i64 (x.2:Int)))=S:=⟨_,rfl⟩;have HSA:Hid (∀w',Below W0.heap.size W0 w'->SA w'):=hid (λw' hb=>by rw[<-hSA];have hK2:=HK.out.keep hb;obtain⟨⟨c0,c1,c2,_⟩,_⟩:=hK2.cells;obtain⟨g2,c2',e2,_,s0,s1⟩:=hK2.spanAt hx;injection e2 with e2;injection e2 with e2;injection e2 with e2;subst e2;exact⟨⟨c0,c1,c2⟩,s0,s1⟩);have hk0:(0:Int)<=(k:Int):=by omega
 have hki:(k:Int)<(sp.length:Int):=by omega
 have HX:=hid hx;have HKL:=hid hk;have HZ:=hid hz;clear hK h hb0 hVW hz hR hx hk;go_enter Tryz.func67,Tryz.ntmps67;go_upto_region 1 with fail;have hfol:Tryz.prog.follows .mixedOrders=true:=by kernel_rfl
 refine kR hfol [some 7,some 8,some 9,some 10,some 11,some 12,some 13,some 14,some 15,some 16,some 17,some 18,some 19,some 20,some 21,some 22,some 6,some 23,some 24,some 25,some 3,none,some 4,some 5] [7,8,9,10,11,12,13,14,15,16,17,18,19,20,21,22,6,23,24,25,3,4,5] [21] 20 (nH W0 121 (lineA cT)) 42 rfl (by kernel_rfl) (by kernel_rfl) (by kernel_rfl) (λiz=>match iz with | 0=> .pointer (some ⟨P,0,none⟩) | 1=> .pointer (some ⟨P,0,none⟩) | 2=> .pointer (some ⟨P,0,none⟩) | 3=> .string (bs txt) | 4=> .pointer (some ⟨P,0,none⟩) | 5=> .pointer (some ⟨P,0,none⟩) | 6=> .pointer (some ⟨P,1,none⟩) | 7=> .slice (some ⟨gs,0,none⟩) sp.length cs | 8=> .pointer (some ⟨P,0,none⟩) | 9=> .pointer (some ⟨P,0,none⟩) | 10=> .pointer (some ⟨P,2,none⟩) | 11=> .slice pl k cl | 12=> .int .i64 (k:Int) | 13=> .pointer (some ⟨gs,k*2,none⟩) | 14=> .agg #[.int .i64 (x.1:Int), .int .i64 (x.2:Int)] | 15=> .tuple #[.agg #[.int .i64 r.kind, .int .i64 r.sf, .int .i64 r.st, .int .i64 r.ind, .int .i64 r.kf, .int .i64 r.kt, .int .i64 r.rf, .int .i64 r.rt, .int .i64 r.nf, .int .i64 r.nt], .int .i64 at_, .int .i64 er] | 16=> .tuple #[.agg #[.int .i64 r.kind, .int .i64 r.sf, .int .i64 r.st, .int .i64 r.ind, .int .i64 r.kf, .int .i64 r.kt, .int .i64 r.rf, .int .i64 r.rt, .int .i64 r.nf, .int .i64 r.nt], .int .i64 at_, .int .i64 er] | 17=> .agg #[.int .i64 r.kind, .int .i64 r.sf, .int .i64 r.st, .int .i64 r.ind, .int .i64 r.kf, .int .i64 r.kt, .int .i64 r.rf, .int .i64 r.rt, .int .i64 r.nf, .int .i64 r.nt] | 18=> .int .i64 at_ | 19=> .int .i64 er | 22=> .int .i64 at_ | 23=> .int .i64 er | _=>undef) SA (uK W0 121 (lineA r)) (by rw[hW0];exact HSA.out _ (aB _ _)) (by rw[hW0];exact aB _ _) ?_ ?_
 ·intro d a w' iq o' ho hi hall hfr hF R' hR;have hiN:iq<24:=(cM.1 ho).1;have q0:a.tmps[0]?.getD undef= .pointer (some ⟨P,0,none⟩):=aY hfr 0 (by decide);have hc:=hF.all [(16,6),(0,7),(1,8),(2,9),(3,10),(4,11),(5,12),(6,13),(7,14),(8,15),(9,16),(10,17),(11,18),(12,19),(13,20),(14,21),(15,22),(17,23),(18,24),(19,25)] (by decide);dsimp only[eW] at hc;clear hfr;have ha:=hall;have hoo:=ho;have hcs:iq=15\/iq=20\/iq=21\/iq=0\/iq=1\/iq=2\/iq=4\/iq=5\/iq=6\/iq=8\/iq=9\/iq=10\/iq=12\/iq=16\/iq=17\/iq=18\/iq=19\/iq=22\/iq=23\/iq=3\/iq=7\/iq=11\/iq=13\/iq=14:=by omega
  clear hiN;rcases hcs with rfl|rfl|rfl|rfl|rfl|rfl|rfl|rfl|rfl|rfl|rfl|rfl|rfl|rfl|rfl|rfl|rfl|rfl|rfl|rfl|rfl|rfl|rfl|rfl<;>simp only[dW,dA,cD,cS] at ho<;>subst ho<;>(try simp[Region.binds] at hall)
  ·have c10:=hF.g 3 10 rfl (by decide) (by decide) (by decide) (by simp[hall]);have c21:=hF.g 14 21 rfl (by decide) (by decide) (by decide) (by simp[hall]);have hA:Below W0.heap.size W0 w':=hF.at2 (j:=0) rfl (hF.lastNot (f:=24) (i:=15) (by kernel_rfl) hi) (.inl rfl);go_simp;go_at_call 106;refine(CL.out _ hA).mono ?_;rintro e w5 ⟨rfl,hb5⟩;exact hR _ _ (hF.quiet (by kernel_rfl) hoo ha rfl (by decide) (by decide) (by decide) rfl (hF.lastNot (f:=24) (i:=15) (by kernel_rfl) hi) (λ_=>HSA.out _ (aC hA hb5)) (λk c _ hp=>hp.keep hb5) (λx hx=>hx.keep hb5))
  ·have hA:Below W0.heap.size W0 w':=hF.at2 (j:=0) rfl (hF.lastNot (f:=24) (i:=20) (by kernel_rfl) hi) (.inl rfl);have hA2:=aH w' (.cells (lineA cT) 121);go_simp;exact hR _ _ (hF.free (by kernel_rfl) hoo ha rfl (by decide) rfl (by decide) (by kernel_rfl) (by decide) (hF.lastNot (f:=24) (i:=20) (by kernel_rfl) hi) (λ_=>HSA.out _ (aC hA hA2)) (λk c hp=>hp.keep hA2) (nH.new hA.size))
  ·have c23:=hF.g 17 23 rfl (by decide) (by decide) (by decide) (by simp[hall]);have hP0:=hF.at2 (j:=0) rfl hi (.inl rfl);obtain⟨Y,hY,hYW,hYb⟩:=hF.fb hi (by simp[hall]);have hY:a.tmps.getD 3 undef= .pointer (some ⟨Y,0,none⟩):=hY;have c3:a.tmps[3]?.getD undef= .pointer (some ⟨Y,0,none⟩):=by rw[<-aO];exact hY
   have hL:cB w' Y cT:=hYb;obtain⟨b0,b1,b2,b3,b4,b5,b6,b7,b8,b9,h0,h1,h2,h3,h4,h5,h6,h7,h8,h9⟩:=hL.cells;have hA:Below W0.heap.size W0 w':=hP0;go_simp;exact hR undef _ (hF.eff2 (by kernel_rfl) (by decide) 0 hoo ha rfl hi (.inl rfl) rfl (by decide) (λh=>absurd rfl h) (λh=>absurd rfl h) ⟨Y,hY,hYW,cB.put (r2:=r) hL,Xl hA hYW r⟩)
  iterate 16 (go_simp;exact hR _ _ (hF.pure (by kernel_rfl) hoo ha rfl (by decide) (by decide) (by decide) rfl))
  all_goals
   have hS0:=hF.early (f:=24) (by kernel_rfl) hi;rw[<-hSA] at hS0;obtain⟨⟨p0,p1,p2⟩,s0,s1⟩:=hS0;go_simp;exact hR _ _ (hF.pure (by kernel_rfl) hoo ha rfl (by decide) (by decide) (by decide) rfl)
 intro v wz hcl hP1;obtain⟨Y,hY,hYW,hYb,hbz⟩:=hP1;have hv3:v 3= .pointer (some ⟨Y,0,none⟩):=hY;have hv4:v 4= .int .i64 at_:=hcl 22 (by decide) (by decide) (by decide) (by decide);have hv5:v 5= .int .i64 er:=hcl 23 (by decide) (by decide) (by decide) (by decide);simp only[cE,eE,dF,eF,hv3,hv4,hv5];have HY:=hid hYb;have HYW:=hid hYW;have HKz:=hid (HK.out.put hbz hYW hYb);have HBZ:=hid hbz;clear hcl hY hYW hYb hbz hv3 hv4 hv5 HSA hSA CL;by_cases h0:er=0
 ·subst h0;obtain⟨W2,hW2⟩:=exQ<|wz.drew;have hK2:YK YP (Pr.put Y (.cells (lineA r) 121)) w0 P txt sp st.lines z st.total 0 0 (.slice (some ⟨gs,0,none⟩) sp.length cs) (.slice pl k cl) nv W2:=by rw[<-hW2];exact HKz.out.keep (aB _ wz).drew
  have HK2:=hid hK2;have HLess:=hid (aK.put_less (Pr:=Pr) (o:= .cells (lineA r) 121) (λq o' hq=>HK.out.frLt hq) HYW.out);have hrow:=hK2.lnr;rw[HKL.out] at hrow;have HROW:=hid hrow;have HB0:=hid hK2.bel.size;obtain⟨SB,hSB⟩: ∃S:World->Prop,(λw'=>(w'.cell? ⟨P,2,none⟩=some (.slice pl k cl)/\w'.frozen? ⟨P,2,none⟩=false)/\w'.cell? ⟨Y,0,none⟩=some (.int .i64 r.kind)/\w'.cell? ⟨Y,1,none⟩=some (.int .i64 r.sf)/\w'.cell? ⟨Y,2,none⟩=some (.int .i64 r.st)/\w'.cell? ⟨Y,3,none⟩=some (.int .i64 r.ind)/\w'.cell? ⟨Y,4,none⟩=some (.int .i64 r.kf)/\w'.cell? ⟨Y,5,none⟩=some (.int .i64 r.kt)/\w'.cell? ⟨Y,6,none⟩=some (.int .i64 r.rf)/\w'.cell? ⟨Y,7,none⟩=some (.int .i64 r.rt)/\w'.cell? ⟨Y,8,none⟩=some (.int .i64 r.nf)/\w'.cell? ⟨Y,9,none⟩=some (.int .i64 r.nt))=S:=⟨_,rfl⟩;have HSB:Hid (∀q c w',q<3->cQ 121 w0.heap.size (.slice pl k cl) k (jA st.lines) (lineA r) P 2 W2 q c w'->SB w'):=hid (λq c w' hq hp=>by rw[<-hSB];have hs:=HK2.out.seenA HROW.out (by decide) (λj o hj=>(HK2.out.fr j o hj).2.2.1) hq hp;obtain⟨c2,f2⟩:=hs.c2;have hl:cB w' Y r:=hs.fr Y _ (aK.put_eq _ _ _);obtain⟨b0,b1,b2,b3,b4,b5,b6,b7,b8,b9,_⟩:=hl.cells;exact⟨⟨c2,f2⟩,b0,b1,b2,b3,b4,b5,b6,b7,b8,b9⟩);clear hK2 hrow HKz HK HJ;go_upto_region 4 with fail;have hfol:Tryz.prog.follows .mixedOrders=true:=by kernel_rfl
  refine kR hfol [some 32,some 33,some 34,some 35,some 36,some 37,some 38,some 39,some 40,some 41,none] [32,33,34,35,36,37,38,39,40,41] [6,7,10] 1000000 (λ_ _=>True) 42 rfl (by kernel_rfl) (by kernel_rfl) (by kernel_rfl) (λiz=>match iz with | 0=> .pointer (some ⟨P,0,none⟩) | 1=> .pointer (some ⟨P,0,none⟩) | 2=> .pointer (some ⟨P,0,none⟩) | 3=> .pointer (some ⟨P,2,none⟩) | 4=> .slice pl k cl | 5=> .agg #[.int .i64 r.kind, .int .i64 r.sf, .int .i64 r.st, .int .i64 r.ind, .int .i64 r.kf, .int .i64 r.kt, .int .i64 r.rf, .int .i64 r.rt, .int .i64 r.nf, .int .i64 r.nt] | 8=> .pointer (some ⟨P,0,none⟩) | 9=> .pointer (some ⟨P,2,none⟩) | _=>undef) SB (cQ 121 w0.heap.size (.slice pl k cl) k (jA st.lines) (lineA r) P 2 W2) (by rw[hW2];exact HSB.out 0 undef _ (by decide) (aB _ _)) (by rw[hW2];exact aB _ _) ?_ ?_
  ·intro d a w' iq o' ho hi hall hfr hF R' hR;have hiN:iq<11:=(cM.1 ho).1;have q0:a.tmps[0]?.getD undef= .pointer (some ⟨P,0,none⟩):=aY hfr 0 (by decide);have q3:a.tmps[3]?.getD undef= .pointer (some ⟨Y,0,none⟩):=aY hfr 3 (by decide);have hc:=hF.all [(0,32),(1,33),(2,34),(3,35),(4,36),(5,37),(8,40),(9,41)] (by decide);dsimp only[eW] at hc;clear hfr;have ha:=hall;have hoo:=ho;have hcs:iq=6\/iq=7\/iq=10\/iq=0\/iq=1\/iq=2\/iq=3\/iq=8\/iq=9\/iq=4\/iq=5:=(by omega);clear hiN;rcases hcs with rfl|rfl|rfl|rfl|rfl|rfl|rfl|rfl|rfl|rfl|rfl<;>simp only[dW,dA,cD,cS] at ho<;>subst ho<;>(try simp[Region.binds] at hall)
   ·have c37:=hF.g 5 37 rfl (by decide) (by decide) (by decide) (by simp[hall]);have hP0:=hF.at2 (j:=0) rfl hi (.inl rfl);have hA:Below W2.heap.size W2 w':=hP0;go_simp;exact hR _ _ (hF.eff2 (by kernel_rfl) (by decide) 0 hoo ha rfl hi (.inl rfl) rfl (by decide) (λ_ _ _=>trivial) (λ_=>HSB.out 1 _ _ (by decide) ⟨w',hA,rfl,rfl⟩) ⟨w',hA,rfl,rfl⟩)
   ·have c36:=hF.g 4 36 rfl (by decide) (by decide) (by decide) (by simp[hall]);have hpv:d 6=true:=(by simp[hall]);have hP0:=hF.at2 (j:=1) rfl hi (.inr ⟨6,rfl,hpv⟩);have ca':a.tmps.getD 36 undef= .slice pl k cl:=by rw[aO];exact c36
    exact cQ.app rfl (.tmp 36) (.tmp 38) 33 rfl Tryz.underlying33 hi0 hz0 hz1 hz2 rfl (by decide) rfl (Ky r) HROW.out (by omega) (by decide) HB0.out hP0 ca' rfl (λv' w2 hp=>hR _ _ (hF.eff2 (by kernel_rfl) (by decide) 1 hoo ha rfl hi (.inr ⟨6,rfl,hpv⟩) rfl (by decide) (λ_ _ _=>trivial) (λ_=>HSB.out 2 _ _ (by decide) hp) hp))
   ·have c41:=hF.g 9 41 rfl (by decide) (by decide) (by decide) (by simp[hall]);have hpv:d 7=true:=(by simp[hall]);have hP0:=hF.at2 (j:=2) rfl hi (.inr ⟨7,rfl,hpv⟩);have hS0:=hF.st hi;rw[<-hSB] at hS0;obtain⟨⟨p2,p2f⟩,b0,b1,b2,b3,b4,b5,b6,b7,b8,b9⟩:=hS0;have hP2:cQ 121 w0.heap.size (.slice pl k cl) k (jA st.lines) (lineA r) P 2 W2 2 (a.tmps.getD 39 undef) w':=hP0;obtain⟨gz,cz,hz⟩:=hP2.form;rw[hz] at hP2;have c39:a.tmps[39]?.getD undef= .slice (some ⟨gz,0,none⟩) (k+1) cz:=by rw[<-aO];exact hz
    go_simp;exact hR undef _ (hF.eff2 (by kernel_rfl) (by decide) 2 hoo ha rfl hi (.inr ⟨7,rfl,hpv⟩) rfl (by decide) (λ_ _ _=>trivial) (λh=>absurd rfl h) ⟨_,_,hP2,rfl⟩)
   iterate 6 (go_simp;exact hR _ _ (hF.pure (by kernel_rfl) hoo ha rfl (by decide) (by decide) (by decide) rfl))
   all_goals
    have hS0:=hF.early (f:=11) (by kernel_rfl) hi;rw[<-hSB] at hS0;obtain⟨⟨p2,p2f⟩,b0,b1,b2,b3,b4,b5,b6,b7,b8,b9⟩:=hS0;go_simp;exact hR _ _ (hF.pure (by kernel_rfl) hoo ha rfl (by decide) (by decide) (by decide) rfl)
  intro v wy hcl hP3;obtain⟨cz,hcz⟩: ∃c,cQ 121 w0.heap.size (.slice pl k cl) st.lines.length (jA st.lines) (lineA r) P 2 W2 3 c wy:=⟨_,by rw[HKL.out];exact hP3⟩;obtain⟨lv',hK3⟩:=HK2.out.lineA hcz;have HF:=hid (hK3.less HLess.out);clear hP3 hK3 hcz hcl HSB hSB hW2;simp only[cE,eE,dF,eF];go_wp2_with fail;go_ret;exact .inr ⟨rfl,rfl,_,_,HF.out⟩
 ·have CF:=hid (pC at_ er wz (HJ.out.keep HBZ.out));have d0:(er !=0)=true:=by simpa using h0
  have H0:=hid h0;clear h0 HKz HK HJ HBZ;go_wp2_with fail;refine CF.out.mono ?_;rintro e w7 ⟨rfl,hj⟩;have HF:=hid hj;clear hj;go_wp2_with fail;go_ret;exact .inl ⟨H0.out,rfl,HF.out.bad⟩
def Kz (T:TypeId) (Pr:aK) (w0:World) (P:Nat) (txt:aA) (sp:List (Nat×Nat)) (st:YS) (z:List YN) (nv:Value) (R:NX) (e:Ending) (w':World):Prop:=match R with
 | .ok k ls=>e= .returned (.tuple #[.int .i64 (k:Int), .bool true])/\jC T Pr w0 P txt sp ls z nv st.total 0 0 w'
 | .bad a er=>(∃m:Int,e= .returned (.tuple #[.int .i64 m, .bool false]))/\fU T Pr w0 P txt sp a er w'
theorem La {Pr:aK}{w0:World}{P:Nat}{txt:aA}{sp:List (Nat×Nat)}{st:YS}{z:List YN}{nv:Value} (k:Nat) (w:World) (h:jC YP Pr w0 P txt sp st.lines z nv st.total 0 0 w) (hz:z.map (·.1)=st.nodes) (hkl:k<=st.lines.length) (hll:st.lines.length<=sp.length) (hs:txt.length<=65536) (hn:sp.length<=131072) (hV:cA w0):
  Calls Tryz.prog 33 #[.pointer (some ⟨P,0,none⟩), .int .i64 (k:Int)] w (Kz YP Pr w0 P txt sp st z nv (gA txt sp k st.lines)):=by
 obtain⟨R,hR⟩:=exQ<|gA txt sp k st.lines;rw[hR];unfold gA at hR;have HR:=hid hR;have HJ:Hid (jC YP Pr w0 P txt sp st.lines z nv st.total 0 0 w):=hid h;have HZ0:=hid hz;have HV:=hid hV;have HL:=hid (aI hkl hll);have hks:k<=sp.length:=aW hkl hll;clear h hR hV hkl hll hz;go_enter Tryz.func33,Tryz.ntmps33;go_wp2_with fail;go_loopw [6] (λs6 wr=> ∃(i:Nat) (ls:List aP),s6= .int .i64 (i:Int)/\i<=sp.length/\Hid (i<=ls.length/\ls.length<=sp.length)/\Hid (mK txt (sp.drop i) i ls=R)/\Hid (jC YP Pr w0 P txt sp ls z nv st.total 0 0 wr)) (λs6 _=>sp.length+1-(RowKit.intOf s6).toNat)
 case atStart=>exact⟨k,st.lines,rfl,hks,HL,HR,HJ⟩
 case round=>
  clear HR HJ HL hks;obtain⟨i,ls,rfl,hi,HL,HR,HJ⟩:=hrel;obtain⟨n,hn2⟩:=exQ<|ls.length;have HN:=hid hn2;obtain⟨sv,lv,hK⟩:=HJ.out;obtain⟨⟨c0,c1,c2,c3,c4,c5,c6⟩,f2,f3,f4,f5,f6⟩:=hK.cells;obtain⟨ps,cs,rfl⟩:=hK.spSlice;obtain⟨pl,cl,rfl⟩:=hK.lnSlice;have hPl:=hK.lt;simp only[hn2] at c2;have hi0:(0:Int)<=(i:Int):=by omega
  clear hK;by_cases hil:i<sp.length
  ·obtain⟨x,hx⟩: ∃x,sp[i]?=some x:=⟨_,bJ hil⟩;have hdr:sp.drop i=x::sp.drop (i+1):=by
    rw[iK hil];rw[bJ hil] at hx;rw[bD hx]
   have hr:=HR.out;rw[hdr] at hr;unfold mK at hr;have d1:decide ((i:Int)<(sp.length:Int))=true:=aN (by omega);obtain⟨i1,hi1⟩:=exQ<|i+1;have hi1z:(i:Int)+1=(i1:Int):=(by omega);have hi1s:i1<=sp.length:=(by omega);have HI1:=hid hi1;by_cases hin:i<n
   ·have de:((i:Int)==(n:Int))=false:=aG.2 (by omega);have de2:(i==n)=false:=aG.2 (by omega);have de3:decide (i=n)=false:=aJ (by omega);have hin1:(i:Int)<(n:Int):=(by omega);obtain⟨l,hl⟩: ∃l,ls[i]?=some l:=⟨_,bJ (by omega)⟩;rw[hl] at hr;simp only[] at hr;obtain⟨sv,lv,hK⟩:=HJ.out;obtain⟨gl,c9,e9,e10,hcell⟩:=hK.lineAt hl;have b0:=hcell 0 _ (by omega) rfl;have b1:=hcell 1 _ (by omega) rfl;have b2:=hcell 2 _ (by omega) rfl;have b3:=hcell 3 _ (by omega) rfl;have b4:=hcell 4 _ (by omega) rfl;have b5:=hcell 5 _ (by omega) rfl;have b6:=hcell 6 _ (by omega) rfl;have b7:=hcell 7 _ (by omega) rfl;have b8:=hcell 8 _ (by omega) rfl;have b9:=hcell 9 _ (by omega) rfl;have e8:=hK.cells.1.2.2.1;rw[c2,e9] at e8;have e7:=(Value.slice.inj (bD e8)).1;clear e8;subst e7;have CC:=hid (λw=>Ks l w);unfold fQ at CC;have HR2:=hid hr;simp only[Nat.add_zero] at b0;clear hr hK hl hdr e9 e10 hcell hx hin hi1 hn2;by_cases hc:jL l=true
    ·rw[if_pos hc] at HR2;rw[hc] at CC;clear hc;go_wp2_with fail;refine(CC.out _).mono ?_;rintro e w2 ⟨rfl,hb2⟩;have HF:=hid (HJ.out.keep hb2);clear hb2;go_wp2_with fail;go_ret2;rw[<-HR2.out];exact⟨rfl,HF.out⟩
    ·rw[if_neg hc] at HR2;have hc':jL l=false:=(by simpa using hc);rw[hc'] at CC;clear hc hc';go_wp2_with fail;refine(CC.out _).mono ?_;rintro e w2 ⟨rfl,hb2⟩;have HF:=hid (HJ.out.keep hb2);clear hb2;go_wp2_with fail;go_roundw
     ·exact⟨i1,ls,by rw[<-hi1z],hi1s,hid (by have:=HI1.out;have:=HL.out;have:=HN.out;omega),hid (by rw[<-HI1.out];exact HR2.out),HF⟩
     ·(try simp only[RowKit.intOf]);omega
   ·have hin2:i=n:=by have:=HL.out.1;have:=HN.out;omega
    subst hin2;have de:((i:Int)==(i:Int))=true:=(by simp);have hnone:ls[i]?=none:=List.getElem?_eq_none (by omega);rw[hnone] at hr;simp only[] at hr;have CK:=hid (λw' hj=>Xn (Pr:=Pr) (w0:=w0) (P:=P) (txt:=txt) (sp:=sp) (st:=⟨ls,st.nodes,st.total⟩) (z:=z) (nv:=nv) x w' hj HZ0.out (by simp only[];rw[HN.out];exact hx) hs hn HV.out);obtain⟨⟨r,at_,er⟩,hRr⟩:=exQ<|eL txt x.1 x.2;rw[hRr] at hr CK;simp only[] at hr;have HR2:=hid hr;clear hr hRr hnone hdr hx hi1;by_cases h0:er=0
    ·subst h0;rw[if_neg (by simp)] at HR2;have CK2:Hid (∀w',jC YP Pr w0 P txt sp ls z nv st.total 0 0 w'->Calls Tryz.prog 67 #[.pointer (some ⟨P,0,none⟩)] w' λe w2=>e= .returned (.bool true)/\jC YP Pr w0 P txt sp (ls++ [r]) z nv st.total 0 0 w2):=hid (λw' hj=>(CK.out w' hj).mono (λe w2 hE=>by
      rcases hE with⟨h1,_⟩ | ⟨_,h2,h3⟩
      ·exact absurd rfl h1
      ·exact⟨h2,h3⟩))
     clear CK;have CC:=hid (λw=>Ks r w);unfold fQ at CC;go_wp2_with (go_at_call 67;refine(CK2.out _ (by first | exact HJ.out | exact HJ.out.keep (aB _ _).drew)).mono ?_;rintro e w2 ⟨rfl,hj2⟩;have HJ2:=hid hj2;obtain⟨sv2,lv2,hK2⟩:=hj2;obtain⟨gl,c9,e9,_,hcell⟩:=hK2.lineAt (k:=i) (r:=r) (by show (ls++ [r])[i]?=some r;rw[kX (by have:=HN.out;omega),show i-ls.length=0 by have:=HN.out;omega];rfl);have b0:=hcell 0 _ (by omega) rfl;have b1:=hcell 1 _ (by omega) rfl;have b2:=hcell 2 _ (by omega) rfl;have b3:=hcell 3 _ (by omega) rfl;have b4:=hcell 4 _ (by omega) rfl;have b5:=hcell 5 _ (by omega) rfl;have b6:=hcell 6 _ (by omega) rfl;have b7:=hcell 7 _ (by omega) rfl;have b8:=hcell 8 _ (by omega) rfl;have b9:=hcell 9 _ (by omega) rfl;have q2:=hK2.cells.1.2.2.1;have q1:=hK2.cells.1.2.1;have hn1:(ls++ [r]).length=i1:=(by rw[aS,eD];have:=HN.out;have:=HI1.out;omega);subst e9;simp only[hn1] at q2;have hin1:(i:Int)<(i1:Int):=(by omega);have hPl2:=hK2.lt;simp only[Nat.add_zero] at b0;clear hK2 hcell)
     all_goals
      by_cases hc:jL r=true
      ·rw[if_pos hc] at HR2;rw[hc] at CC;clear hc;go_wp2_with fail;refine(CC.out _).mono ?_;rintro e w3 ⟨rfl,hb3⟩;have HF:=hid (HJ2.out.keep hb3);clear hb3;go_wp2_with fail;go_ret2;rw[<-HR2.out];exact⟨rfl,HF.out⟩
      ·rw[if_neg hc] at HR2;have hc':jL r=false:=(by simpa using hc);rw[hc'] at CC;clear hc hc';go_wp2_with fail;refine(CC.out _).mono ?_;rintro e w3 ⟨rfl,hb3⟩;have HF:=hid (HJ2.out.keep hb3);clear hb3;go_wp2_with fail;go_roundw
       ·exact⟨i1,ls++ [r],by rw[<-hi1z],hi1s,hid (by rw[aS,eD];have:=HI1.out;have:=HN.out;omega),hid (by rw[<-HI1.out];exact HR2.out),HF⟩
       ·(try simp only[RowKit.intOf]);omega
    ·have hne:er≠0:=h0;rw[if_pos hne] at HR2;have CK2:Hid (∀w',jC YP Pr w0 P txt sp ls z nv st.total 0 0 w'->Calls Tryz.prog 67 #[.pointer (some ⟨P,0,none⟩)] w' λe w2=>e= .returned (.bool false)/\fU YP Pr w0 P txt sp at_ er w2):=hid (λw' hj=>(CK.out w' hj).mono (λe w2 hE=>by
      rcases hE with⟨_,h2,h3⟩ | ⟨h1,_⟩
      ·exact⟨h2,h3⟩
      ·exact absurd h1 h0))
     clear CK h0 hne;go_wp2_with (go_at_call 67;refine(CK2.out _ (by first | exact HJ.out | exact HJ.out.keep (aB _ _).drew)).mono ?_;rintro e w2 ⟨rfl,hj2⟩;have HJ2:=hid hj2;clear hj2)
     all_goals
      go_ret2;rw[<-HR2.out];exact⟨⟨_,rfl⟩,HJ2.out⟩
  ·have hie:i=sp.length:=(by omega);subst hie;have hr:=HR.out;rw[List.drop_length] at hr;unfold mK at hr;have HR2:=hid hr;have d1:decide ((sp.length:Int)<(sp.length:Int))=false:=aJ (by omega);have HF:=HJ;clear hr hil;go_wp2_with fail;go_ret2;rw[<-HR2.out];exact⟨rfl,HF.out⟩
theorem Db {Pr:aK}{w0:World}{P:Nat}{txt:aA}{sp:List (Nat×Nat)}{st:YS} (k:Nat) (w:World) (h:YJ YP Pr w0 P txt sp st 0 0 w) (hkl:k<=st.lines.length) (hll:st.lines.length<=sp.length) (hs:txt.length<=65536) (hn:sp.length<=131072) (hV:cA w0):
  Calls Tryz.prog 33 #[.pointer (some ⟨P,0,none⟩), .int .i64 (k:Int)] w (yO YP Pr w0 P txt sp st (gA txt sp k st.lines)):=by
 obtain⟨z,sv,lv,nv,hz,hK⟩:=h;refine(La k w ⟨sv,lv,hK⟩ hz hkl hll hs hn hV).mono (λe w' hE=>?_);cases hN:gA txt sp k st.lines with
 | ok m ls=>
  rw[hN] at hE;exact⟨hE.1,jC.toJ hE.2 hz⟩
 | bad a er=>
  rw[hN] at hE;exact hE
def Dc (x:aM):Value:= .agg #[.int .i64 (x.kind:Int), .int .i64 x.ind, .int .i64 (x.fr:Int), .int .i64 (x.til:Int), .int .i64 x.kf, .int .i64 x.kt, .int .i64 x.rf, .int .i64 x.rt, .slice none 0 0]
def gP (x:aM):Array Value:= #[.int .i64 (x.kind:Int), .int .i64 x.ind, .int .i64 (x.fr:Int), .int .i64 (x.til:Int), .int .i64 x.kf, .int .i64 x.kt, .int .i64 x.rf, .int .i64 x.rt, .slice none 0 0]
theorem Lb (x:aM): ∀u∈(gP x).toList,u.oneCell'=true:=by
 intro u hu;simp only[gP,dN,List.not_mem_nil,or_false] at hu;rcases hu with rfl|rfl|rfl|rfl|rfl|rfl|rfl|rfl|rfl<;>rfl
theorem YK.nodeA {T:TypeId}{Pr:aK}{w0 w' W0:World}{P:Nat}{txt:aA}{sp:List (Nat×Nat)}{lines:List aP}{z:List YN}{tot:Nat}{a er:Int}{sv lv nv:Value} (h:YK T Pr w0 P txt sp lines z tot a er sv lv nv W0) {x:aM} (hx:x.kids= []) {c:Value} (hp:cQ 62 w0.heap.size nv z.length (iG z) (gP x) P 3 W0 3 c w'):
  ∃g cap,YK T Pr w0 P txt sp lines (z++ [(x, .slice none 0 0)]) tot a er sv lv (.slice (some ⟨g,0,none⟩) (z.length+1) cap) w':=by
 obtain⟨c,w2,⟨w1,hb,hrow,hg,hat,g,cap,rfl⟩,rfl⟩:=hp;exact⟨g,cap,(h.keep hb).node hx (H:=w1.heap.size+1) (Nat.le_succ _) hrow hg hat⟩
theorem YK.ndSlice {T:TypeId}{Pr:aK}{w0 w:World}{P:Nat}{txt:aA}{sp:List (Nat×Nat)}{lines:List aP}{z:List YN}{tot:Nat}{a er:Int}{sv lv nv:Value} (h:YK T Pr w0 P txt sp lines z tot a er sv lv nv w): ∃p cap,nv= .slice p z.length cap:=by
 rcases h.nod.row.2 with⟨h0,h1⟩ | ⟨g,cap,cur,h1,h2,h3,h4,_⟩
 ·exact⟨none,0,by rw[h0,h1]⟩
 ·exact⟨_,cap,h1⟩
theorem Tryz.infoYnode:(Tryz.prog.info? 62).map (λi=>(i.zero,i.size,i.bytes))=some (some (.agg #[.int .i64 0, .int .i64 0, .int .i64 0, .int .i64 0, .int .i64 0, .int .i64 0, .int .i64 0, .int .i64 0, .slice none 0 0]),9,88):=by kernel_rfl
theorem pE {w:World}{X:Nat}{a0 a1 a2 a3 a4 a5 a6 a7 a8:Value}{t:TypeId} (hb:w.heap[X]?=some (.cells #[a0,a1,a2,a3,a4,a5,a6,a7,a8] t)):w.cell? ⟨X,0,none⟩=some a0/\w.cell? ⟨X,1,none⟩=some a1/\w.cell? ⟨X,2,none⟩=some a2/\w.cell? ⟨X,3,none⟩=some a3/\w.cell? ⟨X,4,none⟩=some a4/\w.cell? ⟨X,5,none⟩=some a5/\w.cell? ⟨X,6,none⟩=some a6/\w.cell? ⟨X,7,none⟩=some a7/\w.cell? ⟨X,8,none⟩=some a8:=by
 refine⟨?_,?_,?_,?_,?_,?_,?_,?_,?_⟩<;>simp[World.cell?,hb]
def Lc (T:TypeId) (Pr:aK) (w0:World) (P:Nat) (txt:aA) (sp:List (Nat×Nat)) (R:YR) (e:Ending) (w':World):Prop:=match R with
 | .ok n st=>e= .returned (.tuple #[.int .i64 (n:Int), .bool true])/\YJ T Pr w0 P txt sp st 0 0 w'
 | .bad a er=>e= .returned (.tuple #[.int .i64 0, .bool false])/\fU T Pr w0 P txt sp a er w'
theorem Ld {Pr:aK}{w0:World}{P:Nat}{txt:aA}{sp:List (Nat×Nat)}{st:YS} (x:aM) (lv:Nat) (lev a:Int) (w:World) (h:YJ YP Pr w0 P txt sp st 0 0 w) (hx:x.kids= []) (hl:Hid (lev=33-(lv:Int))) (hlv:lv<=32) (hN:st.nodes.length<=4096):
  Calls Tryz.prog 72 #[.pointer (some ⟨P,0,none⟩),Dc x, .int .i64 lev, .int .i64 a] w (Lc YP Pr w0 P txt sp (iR x lv a st)):=by
 obtain⟨R,hR⟩:=exQ<|iR x lv a st;rw[hR];unfold iR at hR;obtain⟨i0,hi0,hz0,hz1,hz2⟩:=info_parts Tryz.infoYnode;unfold Dc;have b0:=aH w (.cells (gP x) 62);have hX0:=heap_alloc_new w (.cells (gP x) 62);have hXl:w.heap.size<(w.alloc (.cells (gP x) 62)).heap.size:=by simp
 have hput:=h.put b0 (aE _) hX0;have hless: ∀k o,Pr k=some o->(Pr.put w.heap.size (.cells (gP x) 62)) k=some o:=aK.put_less (λk o hk=>h.frLt k o hk) (aE _);have HJ0:=hid (h.keep b0);unfold gP at b0 hX0 HJ0 hput hXl hless;obtain⟨X,hXe⟩:=exQ<|w.heap.size;obtain⟨W1,hW1⟩:=exQ<|w.alloc (.cells #[.int .i64 (x.kind:Int), .int .i64 x.ind, .int .i64 (x.fr:Int), .int .i64 (x.til:Int), .int .i64 x.kf, .int .i64 x.kt, .int .i64 x.rf, .int .i64 x.rt, .slice none 0 0] 62);rw[hW1] at b0 hX0 HJ0 hput hXl;rw[hXe] at hX0 hput hXl hless;have HP:=hid hput;have HX:=hid hX0;have HLess:=hid hless;clear h b0 hput hless hX0;by_cases h0:lv=0
 ·rw[if_pos h0] at hR;have hlev:=hl.out;have d1:decide ((32:Int)<lev)=true:=aN (by omega);have CF:=hid (λw' hj=>pC (Pr:=Pr) (w0:=w0) (P:=P) (txt:=txt) (sp:=sp) (st:=st) (a0:=0) (e0:=0) a 5 w' hj);have HR:=hid hR;clear hlev h0 hR;go_enter Tryz.func72,Tryz.ntmps72;go_wp2_with fail;refine(CF.out _ HJ0.out).mono ?_;rintro e w2 ⟨rfl,hj⟩;have HF:=hid hj;clear hj;go_wp2_with fail;go_ret2;rw[<-HR.out];exact⟨rfl,HF.out.bad⟩
 rw[if_neg h0] at hR;have d1:decide ((32:Int)<lev)=false:=aJ (by have:=hl.out;omega);obtain⟨z,sv,lvv,nv,hz,hK⟩:=HP.out;obtain⟨⟨c0,c1,c2,c3,c4,c5,c6⟩,f2,f3,f4,f5,f6⟩:=hK.cells;have hPl:=hK.lt;have hzl:z.length=st.nodes.length:=by rw[<-hz,bU]
 by_cases h4:4096<=st.total
 ·rw[if_pos h4] at hR;have d2:decide ((4096:Int)<=(st.total:Int))=true:=aN (by omega);have CF:=hid (λw' hj=>pC (Pr:=Pr) (w0:=w0) (P:=P) (txt:=txt) (sp:=sp) (st:=st) (a0:=0) (e0:=0) a 6 w' hj);have HR:=hid hR;clear h0 hR h4 hK hz hzl;go_enter Tryz.func72,Tryz.ntmps72;go_wp2_with fail;refine(CF.out _ (by first | exact HJ0.out | exact HJ0.out.keep (aB _ _).drew)).mono ?_;rintro e w2 ⟨rfl,hj⟩;have HF:=hid hj;clear hj;go_wp2_with fail;go_ret2;rw[<-HR.out];exact⟨rfl,HF.out.bad⟩
 rw[if_neg h4] at hR;have d2:decide ((4096:Int)<=(st.total:Int))=false:=aJ (by omega);have ht1:IntKind.i64.wrap ((st.total:Int)+1)=(st.total:Int)+1:=IntWalk.i64_in _ (by omega);have HR:=hid hR;have hKc:=hK.count (st.total+1);rw[show ((st.total+1:Nat):Int)=(st.total:Int)+1 by omega] at hKc;obtain⟨n,hn⟩:=exQ<|z.length;have hn4:n<=4096:=by omega
 have HZN:=hid (aI hz (aI hzl hn));have HKc:=hid hKc;clear h0 hR h4 hK hz hzl hKc hn hN;go_enter Tryz.func72,Tryz.ntmps72;go_upto_region 6 with fail;clear hW1 hXe;obtain⟨W2,hW2⟩:=exQ<|(W1.setCell ⟨P,4,none⟩ (.int .i64 ((st.total:Int)+1))).drew;have hK2:=HKc.out.keep (aB _ _).drew;rw[hW2] at hK2;obtain⟨pn,cn,hnv⟩:=hK2.ndSlice;rw[HZN.out.2.2] at hnv;subst hnv;have HK2:=hid hK2;have hrow:=hK2.nod.row;rw[HZN.out.2.2] at hrow;have HROW:=hid hrow;have HB0:=hid hK2.bel.size;obtain⟨SB,hSB⟩: ∃S:World->Prop,(λw'=>(w'.cell? ⟨P,3,none⟩=some (.slice pn n cn)/\w'.frozen? ⟨P,3,none⟩=false)/\w'.cell? ⟨X,0,none⟩=some (.int .i64 (x.kind:Int))/\w'.cell? ⟨X,1,none⟩=some (.int .i64 x.ind)/\w'.cell? ⟨X,2,none⟩=some (.int .i64 (x.fr:Int))/\w'.cell? ⟨X,3,none⟩=some (.int .i64 (x.til:Int))/\w'.cell? ⟨X,4,none⟩=some (.int .i64 x.kf)/\w'.cell? ⟨X,5,none⟩=some (.int .i64 x.kt)/\w'.cell? ⟨X,6,none⟩=some (.int .i64 x.rf)/\w'.cell? ⟨X,7,none⟩=some (.int .i64 x.rt)/\w'.cell? ⟨X,8,none⟩=some (.slice none 0 0))=S:=⟨_,rfl⟩;have HSB:Hid (∀q c w',q<3->cQ 62 w0.heap.size (.slice pn n cn) n (iG z) (gP x) P 3 W2 q c w'->SB w'):=hid (λq c w' hq hp=>by rw[<-hSB];have hs:=HK2.out.seenA HROW.out (by decide) (λj o hj=>(HK2.out.fr j o hj).2.2.2.1) hq hp;obtain⟨c2,f2⟩:=hs.c3;have hl:=hs.fr X _ (aK.put_eq _ _ _);exact⟨⟨c2,f2⟩,pE hl⟩);clear hK2 hrow HKc HP c0 c1 c2 c3 c4 c5 c6 f2 f3 f4 f5 f6;have hfol:Tryz.prog.follows .mixedOrders=true:=by kernel_rfl
 refine kR hfol [some 32,some 33,some 34,some 35,some 36,some 37,some 38,some 39,some 40,some 41,none] [32,33,34,35,36,37,38,39,40,41] [6,7,10] 1000000 (λ_ _=>True) 48 rfl (by kernel_rfl) (by kernel_rfl) (by kernel_rfl) (λiz=>match iz with | 0=> .pointer (some ⟨P,0,none⟩) | 1=> .pointer (some ⟨P,0,none⟩) | 2=> .pointer (some ⟨P,0,none⟩) | 3=> .pointer (some ⟨P,3,none⟩) | 4=> .slice pn n cn | 5=> .agg #[.int .i64 (x.kind:Int), .int .i64 x.ind, .int .i64 (x.fr:Int), .int .i64 (x.til:Int), .int .i64 x.kf, .int .i64 x.kt, .int .i64 x.rf, .int .i64 x.rt, .slice none 0 0] | 8=> .pointer (some ⟨P,0,none⟩) | 9=> .pointer (some ⟨P,3,none⟩) | _=>undef) SB (cQ 62 w0.heap.size (.slice pn n cn) n (iG z) (gP x) P 3 W2) (by rw[hW2];exact HSB.out 0 undef _ (by decide) (aB _ _)) (by rw[hW2];exact aB _ _) ?_ ?_
 ·intro d a w' iq o' ho hi hall hfr hF R' hR;have hiN:iq<11:=(cM.1 ho).1;have q0:a.tmps[0]?.getD undef= .pointer (some ⟨P,0,none⟩):=aY hfr 0 (by decide);have q5:a.tmps[5]?.getD undef= .pointer (some ⟨X,0,none⟩):=aY hfr 5 (by decide);have hc:=hF.all [(0,32),(1,33),(2,34),(3,35),(4,36),(5,37),(8,40),(9,41)] (by decide);dsimp only[eW] at hc;clear hfr;have ha:=hall;have hoo:=ho;have hcs:iq=6\/iq=7\/iq=10\/iq=0\/iq=1\/iq=2\/iq=3\/iq=8\/iq=9\/iq=4\/iq=5:=by omega
  clear hiN;rcases hcs with rfl|rfl|rfl|rfl|rfl|rfl|rfl|rfl|rfl|rfl|rfl<;>simp only[dW,dA,cD,cS] at ho<;>subst ho<;>(try simp[Region.binds] at hall)
  ·have c37:=hF.g 5 37 rfl (by decide) (by decide) (by decide) (by simp[hall]);have hP0:=hF.at2 (j:=0) rfl hi (.inl rfl);have hA:Below W2.heap.size W2 w':=hP0;go_simp;exact hR _ _ (hF.eff2 (by kernel_rfl) (by decide) 0 hoo ha rfl hi (.inl rfl) rfl (by decide) (λ_ _ _=>trivial) (λ_=>HSB.out 1 _ _ (by decide) ⟨w',hA,rfl,rfl⟩) ⟨w',hA,rfl,rfl⟩)
  ·have c36:=hF.g 4 36 rfl (by decide) (by decide) (by decide) (by simp[hall]);have hpv:d 6=true:=(by simp[hall]);have hP0:=hF.at2 (j:=1) rfl hi (.inr ⟨6,rfl,hpv⟩);have ca':a.tmps.getD 36 undef= .slice pn n cn:=by rw[aO];exact c36
   exact cQ.app rfl (.tmp 36) (.tmp 38) 34 rfl Tryz.underlying34 hi0 hz0 hz1 hz2 rfl (by decide) rfl (Lb x) HROW.out (by omega) (by decide) HB0.out hP0 ca' rfl (λv' w2 hp=>hR _ _ (hF.eff2 (by kernel_rfl) (by decide) 1 hoo ha rfl hi (.inr ⟨6,rfl,hpv⟩) rfl (by decide) (λ_ _ _=>trivial) (λ_=>HSB.out 2 _ _ (by decide) hp) hp))
  ·have c41:=hF.g 9 41 rfl (by decide) (by decide) (by decide) (by simp[hall]);have hpv:d 7=true:=(by simp[hall]);have hP0:=hF.at2 (j:=2) rfl hi (.inr ⟨7,rfl,hpv⟩);have hS0:=hF.st hi;rw[<-hSB] at hS0;obtain⟨⟨p3,p3f⟩,b0,b1,b2,b3,b4,b5,b6,b7,b8⟩:=hS0;have hP2:cQ 62 w0.heap.size (.slice pn n cn) n (iG z) (gP x) P 3 W2 2 (a.tmps.getD 39 undef) w':=hP0;obtain⟨gz,cz,hz⟩:=hP2.form;rw[hz] at hP2;have c39:a.tmps[39]?.getD undef= .slice (some ⟨gz,0,none⟩) (n+1) cz:=by rw[<-aO];exact hz
   go_simp;exact hR undef _ (hF.eff2 (by kernel_rfl) (by decide) 2 hoo ha rfl hi (.inr ⟨7,rfl,hpv⟩) rfl (by decide) (λ_ _ _=>trivial) (λh=>absurd rfl h) ⟨_,_,hP2,rfl⟩)
  iterate 6 (go_simp;exact hR _ _ (hF.pure (by kernel_rfl) hoo ha rfl (by decide) (by decide) (by decide) rfl))
  all_goals
   have hS0:=hF.early (f:=11) (by kernel_rfl) hi;rw[<-hSB] at hS0;obtain⟨⟨p3,p3f⟩,b0,b1,b2,b3,b4,b5,b6,b7,b8⟩:=hS0;go_simp;exact hR _ _ (hF.pure (by kernel_rfl) hoo ha rfl (by decide) (by decide) (by decide) rfl)
 intro v wy hcl hP3;obtain⟨cz,hcz⟩: ∃c,cQ 62 w0.heap.size (.slice pn n cn) z.length (iG z) (gP x) P 3 W2 3 c wy:=⟨_,by rw[HZN.out.2.2];exact hP3⟩;obtain⟨g,cap,hK3⟩:=HK2.out.nodeA hx hcz;have hK4:=hK3.less HLess.out;rw[HZN.out.2.2] at hK4;obtain⟨⟨_,_,_,c3,_⟩,_⟩:=hK4.cells;have hPl2:=hK4.lt;have HF:=hid hK4;clear hP3 hK3 hK4 hcz hcl HSB hSB hW2;simp only[cE,eE,dF,eF];go_wp2_with fail;go_ret2;rw[<-HR.out];refine⟨by rw[<-HZN.out.2.1,HZN.out.2.2];first | rfl | (congr 3;omega),_,_,_,_,?_,HF.out⟩;rw[oM,HZN.out.1];rfl
theorem Le {Pr:aK}{w0:World}{P:Nat}{txt:aA}{sp:List (Nat×Nat)}{st:YS} (x:aM) (lv:Nat) (lev a:Int) (w:World) (h:YJ YP Pr w0 P txt sp st 0 0 w) (hx:x.kids= []) (hl:Hid (lev=33-(lv:Int))) (hlv:lv<=32) (hN:st.nodes.length<=4096):
  Calls Tryz.prog 72 #[.pointer (some ⟨P,0,none⟩),Dc x, .int .i64 lev, .int .i64 a] w (gX YP Pr w0 P txt sp (iR x lv a st)):=by
 refine(Ld x lv lev a w h hx hl hlv hN).mono (λe w' hE=>?_);cases hA:iR x lv a st with
 | ok n s1=>rw[hA] at hE;exact hE
 | bad b er=>rw[hA] at hE;exact⟨⟨_,hE.1⟩,hE.2⟩
end
end Go.Proofs.YtaifnmjjpddikaaGreatDoor
