import Derived.Test.YtfhjncbdgjlcoaaGreatDoorYn43
import Derived.Test.YtfhjncbdgjlcoaaGreatDoorYn39
set_option linter.unusedVariables false
set_option linter.unusedSimpArgs false
set_option maxRecDepth 100000
set_option maxHeartbeats 8000000
namespace Go.Proofs.YtfhjncbdgjlcoaaGreatDoor
open Tryz
section
open Go.RowKit Go.Maps Go.WideMaps
open Go.Lib hiding intOf
structure QF (val:Nat->Value) (S:World->Prop) (W0:World) (ob:Obj) (Own:Value->World->Prop) (P:Nat) (d:Nat->Bool) (v:Nat->Value) (w':World):Prop where
 cl: ∀i,i<23->i≠20->d i=true->v (40+i)=val i
 st:S w'
 up:d 20=true->d 19=true/\d 4=true
 up2:d 23=true->d 20=true
 w0:d 19=false->w'=W0
 w1:d 19=true->d 20=false->w'=W0.alloc ob
 w2:d 20=true->d 23=false->Own (v 60) w'
 w3:d 23=true-> ∃nv w1,Own nv w1/\w'=w1.setCell ⟨P,3,none⟩ nv
section
variable {val:Nat->Value}{S:World->Prop}{W0:World}{ob:Obj}{Own:Value->World->Prop}{P:Nat}{d:Nat->Bool}{v:Nat->Value}{w':World}
theorem QF.clSet (h:QF val S W0 ob Own P d v w') {i k:Nat} (hk:k=40+i) {x:Value} (hx:i=20\/x=val i): ∀j,j<23->j≠20->bE d i j=true->cE v (some k) x (40+j)=val j:=by
 subst hk;intro j b a c;by_cases hji:j=i
 .subst hji;rw[uT];exact hx.resolve_left a
 .rw[uU a_];exact h.cl j b a ((Ai c).resolve_left hji)
theorem QF.pure (h:QF val S W0 ob Own P d v w') {i k:Nat} (hk:k=40+i) {x:Value} (hx:x=val i) (h19:i≠19) (h20:i≠20) (h23:i≠23):QF val S W0 ob Own P (bE d i) (cE v (some k) x) w':=by
 have e:bE d i 19=d 19:=cV (Ne.symm h19);have c:bE d i 20=d 20:=cV (Ne.symm h20);have f:bE d i 23=d 23:=cV (Ne.symm h23);refine⟨h.clSet hk (.inr hx),h.st,λa=>?_,λa=>?_,λa=>?_,λa b=>?_,λa b=>?_,λa=>?_⟩
 .rw[c] at a;obtain⟨a1,a2⟩:=h.up a;refine⟨by rw[e];exact a1,?_⟩;by_cases h4:4=i
  .rw[h4];exact kU
  .rw[cV h4];exact a2
 .rw[f] at a;rw[c];exact h.up2 a
 .rw[e] at a;exact h.w0 a
 .rw[e] at a;rw[c] at b;exact h.w1 a b
 .rw[c] at a;rw[f] at b;rw[uU a_];exact h.w2 a b
 .rw[f] at a;exact h.w3 a
theorem QF.mkA (h:QF val S W0 ob Own P d v w') (hd:d 19=false) {x:Value} (hx:x=val 19) (hS:S (W0.alloc ob)):QF val S W0 ob Own P (bE d 19) (cE v (some 59) x) (W0.alloc ob):=by
 have f:bE d 19 20=d 20:=cV b_;have c:bE d 19 23=d 23:=cV b_;have h20:d 20=false:=by
  cases hc:d 20 with
  | false=>rfl
  | true=>have:=(h.up hc).1;rw[hd] at this;cases this
 have e:d 23=false:=n9;refine⟨h.clSet rfl (.inr hx),hS,λa=>?_,λa=>?_,λa=>?_,λ_ _=>rfl,λa=>?_,λa=>?_⟩
 .rw[f,h20] at a;cases a
 .rw[c,e] at a;cases a
 .rw[kU] at a;cases a
 .rw[f,h20] at a;cases a
 .rw[c,e] at a;cases a
theorem QF.app (h:QF val S W0 ob Own P d v w') (h19:d 19=true) (h4:d 4=true) (h20:d 20=false) {x:Value}{w2:World} (hS:S w2) (ho:Own x w2):QF val S W0 ob Own P (bE d 20) (cE v (some 60) x) w2:=by
 have g:bE d 20 19=d 19:=cV b_;have e4:bE d 20 4=d 4:=cV b_;have c:bE d 20 23=d 23:=cV b_;have e:d 23=false:=n9;refine⟨h.clSet rfl (.inl rfl),hS,λa=>⟨by rw[g];exact h19,by rw[e4];exact h4⟩,λa=>kU,λa=>?_,λa b=>?_,λa b=>?_,λa=>?_⟩
 .rw[g,h19] at a;cases a
 .rw[kU] at b;cases b
 .rw[uT];exact ho
 .rw[c,e] at a;cases a
theorem QF.sto (h:QF val S W0 ob Own P d v w') (h20:d 20=true) (h23:d 23=false) {x:Value}{k:Option Tmp} (hk:k=none) (hS:S (w'.setCell ⟨P,3,none⟩ (v 60))):QF val S W0 ob Own P (bE d 23) (cE v k x) (w'.setCell ⟨P,3,none⟩ (v 60)):=by
 subst hk;have e:bE d 23 19=d 19:=cV b_;have e4:bE d 23 4=d 4:=cV b_;have c:bE d 23 20=d 20:=cV b_;refine⟨λj g i f=>?_,hS,λa=>?_,λa=>by rw[c];exact h20,λa=>?_,λa b=>?_,λa b=>?_,λa=>⟨v 60,w',h.w2 h20 h23,rfl⟩⟩
 .rw[cV a_] at f;exact h.cl j g i f
 .rw[e,e4];exact h.up h20
 .rw[e,(h.up h20).1] at a;cases a
 .rw[c,h20] at b;cases b
 .rw[kU] at b;cases b
end
theorem aDp {i:Nat} (h:i<24):i=0\/i=1\/i=2\/i=3\/i=4\/i=5\/i=6\/i=7\/i=8\/i=9\/i=10\/i=11\/i=12\/i=13\/i=14\/i=15\/i=16\/i=17\/i=18\/i=19\/i=20\/i=21\/i=22\/i=23:=a_
def Qf (P:Nat) (p0:Option Addr) (nodes:List aM) (c0 q g o ll c k:Nat) (t:aR) (key:Sp) (H:Nat):Nat->Value
 | 0=> .pointer (some ⟨P,0,none⟩)
 | 1=> .pointer (some ⟨P,0,none⟩)
 | 2=> .pointer (some ⟨P,0,none⟩)
 | 3=> .pointer (some ⟨P,3,none⟩)
 | 4=> .slice p0 nodes.length c0
 | 5=> .int .i64 (q:Int)
 | 6=> .pointer (some ⟨P,0,none⟩)
 | 7=> .pointer (some ⟨P,0,none⟩)
 | 8=> .pointer (some ⟨P,1,none⟩)
 | 9=> .slice (some ⟨g,o,none⟩) ll c
 | 10=> .pointer (some ⟨P,0,none⟩)
 | 11=> .pointer (some ⟨P,0,none⟩)
 | 12=> .pointer (some ⟨P,2,none⟩)
 | 13=> .int .i64 (k:Int)
 | 14=> .pointer (some ⟨g,o+k*3,none⟩)
 | 15=> .pointer (some ⟨g,o+k*3+1,none⟩)
 | 16=> .agg #[t.sf,t.st]
 | 17=> .agg #[key.1,key.2]
 | 18=> .agg #[q,t.sf,t.st,key.1,key.2,(),()]
 | 19=> .slice (some ⟨H,0,none⟩) 1 1
 | 21=> .pointer (some ⟨P,0,none⟩)
 | 22=> .pointer (some ⟨P,3,none⟩)
 | _=>undef
def SQ (W0:World) (K g P:Nat) (lvv:Value) (k:Nat) (w':World):Prop:=(w'.heap[K]?=W0.heap[K]?/\w'.heap[g]?=W0.heap[g]?)/\w'.cell? (P,1)=some lvv/\w'.cell? (P,2)=some (.int .i64 (k:Int))
theorem QZ.node {B P:Nat}{txt:aC}{L:List aR}{k:Nat}{z:List ND}{nv:Value}{w w2:World} (h:QZ B P txt L k z nv w) {x:aM} (hk:x.kids= []) (hp:x.pcs= []) (hB:B<=w.heap.size) {nv2:Value}
  (hr:w2.ownsRow B 167 7 nv2 (z.length+1) (jR z++gP (x, .slice none 0 0, .slice none 0 0))) (hg:w.grownBy w2 nv.ownBlock):
  QJ B P txt L k (z.map (·.1)++ [x]) (w2.setCell ⟨P,3,none⟩ nv2)/\Fr B P w (w2.setCell ⟨P,3,none⟩ nv2):=by
 obtain⟨lv,m,l,f,c,j⟩:=h;obtain⟨a1,a2⟩:=sL m l hg (λk hk=>by obtain⟨b,n⟩:=lI c.row k hk;exact⟨b,_,n,b_,b_⟩);have i:=c.push hk hp hr hg;refine⟨⟨z++ [(x, .slice none 0 0, .slice none 0 0)],nv2,e_,lv,a1.nodes nv2,?_,f,i.other a1 b_ b_ b_ (dP w2 P 3 nv2),j⟩,(Fr.grown c.row b_ hg hB).trans (Fr.setP j)⟩;exact a2.same (λg b a=>(dP w2 P 3 nv2).block g (aG a) (λe=>by have e2:g=P:=bA e;subst e2;unfold cN at a1;rw[a1] at a;injection a with a;injection a with _ a;exact absurd a b_))
theorem aDq {k:Nat} (h4:k≠4):eD k≠5:=by
 unfold eD;rw[if_neg h4]
 (repeat' split)<;>decide
theorem aDr {k:Nat} (h2:k≠2):eD k≠6:=by
 unfold eD;rw[if_neg h2]
 (repeat' split)<;>decide
theorem QZ.to {B P:Nat}{txt:aC}{L:List aR}{k:Nat}{z:List ND}{nv:Value}{w:World} (h:QZ B P txt L k z nv w) {n:Nat} (hn:n<z.length) (e:Nat):
  ∃g cap y,nv= .slice (some ⟨g,0,none⟩) z.length cap/\z[n]?=some y/\w.cell? ⟨g,n*7+2,none⟩=some (.int .i64 (y.1.st:Int))/\w.frozen? ⟨g,n*7+2,none⟩=false/\
   QZ B P txt L k (z.set n ({ y.1 with st:=e },y.2)) nv (w.setCell ⟨g,n*7+2,none⟩ (.int .i64 (e:Int)))/\Fr B P w (w.setCell ⟨g,n*7+2,none⟩ (.int .i64 (e:Int))):=by
 obtain⟨lv,p,m,i,f,o⟩:=h;obtain⟨g,cap,b,rfl,_,j,a⟩:=f.form (λe=>by rw[e] at hn;simp at hn);have c:z[n]?=some z[n]:=bI hn;obtain⟨c1,c2⟩:=f.at_ c 2 a_ rfl;have l:=f.field (y':=({ z[n].1 with st:=e },z[n].2)) c 2 a_ (.int .i64 (e:Int)) rfl rfl rfl rfl;rw[List.length_set] at l;obtain⟨b1,b2⟩:=sL p m (dP w g (n*7+2) (.int .i64 (e:Int))) (λk i=>by have e:g=k:=bA i;subst e;exact⟨b,_,a,b_,b_⟩);exact⟨g,cap,z[n],rfl,c,c1,c2,⟨lv,b1,b2,i,l,o⟩,Fr.setM a b_ j⟩
theorem QJ.to {B P:Nat}{txt:aC}{L:List aR}{k:Nat}{ns:List aM}{w:World} (h:QJ B P txt L k ns w) {n:Nat} (hn:n<ns.length) (e:Nat):
  ∃g cap st,w.cell? (P,3)=some (.slice (some ⟨g,0,none⟩) ns.length cap)/\ns.length<=cap/\w.cell? ⟨g,n*7+2,none⟩=some (.int .i64 st)/\w.frozen? ⟨g,n*7+2,none⟩=false/\
   QJ B P txt L k (mN n e ns) (w.setCell ⟨g,n*7+2,none⟩ (.int .i64 (e:Int)))/\Fr B P w (w.setCell ⟨g,n*7+2,none⟩ (.int .i64 (e:Int))):=by
 obtain⟨z,nv,rfl,h⟩:=h;rw[bP] at hn;obtain⟨g,cap,y,rfl,b,c1,c2,f,c⟩:=h.to hn e;obtain⟨g',cap',e',a⟩:=h.form (λe=>by rw[e] at hn;simp at hn);injection e' with _ _ e4;refine⟨g,cap,_,by rw[bP];exact h.c3,by rw[bP,e4];exact a,c1,c2,⟨_,_,?_,f⟩,c⟩;unfold mN;rw[Ah _ n _ y.1 (by rw[cF,b];rfl),List.map_set]
theorem rE.drewn {B P:Nat}{txt:aC}{L:List aR}{R:JR}{w w':World}{e:Ending} (h:rE B P txt L R w e w') (hB:B<=w.heap.size):rE B P txt L R w e w'.drew:=by
 cases R with
 | ok rr l ns=>
  obtain⟨g,⟨k,t,a,b,c,d⟩,f⟩:=h;exact⟨g,⟨k,t,a,b,c,d.keep (aD _ w').drew⟩,f.trans (Fr.of_below (aD _ w').drew (bF hB f.sz))⟩
 | bad a er=>
  obtain⟨g,i,f⟩:=h;exact⟨g,i.keep (aD _ w').drew,f.trans (Fr.of_below (aD _ w').drew (bF hB f.sz))⟩
def tZ (B P:Nat) (txt:aC) (L:List aR) (n:Nat) (R:JR) (b:Bool) (w:World):Prop:=match R with
 | .ok rest l ns=>b=true/\(∃k t,rest=L.drop (k+1)/\L[k]?=some t/\l=(t.sf,t.st)/\QJ B P txt L (k+1) ns w)/\n<ns.length
 | .bad a er=>b=false/\mE B P (n+1) a er w
theorem tZ.of {B P:Nat}{txt:aC}{L:List aR}{n:Nat}{R:JR}{w w':World}{e:Ending} (h:rE B P txt L R w e w') (hn:qN P w=n+1) (hl: ∀rr l ns,R= .ok rr l ns->n<ns.length):
  ∃b,e= .returned (.bool b)/\tZ B P txt L n R b w'/\Fr B P w w':=by
 cases R with
 | ok rr l ns=>
  obtain⟨f,c,g⟩:=h;exact⟨true,f,⟨rfl,c,hl rr l ns rfl⟩,g⟩
 | bad a er=>
  obtain⟨f,c,g⟩:=h;rw[hn] at c;exact⟨false,f,⟨rfl,c⟩,g⟩
theorem Qg (w0:World) (P:Nat) (txt:aC) (L:List aR) (hL:L.length<=65536) (hs:txt.length<=65536) (hTB: ∀t∈L,t.sf<=t.st/\t.st<=txt.length) (hsg: ∀t∈L,t.kind=6->t.st=t.sf+1) (lv:Nat) (hlv:lv<=32) (IH: ∀m,lv=m+1->Cx w0 P txt L m):Cx w0 P txt L lv:=by
 have RY:=trivial;exact PU
theorem Qh (w0:World) (P:Nat) (txt:aC) (L:List aR) (hL:L.length<=65536) (hs:txt.length<=65536) (hTB: ∀t∈L,t.sf<=t.st/\t.st<=txt.length) (hsg: ∀t∈L,t.kind=6->t.st=t.sf+1): ∀(lv:Nat),lv<=32->Cx w0 P txt L lv
 | 0,h=>Qg w0 P txt L hL hs hTB hsg 0 h (λm hm=>absurd hm a_)
 | n+1,h=>Qg w0 P txt L hL hs hTB hsg (n+1) h (λm hm=>by
  have:n=m:=a_
  subst this;exact Qh w0 P txt L hL hs hTB hsg n a_)
theorem aDs (l:aC) (h0:(bT l).2.2=0) (h:(bT l).1=6):(bT l).2.1=1:=by
 unfold bT at h0 h ⊢;cases l with
 | nil=>simp at h
 | cons c r=>
  simp only[] at h0 h ⊢;cases hs:lG c with
  | some k=>rfl
  | none=>
   rw[hs] at h0 h;simp only[] at h0 h ⊢;split at h
   .simp at h
   .split at h
    .split at h
     .simp at h
     .simp at h
    .split at h
     .split at h
      .simp at h
      .simp at h
     .split at h
      .simp at h
      .exfalso;simp only[] at h;unfold nG at h
       (repeat' split at h)<;>omega
theorem Qi: ∀(f:Nat) (l:aC) (i:Nat),∀t∈(eR f l i).1,t.kind=6->t.st=t.sf+1
 | f,[],i,t,ht=>by rw[uH] at ht;cases ht
 | 0,c::r,i,t,ht=>by cases ht
 | f+1,c::r,i,t,ht=>by
  rw[uG] at ht;split at ht
  .rename_i h0;rcases fT.1 ht with rfl | ht
   .intro h6;have:=aDs (c::r) h0 h6;simp only[];omega
   .exact Qi f _ _ t ht
  .cases ht
theorem aDt (l:aC): ∀t∈(dX l).1,t.kind=6->t.st=t.sf+1:=by
 unfold dX;split
 .intro t h;cases h
 .split
  .exact Qi _ _ _
  .intro t h;cases h
theorem cN.toks {w:World}{P:Nat}{txt:aC}{lv nv:Value}{k a:Nat}{er:Int} (h:cN w P txt lv k nv a er) (lv2:Value):cN (w.setCell ⟨P,1,none⟩ lv2) P txt lv2 k nv a er:=D9
theorem cN.offT {w w':World}{P B:Nat}{txt:aC}{lv nv:Value}{k a:Nat}{er:Int} (h:cN w P txt lv k nv a er) {ts:List aR}{v:Value} (hr:fV B w v ts) (hg:w.grownBy w' v.ownBlock):cN w' P txt lv k nv a er:=
 (hg.block P h.lt (λe=>by
  rcases dG hr h b_ with b | b
  .rw[b] at e;cases e
  .exact b e.symm)).trans h
theorem aDu {w w2 w5:World}{P:Nat}{txt:aC}{lv nv kv:Value}{k a:Nat}{er:Int}{ts:List aR}{t:aR} (h1:cN w P txt lv k nv a er) (hr:fV (P+1) w lv ts) (hb:Below P w2 w) (hg:w.grownBy w5 lv.ownBlock) (ho:fV (P+1) w5 kv (ts++ [t])):
  cN (w5.setCell ⟨P,1,none⟩ kv) P txt kv k nv a er/\fV (P+1) (w5.setCell ⟨P,1,none⟩ kv) kv (ts++ [t])/\Below P w2 (w5.setCell ⟨P,1,none⟩ kv)/\w5.cell? (P,1)=some lv/\w5.frozen? ⟨P,1,none⟩=false:=by
 have j5:=h1.offT hr hg;refine⟨j5.toks kv,ho.kept (dP w5 P 1 kv) (dG ho j5 b_),(hb.grown hg (by have:=h1.lt;omega) (λk b=>by have:=(hr.lt k b).1;omega)).setCell e_ _,j5.cells.2.1,j5.cells.2.2.2.2.2.2.1⟩
theorem aDv (l:aC) (w:World) (hs:l.length<=140737488351232):
  Calls prog 93 #[bs l] w (Eo l (gE l) w):=by
 have RH:=trivial;exact PN
end
section
open Go.RowKit Go.Maps Go.WideMaps
open Go.Lib hiding intOf
theorem aDw (l:aC) (r:List aM×Int×Int) (hr:gE l=r) (w:World) (hs:l.length<=140737488351232):
  Calls prog 93 #[bs l] w (yB l r w):=by
 subst hr;refine(aDv l w hs).mono λe w' h=>?_;exact FH
end
section
open Go.RowKit
open Go.Lib hiding intOf
theorem Qj:qB:=λs w' hs a=>aBz s w' a_ a (λw2=>aBw s w2 a_ (λw3=>aDw s _ rfl w3 a_))
theorem kyQ:qC:=λs w' c a=>aBD s w' a_ (λw2 b=>Qj s w2 c (a.keep b))
end
end Go.Proofs.YtfhjncbdgjlcoaaGreatDoor
