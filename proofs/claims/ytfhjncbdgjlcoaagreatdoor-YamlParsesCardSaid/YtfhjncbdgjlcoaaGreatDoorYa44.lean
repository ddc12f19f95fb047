import Derived.Test.YtfhjncbdgjlcoaaGreatDoorYa43
set_option maxRecDepth 100000
set_option maxHeartbeats 8000000
set_option linter.unusedVariables false
set_option linter.unusedSimpArgs false
namespace Go.Proofs.YtfhjncbdgjlcoaaGreatDoor
section
open Go.RowKit Go.Maps Go.WideMaps
open Go.Lib hiding intOf
structure QF (val:Nat->Value) (S:World->Prop) (W0:World) (ob:Obj) (Own:Value->World->Prop) (P:Nat) (d:Nat->Bool) (v:Nat->Value) (w':World):Prop where
 cl: ∀i,i<23->i≠20->d i=true->v (40+i)=val i
 st:S w'
 up:d 20=true->d 19=true/\d 4=true
 up2:d 23=true->d 20=true
 w0:d 19=false->w'=W0
 w1:d 19=true->d 20=false->w'=W0.alloc ob
 w2:d 20=true->d 23=false->Own (v 60) w'
 w3:d 23=true-> ∃nv w1,Own nv w1/\w'=w1.setCell ⟨P,3,none⟩ nv
section
variable {val:Nat->Value}{S:World->Prop}{W0:World}{ob:Obj}{Own:Value->World->Prop}{P:Nat}{d:Nat->Bool}{v:Nat->Value}{w':World}
theorem QF.clSet (h:QF val S W0 ob Own P d v w') {i k:Nat} (hk:k=40+i) {x:Value} (hx:i=20\/x=val i): ∀j,j<23->j≠20->aY d i j=true->cB v (some k) x (40+j)=val j:=by
 subst hk;intro j c a b;by_cases hji:j=i
 ·subst hji;rw[uA];exact hx.resolve_left a
 ·rw[uB a_];exact h.cl j c a ((zO b).resolve_left hji)
theorem QF.pure (h:QF val S W0 ob Own P d v w') {i k:Nat} (hk:k=40+i) {x:Value} (hx:x=val i) (h19:i≠19) (h20:i≠20) (h23:i≠23):QF val S W0 ob Own P (aY d i) (cB v (some k) x) w':=by
 have f:aY d i 19=d 19:=cL (Ne.symm h19);have c:aY d i 20=d 20:=cL (Ne.symm h20);have e:aY d i 23=d 23:=cL (Ne.symm h23);refine⟨h.clSet hk (.inr hx),h.st,λa=>?_,λa=>?_,λa=>?_,λa b=>?_,λa b=>?_,λa=>?_⟩
 ·rw[c] at a;obtain⟨a1,a2⟩:=h.up a;refine⟨by rw[f];exact a1,?_⟩;by_cases h4:4=i
  ·rw[h4];exact kC
  ·rw[cL h4];exact a2
 ·rw[e] at a;rw[c];exact h.up2 a
 ·rw[f] at a;exact h.w0 a
 ·rw[f] at a;rw[c] at b;exact h.w1 a b
 ·rw[c] at a;rw[e] at b;rw[uB a_];exact h.w2 a b
 ·rw[e] at a;exact h.w3 a
theorem QF.mkA (h:QF val S W0 ob Own P d v w') (hd:d 19=false) {x:Value} (hx:x=val 19) (hS:S (W0.alloc ob)):QF val S W0 ob Own P (aY d 19) (cB v (some 59) x) (W0.alloc ob):=by
 have f:aY d 19 20=d 20:=cL b_;have c:aY d 19 23=d 23:=cL b_;have h20:d 20=false:=by
  cases hc:d 20 with
  | false=>rfl
  | true=>have:=(h.up hc).1;rw[hd] at this;cases this
 have e:d 23=false:=mx;refine⟨h.clSet rfl (.inr hx),hS,λa=>?_,λa=>?_,λa=>?_,λ_ _=>rfl,λa=>?_,λa=>?_⟩
 ·rw[f,h20] at a;cases a
 ·rw[c,e] at a;cases a
 ·rw[kC] at a;cases a
 ·rw[f,h20] at a;cases a
 ·rw[c,e] at a;cases a
theorem QF.app (h:QF val S W0 ob Own P d v w') (h19:d 19=true) (h4:d 4=true) (h20:d 20=false) {x:Value}{w2:World} (hS:S w2) (ho:Own x w2):QF val S W0 ob Own P (aY d 20) (cB v (some 60) x) w2:=by
 have g:aY d 20 19=d 19:=cL b_;have e4:aY d 20 4=d 4:=cL b_;have c:aY d 20 23=d 23:=cL b_;have e:d 23=false:=mx;refine⟨h.clSet rfl (.inl rfl),hS,λa=>⟨by rw[g];exact h19,by rw[e4];exact h4⟩,λa=>kC,λa=>?_,λa b=>?_,λa b=>?_,λa=>?_⟩
 ·rw[g,h19] at a;cases a
 ·rw[kC] at b;cases b
 ·rw[uA];exact ho
 ·rw[c,e] at a;cases a
theorem QF.sto (h:QF val S W0 ob Own P d v w') (h20:d 20=true) (h23:d 23=false) {x:Value}{k:Option Tmp} (hk:k=none) (hS:S (w'.setCell ⟨P,3,none⟩ (v 60))):QF val S W0 ob Own P (aY d 23) (cB v k x) (w'.setCell ⟨P,3,none⟩ (v 60)):=by
 subst hk;have e:aY d 23 19=d 19:=cL b_;have e4:aY d 23 4=d 4:=cL b_;have c:aY d 23 20=d 20:=cL b_;refine⟨λj g i f=>?_,hS,λa=>?_,λa=>by rw[c];exact h20,λa=>?_,λa b=>?_,λa b=>?_,λa=>⟨v 60,w',h.w2 h20 h23,rfl⟩⟩
 ·rw[cL a_] at f;exact h.cl j g i f
 ·rw[e,e4];exact h.up h20
 ·rw[e,(h.up h20).1] at a;cases a
 ·rw[c,h20] at b;cases b
 ·rw[kC] at b;cases b
end
theorem aCB {i:Nat} (h:i<24):i=0\/i=1\/i=2\/i=3\/i=4\/i=5\/i=6\/i=7\/i=8\/i=9\/i=10\/i=11\/i=12\/i=13\/i=14\/i=15\/i=16\/i=17\/i=18\/i=19\/i=20\/i=21\/i=22\/i=23:=a_
def Pg (P:Nat) (p0:Option Addr) (nodes:List aH) (c0 q g o ll c k:Nat) (t:aN) (key:Sp) (H:Nat):Nat->Value
 | 0=> .pointer (some ⟨P,0,none⟩)
 | 1=> .pointer (some ⟨P,0,none⟩)
 | 2=> .pointer (some ⟨P,0,none⟩)
 | 3=> .pointer (some ⟨P,3,none⟩)
 | 4=> .slice p0 nodes.length c0
 | 5=> .int .i64 (q:Int)
 | 6=> .pointer (some ⟨P,0,none⟩)
 | 7=> .pointer (some ⟨P,0,none⟩)
 | 8=> .pointer (some ⟨P,1,none⟩)
 | 9=> .slice (some ⟨g,o,none⟩) ll c
 | 10=> .pointer (some ⟨P,0,none⟩)
 | 11=> .pointer (some ⟨P,0,none⟩)
 | 12=> .pointer (some ⟨P,2,none⟩)
 | 13=> .int .i64 (k:Int)
 | 14=> .pointer (some ⟨g,o+k*3,none⟩)
 | 15=> .pointer (some ⟨g,o+k*3+1,none⟩)
 | 16=> .agg #[t.sf,t.st]
 | 17=> .agg #[key.1,key.2]
 | 18=> .agg #[q,t.sf,t.st,key.1,key.2,(),()]
 | 19=> .slice (some ⟨H,0,none⟩) 1 1
 | 21=> .pointer (some ⟨P,0,none⟩)
 | 22=> .pointer (some ⟨P,3,none⟩)
 | _=>undef
def SQ (W0:World) (K g P:Nat) (lvv:Value) (k:Nat) (w':World):Prop:=(w'.heap[K]?=W0.heap[K]?/\w'.heap[g]?=W0.heap[g]?)/\w'.cell? ⟨P,1,none⟩=some lvv/\w'.cell? ⟨P,2,none⟩=some (.int .i64 (k:Int))
theorem QZ.node {B P:Nat}{txt:List UInt8}{L:List aN}{k:Nat}{z:List ND}{nv:Value}{w w2:World} (h:QZ B P txt L k z nv w) {x:aH} (hk:x.kids= []) (hp:x.pcs= []) (hB:B<=w.heap.size) {nv2:Value}
  (hr:w2.ownsRow B 167 7 nv2 (z.length+1) (iZ z++gA (x, .slice none 0 0, .slice none 0 0))) (hg:w.grownBy w2 nv.ownBlock):
  QJ B P txt L k (z.map (·.1)++ [x]) (w2.setCell ⟨P,3,none⟩ nv2)/\Fr B P w (w2.setCell ⟨P,3,none⟩ nv2):=by
 obtain⟨lv,n,m,i,c,j⟩:=h;obtain⟨a1,a2⟩:=rL n m hg (λk hk=>by obtain⟨b,l⟩:=kO c.row k hk;exact⟨b,_,l,b_,b_⟩);have f:=c.push hk hp hr hg;refine⟨⟨z++ [(x, .slice none 0 0, .slice none 0 0)],nv2,e_,lv,a1.nodes nv2,?_,i,f.other a1 b_ b_ b_ (cT w2 P 3 nv2),j⟩,(Fr.grown c.row b_ hg hB).trans (Fr.setP j)⟩;exact a2.same (λg b a=>(cT w2 P 3 nv2).block g (aF a) (λe=>by have e2:g=P:=aV e;subst e2;unfold cH at a1;rw[a1] at a;injection a with a;injection a with _ a;exact absurd a b_))
theorem aCC {k:Nat} (h4:k≠4):dO k≠5:=by
 unfold dO;rw[if_neg h4]
 (repeat' split)<;>decide
theorem aCD {k:Nat} (h2:k≠2):dO k≠6:=by
 unfold dO;rw[if_neg h2]
 (repeat' split)<;>decide
theorem QZ.to {B P:Nat}{txt:List UInt8}{L:List aN}{k:Nat}{z:List ND}{nv:Value}{w:World} (h:QZ B P txt L k z nv w) {n:Nat} (hn:n<z.length) (e:Nat):
  ∃g cap y,nv= .slice (some ⟨g,0,none⟩) z.length cap/\z[n]?=some y/\w.cell? ⟨g,n*7+2,none⟩=some (.int .i64 (y.1.st:Int))/\w.frozen? ⟨g,n*7+2,none⟩=false/\
   QZ B P txt L k (z.set n ({ y.1 with st:=e },y.2)) nv (w.setCell ⟨g,n*7+2,none⟩ (.int .i64 (e:Int)))/\Fr B P w (w.setCell ⟨g,n*7+2,none⟩ (.int .i64 (e:Int))):=by
 obtain⟨lv,p,m,i,c,o⟩:=h;obtain⟨g,cap,j,rfl,_,b,a⟩:=c.form (λe=>by rw[e] at hn;simp at hn);have f:z[n]?=some z[n]:=bC hn;obtain⟨c1,c2⟩:=c.at_ f 2 a_ rfl;have l:=c.field (y':=({ z[n].1 with st:=e },z[n].2)) f 2 a_ (.int .i64 (e:Int)) rfl rfl rfl rfl;rw[List.length_set] at l;obtain⟨b1,b2⟩:=rL p m (cT w g (n*7+2) (.int .i64 (e:Int))) (λk i=>by have e:g=k:=aV i;subst e;exact⟨j,_,a,b_,b_⟩);exact⟨g,cap,z[n],rfl,f,c1,c2,⟨lv,b1,b2,i,l,o⟩,Fr.setM a b_ b⟩
theorem QJ.to {B P:Nat}{txt:List UInt8}{L:List aN}{k:Nat}{ns:List aH}{w:World} (h:QJ B P txt L k ns w) {n:Nat} (hn:n<ns.length) (e:Nat):
  ∃g cap st,w.cell? ⟨P,3,none⟩=some (.slice (some ⟨g,0,none⟩) ns.length cap)/\ns.length<=cap/\w.cell? ⟨g,n*7+2,none⟩=some (.int .i64 st)/\w.frozen? ⟨g,n*7+2,none⟩=false/\
   QJ B P txt L k (lL n e ns) (w.setCell ⟨g,n*7+2,none⟩ (.int .i64 (e:Int)))/\Fr B P w (w.setCell ⟨g,n*7+2,none⟩ (.int .i64 (e:Int))):=by
 obtain⟨z,nv,rfl,h⟩:=h;rw[bR] at hn;obtain⟨g,cap,y,rfl,c,c1,c2,f,b⟩:=h.to hn e;obtain⟨g',cap',e',a⟩:=h.form (λe=>by rw[e] at hn;simp at hn);injection e' with _ _ e4;refine⟨g,cap,_,by rw[bR];exact h.c3,by rw[bR,e4];exact a,c1,c2,⟨_,_,?_,f⟩,b⟩;unfold lL;rw[zN _ n _ y.1 (by rw[dE,c];rfl),List.map_set]
theorem qG.drewn {B P:Nat}{txt:List UInt8}{L:List aN}{R:JR}{w w':World}{e:Ending} (h:qG B P txt L R w e w') (hB:B<=w.heap.size):qG B P txt L R w e w'.drew:=by
 cases R with
 | ok rr l ns=>
  obtain⟨g,⟨k,t,a,b,c,d⟩,f⟩:=h;exact⟨g,⟨k,t,a,b,c,d.keep (aB _ w').drew⟩,f.trans (Fr.of_below (aB _ w').drew (aZ hB f.sz))⟩
 | bad a er=>
  obtain⟨g,i,f⟩:=h;exact⟨g,i.keep (aB _ w').drew,f.trans (Fr.of_below (aB _ w').drew (aZ hB f.sz))⟩
def tH (B P:Nat) (txt:List UInt8) (L:List aN) (n:Nat) (R:JR) (b:Bool) (w:World):Prop:=match R with
 | .ok rest l ns=>b=true/\(∃k t,rest=L.drop (k+1)/\L[k]?=some t/\l=(t.sf,t.st)/\QJ B P txt L (k+1) ns w)/\n<ns.length
 | .bad a er=>b=false/\lF B P (n+1) a er w
theorem tH.of {B P:Nat}{txt:List UInt8}{L:List aN}{n:Nat}{R:JR}{w w':World}{e:Ending} (h:qG B P txt L R w e w') (hn:qN P w=n+1) (hl: ∀rr l ns,R= .ok rr l ns->n<ns.length):
  ∃b,e= .returned (.bool b)/\tH B P txt L n R b w'/\Fr B P w w':=by
 cases R with
 | ok rr l ns=>
  obtain⟨f,c,g⟩:=h;exact⟨true,f,⟨rfl,c,hl rr l ns rfl⟩,g⟩
 | bad a er=>
  obtain⟨f,c,g⟩:=h;rw[hn] at c;exact⟨false,f,⟨rfl,c⟩,g⟩
theorem Pj (w0:World) (P:Nat) (txt:List UInt8) (L:List aN) (hL:L.length<=65536) (hs:txt.length<=65536) (hTB: ∀t∈L,t.sf<=t.st/\t.st<=txt.length) (hsg: ∀t∈L,t.kind=6->t.st=t.sf+1) (lv:Nat) (hlv:lv<=32) (IH: ∀m,lv=m+1->Bz w0 P txt L m):Bz w0 P txt L lv:=by
 have yo:=trivial;exact qr
theorem Pk (w0:World) (P:Nat) (txt:List UInt8) (L:List aN) (hL:L.length<=65536) (hs:txt.length<=65536) (hTB: ∀t∈L,t.sf<=t.st/\t.st<=txt.length) (hsg: ∀t∈L,t.kind=6->t.st=t.sf+1): ∀(lv:Nat),lv<=32->Bz w0 P txt L lv
 | 0,h=>Pj w0 P txt L hL hs hTB hsg 0 h (λm hm=>absurd hm a_)
 | n+1,h=>Pj w0 P txt L hL hs hTB hsg (n+1) h (λm hm=>by
  have:n=m:=a_
  subst this;exact Pk w0 P txt L hL hs hTB hsg n a_)
theorem aCE (l:List UInt8) (h0:(bK l).2.2=0) (h:(bK l).1=6):(bK l).2.1=1:=by
 unfold bK at h0 h ⊢;cases l with
 | nil=>simp at h
 | cons c r=>
  simp only[] at h0 h ⊢;cases hs:kM c with
  | some k=>rfl
  | none=>
   rw[hs] at h0 h;simp only[] at h0 h ⊢;split at h
   ·simp at h
   ·split at h
    ·split at h
     ·simp at h
     ·simp at h
    ·split at h
     ·split at h
      ·simp at h
      ·simp at h
     ·split at h
      ·simp at h
      ·exfalso;simp only[] at h;unfold mC at h
       (repeat' split at h)<;>omega
theorem Pl: ∀(f:Nat) (l:List UInt8) (i:Nat),∀t∈(eG f l i).1,t.kind=6->t.st=t.sf+1
 | f,[],i,t,ht=>by rw[tN] at ht;cases ht
 | 0,c::r,i,t,ht=>by cases ht
 | f+1,c::r,i,t,ht=>by
  rw[tM] at ht;split at ht
  ·rename_i h0;rcases fY.1 ht with rfl | ht
   ·intro h6;have:=aCE (c::r) h0 h6;simp only[];omega
   ·exact Pl f _ _ t ht
  ·cases ht
theorem aCF (l:List UInt8): ∀t∈(dH l).1,t.kind=6->t.st=t.sf+1:=by
 unfold dH;split
 ·intro t h;cases h
 ·split
  ·exact Pl _ _ _
  ·intro t h;cases h
theorem cH.toks {w:World}{P:Nat}{txt:List UInt8}{lv nv:Value}{k a:Nat}{er:Int} (h:cH w P txt lv k nv a er) (lv2:Value):cH (w.setCell ⟨P,1,none⟩ lv2) P txt lv2 k nv a er:=ep
theorem cH.offT {w w':World}{P B:Nat}{txt:List UInt8}{lv nv:Value}{k a:Nat}{er:Int} (h:cH w P txt lv k nv a er) {ts:List aN}{v:Value} (hr:fG B w v ts) (hg:w.grownBy w' v.ownBlock):cH w' P txt lv k nv a er:=
 (hg.block P h.lt (λe=>by
  rcases cQ hr h b_ with b | b
  ·rw[b] at e;cases e
  ·exact b e.symm)).trans h
theorem aCG {w w2 w5:World}{P:Nat}{txt:List UInt8}{lv nv kv:Value}{k a:Nat}{er:Int}{ts:List aN}{t:aN} (h1:cH w P txt lv k nv a er) (hr:fG (P+1) w lv ts) (hb:Below P w2 w) (hg:w.grownBy w5 lv.ownBlock) (ho:fG (P+1) w5 kv (ts++ [t])):
  cH (w5.setCell ⟨P,1,none⟩ kv) P txt kv k nv a er/\fG (P+1) (w5.setCell ⟨P,1,none⟩ kv) kv (ts++ [t])/\Below P w2 (w5.setCell ⟨P,1,none⟩ kv)/\w5.cell? ⟨P,1,none⟩=some lv/\w5.frozen? ⟨P,1,none⟩=false:=by
 have j5:=h1.offT hr hg;refine⟨j5.toks kv,ho.kept (cT w5 P 1 kv) (cQ ho j5 b_),(hb.grown hg (by have:=h1.lt;omega) (λk b=>by have:=(hr.lt k b).1;omega)).setCell e_ _,j5.cells.2.1,j5.cells.2.2.2.2.2.2.1⟩
theorem aCH (l:List UInt8) (w:World) (hs:l.length<=140737488351232):
  Calls Tryz.prog 93 #[bs l] w (Dq l (fP l) w):=by
 have xy:=trivial;exact qi
end
section
open Go.RowKit Go.Maps Go.WideMaps
open Go.Lib hiding intOf
theorem aCI (l:List UInt8) (r:List aH×Int×Int) (hr:fP l=r) (w:World) (hs:l.length<=140737488351232):
  Calls Tryz.prog 93 #[bs l] w (xM l r w):=by
 subst hr;refine(aCH l w hs).mono λe w' h=>?_;exact j8
end
end Go.Proofs.YtfhjncbdgjlcoaaGreatDoor
