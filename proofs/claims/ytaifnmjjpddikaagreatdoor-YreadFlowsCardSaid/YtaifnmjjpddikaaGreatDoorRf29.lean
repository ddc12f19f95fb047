import Derived.Test.YtaifnmjjpddikaaGreatDoorRf28
import Derived.Test.YtaifnmjjpddikaaGreatDoorRf6
import Derived.Test.YtaifnmjjpddikaaGreatDoorRf13
import Derived.Test.YtaifnmjjpddikaaGreatDoorRf19
import Derived.Test.YtaifnmjjpddikaaGreatDoorRf18
import Derived.Test.YtaifnmjjpddikaaGreatDoorRf1
import Derived.RangeFuncNested
import Derived.RangeFuncBound
import Derived.RangeFuncCalls
import Derived.RangeFuncLeaves
import Derived.RangeFuncBox
import Derived.Shelf.Abstract
import Derived.Shelf.RegionOpen
import Derived.OwnWalkIn
import Derived.TacticsInMore
import Derived.LoopNIn
import Derived.LoopIn
import Derived.Test.YtaifnmjjpddikaaGreatDoorRf5
set_option maxRecDepth 100000
set_option maxHeartbeats 8000000
namespace Go.Proofs.YtaifnmjjpddikaaGreatDoor
set_option linter.unusedVariables false
set_option linter.unusedSimpArgs false
section
open Go.RowKit
open Go.Lib hiding intOf
theorem Nf {α β:Type} (f:β->α): ∀(l:List α) (R:Nat->β->Prop),(∀j x,l[j]?=some x-> ∃e,f e=x/\R j e)-> ∃es:List β,es.map f=l/\ ∀j e,es[j]?=some e->R j e
 | [],R,_=>⟨[],rfl,λj e h=>by simp at h⟩
 | x::l,R,h=>by
  obtain⟨e,h1,h2⟩:=h 0 x rfl;obtain⟨es,h3,h4⟩:=Nf f l (λj=>R (j+1)) (λj y hy=>h (j+1) y hy);refine⟨e::es,by rw[kD,h1,h3],λj y hy=>?_⟩;cases j with
  | zero=>
   obtain rfl:e=y:=(by simpa using hy);exact h2
  | succ j=>exact h4 j y hy
def fL (W:World) (B m:Nat) (l:List VT) (i:Nat) (v:Value) (w:World):Prop:= ∃p c,v= .slice p l.length c/\l.length<=c/\(l= []\/ ∃G,p=some ⟨G,0,none⟩/\B<=G/\(∃cur,w.heap[G]?=some (.cells cur 26))/\
 ∀(j:Nat) (x:VT),l[j]?=some x-> ∃kv iv,(w.cell? ⟨G,j*4,none⟩=some (.int .i64 x.kind)/\w.cell? ⟨G,j*4+1,none⟩=some (.string (bs x.text))/\w.cell? ⟨G,j*4+2,none⟩=some kv/\w.cell? ⟨G,j*4+3,none⟩=some iv)/\(j<i->dK (λk=>B<=k/\k≠G) w x.depth x kv iv)/\(i<=j->VD W m x kv iv))
theorem VD.one {w:World}{n:Nat}{t:VT}{kv iv:Value} (h:VD w n t kv iv): ∀u∈([.int .i64 t.kind, .string (bs t.text),kv,iv]:List Value),u.oneCell'=true:=by
 obtain⟨pk,ck,p,c,rfl,rfl⟩:=h.form;intro u hu;simp only[dN,List.not_mem_nil,or_false] at hu;rcases hu with rfl|rfl|rfl|rfl<;>rfl
theorem Ng (l:List jH):(kZ l).length=l.length*4:=by
 induction l with
 | nil=>rfl
 | cons x l ih=>rw[Ar];simp only[aT,ih];omega
theorem fL.of {W w':World}{B m:Nat}{l:List VT}{v:Value}{es:List jH} (he:es.map (·.1)=l) (hv: ∀e∈es,VD W m e.1 e.2.1 e.2.2) (h:w'.ownsRow B 26 4 v l.length (kZ es)):fL W B m l 0 v w':=by
 have h0:=h;rcases h.2 with⟨h1,h2⟩ | ⟨g,cap,cur,rfl,h3,h4,h5,_⟩
 ·exact⟨none,0,by rw[h1,h2],by omega, .inl (List.length_eq_zero_iff.1 h2)⟩
 ·refine⟨_,cap,rfl,h5, .inr ⟨g,rfl,h3,⟨cur,h4⟩,λj x hx=>?_⟩⟩;rw[<-he,cU] at hx;obtain⟨e,hxe,rfl⟩:=rT.1 hx;obtain⟨a0,a1,a2,a3⟩:=xQ es j e hxe;have hc:=World.ownsRow.cells h0 (g:=g) rfl;have c0:=hc _ _ a0;have c1:=hc _ _ a1;have c2:=hc _ _ a2;have c3:=hc _ _ a3;rw[nW,Nat.zero_add] at c0 c1 c2 c3;exact⟨_,_,⟨c0,c1,c2,c3⟩,λh=>absurd h (pU _),λ_=>hv e (aX hxe)⟩
theorem fL.slice {W w:World}{B m i:Nat}{l:List VT}{v:Value} (h:fL W B m l i v w): ∃p c,v= .slice p l.length c:=by
 obtain⟨p,c,h1,_⟩:=h;exact⟨p,c,h1⟩
theorem fL.keep {W w w':World}{B m i:Nat}{l:List VT}{v:Value} (h:fL W B m l i v w) (hk: ∀k,B<=k->k<w.heap.size->w'.heap[k]?=w.heap[k]?):fL W B m l i v w':=by
 obtain⟨p,c,h1,h2,h3⟩:=h;refine⟨p,c,h1,h2,?_⟩;rcases h3 with h3 | ⟨G,e1,e2,⟨cur,e3⟩,e4⟩
 ·exact .inl h3
 ·have a1:=hk G e2 (aF e3);refine .inr ⟨G,e1,e2,⟨cur,by rw[a1];exact e3⟩,λj x hx=>?_⟩;obtain⟨kv,iv,⟨b0,b1,b2,b3⟩,b4,b5⟩:=e4 j x hx;exact⟨kv,iv,⟨by rw[fX a1];exact b0,by rw[fX a1];exact b1,by rw[fX a1];exact b2,by rw[fX a1];exact b3⟩,λhj=>(b4 hj).agree (λk ok lt=>⟨hk k ok.1 lt,ok⟩),b5⟩
theorem fL.low {W w:World}{B B' m i:Nat}{l:List VT}{v:Value} (h:fL W B' m l i v w) (hB:B<=B'):fL W B m l i v w:=by
 obtain⟨p,c,h1,h2,h3⟩:=h;refine⟨p,c,h1,h2,?_⟩;rcases h3 with h3 | ⟨G,e1,e2,e3,e4⟩
 ·exact .inl h3
 ·refine .inr ⟨G,e1,aW hB e2,e3,λj x hx=>?_⟩;obtain⟨kv,iv,b0,b4,b5⟩:=e4 j x hx;exact⟨kv,iv,b0,λhj=>(b4 hj).mono (λk ok _=>⟨aW hB ok.1,ok.2⟩),b5⟩
theorem fL.at_ {W w:World}{B m i:Nat}{l:List VT}{v:Value} (h:fL W B m l i v w) {x:VT} (hx:l[i]?=some x): ∃G c kv iv,v= .slice (some ⟨G,0,none⟩) l.length c/\B<=G/\G<w.heap.size/\(w.cell? ⟨G,i*4,none⟩=some (.int .i64 x.kind)/\w.cell? ⟨G,i*4+1,none⟩=some (.string (bs x.text))/\w.cell? ⟨G,i*4+2,none⟩=some kv/\w.cell? ⟨G,i*4+3,none⟩=some iv)/\VD W m x kv iv/\ ∀o,w.frozen? ⟨G,o,none⟩=false:=by
 obtain⟨p,c,h1,h2,h3⟩:=h;rcases h3 with h3 | ⟨G,rfl,e2,⟨cur,e3⟩,e4⟩
 ·rw[h3] at hx;cases hx
 ·obtain⟨kv,iv,b0,_,b5⟩:=e4 i x hx;exact⟨G,c,kv,iv,h1,e2,aF e3,b0,b5 (aE _),λo=>by simp[World.frozen?,e3]⟩
def gY (w:World) (G o:Nat) (x:VT) (kv iv:Value):World:=(((w.setCell ⟨G,o,none⟩ (.int .i64 x.kind)).setCell ⟨G,o+1,none⟩ (.string (bs x.text))).setCell ⟨G,o+2,none⟩ kv).setCell ⟨G,o+3,none⟩ iv
theorem zB {w:World}{G o:Nat}{x:VT}{kv iv:Value}{q:Nat} (hq:q≠G):(gY w G o x kv iv).heap[q]?=w.heap[q]?:=by
 unfold gY;rw[dC _ ⟨G,o+3,none⟩ _ q hq,dC _ ⟨G,o+2,none⟩ _ q hq,dC _ ⟨G,o+1,none⟩ _ q hq,dC _ ⟨G,o,none⟩ _ q hq]
theorem aAS {B:Nat}{w w':World}{G o:Nat}{x:VT}{kv iv:Value} (h:Below B w w') (hG:B<=G):Below B w (gY w' G o x kv iv):=by
 unfold gY;exact(((h.setCell (p:=⟨G,o,none⟩) hG _).setCell (p:=⟨G,o+1,none⟩) hG _).setCell (p:=⟨G,o+2,none⟩) hG _).setCell (p:=⟨G,o+3,none⟩) hG _
theorem zC {w:World}{G o q:Nat}{x:VT}{kv iv:Value} (hq:q<o\/o+4<=q):(gY w G o x kv iv).cell? ⟨G,q,none⟩=w.cell? ⟨G,q,none⟩:=by
 unfold gY;rw[Ea _ _ _ _ (by intro e;injection e;omega),Ea _ _ _ _ (by intro e;injection e;omega),Ea _ _ _ _ (by intro e;injection e;omega),Ea _ _ _ _ (by intro e;injection e;omega)]
theorem aAT {w:World}{G o:Nat}{cur:Array Value}{x:VT}{kv iv:Value} (h:w.heap[G]?=some (.cells cur 26)) (ho:o+4<=cur.size): ∃cur',(gY w G o x kv iv).heap[G]?=some (.cells cur' 26)/\
  ((gY w G o x kv iv).cell? ⟨G,o,none⟩=some (.int .i64 x.kind)/\(gY w G o x kv iv).cell? ⟨G,o+1,none⟩=some (.string (bs x.text))/\(gY w G o x kv iv).cell? ⟨G,o+2,none⟩=some kv/\(gY w G o x kv iv).cell? ⟨G,o+3,none⟩=some iv):=by
 have h1:=gL h o (.int .i64 x.kind);have h2:=gL h1 (o+1) (.string (bs x.text));have h3:=gL h2 (o+2) kv;have h4:=gL h3 (o+3) iv;refine⟨_,h4,?_,?_,?_,?_⟩
 ·unfold gY;simp only[World.cell?,h4];simp[tQ];omega
 ·unfold gY;simp only[World.cell?,h4];simp[tQ];omega
 ·unfold gY;simp only[World.cell?,h4];simp[tQ];omega
 ·unfold gY;simp only[World.cell?,h4];simp[tQ];omega
theorem aAU {w:World}{g o:Nat}{u:Value}{cur:Array Value}{t:TypeId} (h:w.heap[g]?=some (.cells cur t)) (hc:w.cell? ⟨g,o,none⟩=some u):o<cur.size:=by
 simp only[World.cell?,h] at hc;simp at hc;exact(cM.1 hc).1
theorem fL.step {W w w1:World}{B m i G c:Nat}{l:List VT}{x:VT}{kv iv:Value} (h:fL W B m l i (.slice (some ⟨G,0,none⟩) l.length c) w) (hx:l[i]?=some x) (hb:Below w.heap.size w w1) (hv:eU w.heap.size w1 x.depth x kv iv):fL W B m l (i+1) (.slice (some ⟨G,0,none⟩) l.length c) (gY w1 G (i*4) x kv iv):=by
 obtain⟨p,c',h1,h2,h3⟩:=h;injection h1 with e1 e2 e3;subst e1 e3;refine⟨_,_,rfl,h2,?_⟩;rcases h3 with h3 | ⟨G',e1,hG,⟨cur,e3⟩,e4⟩
 ·rw[h3] at hx;cases hx
 ·injection e1 with e1;injection e1 with e1;subst e1;have hGl:=aF e3;have a1:=hb.block G hGl;obtain⟨_,_,⟨_,_,_,d3⟩,_⟩:=e4 i x hx;have hin:=aAU e3 d3;obtain⟨cur',k1,k2⟩:=aAT (x:=x) (kv:=kv) (iv:=iv) (o:=i*4) (a1.trans e3) (by omega);have hold: ∀ {n:Nat}{t:VT}{a b:Value}{ok:Nat->Prop},(∀k,ok k->k<w1.heap.size->B<=k/\k≠G)->dK ok w1 n t a b->dK (λk=>B<=k/\k≠G) (gY w1 G (i*4) x kv iv) n t a b:=λhk hh=>hh.agree (λk ok lt=>⟨zB (hk k ok lt).2,hk k ok lt⟩);refine .inr ⟨G,rfl,hG,⟨cur',k1⟩,λj y hy=>?_⟩;by_cases hj:j=i
  ·subst hj;rw[hx] at hy;obtain rfl:=bD hy;exact⟨kv,iv,k2,λ_=>hold (λk hk _=>⟨aW (by omega) (aW (Nat.le_of_lt hGl) hk),by omega⟩) hv,λhh=>by omega⟩
  ·obtain⟨ky,iy,⟨b0,b1,b2,b3⟩,b4,b5⟩:=e4 j y hy;refine⟨ky,iy,⟨?_,?_,?_,?_⟩,λhh=>hold (λk hk _=>hk) ((b4 (by omega)).keep hb),λhh=>b5 (by omega)⟩
   ·rw[zC (by omega),fX a1];exact b0
   ·rw[zC (by omega),fX a1];exact b1
   ·rw[zC (by omega),fX a1];exact b2
   ·rw[zC (by omega),fX a1];exact b3
theorem fL.fin {W w:World}{B m:Nat}{k:Int}{s:aA}{ks:List aA}{l:List VT}{kv v:Value} (hk:pT (λk=>B<=k) w kv ks) (h:fL W B m l l.length v w):eU B w (VT.mk k s ks l).depth (VT.mk k s ks l) kv v:=by
 obtain⟨p,c,rfl,h2,h3⟩:=h;rw[VT.depth];refine⟨hk,p,c,rfl,h2,?_⟩;rcases h3 with h3 | ⟨G,e1,hG,e3,e4⟩
 ·exact .inl h3
 ·refine .inr ⟨G,0,e1,hG,e3,λj x hx=>?_⟩;have hj:=(aQ.1 hx).1;obtain⟨kv,iv,⟨b0,b1,b2,b3⟩,b4,b5⟩:=e4 j x hx;obtain⟨q,hq⟩:=Gz (l:=l) (aX hx);refine⟨kv,iv,?_,?_,?_,?_,?_⟩
  ·rw[Nat.zero_add];exact b0
  ·rw[Nat.zero_add];exact b1
  ·rw[Nat.zero_add];exact b2
  ·rw[Nat.zero_add];exact b3
  ·show dK _ w (dI l) x kv iv;rw[hq];exact((b4 hj).mono (λk hk _=>hk.1)).more q
theorem aAV (v:Value) (l:List aA) (w:World) (h:SV w v l) (hl:l.length<=1073741824):
  Calls Tryz.prog 88 #[v] w λe w'=> ∃v',e= .returned v'/\bV w.heap.size l v' w'/\Below w.heap.size w w':=by
 obtain⟨p,c,rfl,hc,hp⟩:=h;cases p with
 | none=>
  have h0:l= []:=by
   rcases hp with h | ⟨g,o,e,_⟩
   ·exact h
   ·cases e
  subst h0;exact(Tryz.slices_Clone_string_nil 0 c w).mono λe w' h=>⟨_,h.1,bV.nil _ _,by rw[h.2];exact aB _ _⟩
 | some ad=>
  by_cases h0:l= []
  ·subst h0;exact(Tryz.slices_Clone_string_zero ad c w).mono λe w' ⟨v',h1,h2,_,h3⟩=>⟨v',h1,h2,h3⟩
  ·obtain⟨x,r,hx⟩: ∃x r,l=x::r:=by
    cases l with
    | nil=>exact absurd rfl h0
    | cons x r=>exact⟨x,r,rfl⟩
   obtain⟨g,o,e,_⟩:=hp.at_ (j:=0) (x:=x) (by rw[hx];rfl);injection e with e;subst e;refine(Tryz.slices_Clone_string g o l.length c (l.map bs) w (by rw[bU];exact aE _) (by omega) (λj hj=>?_)).mono λe w' ⟨v',h1,h2,_,h3⟩=>⟨v',h1,?_,h3⟩
   ·rw[bU] at hj;obtain⟨g',o',e,hcell⟩:=hp.at_ (j:=j) (bJ hj);injection e with e;injection e with e1 e2;subst e1 e2;rw[hcell,List.getD_eq_getElem?_getD,cU,bJ hj];rfl
   ·rw[rZ (by rw[bU];exact aE _),List.map_map] at h2;exact h2
theorem aAW (W:World) (m:Nat) (p:Option Addr) (c:Nat) (l:List VT) (w:World) (hit: ∀(j:Nat) (x:VT),l[j]?=some x-> ∃g o kv iv,p=some ⟨g,o,none⟩/\w.cell? ⟨g,o+j*4,none⟩=some (.int .i64 x.kind)/\w.cell? ⟨g,o+j*4+1,none⟩=some (.string (bs x.text))/\w.cell? ⟨g,o+j*4+2,none⟩=some kv/\w.cell? ⟨g,o+j*4+3,none⟩=some iv/\VD W m x kv iv) (hl:l.length<=1073741824):
  Calls Tryz.prog 89 #[.slice p l.length c] w λe w'=> ∃v,e= .returned v/\fL W w.heap.size m l 0 v w'/\Below w.heap.size w w':=by
 obtain⟨i0,hi0,hz0,hz1,hz2⟩:=info_parts Tryz.infoValue;have q22: ∀(w:World) (a:Option Addr) (n c n' c':Nat),(binOp .eql 24 (.slice a n c) (.slice none n' c')).run Tryz.prog w= .ok (.bool a.isNone) w:=λw a n c n' c'=>Lib.run_eql_slice_nil w _ _ a n c n' c' Tryz.underlying24;have u22: ∀w,Sem.run Tryz.prog (underlying 24) w= .ok (TypeDesc.slice 26) w:=run_underlying Tryz.underlying24;obtain⟨es,he,hes⟩:=Nf (β:=jH) (·.1) l (λj e=> ∃g o,p=some ⟨g,o,none⟩/\w.cell? ⟨g,o+j*4,none⟩=some (.int .i64 e.1.kind)/\w.cell? ⟨g,o+j*4+1,none⟩=some (.string (bs e.1.text))/\w.cell? ⟨g,o+j*4+2,none⟩=some e.2.1/\w.cell? ⟨g,o+j*4+3,none⟩=some e.2.2/\VD W m e.1 e.2.1 e.2.2) (λj x hx=>by obtain⟨g,o,kv,iv,h0,h1,h2,h3,h4,h5⟩:=hit j x hx;exact⟨(x,kv,iv),rfl,g,o,h0,h1,h2,h3,h4,h5⟩);have hv: ∀e∈es,VD W m e.1 e.2.1 e.2.2:=λe he=>by
  obtain⟨j,hj,e1⟩:=List.mem_iff_getElem.1 he;obtain⟨_,_,_,_,_,_,_,h⟩:=hes j e (by rw[bJ hj,e1]);exact h
 have hlen:es.length=l.length:=by rw[<-he,bU]
 have HF:=hid (aI he hv);cases p with
 | none=>
  have h0:l= []:=by
   cases l with
   | nil=>rfl
   | cons x r=>
    obtain⟨g,o,_,_,e,_⟩:=hit 0 x rfl;cases e
  subst h0;clear hit hes hlen hv he;go_enter Tryz.func89,Tryz.ntmps89;go_wp2_with fail;go_ret;exact⟨_,rfl,⟨none,0,rfl,aE _, .inl rfl⟩,aB _ _⟩
 | some ad=>
  obtain⟨news,hnews⟩:=exQ<|kZ es;have hnl:news.length=l.length*4:=by rw[<-hnews,Ng,hlen]
  have HC:Hid (∀j u,news[j]?=some u->w.cell? (ad.add j)=some u):=hid (λj u hj=>by
   rw[<-hnews] at hj;have hjl:=(aQ.1 hj).1;rw[Ng] at hjl;obtain⟨e,hx⟩: ∃e,es[j / 4]?=some e:=⟨_,bJ (by omega)⟩;obtain⟨a0,a1,a2,a3⟩:=xQ es (j / 4) e hx;obtain⟨g',o',e1,b0,b1,b2,b3,_⟩:=hes _ _ hx;injection e1 with e1;subst e1;rw[nW];have hm:j=j / 4*4\/j=j / 4*4+1\/j=j / 4*4+2\/j=j / 4*4+3:=(by omega);rcases hm with e | e | e | e
   ·rw[e] at hj ⊢;rw[a0] at hj;rw[b0];exact hj
   ·rw[e] at hj ⊢;rw[a1] at hj;rw[<-Nat.add_assoc,b1];exact hj
   ·rw[e] at hj ⊢;rw[a2] at hj;rw[<-Nat.add_assoc,b2];exact hj
   ·rw[e] at hj ⊢;rw[a3] at hj;rw[<-Nat.add_assoc,b3];exact hj)
  have H1:Hid (∀u∈news,u.oneCell'=true):=hid (λu hu=>by rw[<-hnews] at hu;obtain⟨e,h1,h2⟩:=List.mem_flatMap.1 hu;exact(hv e h1).one u h2);have HN:=hid hnews;obtain⟨n,hn⟩:=exQ<|l.length;have HL:=hid hn;rw[hn] at hnl hl ⊢;clear hit hes hlen hv hnews he hn;go_enter Tryz.func89,Tryz.ntmps89;go_wp2_with (at_builtin;refine wpList_append_own _ rfl _ _ 24 rfl w.heap.size 26 i0 _ 4 72 Tryz.underlying24 hi0 hz0 hz1 hz2 rfl (by decide) _ _ _ rfl (World.ownsRow_made w #[] 0 (aE _) (cN _) rfl) ad n c news rfl ?qc1 ?qc2 ?qc3 ?qc4 ?qc5 ?qc6 ?_)
  case qc1=>exact hnl
  case qc2=>
   intro j u hj;exact Lib.cell?_alloc_some _ (HC.out j u hj)
  case qc3=>exact H1.out
  case qc4=>unfold maxLen;omega
  case qc5=>omega
  case qc6=>simp
  intro v' w1 hown hgrow hnil;have HR:Hid (fL W w.heap.size m l 0 v' w1):=hid (fL.of HF.out.1 HF.out.2 (by rw[HN.out,HL.out];simpa using hown));have HB:Hid (Below w.heap.size w w1):=hid (((aB _ w).alloc (aE _) _).grown hgrow (by simp) (by intro k hk;simp[Value.ownBlock] at hk;omega));clear hown hgrow hnil;go_wp2_with fail;go_ret;exact⟨_,rfl,HR.out,HB.out⟩
def Eb (n:Nat):Prop:= ∀(t:VT) (kv iv:Value) (w:World),VD w n t kv iv->t.bulk<=1073741824->Calls Tryz.prog 47 #[vv t kv iv] w (jI t w)
def tD:List (Nat×Nat):= [(0,5),(1,6),(3,8),(4,9),(6,11),(8,12)]
structure KF (ops:Array Oper) (W w0:World) (X m:Nat) (t:VT) (K0 I0:Value) (val:Nat->Value) (d:Nat->Bool) (v:Nat->Value) (w':World):Prop where
 clo:nY ops d
 cl: ∀q∈tD,d q.1=true->v q.2=val q.1
 ks:d 2=true->bV w0.heap.size t.keys (v 7) w'
 its:d 5=true->fL W w0.heap.size m t.items 0 (v 10) w'
 bel:Below X w0 w'
 bx:w'.heap[X]?=some (.cells #[.int .i64 t.kind, .string (bs t.text),if d 7 then v 7 else K0,if d 9 then v 10 else I0] 26)
 oth: ∀k,k≠X->k<w0.heap.size->w'.heap[k]?=w0.heap[k]?
section
variable {ops:Array Oper}{W w0:World}{X m:Nat}{t:VT}{K0 I0:Value}{val:Nat->Value}{d:Nat->Bool}{v:Nat->Value}{w' w2:World}
theorem aAX: ∀p∈tD,∀q∈tD,(p.1=q.1->p.2=q.2)/\(p.2=q.2->p.1=q.1):=by decide
theorem Ec: ∀p∈tD,p.2≠7/\p.2≠10/\p.1≠2/\p.1≠5/\p.1≠7/\p.1≠9:=by decide
theorem KF.pure (h:KF ops W w0 X m t K0 I0 val d v w') {i k:Nat}{o:Oper} (ho:ops[i]?=some o) (hall: ∀e∈o.after,Region.binds .any e=true->d e.on=true) (hm:(i,k)∈tD) {x:Value} (hx:x=val i):KF ops W w0 X m t K0 I0 val (bI d i) (bZ v (some k) x) w':=by
 obtain⟨n1,n2,n3,n4,n5,n6⟩:=Ec _ hm;simp only[] at n1 n2 n3 n4 n5 n6;refine⟨h.clo.step ho hall,λq hq hd=>?_,λhd=>?_,λhd=>?_,h.bel,?_,h.oth⟩
 ·obtain⟨o1,o2⟩:=aAX _ hm _ hq;by_cases e:q.1=i
  ·have e2:=o1 e.symm;simp only[] at e2;rw[<-e2,qV,e];exact hx
  ·have e2:q.2≠k:=λe2=>e (o2 e2.symm).symm;rw[gU e2];rw[bM e] at hd;exact h.cl q hq hd
 ·rw[bM (Ne.symm n3)] at hd;rw[gU (Ne.symm n1)];exact h.ks hd
 ·rw[bM (Ne.symm n4)] at hd;rw[gU (Ne.symm n2)];exact h.its hd
 ·rw[bM (Ne.symm n5),bM (Ne.symm n6),gU (Ne.symm n1),gU (Ne.symm n2)];exact h.bx
theorem KF.world (h:KF ops W w0 X m t K0 I0 val d v w') (hb:Below w'.heap.size w' w2):KF ops W w0 X m t K0 I0 val d v w2:=by
 have hX:=aF h.bx;exact⟨h.clo,h.cl,λhd=>(h.ks hd).keep hb,λhd=>(h.its hd).keep (λk _ lt=>hb.block k lt),h.bel.trans (hb.mono (Nat.le_of_lt hX)),(hb.block X hX).trans h.bx,λk hk lt=>(hb.block k (iN lt h.bel.size)).trans (h.oth k hk lt)⟩
theorem KF.callA (h:KF ops W w0 X m t K0 I0 val d v w') {o:Oper} (ho:ops[2]?=some o) (hall: ∀e∈o.after,Region.binds .any e=true->d e.on=true) (h7:d 7=false) {x:Value} (hb:Below w'.heap.size w' w2) (hx:bV w'.heap.size t.keys x w2):KF ops W w0 X m t K0 I0 val (bI d 2) (bZ v (some 7) x) w2:=by
 have g:=h.world hb;refine⟨g.clo.step ho hall,λq hq hd=>?_,λ_=>by rw[qV];exact hx.mono h.bel.size,λhd=>?_,g.bel,?_,g.oth⟩
 ·obtain⟨n1,n2,n3,n4,n5,n6⟩:=Ec _ hq;rw[bM n3] at hd;rw[gU n1];exact g.cl q hq hd
 ·rw[bM (by decide)] at hd;rw[gU (by decide)];exact g.its hd
 ·rw[bM (by decide),bM (by decide),gU (show (10:Nat)≠7 by decide)];have:=g.bx;rw[h7] at this ⊢;exact this
theorem KF.callB (h:KF ops W w0 X m t K0 I0 val d v w') {o:Oper} (ho:ops[5]?=some o) (hall: ∀e∈o.after,Region.binds .any e=true->d e.on=true) (h9:d 9=false) {x:Value} (hb:Below w'.heap.size w' w2) (hx:fL W w'.heap.size m t.items 0 x w2):KF ops W w0 X m t K0 I0 val (bI d 5) (bZ v (some 10) x) w2:=by
 have g:=h.world hb;refine⟨g.clo.step ho hall,λq hq hd=>?_,λhd=>?_,λ_=>by rw[qV];exact hx.low h.bel.size,g.bel,?_,g.oth⟩
 ·obtain⟨n1,n2,n3,n4,n5,n6⟩:=Ec _ hq;rw[bM n4] at hd;rw[gU n2];exact g.cl q hq hd
 ·rw[bM (by decide)] at hd;rw[gU (by decide)];exact g.ks hd
 ·rw[bM (by decide),bM (by decide),gU (show (7:Nat)≠10 by decide)];have:=g.bx;rw[h9] at this ⊢;exact this
theorem KF.store (h:KF ops W w0 X m t K0 I0 val d v w') (hX:X<w0.heap.size) (i c:Nat) (hi:i=7/\c=2\/i=9/\c=3) {o:Oper} (ho:ops[i]?=some o) (hall: ∀e∈o.after,Region.binds .any e=true->d e.on=true) (x:Value):
  KF ops W w0 X m t K0 I0 val (bI d i) (bZ v none x) (w'.setCell ⟨X,c,none⟩ (if c=2 then v 7 else v 10)):=by
 have hoth: ∀k,k≠X->(w'.setCell ⟨X,c,none⟩ (if c=2 then v 7 else v 10)).heap[k]?=w'.heap[k]?:=λk hk=>dC _ ⟨X,c,none⟩ _ k hk;have hsz:(w'.setCell ⟨X,c,none⟩ (if c=2 then v 7 else v 10)).heap.size=w'.heap.size:=by simp[World.setCell]
 have n:i≠2/\i≠5/\ ∀q∈tD,q.1≠i:=by
  rcases hi with⟨rfl,_⟩ | ⟨rfl,_⟩<;>decide
 refine⟨h.clo.step ho hall,λq hq hd=>?_,λhd=>?_,λhd=>?_,h.bel.setCell (p:=⟨X,c,none⟩) (aE _) _,?_,λk hk lt=>(hoth k hk).trans (h.oth k hk lt)⟩
 ·rw[bM (n.2.2 q hq)] at hd;exact h.cl q hq hd
 ·rw[bM (Ne.symm n.1)] at hd;exact(h.ks hd).keepX (λk hk _=>hoth k (by omega))
 ·rw[bM (Ne.symm n.2.1)] at hd;exact(h.its hd).keep (λk hk _=>hoth k (by omega))
 ·rw[gL h.bx];rcases hi with⟨rfl,rfl⟩ | ⟨rfl,rfl⟩
  ·rw[nZ,bM (show (9:Nat)≠7 by decide)];rfl
  ·rw[nZ,bM (show (7:Nat)≠9 by decide)];rfl
theorem KF.g {a:Array Value} (h:KF ops W w0 X m t K0 I0 val d (λk=>a.getD k undef) w') (i k:Nat) (hm:(i,k)∈tD) (hd:d i=true):a[k]?.getD undef=val i:=by
 have:=h.cl _ hm hd;rw[<-aO];exact this
theorem KF.early (h:KF ops W w0 X m t K0 I0 val d v w') {f i j:Nat} (hr:nX ops f j i=true) (hi:d i=false):d j=false:=by
 cases hc:d j with
 | false=>rfl
 | true=>rw[h.clo.reach f _ _ hr hc] at hi;cases hi
end
theorem aAY {P:Program}{ops:Array Oper}{Q:Exit->Act->World->Prop}{id:Nat}{a0:Act}{wB:World} (hm:P.follows .mixedOrders=true) (K:List Nat) (n:Nat) (hn:a0.tmps.size=n) (hback:pR ops=true) (hdst:nV ops K n=true) (h10:ops.size=10)
  (W:World) (X m:Nat) (t:VT) (K0 I0:Value) (val:Nat->Value) (hX:wB.heap[X]?=some (.cells #[.int .i64 t.kind, .string (bs t.text),K0,I0] 26))
  (hs: ∀(d:Nat->Bool) (a:Act) (w:World) (i:Nat) (o:Oper),ops[i]?=some o->d i=false->(∀e∈o.after,Region.binds .any e=true->d e.on=true)->(∀k,k ∉ K->a.tmps.getD k undef=a0.tmps.getD k undef)->KF ops W wB.drew X m t K0 I0 val d (λk=>a.tmps.getD k undef) w->
   ∀R:Act->World->Prop,(∀x w',KF ops W wB.drew X m t K0 I0 val (bI d i) (bZ (λk=>a.tmps.getD k undef) o.dst x) w'->R (a.put o.dst x) w')->o.wp P a w R Q)
  (hd: ∀(v:Nat->Value) (w:World),bV wB.heap.size t.keys (v 7) w->fL W wB.heap.size m t.items 0 (v 10) w->Below X wB w->w.heap[X]?=some (.cells #[.int .i64 t.kind, .string (bs t.text),v 7,v 10] 26)->(∀k,k≠X->k<wB.heap.size->w.heap[k]?=wB.heap[k]?)->Q .normal { a0 with tmps:=cE a0.tmps v K } w):(Code.region id ops true).wp P Q a0 wB:=by
 refine vH hm K n hn hback hdst (λd v w'=>KF ops W wB.drew X m t K0 I0 val d v w') ?_ hs (λv w h=>?_)
 ·exact⟨λ_ _ _ h=>Bool.noConfusion h,λ_ _ h=>Bool.noConfusion h,λh=>Bool.noConfusion h,λh=>Bool.noConfusion h,aB _ _,hX,λ_ _ _=>rfl⟩
 ·have e: ∀i,i<10->decide (i<ops.size)=true:=λi hi=>aN (by omega);have hb:=h.bx;rw[e 7 (by omega),e 9 (by omega)] at hb;have hbel:Below X wB w:=(aB X wB).drew.trans h.bel;exact hd v w (h.ks (e 2 (by omega))) (h.its (e 5 (by omega))) hbel hb h.oth
structure uN (w:World) (X R B:Nat) (t:VT) (n i:Nat) (vk vi:Value) (wr:World):Prop where
 bel:Below w.heap.size w wr
 bx:wr.heap[X]?=some (.cells #[.int .i64 t.kind, .string (bs t.text),vk,vi] 26)
 rb:wr.heap[R]?=some (.cells #[.int .i64 0, .string (bs []), .slice none 0 0, .slice none 0 0] 26)
 ks:bV B t.keys vk wr
 row:fL w B n t.items i vi wr
theorem uN.step {w:World}{X R B:Nat}{t:VT}{n i:Nat}{vk:Value}{wr w1:World}{G c:Nat}{x:VT}{kv iv:Value} (h:uN w X R B t n i vk (.slice (some ⟨G,0,none⟩) t.items.length c) wr) (hx:t.items[i]?=some x) (hX:X<B) (hR:R<B) (hB:w.heap.size<=B) (hb:Below wr.heap.size wr w1) (hv:eU wr.heap.size w1 x.depth x kv iv):
  uN w X R B t n (i+1) vk (.slice (some ⟨G,0,none⟩) t.items.length c) (gY w1 G (i*4) x kv iv):=by
 obtain⟨G',c',_,_,e,hG,hGl,_⟩:=h.row.at_ hx;injection e with e;injection e with e;injection e with e;subst e;obtain⟨cur,hcur⟩: ∃cur,wr.heap[G]?=some (.cells cur 26):=by
  obtain⟨p,c2,h1,h2,h3⟩:=h.row;injection h1 with e1;subst e1;rcases h3 with h3 | ⟨G2,e1,_,e3,_⟩
  ·rw[h3] at hx;cases hx
  ·injection e1 with e1;injection e1 with e1;subst e1;exact e3
 refine⟨aAS (aC h.bel hb) (by omega),?_,?_,?_,h.row.step hx hb hv⟩
 ·rw[zB (by omega)];exact(hb.block X (aF h.bx)).trans h.bx
 ·rw[zB (by omega)];exact(hb.block R (aF h.rb)).trans h.rb
 ·refine h.ks.keepB (λk hk ho lt=>?_);have hne:k≠G:=by
   rintro rfl;rcases h.ks.2 with⟨e,_⟩ | ⟨g,cap,cu,rfl,_,hg,_⟩
   ·rw[e] at ho;cases ho
   ·have:k=g:=(by simpa [Value.ownBlock] using ho);subst this;rw[hcur] at hg;injection hg with hg;injection hg with _ hg;exact absurd hg (by decide)
  rw[zB hne];exact hb.block k lt
def PhR (W0:World) (G o:Nat) (x:VT):Nat->Value->World->Prop
 | 0,_,w'=>Below W0.heap.size W0 w'
 | 1,c,w'=> ∃kv iv,c=vv x kv iv/\eU W0.heap.size w' x.depth x kv iv/\Below W0.heap.size W0 w'
 | _,_,w'=> ∃w1 kv iv,eU W0.heap.size w1 x.depth x kv iv/\Below W0.heap.size W0 w1/\w'=gY w1 G o x kv iv
theorem aBa (n:Nat) (IH:Eb n):Eb (n+1):=by
 intro t kv iv w h hbk;obtain⟨m',hm,hks,p,c,rfl,hlc,hit⟩:=h.parts;obtain rfl:n=m':=by omega
 obtain⟨pk,ck,rfl,hck,hlies⟩:=hks;obtain⟨X,hX⟩:=exQ<|w.heap.size;obtain⟨W1,hW1⟩:=exQ<|w.alloc (.cells #[.int .i64 t.kind, .string (bs t.text), .slice pk t.keys.length ck, .slice p t.items.length c] 26);obtain⟨R,hR⟩:=exQ<|W1.heap.size;obtain⟨W2,hW2⟩:=exQ<|W1.alloc (.cells #[.int .i64 0, .string ⟨#[]⟩, .slice none 0 0, .slice none 0 0] 26);have hB1:Below w.heap.size w W1:=by rw[<-hW1];exact aH _ _
 have hB12:Below W1.heap.size W1 W2:=by rw[<-hW2];exact aH _ _
 have HB2:=hid (aC hB1 hB12);have HXB:Hid (cR W2 X t (.slice pk t.keys.length ck) (.slice p t.items.length c)):=hid (cR.keep (by rw[<-hW1,<-hX];exact cR.new w t _ _) hB12);have HRB:Hid (W2.heap[R]?=some (.cells #[.int .i64 0, .string (bs []), .slice none 0 0, .slice none 0 0] 26)):=hid (by rw[<-hW2,<-hR];exact heap_alloc_new W1 _);have hXR:X<R:=by rw[<-hR,<-hX,<-hW1];simp
 have hR2:R<W2.heap.size:=by rw[<-hW2,<-hR];simp
 have HSZ:=hid (aI hX (aI hXR hR2));have HIT:Hid (∀w',Below w.heap.size w w'-> ∀(j:Nat) (x:VT),t.items[j]?=some x-> ∃g o kv iv,p=some ⟨g,o,none⟩/\w'.cell? ⟨g,o+j*4,none⟩=some (.int .i64 x.kind)/\w'.cell? ⟨g,o+j*4+1,none⟩=some (.string (bs x.text))/\w'.cell? ⟨g,o+j*4+2,none⟩=some kv/\w'.cell? ⟨g,o+j*4+3,none⟩=some iv/\VD w n x kv iv):=hid (λw' hb j x hx=>by obtain⟨g,o,kv,iv,e0,e1,e2,e3,e4,e5,e6⟩:=hit j x hx;exact⟨g,o,kv,iv,e0,bE e2 hb,bE e3 hb,bE e4 hb,bE e5 hb,e6⟩);have HSV:Hid (∀w',Below w.heap.size w w'->SV w' (.slice pk t.keys.length ck) t.keys):=hid (λw' hb=>⟨pk,ck,rfl,hck,hlies.keep hb⟩);have hb0:t.bulk=t.text.length+(kG t.keys+t.keys.length)+eK t.items+1:=by cases t;rw[VT.bulk];rfl
 have hlen:=rR t.items;have HN:=hid (show t.keys.length<=1073741824/\t.items.length<=1073741824/\eK t.items<=1073741824 from ⟨by omega,by omega,by omega⟩);unfold vv;clear hit hlies h hm hB1 hB12 hb0 hlen hbk hck hlc hXR hR2;go_enter Tryz.func47,Tryz.ntmps47;go_upto_region 1 with fail;clear hW1 hW2 hR hX;have hfol:Tryz.prog.follows .mixedOrders=true:=by kernel_rfl
 refine aAY hfol [5,6,7,8,9,10,11,12] 29 rfl (by kernel_rfl) (by kernel_rfl) rfl w X n t (.slice pk t.keys.length ck) (.slice p t.items.length c) (λiz=>match iz with | 0=> .pointer (some ⟨X,2,none⟩) | 1=> .slice pk t.keys.length ck | 3=> .pointer (some ⟨X,3,none⟩) | 4=> .slice p t.items.length c | 6=> .pointer (some ⟨X,2,none⟩) | 8=> .pointer (some ⟨X,3,none⟩) | _=>undef) HXB.out ?_ ?_
 ·intro d a w' iq o' ho hi hall hfr hF R' hR;have hiN:iq<10:=(cM.1 ho).1;have q1:a.tmps[1]?.getD undef= .pointer (some ⟨X,0,none⟩):=aY hfr 1 (by decide);clear hfr;have ha:=hall;have hoo:=ho;have hbw:Below w.heap.size w w':=HB2.out.trans ((aB _ _).drew.trans (hF.bel.mono (by rw[HSZ.out.1];exact aE _)));have hcs:iq=2\/iq=5\/iq=7\/iq=9\/iq=1\/iq=4\/iq=0\/iq=3\/iq=6\/iq=8:=by omega
  clear hiN;rcases hcs with rfl|rfl|rfl|rfl|rfl|rfl|rfl|rfl|rfl|rfl<;>simp only[dW,dA,cD,cS] at ho<;>subst ho<;>(try simp[Region.binds] at hall)
  ·have c6:=hF.g 1 6 (by decide) (by simp[hall]);have h7:=hF.early (f:=10) (i:=2) (j:=7) (by kernel_rfl) hi;go_simp;go_at_call 88;refine(aAV _ t.keys w' (HSV.out _ hbw) HN.out.1).mono ?_;rintro e w5 ⟨v5,rfl,ho5,hb5⟩;exact hR _ _ (hF.callA hoo ha h7 hb5 ho5)
  ·have c9:=hF.g 4 9 (by decide) (by simp[hall]);have h9:=hF.early (f:=10) (i:=5) (j:=9) (by kernel_rfl) hi;go_simp;go_at_call 89;refine(aAW w n p c t.items w' (HIT.out _ hbw) HN.out.2.1).mono ?_;rintro e w5 ⟨v5,rfl,ho5,hb5⟩;exact hR _ _ (hF.callB hoo ha h9 hb5 ho5)
  ·have c11:=hF.g 6 11 (by decide) (by simp[hall]);obtain⟨p7,z7,h7⟩:=(hF.ks (by simp[hall])).slice;have h7:a.tmps.getD 7 undef= .slice p7 t.keys.length z7:=h7;have c7:a.tmps[7]?.getD undef= .slice p7 t.keys.length z7:=by rw[<-aO];exact h7
   obtain⟨x0,x1,x2,x3,f0,f1,f2,f3⟩:=bC hF.bx;have hst:=hF.store (by have:=HSZ.out;show X<W2.heap.size;omega) 7 2 (.inl ⟨rfl,rfl⟩) hoo ha undef;rw[if_pos rfl,h7] at hst;clear x0 x1 x3 f0 f1 f3;go_simp;exact hR undef _ hst
  ·have c12:=hF.g 8 12 (by decide) (by simp[hall]);obtain⟨p7,z7,h7⟩:=(hF.its (by simp[hall])).slice;have h7:a.tmps.getD 10 undef= .slice p7 t.items.length z7:=h7;have c7:a.tmps[10]?.getD undef= .slice p7 t.items.length z7:=by rw[<-aO];exact h7
   obtain⟨x0,x1,x2,x3,f0,f1,f2,f3⟩:=bC hF.bx;have hst:=hF.store (by have:=HSZ.out;show X<W2.heap.size;omega) 9 3 (.inr ⟨rfl,rfl⟩) hoo ha undef;rw[if_neg (by decide),h7] at hst;clear x0 x1 x2 f0 f1 f2;go_simp;exact hR undef _ hst
  ·have c5:=hF.g 0 5 (by decide) (by simp[hall]);have hbx:=hF.bx;rw[hF.early (f:=10) (i:=1) (j:=7) (by kernel_rfl) hi] at hbx;obtain⟨x0,x1,x2,x3,_⟩:=bC hbx;simp only[Bool.false_eq_true,if_false] at x2;clear x0 x1 x3;go_simp;exact hR _ _ (hF.pure hoo ha (by decide) rfl)
  ·have c8:=hF.g 3 8 (by decide) (by simp[hall]);have hbx:=hF.bx;rw[hF.early (f:=10) (i:=4) (j:=9) (by kernel_rfl) hi] at hbx;obtain⟨x0,x1,x2,x3,_⟩:=bC hbx;simp only[Bool.false_eq_true,if_false] at x3;clear x0 x1 x2;go_simp;exact hR _ _ (hF.pure hoo ha (by decide) rfl)
  iterate 4 (go_simp;exact hR _ _ (hF.pure hoo ha (by decide) rfl))
 intro v wz h1 h2 h3 h4 h5;simp only[cE,eE,dF,eF];obtain⟨p7,z7,e7⟩:=h1.slice;obtain⟨p10,z10,e10⟩:=h2.slice;rw[e7] at h1 h4;rw[e10] at h2 h4;obtain⟨B,hBe⟩:=exQ<|W2.heap.size;have HC0:Hid (uN w X R B t n 0 (.slice p7 t.keys.length z7) (.slice p10 t.items.length z10) wz):=hid (by have:=HSZ.out;rw[hBe] at h1 h2;exact⟨HB2.out.trans (h3.mono (by omega)),h4,(h5 R (by omega) (by omega)).trans HRB.out,h1,h2⟩);have HXR:Hid (X<B/\R<B/\w.heap.size<=B/\w.heap.size<=R):=hid (by have:=HSZ.out;omega);obtain⟨b0,b1,b2,b3,_⟩:=bC h4;clear h1 h2 h3 h4 h5 e7 e10 hBe;go_wp2_with fail;go_loopw [16] (λs16 wr=> ∃i:Nat,s16= .int .i64 (i:Int)/\i<=t.items.length/\Hid (uN w X R B t n i (.slice p7 t.keys.length z7) (.slice p10 t.items.length z10) wr)) (λs16 _=>t.items.length-(RowKit.intOf s16).toNat)
 case atStart=>exact⟨0,rfl,cN _,by first | exact HC0 | exact hid HC0.out⟩
 case round=>
  obtain⟨i,rfl,hi,HC⟩:=hrel;clear b0 b1 b2 b3;obtain⟨b0,b1,b2,b3,_⟩:=bC HC.out.bx;by_cases hil:i<t.items.length
  ·obtain⟨x,hx⟩: ∃x,t.items[i]?=some x:=⟨_,bJ hil⟩;have hi1:(i:Int)<(t.items.length:Int):=(by omega);have dk:decide ((i:Int)<(t.items.length:Int))=true:=aN hi1;have hni:(t.items.length:Int)<=1073741824:=by have:=HN.out.2.1;omega
   have hxb:=tN (aX hx);obtain⟨G,cG,kv',iv',hvG,hGB,hGl,⟨n0,n1,n2,n3⟩,hvd,hfz⟩:=HC.out.row.at_ hx;injection hvG with e1 e2 e3;subst e1 e3;obtain⟨pk2,ck2,px,cx,rfl,rfl⟩:=hvd.form;have hi0:(0:Int)<=(i:Int):=(by omega);obtain⟨wa,hwa⟩:=exQ<|wr.alloc (.cells #[.int .i64 x.kind, .string (bs x.text), .slice pk2 x.keys.length ck2, .slice px x.items.length cx] 26);obtain⟨V,hV⟩:=exQ<|wr.heap.size;have HBa:Hid (Below wr.heap.size wr wa):=hid (by rw[<-hwa];exact aH _ _);have HVB:Hid (cR wa V x (.slice pk2 x.keys.length ck2) (.slice px x.items.length cx)):=hid (by rw[<-hwa,<-hV];exact cR.new wr x _ _);obtain⟨W0,hW0⟩:=exQ<|wa.drew;have HB0:Hid (Below wr.heap.size wr W0):=hid (by rw[<-hW0];exact HBa.out.drew);have HB0a:Hid (Below wa.heap.size wa W0):=hid (by rw[<-hW0];exact(aB _ _).drew);have HCL:Hid (∀w',Below W0.heap.size W0 w'->Calls Tryz.prog 47 #[.agg #[.int .i64 x.kind, .string (bs x.text), .slice pk2 x.keys.length ck2, .slice px x.items.length cx]] w' (jI x w')):=hid (λw' hb=>IH x _ _ w' (hvd.keep (aC (aC HC.out.bel HB0.out) hb)) (by have:=HN.out;omega));have HXV:Hid (wr.heap[X]?=some (.cells #[.int .i64 t.kind, .string (bs t.text), .slice p7 t.keys.length z7, .slice (some ⟨G,0,none⟩) t.items.length z10] 26)):=hid HC.out.bx;have HG4:Hid (∀w',Below W0.heap.size W0 w'->(w'.cell? ⟨G,i*4,none⟩=some (.int .i64 x.kind)/\w'.cell? ⟨G,i*4+1,none⟩=some (.string (bs x.text))/\w'.cell? ⟨G,i*4+2,none⟩=some (.slice pk2 x.keys.length ck2)/\w'.cell? ⟨G,i*4+3,none⟩=some (.slice px x.items.length cx))/\ ∀o,w'.frozen? ⟨G,o,none⟩=false):=hid (λw' hb=>by have hb2:=aC HB0.out hb;exact⟨⟨bE n0 hb2,bE n1 hb2,bE n2 hb2,bE n3 hb2⟩,λo=>by rw[hb2.frozen (p:=⟨G,o,none⟩) hGl];exact hfz o⟩);have HX:=hid hx;clear hx hxb hvd hGB hGl hfz;go_upto_region 5 with fail;clear b0 b1 b2 b3 n0 n1 n2 n3 hwa hV;obtain⟨SA,hSA⟩: ∃S:World->Prop,(λw'=>w'.cell? ⟨X,3,none⟩=some (.slice (some ⟨G,0,none⟩) t.items.length z10)/\w'.cell? ⟨V,0,none⟩=some (.int .i64 x.kind)/\w'.cell? ⟨V,1,none⟩=some (.string (bs x.text))/\w'.cell? ⟨V,2,none⟩=some (.slice pk2 x.keys.length ck2)/\w'.cell? ⟨V,3,none⟩=some (.slice px x.items.length cx))=S:=⟨_,rfl⟩;have HSA:Hid (∀w',Below W0.heap.size W0 w'->SA w'):=hid (λw' hb=>by rw[<-hSA];obtain⟨a0,a1,a2,a3⟩:=(HVB.out.keep (aC HB0a.out hb)).cells;obtain⟨_,_,_,x3,_⟩:=bC HXV.out;exact⟨bE x3 (aC HB0.out hb),a0,a1,a2,a3⟩);have hfol:Tryz.prog.follows .mixedOrders=true:=(by kernel_rfl);refine kR hfol [some 21,some 22,some 23,some 24,some 25,some 26,none] [21,22,23,24,25,26] [4,6] 1000000 (λ_ _=>True) 29 rfl (by kernel_rfl) (by kernel_rfl) (by kernel_rfl) (λiz=>match iz with | 0=> .pointer (some ⟨X,3,none⟩) | 1=> .slice (some ⟨G,0,none⟩) t.items.length z10 | 2=> .int .i64 (i:Int) | 3=> .agg #[.int .i64 x.kind, .string (bs x.text), .slice pk2 x.keys.length ck2, .slice px x.items.length cx] | 5=> .pointer (some ⟨G,i*4,none⟩) | _=>undef) SA (PhR W0 G (i*4) x) (by rw[hW0];exact HSA.out _ (aB _ _)) (by rw[hW0];exact aB _ _) ?_ ?_
   ·intro d a w' iq o' ho hi hall hfr hF R' hR;have hiN:iq<7:=(cM.1 ho).1;have q1:a.tmps[1]?.getD undef= .pointer (some ⟨X,0,none⟩):=aY hfr 1 (by decide);have q3:a.tmps[3]?.getD undef= .int .i64 (i:Int):=aY hfr 3 (by decide);have q4:a.tmps[4]?.getD undef= .pointer (some ⟨V,0,none⟩):=aY hfr 4 (by decide);have hc:=hF.all [(0,21),(1,22),(2,23),(3,24),(5,26)] (by decide);dsimp only[eW] at hc;clear hfr;have ha:=hall;have hoo:=ho;have hcs:iq=4\/iq=6\/iq=0\/iq=2\/iq=5\/iq=1\/iq=3:=(by omega);clear hiN;rcases hcs with rfl|rfl|rfl|rfl|rfl|rfl|rfl<;>simp only[dW,dA,cD,cS] at ho<;>subst ho<;>(try simp[Region.binds] at hall)
    ·have c24:=hF.g 3 24 rfl (by decide) (by decide) (by decide) (by simp[hall]);have hP0:=hF.at2 (j:=0) rfl hi (.inl rfl);have hA:Below W0.heap.size W0 w':=hP0;go_simp;go_at_call 47;refine(HCL.out _ hA).mono ?_;rintro e w5 ⟨⟨kv5,iv5,rfl,hv5⟩,hb5⟩;have hb6:=aC hA hb5;exact hR _ _ (hF.eff2 (by kernel_rfl) (by decide) 0 hoo ha rfl hi (.inl rfl) rfl (by decide) (λ_ _ _=>trivial) (λ_=>HSA.out _ hb6) ⟨kv5,iv5,rfl,hv5.mono (λq hq _=>aW hA.size hq),hb6⟩)
    ·have c26:=hF.g 5 26 rfl (by decide) (by decide) (by decide) (by simp[hall]);have hpv:d 4=true:=(by simp[hall]);have hP0:=hF.at2 (j:=1) rfl hi (.inr ⟨4,rfl,hpv⟩);obtain⟨kv5,iv5,hc5,hv5,hb5⟩:=hP0;obtain⟨u1,u2,u3,u4,rfl,rfl⟩:=hv5.form;have hc5:a.tmps.getD 25 undef=vv x (.slice u1 x.keys.length u2) (.slice u3 x.items.length u4):=hc5;have c25:a.tmps[25]?.getD undef= .agg #[.int .i64 x.kind, .string (bs x.text), .slice u1 x.keys.length u2, .slice u3 x.items.length u4]:=by rw[<-aO];exact hc5
     clear hc5;obtain⟨⟨m0,m1,m2,m3⟩,mf⟩:=HG4.out _ hb5;obtain⟨f0,f1,f2,f3⟩:=aI (mf (i*4)) (aI (mf (i*4+1)) (aI (mf (i*4+2)) (mf (i*4+3))));clear mf;go_simp;exact hR undef _ (hF.eff2 (by kernel_rfl) (by decide) 1 hoo ha rfl hi (.inr ⟨4,rfl,hpv⟩) rfl (by decide) (λ_ _ _=>trivial) (λh=>absurd rfl h) ⟨w',_,_,hv5,hb5,rfl⟩)
    iterate 3 (go_simp;exact hR _ _ (hF.pure (by kernel_rfl) hoo ha rfl (by decide) (by decide) (by decide) rfl))
    all_goals
     have hS0:=hF.early (f:=7) (by kernel_rfl) hi;rw[<-hSA] at hS0;obtain⟨x3,v0,v1,v2,v3⟩:=hS0;go_simp;exact hR _ _ (hF.pure (by kernel_rfl) hoo ha rfl (by decide) (by decide) (by decide) rfl)
   intro v wz hcl hP2;obtain⟨w1,kv5,iv5,hv5,hb5,rfl⟩:=hP2;have HCn:Hid (uN w X R B t n (i+1) (.slice p7 t.keys.length z7) (.slice (some ⟨G,0,none⟩) t.items.length z10) (gY w1 G (i*4) x kv5 iv5)):=hid (HC.out.step HX.out HXR.out.1 HXR.out.2.1 HXR.out.2.2.1 (aC HB0.out hb5) (hv5.mono (λq hq _=>aW HB0.out.size hq)));obtain⟨WN,hWN⟩:=exQ<|gY w1 G (i*4) x kv5 iv5;rw[hWN] at HCn ⊢;clear hcl hv5 hb5 HSA hSA HG4 HXV HCL HB0a HB0 HVB HBa hW0 HC hWN;simp only[cE,eE,dF,eF];go_wp2_with fail;go_roundw
   case rel=>exact⟨i+1,by go_num,by omega,HCn⟩
   case measure=>simp[RowKit.intOf];omega
  ·have dk:decide ((i:Int)<(t.items.length:Int))=false:=aJ (by omega);obtain rfl:i=t.items.length:=(by omega);have HT:Hid (eU w.heap.size wr t.depth t (.slice p7 t.keys.length z7) (.slice p10 t.items.length z10)):=hid (by have:=fL.fin (k:=t.kind) (s:=t.text) ((HC.out.ks.toSVx).agree (λq hq _=>⟨rfl,hq.1⟩)) HC.out.row;rw[VT.eta] at this;exact this.mono (λq hq _=>aW HXR.out.2.2.1 hq));have HP:Hid (jI t w (.returned (vv t (.slice p7 t.keys.length z7) (.slice p10 t.items.length z10))) (bF wr R t.kind t.text (.slice p7 t.keys.length z7) (.slice p10 t.items.length z10))):=hid (by have h1:=fL.fin (k:=t.kind) (s:=t.text) ((HC.out.ks.toSVx).agree (λq hq _=>⟨rfl,hq.1⟩)) HC.out.row;rw[VT.eta] at h1;exact⟨⟨_,_,rfl,h1.agree (λq hq lt=>⟨qB (by have:=HXR.out;omega),aW HXR.out.2.2.1 hq⟩)⟩,oL HC.out.bel HXR.out.2.2.2⟩);have HRf:Hid ((bF wr R t.kind t.text (.slice p7 t.keys.length z7) (.slice p10 t.items.length z10)).heap[R]?=some (.cells #[.int .i64 t.kind, .string (bs t.text),(.slice p7 t.keys.length z7),(.slice p10 t.items.length z10)] 26)):=hid (rC HC.out.rb);obtain⟨r0,r1,r2,r3,f0,f1,f2,f3⟩:=bC HC.out.rb;go_wp2_with fail;obtain⟨WF,hWF⟩:=exQ<|bF wr R t.kind t.text (.slice p7 t.keys.length z7) (.slice p10 t.items.length z10);rw[hWF] at HP HRf;have hWF':(((wr.setCell ⟨R,0,none⟩ (.int .i64 t.kind)).setCell ⟨R,1,none⟩ (.string (bs t.text))).setCell ⟨R,2,none⟩ (.slice p7 t.keys.length z7)).setCell ⟨R,3,none⟩ (.slice p10 t.items.length z10)=WF:=hWF;rw[hWF'];clear hWF hWF' r0 r1 r2 r3 f0 f1 f2 f3;obtain⟨d0,d1,d2,d3,_⟩:=bC HRf.out;refine bodyPost_ret (v:=vv t (.slice p7 t.keys.length z7) (.slice p10 t.items.length z10)) ?_ rfl HP.out;simp[results,Tryz.results47,go_sem,d0,d1,d2,d3,vv]
theorem Nh: ∀n,Eb n
 | 0=>λ_ _ _ _ h=>h.elim
 | n+1=>aBa n (Nh n)
end
section
open Go.RowKit Go.Shelf
def zD (ops:Array Oper):Bool:=ops.all λo=>match o.op with
 | .defer _=>false
 | _=>true
theorem aBb {ops:Array Oper} (h:zD ops=true) (i:Nat) (o:Oper) (ho:ops[i]?=some o) (c:_):o.op≠ .defer c:=by
 intro e;unfold zD at h;have:=Array.all_eq_true'.1 h o (Array.mem_of_getElem? ho);rw[e] at this;cases this
theorem aBc {F:Fence}{n:Nat}{P:Program} (l:Nat) (o:Oper) (a:Act) (K:Act->World->Prop) (Q:Exit->Act->World->Prop): ∀r,o.uponIn F n P a K Q r->o.uponIn (F.inRound l) n P a K Q r
 | .ok x w'=>λh=>by cases x<;>exact h
 | .halt x w'=>λh=>by cases x<;>exact h
theorem Ni {F:Fence}{n:Nat}{P:Program}{md:Region.Mode}{ops:Array Oper}{Q:Exit->Act->World->Prop} (l:Nat) (hro:F.round=none) (hnd: ∀(i:Nat) (o:Oper),ops[i]?=some o-> ∀c,o.op≠ .defer c):
  ∀(fuel:Nat) (listed:Array Bool) (a:Act) (w:World),wpAnyIn F n P md ops Q fuel listed a w->wpAnyIn (F.inRound l) n P md ops Q fuel listed a w
 | 0,_,_,_,h=>h
 | fuel+1,listed,a,w,h=>by
  refine⟨h.1,λi hi=>?_⟩;have h2:=wpOpIn_mono (λa' w' hh=>Ni l hro hnd fuel (listed.setIfInBounds i true) a' w' hh) (h.2 i hi);unfold wpOpIn at h2 ⊢;cases ho:ops[i]? with
  | none=>rw[ho] at h2;exact h2
  | some o=>
   rw[ho] at h2;simp only[] at h2 ⊢;by_cases hw:Region.wanted o (yielded ops a.tmps)=true
   ·rw[if_pos hw] at h2 ⊢;refine⟨h2.1,?_⟩;have h3:=h2.2;rw[hro] at h3;show o.uponIn (F.inRound l) n P a _ Q ((o.semAt (some l) a.eval).run P w);rw[Oper.semAt_some l _ _ (hnd i o ho)];exact aBc l o a _ Q _ h3
   ·rw[if_neg hw] at h2 ⊢;exact h2
theorem aBd {n:Nat}{P:Program}{o:Oper}{a:Act}{w:World}{K:Act->World->Prop}{Q:Exit->Act->World->Prop} (h:o.wp P a w K Q):o.wpIn Fence.wide n P a w K Q:=by
 refine⟨λ_ _=>trivial,?_⟩;unfold Oper.wp at h;show o.uponIn Fence.wide n P a K Q ((execOp a.eval o).run P w);generalize (execOp a.eval o).run P w=r at h ⊢;cases r with
 | ok x w'=>
  cases x with
  | value v=>exact h
  | skip=>exact h
  | defer d=>exact h
  | enter f args=>exact⟨(λe=>by cases e),callsIn_wide.2 h⟩
  | row r args=>exact⟨(λe=>by cases e),λc cs _=>let ⟨v,w',q,s⟩:=(show Rows P r args w' _ from h) c cs;⟨v,w',q,stepsIn_wide.2 s⟩⟩
  | _=>exact h.elim
 | halt x w'=>cases x<;>exact h
theorem aBe {m:Nat}{P:Program}{md:Region.Mode}{ops:Array Oper}{Q:Exit->Act->World->Prop} (Inv:Array Bool->Act->World->Prop)
  (hs: ∀(L:Array Bool) (a:Act) (w:World) (i:Nat) (o:Oper),L.size=ops.size->ops[i]?=some o->L.getD i true=false->(∀e∈o.after,Region.binds md e=true->L.getD e.on false=true)->Inv L a w->
   ∀K:Act->World->Prop,(∀a' w',Inv (L.setIfInBounds i true) a' w'->K a' w')->if Region.wanted o (yielded ops a.tmps)=true then o.wp P a w K Q else K (a.put o.dst undef) w)
  (hd: ∀(L:Array Bool) (a:Act) (w:World),L.size=ops.size->Inv L a w->Region.ready md ops L= []->Q .normal a w):
  ∀(fuel:Nat) (L:Array Bool) (a:Act) (w:World),L.size=ops.size->L.toList.countP (λb=>!b)<=fuel->Inv L a w->wpAnyIn Fence.wide m P md ops Q fuel L a w:=by
 intro fuel
 induction fuel with
 | zero=>
  intro L a w hL hc hI;have hr:Region.ready md ops L= []:=by
   rw[List.eq_nil_iff_forall_not_mem];intro i hi;have:=xN L i (mem_ready.1 hi).1;omega
  exact⟨hr,hd L a w hL hI hr⟩
 | succ fuel ih=>
  intro L a w hL hc hI;refine⟨λhr=>hd L a w hL hI hr,λi hi=>?_⟩;obtain⟨h0,o,ho,hall⟩:=mem_ready.1 hi;have h2:=hs L a w i o hL ho h0 hall hI (wpAnyIn Fence.wide m P md ops Q fuel (L.setIfInBounds i true)) (λa' w' h=>ih _ _ _ (by simpa using hL) (by have:=xN L i h0;omega) h);unfold wpOpIn;rw[ho];simp only[];by_cases hw:Region.wanted o (yielded ops a.tmps)=true
  ·rw[if_pos hw] at h2 ⊢;exact aBd h2
  ·rw[if_neg hw] at h2 ⊢;exact⟨λ_ _=>trivial,h2⟩
theorem aBf {m:Nat}{P:Program}{ops:Array Oper}{Q:Exit->Act->World->Prop}{a0:Act}{w0:World} (K:List Nat) (n:Nat) (hn:a0.tmps.size=n) (hback:pR ops=true) (hdst:nV ops K n=true)
  (F:(Nat->Bool)->(Nat->Value)->World->Prop) (h0:F (λ_=>false) (λk=>a0.tmps.getD k undef) w0.drew)
  (hs: ∀(d:Nat->Bool) (a:Act) (w:World) (i:Nat) (o:Oper),ops[i]?=some o->d i=false->(∀e∈o.after,Region.binds .any e=true->d e.on=true)->(∀k,k ∉ K->a.tmps.getD k undef=a0.tmps.getD k undef)->F d (λk=>a.tmps.getD k undef) w->
   ∀R:Act->World->Prop,(∀x w',F (bI d i) (bZ (λk=>a.tmps.getD k undef) o.dst x) w'->R (a.put o.dst x) w')->o.wp P a w R Q)
  (hd: ∀(v:Nat->Value) (w:World),F (λi=>decide (i<ops.size)) v w->Q .normal { a0 with tmps:=cE a0.tmps v K } w):wpAnyIn Fence.wide m P .any ops Q ops.size (Array.replicate ops.size false) a0 w0.drew:=by
 subst hn;refine aBe (λL a w=>(a.defers=a0.defers/\a.tmps.size=a0.tmps.size/\ ∀k,k ∉ K->a.tmps.getD k undef=a0.tmps.getD k undef)/\F (λi=>L.getD i false) (λk=>a.tmps.getD k undef) w) ?_ ?_ ops.size _ a0 _ (by simp) (by rw[Array.toList_replicate,List.countP_replicate];split<;>omega) ⟨⟨rfl,rfl,λk _=>rfl⟩,?_⟩
 ·intro L a w i o hL ho hi hall hI R hR;obtain⟨⟨h1,h2,h3⟩,hF⟩:=hI;have hlt:i<L.size:=by rw[hL];exact(cM.1 ho).1
  have hw:Region.wanted o (yielded ops a.tmps)=true:=by simp[Region.wanted,(xO hback ho).2]
  rw[if_pos hw];refine hs (λi=>L.getD i false) a w i o ho ?_ hall h3 hF R λx w' hx=>hR _ _ ⟨⟨?_,?_,λk hk=>?_⟩,?_⟩
  ·rw[aO,Array.getElem?_eq_getElem hlt] at hi ⊢;simpa using hi
  ·unfold Act.put;cases o.dst<;>exact h1
  ·unfold Act.put;cases o.dst
   ·exact h2
   ·rw[Array.size_setIfInBounds];exact h2
  ·rw[<-h3 k hk];have hg:=congrFun (tR a o.dst x (λt ht=>by rw[h2];exact(pS hdst ho t ht).2)) k;have e: ∀t,o.dst=t->bZ (λk=>a.tmps.getD k undef) t x k=a.tmps.getD k undef:=λt ht=>by
    cases t with
    | none=>rfl
    | some t=>exact if_neg (λh=>hk (by rw[h];exact(pS hdst ho t ht).1))
   exact hg.trans (e _ rfl)
  ·rw[Ap L i hlt,tR a o.dst x (λt ht=>by rw[h2];exact(pS hdst ho t ht).2)];exact hx
 ·intro L a w hL hI hr;obtain⟨⟨h1,h2,h3⟩,hF⟩:=hI;have hall:=Gy hback hL hr;have hfun:(λi=>L.getD i false)=λi=>decide (i<ops.size):=by
   funext i;by_cases hi:i<ops.size
   ·rw[hall i hi,aN hi]
   ·rw[aJ hi,aO,Array.getElem?_eq_none (by omega)];rfl
  rw[hfun] at hF;have:=hd _ w hF;have ha:a= { a0 with tmps:=cE a0.tmps (λk=>a.tmps.getD k undef) K }:=by
   cases a with
   | mk tmps defers=>
    simp only at h1 h2 h3 ⊢;rw[h1];congr 1;refine Array.ext_getElem? λj=>?_;by_cases hj:j<a0.tmps.size
    ·rw[xP _ _ j hj];have hget:tmps[j]?=some (tmps.getD j undef):=by rw[aO,Array.getElem?_eq_getElem (by omega)];rfl
     split
     ·exact hget
     ·rename_i hk;rw[hget,h3 j hk,aO,Array.getElem?_eq_getElem hj];rfl
    ·rw[Array.getElem?_eq_none (by omega),Array.getElem?_eq_none (by rw[vG];omega)]
  rw[ha];exact this
 ·have:(λi=>(Array.replicate ops.size false).getD i false)=λ_=>false:=by
   funext i;rw[aO,Array.getElem?_replicate];split<;>rfl
  rw[this];exact h0
theorem aBg {P:Program}{ops:Array Oper}{Q:Exit->Act->World->Prop}{id l m:Nat}{a0:Act}{w0:World} (hm:P.follows .mixedOrders=true) (hnd:zD ops=true) (h:wpAnyIn Fence.wide m P .any ops Q ops.size (Array.replicate ops.size false) a0 w0.drew):(Code.region id ops true).wpIn (Fence.wide.inRound l) m P Q a0 w0:=
 wpIn_region_any hm (Ni l rfl (aBb hnd) _ _ _ _ h)
theorem aBh {P:Program}{α:Type}{g:Operand}{ps:Array Tmp}{assign body:Code}{Q:Exit->Act->World->Prop}{a:Act}{w:World}{n:Nat}
  {gf:Nat}{lb:Array Value} (hg:a.eval g= .func (.func gf) #[] lb) (eg: ∀args w,(callFunc gf args).run P w= .ok (.enter gf args) w)
  {encs:α->Array Value} (hps: ∀x,(encs x).size=ps.size) {S:List α->Prop}{Px:List α->α->Prop}{Ok Kp:World->World->Prop}
  (hOk: ∀A B,Ok A B-> ∀i,w.heap.size<=i->i<A.heap.size->B.heap[i]?=A.heap[i]?)
  (hseq: ∀(l:Nat) (J:List α->World->Prop) (W:World),Below w.heap.size w W->(∀pre A B,J pre A->Ok A B->J pre B)->
   (∀pre x W1,J pre W1->Px pre x->YieldAt Fence.wide (n-1-1) P l (encs x) W1 λe W'=>e= .returned (.bool true)/\J (pre++ [x]) W'/\Kp W1 W')->J [] W->
   CallsIn Fence.wide (n-1) P gf (#[.func (.yield l) #[] #[]]++lb) W λe W'=>(∃v,e= .returned v)/\ ∃ys,S ys/\J ys W')
  (hKt: ∀A B C,Kp A B->Kp B C->Kp A C) (hKb: ∀(W:World) (l:Nat) (o o':Obj),w.heap.size<=l->W.heap[l]?=some o->o.isCells=false->Kp W (W.putObj l o'))
  (I:List α->World->Prop) (hI: ∀pre A B,I pre A->Ok A B->I pre B) (hIp: ∀pre (A:World) (l:Nat) (o o':Obj),I pre A->w.heap.size<=l->A.heap[l]?=some o->o.isCells=false->I pre (A.putObj l o'))
  (hIa: ∀pre (A:World) (o:Obj),I pre A->I pre (A.alloc o)) (h0:I [] w)
  (hbody: ∀(l:Nat) (pre:List α) (x:α) (W:World),w.heap.size<=l->l<W.heap.size->I pre W->Px pre x->
   assign.wpIn (Fence.wide.inRound l) (n-1-1) P (Exit.then (λa' W'=>KeepsFrom w.heap.size W W'/\Kp W W'/\ ∀o o',W'.heap[l]?=some o->o.isCells=false->body.wpIn (Fence.wide.inRound l) (n-1-1) P
    (λe _ W3=>e= .normal/\KeepsFrom w.heap.size (W'.putObj l o') W3/\I (pre++ [x]) W3/\Kp (W'.putObj l o') W3) a' (W'.putObj l o')) (λ_ _ _=>False))
    { tmps:=(ps.zip (encs x)).foldl (λt (p,v)=>t.setIfInBounds p v) a.tmps,defers:= [] } W)
  (hdone: ∀(D:Nat) (ys:List α) (W:World),w.heap.size<=D->S ys->I ys W->W.heap[D]?=some (.deferred (some []))->Q .normal { a with defers:= { target:= .collected D,args:= #[] }::a.defers } W):
  (Code.rangeFunc g ps assign body).wpIn Fence.wide n P Q a w:=by
 refine wpIn_rangeFunc ?_;intro fn hfn;obtain⟨rec,hrec⟩: ∃rec:LoopState->Loop,rec=λst=> { state:=st,pending:=none,fn,tmps:=a.tmps,params:=ps,assign,body,defers:=w.heap.size }:=⟨_,rfl⟩;obtain⟨W1,hW1⟩:=exQ<|(w.alloc (.deferred (some []))).alloc (.loop (rec .ready));obtain⟨D,hD⟩:=exQ<|w.heap.size;have sL:W1.heap[D+1]?=some (.loop (rec .ready)):=by
  have:=World.alloc_heap_new (w.alloc (.deferred (some []))) (.loop (rec .ready))
  rwa [kK,hD,hW1] at this
 have sK:W1.heap[D]?=some (.deferred (some [])):=by
  rw[<-hW1,<-hD];exact(Below.heap_alloc _ _ _ (by simp)).trans (World.alloc_heap_new w _)
 have sI:I [] W1:=by rw[<-hW1];exact hIa _ _ _ (hIa _ _ _ h0)
 have sB:Below w.heap.size w W1:=by rw[<-hW1];exact((aB _ w).alloc (aE _) _).alloc (by simp) _
 refine⟨D+1,[{ target:= .collected D,args:= #[] }],W1, { target:= .fn (.func gf) lb,args:= #[.func (.yield (D+1)) #[] #[]] },W1,gf, #[.func (.yield (D+1)) #[] #[]]++lb,W1,?_,?_,?_,?_,?_,?_⟩
 ·rw[<-hW1,hrec,<-hD];exact run_enterLoop_outer _ _ _ _ _
 ·simp only[resolve,hg];simp[go_sem]
 ·intro _ _;trivial
 ·simp[invoke,go_sem,eg]
 ·intro h;cases h
 ·refine(hseq (D+1) (λpre W=>I pre W/\W.heap[D+1]?=some (.loop (rec .ready))/\W.heap[D]?=some (.deferred (some []))) W1 sB ?_ ?_ ⟨sI,sL,sK⟩).mono ?_
  ·rintro pre A B ⟨hi,hl,hk⟩ ho;have l1:=(cM.1 hl).1;exact⟨hI _ _ _ hi ho,(hOk A B ho _ (by omega) l1).trans hl,(hOk A B ho _ (by omega) (by omega)).trans hk⟩
  ·rintro pre x W ⟨hi,hl,hk⟩ hpx;have l1:=(cM.1 hl).1;have hy:=run_yield (P:=P) (args:=encs x) hl (by rw[hrec];exact hps x);rw[hrec] at hy;refine⟨fn,_,assign,body,hy,roundIn_of_wpIn hfn (wpIn_mono (hbody (D+1) pre x W (by omega) l1 hi hpx) ?_)⟩;clear hy;rintro e a' W' h;cases e with
   | normal=>
    obtain⟨hkf1,hp1,hb⟩:=h;have hl':=hkf1.same _ _ (by omega) hl rfl;have hk':=hkf1.same _ _ (by omega) hk rfl;have l1':=(cM.1 hl').1;refine⟨_,run_beginRound hl' (by rw[hrec]),?_⟩;have l2:(W'.putObj (D+1) (.loop { rec .ready with state:= .busy })).heap[D+1]?=some (.loop { rec .ready with state:= .busy }):=World.putObj_heap_same l1';have k2:(W'.putObj (D+1) (.loop { rec .ready with state:= .busy })).heap[D]?=some (.deferred (some [])):=(World.putObj_heap_other (by omega)).trans hk';have p2:=hKt _ _ _ hp1 (hKb W' (D+1) _ (.loop { rec .ready with state:= .busy }) (by omega) hl' rfl);refine wpIn_mono (hb _ (.loop { rec .ready with state:= .busy }) hl' rfl) ?_;rintro e a3 W3 ⟨rfl,hkf,hi3,hp3⟩;have l3:=hkf.same _ _ (by omega) l2 rfl;have k3:=hkf.same _ _ (by omega) k2 rfl;have he:=run_endRound (P:=P) none l3;have er: { rec .ready with state:=(if(none:Option Code).isNone=true then LoopState.ready else LoopState.done),pending:=none }=rec .ready:=by rw[hrec];rfl
    refine⟨_,_,he,rfl,⟨hIp _ _ _ _ _ hi3 (by omega) l3 rfl,?_,?_⟩,hKt _ _ _ (hKt _ _ _ p2 hp3) (hKb W3 (D+1) _ _ (by omega) l3 rfl)⟩
    ·rw[hrec] at er ⊢;exact World.putObj_heap_same (cM.1 l3).1
    ·exact(World.putObj_heap_other (by omega)).trans k3
   | _=>exact h.elim
  ·rintro e W2 ⟨⟨v,rfl⟩,ys,hS,hi,hl,hk⟩;have he:=run_endLoop (P:=P) hl (by rw[hrec];simp);exact⟨_,_,he,by rw[hrec];exact hdone D ys _ (by omega) hS (hIp _ _ _ _ _ hi (by omega) hl rfl) ((World.putObj_heap_other (by omega)).trans hk)⟩
end
end Go.Proofs.YtaifnmjjpddikaaGreatDoor
