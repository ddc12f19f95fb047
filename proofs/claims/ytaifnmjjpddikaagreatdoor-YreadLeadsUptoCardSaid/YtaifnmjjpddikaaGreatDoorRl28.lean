import Derived.Test.YtaifnmjjpddikaaGreatDoorRl27
import Derived.Test.YtaifnmjjpddikaaGreatDoorRl5
import Derived.Test.YtaifnmjjpddikaaGreatDoorRl12
import Derived.Test.YtaifnmjjpddikaaGreatDoorRl18
import Derived.Test.YtaifnmjjpddikaaGreatDoorRl17
import Derived.Test.YtaifnmjjpddikaaGreatDoorRl1
import Derived.RangeFuncNested
import Derived.RangeFuncBound
import Derived.RangeFuncCalls
import Derived.RangeFuncLeaves
import Derived.RangeFuncBox
import Derived.Shelf.Abstract
import Derived.Shelf.RegionOpen
import Derived.OwnWalkIn
import Derived.TacticsInMore
import Derived.LoopNIn
import Derived.LoopIn
set_option maxRecDepth 100000
set_option maxHeartbeats 8000000
namespace Go.Proofs.YtaifnmjjpddikaaGreatDoor
set_option linter.unusedVariables false
set_option linter.unusedSimpArgs false
section
open Go.RowKit
open Go.Lib hiding intOf
theorem Nx {α β:Type} (f:β->α): ∀(l:List α) (R:Nat->β->Prop),(∀j x,l[j]?=some x-> ∃e,f e=x/\R j e)-> ∃es:List β,es.map f=l/\ ∀j e,es[j]?=some e->R j e
 | [],R,_=>⟨[],rfl,λj e h=>by simp at h⟩
 | x::l,R,h=>by
  obtain⟨e,h1,h2⟩:=h 0 x rfl;obtain⟨es,c,b⟩:=Nx f l (λj=>R (j+1)) (λj y a=>h (j+1) y a);refine⟨e::es,by rw[fU,h1,c],λj y a=>?_⟩;cases j with
  | zero=>
   obtain rfl:e=y:=(by simpa using a);exact h2
  | succ j=>exact b j y a
def fR (W:World) (B m:Nat) (l:List VT) (i:Nat) (v:Value) (w:World):Prop:= ∃p c,v= .slice p l.length c/\l.length<=c/\(l= []\/ ∃G,p=some ⟨G,0,none⟩/\B<=G/\(∃cur,w.heap[G]?=some (.cells cur 26))/\
 ∀(j:Nat) (x:VT),l[j]?=some x-> ∃kv iv,(w.cell? ⟨G,j*4,none⟩=some (.int .i64 x.kind)/\w.cell? ⟨G,j*4+1,none⟩=some (.string (bs x.text))/\w.cell? ⟨G,j*4+2,none⟩=some kv/\w.cell? ⟨G,j*4+3,none⟩=some iv)/\(j<i->dW (λk=>B<=k/\k≠G) w x.depth x kv iv)/\(i<=j->VD W m x kv iv))
theorem VD.one {w:World}{n:Nat}{t:VT}{kv iv:Value} (h:VD w n t kv iv): ∀u∈([.int .i64 t.kind, .string (bs t.text),kv,iv]:List Value),u.oneCell'=true:=by
 obtain⟨pk,ck,p,c,rfl,rfl⟩:=h.form;intro u a;simp only[dC,List.not_mem_nil,or_false] at a;rcases a with rfl|rfl|rfl|rfl<;>rfl
theorem Ny (l:List jK):(lI l).length=l.length*4:=by
 induction l with
 | nil=>rfl
 | cons x l ih=>rw[Bh];simp only[aV,ih];omega
theorem fR.of {W w':World}{B m:Nat}{l:List VT}{v:Value}{es:List jK} (he:es.map (·.1)=l) (hv: ∀e∈es,VD W m e.1 e.2.1 e.2.2) (h:w'.ownsRow B 26 4 v l.length (lI es)):fR W B m l 0 v w':=by
 have p:=h;rcases h.2 with⟨n,f⟩ | ⟨g,cap,cur,rfl,k,i,o,_⟩
 ·exact⟨none,0,by rw[n,f],by omega, .inl (List.length_eq_zero_iff.1 f)⟩
 ·refine⟨_,cap,rfl,o, .inr ⟨g,rfl,k,⟨cur,i⟩,λj x c=>?_⟩⟩;rw[<-he,cW] at c;obtain⟨e,a,rfl⟩:=rG.1 c;obtain⟨a0,a1,a2,a3⟩:=yJ es j e a;have b:=World.ownsRow.cells p (g:=g) rfl;have c0:=b _ _ a0;have c1:=b _ _ a1;have c2:=b _ _ a2;have c3:=b _ _ a3;rw[oV,Nat.zero_add] at c0 c1 c2 c3;exact⟨_,_,⟨c0,c1,c2,c3⟩,λh=>absurd h (pA _),λ_=>hv e (aX a)⟩
theorem fR.slice {W w:World}{B m i:Nat}{l:List VT}{v:Value} (h:fR W B m l i v w): ∃p c,v= .slice p l.length c:=by
 obtain⟨p,c,a,_⟩:=h;exact⟨p,c,a⟩
theorem fR.keep {W w w':World}{B m i:Nat}{l:List VT}{v:Value} (h:fR W B m l i v w) (hk: ∀k,B<=k->k<w.heap.size->w'.heap[k]?=w.heap[k]?):fR W B m l i v w':=by
 obtain⟨p,c,e,g,a⟩:=h;refine⟨p,c,e,g,?_⟩;rcases a with a | ⟨G,e1,e2,⟨cur,e3⟩,e4⟩
 ·exact .inl a
 ·have a1:=hk G e2 (aF e3);refine .inr ⟨G,e1,e2,⟨cur,by rw[a1];exact e3⟩,λj x f=>?_⟩;obtain⟨kv,iv,⟨b0,b1,b2,b3⟩,b4,b5⟩:=e4 j x f;exact⟨kv,iv,⟨by rw[eY a1];exact b0,by rw[eY a1];exact b1,by rw[eY a1];exact b2,by rw[eY a1];exact b3⟩,λb=>(b4 b).agree (λk ok lt=>⟨hk k ok.1 lt,ok⟩),b5⟩
theorem fR.low {W w:World}{B B' m i:Nat}{l:List VT}{v:Value} (h:fR W B' m l i v w) (hB:B<=B'):fR W B m l i v w:=by
 obtain⟨p,c,e,g,a⟩:=h;refine⟨p,c,e,g,?_⟩;rcases a with a | ⟨G,e1,e2,e3,e4⟩
 ·exact .inl a
 ·refine .inr ⟨G,e1,aY hB e2,e3,λj x f=>?_⟩;obtain⟨kv,iv,b0,b4,b5⟩:=e4 j x f;exact⟨kv,iv,b0,λb=>(b4 b).mono (λk ok _=>⟨aY hB ok.1,ok.2⟩),b5⟩
theorem fR.at_ {W w:World}{B m i:Nat}{l:List VT}{v:Value} (h:fR W B m l i v w) {x:VT} (hx:l[i]?=some x): ∃G c kv iv,v= .slice (some ⟨G,0,none⟩) l.length c/\B<=G/\G<w.heap.size/\(w.cell? ⟨G,i*4,none⟩=some (.int .i64 x.kind)/\w.cell? ⟨G,i*4+1,none⟩=some (.string (bs x.text))/\w.cell? ⟨G,i*4+2,none⟩=some kv/\w.cell? ⟨G,i*4+3,none⟩=some iv)/\VD W m x kv iv/\ ∀o,w.frozen? ⟨G,o,none⟩=false:=by
 obtain⟨p,c,b,h2,a⟩:=h;rcases a with a | ⟨G,rfl,e2,⟨cur,e3⟩,e4⟩
 ·rw[a] at hx;cases hx
 ·obtain⟨kv,iv,b0,_,b5⟩:=e4 i x hx;exact⟨G,c,kv,iv,b,e2,aF e3,b0,b5 (aE _),λo=>by simp[World.frozen?,e3]⟩
def iE (w:World) (G o:Nat) (x:VT) (kv iv:Value):World:=(((w.setCell ⟨G,o,none⟩ (.int .i64 x.kind)).setCell ⟨G,o+1,none⟩ (.string (bs x.text))).setCell ⟨G,o+2,none⟩ kv).setCell ⟨G,o+3,none⟩ iv
theorem zW {w:World}{G o:Nat}{x:VT}{kv iv:Value}{q:Nat} (hq:q≠G):(iE w G o x kv iv).heap[q]?=w.heap[q]?:=by
 unfold iE;rw[cP _ ⟨G,o+3,none⟩ _ q hq,cP _ ⟨G,o+2,none⟩ _ q hq,cP _ ⟨G,o+1,none⟩ _ q hq,cP _ ⟨G,o,none⟩ _ q hq]
theorem aBr {B:Nat}{w w':World}{G o:Nat}{x:VT}{kv iv:Value} (h:Below B w w') (hG:B<=G):Below B w (iE w' G o x kv iv):=by
 unfold iE;exact(((h.setCell (p:=⟨G,o,none⟩) hG _).setCell (p:=⟨G,o+1,none⟩) hG _).setCell (p:=⟨G,o+2,none⟩) hG _).setCell (p:=⟨G,o+3,none⟩) hG _
theorem zX {w:World}{G o q:Nat}{x:VT}{kv iv:Value} (hq:q<o\/o+4<=q):(iE w G o x kv iv).cell? ⟨G,q,none⟩=w.cell? ⟨G,q,none⟩:=by
 unfold iE;rw[Ew _ _ _ _ (by intro e;injection e;omega),Ew _ _ _ _ (by intro e;injection e;omega),Ew _ _ _ _ (by intro e;injection e;omega),Ew _ _ _ _ (by intro e;injection e;omega)]
theorem aBs {w:World}{G o:Nat}{cur:Array Value}{x:VT}{kv iv:Value} (h:w.heap[G]?=some (.cells cur 26)) (ho:o+4<=cur.size): ∃cur',(iE w G o x kv iv).heap[G]?=some (.cells cur' 26)/\
  ((iE w G o x kv iv).cell? ⟨G,o,none⟩=some (.int .i64 x.kind)/\(iE w G o x kv iv).cell? ⟨G,o+1,none⟩=some (.string (bs x.text))/\(iE w G o x kv iv).cell? ⟨G,o+2,none⟩=some kv/\(iE w G o x kv iv).cell? ⟨G,o+3,none⟩=some iv):=by
 have b:=fO h o (.int .i64 x.kind);have c:=fO b (o+1) (.string (bs x.text));have e:=fO c (o+2) kv;have a:=fO e (o+3) iv;refine⟨_,a,?_,?_,?_,?_⟩
 ·unfold iE;simp only[World.cell?,a];simp[uD];omega
 ·unfold iE;simp only[World.cell?,a];simp[uD];omega
 ·unfold iE;simp only[World.cell?,a];simp[uD];omega
 ·unfold iE;simp only[World.cell?,a];simp[uD];omega
theorem aBt {w:World}{g o:Nat}{u:Value}{cur:Array Value}{t:TypeId} (h:w.heap[g]?=some (.cells cur t)) (hc:w.cell? ⟨g,o,none⟩=some u):o<cur.size:=by
 simp only[World.cell?,h] at hc;simp at hc;exact(cJ.1 hc).1
theorem fR.step {W w w1:World}{B m i G c:Nat}{l:List VT}{x:VT}{kv iv:Value} (h:fR W B m l i (.slice (some ⟨G,0,none⟩) l.length c) w) (hx:l[i]?=some x) (hb:Below w.heap.size w w1) (hv:eZ w.heap.size w1 x.depth x kv iv):fR W B m l (i+1) (.slice (some ⟨G,0,none⟩) l.length c) (iE w1 G (i*4) x kv iv):=by
 obtain⟨p,c',A,u,s⟩:=h;injection A with e1 e2 e3;subst e1 e3;refine⟨_,_,rfl,u,?_⟩;rcases s with s | ⟨G',e1,z,⟨cur,e3⟩,e4⟩
 ·rw[s] at hx;cases hx
 ·injection e1 with e1;injection e1 with e1;subst e1;have g:=aF e3;have a1:=hb.block G g;obtain⟨_,_,⟨_,_,_,d3⟩,_⟩:=e4 i x hx;have hin:=aBt e3 d3;obtain⟨cur',k1,k2⟩:=aBs (x:=x) (kv:=kv) (iv:=iv) (o:=i*4) (a1.trans e3) (by omega);have e: ∀ {n:Nat}{t:VT}{a b:Value}{ok:Nat->Prop},(∀k,ok k->k<w1.heap.size->B<=k/\k≠G)->dW ok w1 n t a b->dW (λk=>B<=k/\k≠G) (iE w1 G (i*4) x kv iv) n t a b:=λf q=>q.agree (λk ok lt=>⟨zW (f k ok lt).2,f k ok lt⟩);refine .inr ⟨G,rfl,z,⟨cur',k1⟩,λj y r=>?_⟩;by_cases hj:j=i
  ·subst hj;rw[hx] at r;obtain rfl:=bD r;exact⟨kv,iv,k2,λ_=>e (λk f _=>⟨aY (by omega) (aY (Nat.le_of_lt g) f),by omega⟩) hv,λq=>by omega⟩
  ·obtain⟨ky,iy,⟨b0,b1,b2,b3⟩,b4,b5⟩:=e4 j y r;refine⟨ky,iy,⟨?_,?_,?_,?_⟩,λq=>e (λk f _=>f) ((b4 (by omega)).keep hb),λq=>b5 (by omega)⟩
   ·rw[zX (by omega),eY a1];exact b0
   ·rw[zX (by omega),eY a1];exact b1
   ·rw[zX (by omega),eY a1];exact b2
   ·rw[zX (by omega),eY a1];exact b3
theorem fR.fin {W w:World}{B m:Nat}{k:Int}{s:aA}{ks:List aA}{l:List VT}{kv v:Value} (hk:qE (λk=>B<=k) w kv ks) (h:fR W B m l l.length v w):eZ B w (VT.mk k s ks l).depth (VT.mk k s ks l) kv v:=by
 obtain⟨p,c,rfl,g,a⟩:=h;rw[VT.depth];refine⟨hk,p,c,rfl,g,?_⟩;rcases a with a | ⟨G,e1,i,e3,e4⟩
 ·exact .inl a
 ·refine .inr ⟨G,0,e1,i,e3,λj x b=>?_⟩;have e:=(aR.1 b).1;obtain⟨kv,iv,⟨b0,b1,b2,b3⟩,b4,b5⟩:=e4 j x b;obtain⟨q,f⟩:=Id (l:=l) (aX b);refine⟨kv,iv,?_,?_,?_,?_,?_⟩
  ·rw[Nat.zero_add];exact b0
  ·rw[Nat.zero_add];exact b1
  ·rw[Nat.zero_add];exact b2
  ·rw[Nat.zero_add];exact b3
  ·show dW _ w (dN l) x kv iv;rw[f];exact((b4 e).mono (λk hk _=>hk.1)).more q
theorem aBu (v:Value) (l:List aA) (w:World) (h:SV w v l) (hl:l.length<=1073741824):
  Calls Tryz.prog 88 #[v] w λe w'=> ∃v',e= .returned v'/\bR w.heap.size l v' w'/\Below w.heap.size w w':=by
 obtain⟨p,c,rfl,hc,i⟩:=h;cases p with
 | none=>
  have b:l= []:=by
   rcases i with h | ⟨g,o,e,_⟩
   ·exact h
   ·cases e
  subst b;exact(Tryz.slices_Clone_string_nil 0 c w).mono λe w' h=>⟨_,h.1,bR.nil _ _,by rw[h.2];exact aB _ _⟩
 | some ad=>
  by_cases b:l= []
  ·subst b;exact(Tryz.slices_Clone_string_zero ad c w).mono λe w' ⟨v',q,f,_,k⟩=>⟨v',q,f,k⟩
  ·obtain⟨x,r,s⟩: ∃x r,l=x::r:=by
    cases l with
    | nil=>exact absurd rfl b
    | cons x r=>exact⟨x,r,rfl⟩
   obtain⟨g,o,e,_⟩:=i.at_ (j:=0) (x:=x) (by rw[s];rfl);injection e with e;subst e;refine(Tryz.slices_Clone_string g o l.length c (l.map bs) w (by rw[bK];exact aE _) (by omega) (λj n=>?_)).mono λe w' ⟨v',q,f,_,k⟩=>⟨v',q,?_,k⟩
   ·rw[bK] at n;obtain⟨g',o',e,a⟩:=i.at_ (j:=j) (bE n);injection e with e;injection e with e1 e2;subst e1 e2;rw[a,List.getD_eq_getElem?_getD,cW,bE n];rfl
   ·rw[uL (by rw[bK];exact aE _),List.map_map] at f;exact f
theorem aBv (W:World) (m:Nat) (p:Option Addr) (c:Nat) (l:List VT) (w:World) (hit: ∀(j:Nat) (x:VT),l[j]?=some x-> ∃g o kv iv,p=some ⟨g,o,none⟩/\w.cell? ⟨g,o+j*4,none⟩=some (.int .i64 x.kind)/\w.cell? ⟨g,o+j*4+1,none⟩=some (.string (bs x.text))/\w.cell? ⟨g,o+j*4+2,none⟩=some kv/\w.cell? ⟨g,o+j*4+3,none⟩=some iv/\VD W m x kv iv) (hl:l.length<=1073741824):
  Calls Tryz.prog 89 #[.slice p l.length c] w λe w'=> ∃v,e= .returned v/\fR W w.heap.size m l 0 v w'/\Below w.heap.size w w':=by
 obtain⟨i0,E,H,M,L⟩:=info_parts Tryz.infoValue;have q22: ∀(w:World) (a:Option Addr) (n c n' c':Nat),(binOp .eql 24 (.slice a n c) (.slice none n' c')).run Tryz.prog w= .ok (.bool a.isNone) w:=λw a n c n' c'=>Lib.run_eql_slice_nil w _ _ a n c n' c' Tryz.underlying24;have u22: ∀w,Sem.run Tryz.prog (underlying 24) w= .ok (TypeDesc.slice 26) w:=run_underlying Tryz.underlying24;obtain⟨es,z,s⟩:=Nx (β:=jK) (·.1) l (λj e=> ∃g o,p=some ⟨g,o,none⟩/\w.cell? ⟨g,o+j*4,none⟩=some (.int .i64 e.1.kind)/\w.cell? ⟨g,o+j*4+1,none⟩=some (.string (bs e.1.text))/\w.cell? ⟨g,o+j*4+2,none⟩=some e.2.1/\w.cell? ⟨g,o+j*4+3,none⟩=some e.2.2/\VD W m e.1 e.2.1 e.2.2) (λj x C=>by obtain⟨g,o,kv,iv,I,K,J,V,U,R⟩:=hit j x C;exact⟨(x,kv,iv),rfl,g,o,I,K,J,V,U,R⟩);have D: ∀e∈es,VD W m e.1 e.2.1 e.2.2:=λe z=>by
  obtain⟨j,f,e1⟩:=List.mem_iff_getElem.1 z;obtain⟨_,_,_,_,_,_,_,h⟩:=s j e (by rw[bE f,e1]);exact h
 have q:es.length=l.length:=by rw[<-z,bK]
 have O:=hid (aJ z D);cases p with
 | none=>
  have I:l= []:=by
   cases l with
   | nil=>rfl
   | cons x r=>
    obtain⟨g,o,_,_,e,_⟩:=hit 0 x rfl;cases e
  subst I;clear hit s q D z;go_enter Tryz.func89,Tryz.ntmps89;go_wp2_with fail;go_ret;exact⟨_,rfl,⟨none,0,rfl,aE _, .inl rfl⟩,aB _ _⟩
 | some ad=>
  obtain⟨news,b⟩:=exQ<|lI es;have B:news.length=l.length*4:=by rw[<-b,Ny,q]
  have Y:Hid (∀j u,news[j]?=some u->w.cell? (ad.add j)=some u):=hid (λj u f=>by
   rw[<-b] at f;have G:=(aR.1 f).1;rw[Ny] at G;obtain⟨e,C⟩: ∃e,es[j / 4]?=some e:=⟨_,bE (by omega)⟩;obtain⟨a0,a1,a2,a3⟩:=yJ es (j / 4) e C;obtain⟨g',o',e1,b0,b1,b2,b3,_⟩:=s _ _ C;injection e1 with e1;subst e1;rw[oV];have Z:j=j / 4*4\/j=j / 4*4+1\/j=j / 4*4+2\/j=j / 4*4+3:=(by omega);rcases Z with e | e | e | e
   ·rw[e] at f ⊢;rw[a0] at f;rw[b0];exact f
   ·rw[e] at f ⊢;rw[a1] at f;rw[<-Nat.add_assoc,b1];exact f
   ·rw[e] at f ⊢;rw[a2] at f;rw[<-Nat.add_assoc,b2];exact f
   ·rw[e] at f ⊢;rw[a3] at f;rw[<-Nat.add_assoc,b3];exact f)
  have T:Hid (∀u∈news,u.oneCell'=true):=hid (λu N=>by rw[<-b] at N;obtain⟨e,K,J⟩:=List.mem_flatMap.1 N;exact(D e K).one u J);have HN:=hid b;obtain⟨n,F⟩:=exQ<|l.length;have S:=hid F;rw[F] at B hl ⊢;clear hit s q D b z F;go_enter Tryz.func89,Tryz.ntmps89;go_wp2_with (at_builtin;refine wpList_append_own _ rfl _ _ 24 rfl w.heap.size 26 i0 _ 4 72 Tryz.underlying24 E H M L rfl (by decide) _ _ _ rfl (World.ownsRow_made w #[] 0 (aE _) (bM _) rfl) ad n c news rfl ?qc1 ?qc2 ?qc3 ?qc4 ?qc5 ?qc6 ?_)
  case qc1=>exact B
  case qc2=>
   intro j u f;exact Lib.cell?_alloc_some _ (Y.out j u f)
  case qc3=>exact T.out
  case qc4=>unfold maxLen;omega
  case qc5=>omega
  case qc6=>simp
  intro v' w1 y i A;have Q:Hid (fR W w.heap.size m l 0 v' w1):=hid (fR.of O.out.1 O.out.2 (by rw[HN.out,S.out];simpa using y));have P:Hid (Below w.heap.size w w1):=hid (((aB _ w).alloc (aE _) _).grown i (by simp) (by intro k hk;simp[Value.ownBlock] at hk;omega));clear y i A;go_wp2_with fail;go_ret;exact⟨_,rfl,Q.out,P.out⟩
def Ex (n:Nat):Prop:= ∀(t:VT) (kv iv:Value) (w:World),VD w n t kv iv->t.bulk<=1073741824->Calls Tryz.prog 47 #[vv t kv iv] w (jN t w)
def tM:List (Nat×Nat):= [(0,5),(1,6),(3,8),(4,9),(6,11),(8,12)]
structure KF (ops:Array Oper) (W w0:World) (X m:Nat) (t:VT) (K0 I0:Value) (val:Nat->Value) (d:Nat->Bool) (v:Nat->Value) (w':World):Prop where
 clo:nT ops d
 cl: ∀q∈tM,d q.1=true->v q.2=val q.1
 ks:d 2=true->bR w0.heap.size t.keys (v 7) w'
 its:d 5=true->fR W w0.heap.size m t.items 0 (v 10) w'
 bel:Below X w0 w'
 bx:w'.heap[X]?=some (.cells #[.int .i64 t.kind, .string (bs t.text),if d 7 then v 7 else K0,if d 9 then v 10 else I0] 26)
 oth: ∀k,k≠X->k<w0.heap.size->w'.heap[k]?=w0.heap[k]?
section
variable {ops:Array Oper}{W w0:World}{X m:Nat}{t:VT}{K0 I0:Value}{val:Nat->Value}{d:Nat->Bool}{v:Nat->Value}{w' w2:World}
theorem aBw: ∀p∈tM,∀q∈tM,(p.1=q.1->p.2=q.2)/\(p.2=q.2->p.1=q.1):=by decide
theorem Ey: ∀p∈tM,p.2≠7/\p.2≠10/\p.1≠2/\p.1≠5/\p.1≠7/\p.1≠9:=by decide
theorem KF.pure (h:KF ops W w0 X m t K0 I0 val d v w') {i k:Nat}{o:Oper} (ho:ops[i]?=some o) (hall: ∀e∈o.after,Region.binds .any e=true->d e.on=true) (hm:(i,k)∈tM) {x:Value} (hx:x=val i):KF ops W w0 X m t K0 I0 val (bF d i) (bP v (some k) x) w':=by
 obtain⟨n1,n2,n3,n4,n5,n6⟩:=Ey _ hm;simp only[] at n1 n2 n3 n4 n5 n6;refine⟨h.clo.step ho hall,λq b a=>?_,λa=>?_,λa=>?_,h.bel,?_,h.oth⟩
 ·obtain⟨o1,o2⟩:=aBw _ hm _ b;by_cases e:q.1=i
  ·have e2:=o1 e.symm;simp only[] at e2;rw[<-e2,lJ,e];exact hx
  ·have e2:q.2≠k:=λe2=>e (o2 e2.symm).symm;rw[bW e2];rw[aS e] at a;exact h.cl q b a
 ·rw[aS (Ne.symm n3)] at a;rw[bW (Ne.symm n1)];exact h.ks a
 ·rw[aS (Ne.symm n4)] at a;rw[bW (Ne.symm n2)];exact h.its a
 ·rw[aS (Ne.symm n5),aS (Ne.symm n6),bW (Ne.symm n1),bW (Ne.symm n2)];exact h.bx
theorem KF.world (h:KF ops W w0 X m t K0 I0 val d v w') (hb:Below w'.heap.size w' w2):KF ops W w0 X m t K0 I0 val d v w2:=by
 have b:=aF h.bx;exact⟨h.clo,h.cl,λa=>(h.ks a).keep hb,λa=>(h.its a).keep (λk _ lt=>hb.block k lt),h.bel.trans (hb.mono (Nat.le_of_lt b)),(hb.block X b).trans h.bx,λk c lt=>(hb.block k (fV lt h.bel.size)).trans (h.oth k c lt)⟩
theorem KF.callA (h:KF ops W w0 X m t K0 I0 val d v w') {o:Oper} (ho:ops[2]?=some o) (hall: ∀e∈o.after,Region.binds .any e=true->d e.on=true) (h7:d 7=false) {x:Value} (hb:Below w'.heap.size w' w2) (hx:bR w'.heap.size t.keys x w2):KF ops W w0 X m t K0 I0 val (bF d 2) (bP v (some 7) x) w2:=by
 have g:=h.world hb;refine⟨g.clo.step ho hall,λq b a=>?_,λ_=>by rw[lJ];exact hx.mono h.bel.size,λa=>?_,g.bel,?_,g.oth⟩
 ·obtain⟨n1,n2,n3,n4,n5,n6⟩:=Ey _ b;rw[aS n3] at a;rw[bW n1];exact g.cl q b a
 ·rw[aS (by decide)] at a;rw[bW (by decide)];exact g.its a
 ·rw[aS (by decide),aS (by decide),bW (show (10:Nat)≠7 by decide)];have:=g.bx;rw[h7] at this ⊢;exact this
theorem KF.callB (h:KF ops W w0 X m t K0 I0 val d v w') {o:Oper} (ho:ops[5]?=some o) (hall: ∀e∈o.after,Region.binds .any e=true->d e.on=true) (h9:d 9=false) {x:Value} (hb:Below w'.heap.size w' w2) (hx:fR W w'.heap.size m t.items 0 x w2):KF ops W w0 X m t K0 I0 val (bF d 5) (bP v (some 10) x) w2:=by
 have g:=h.world hb;refine⟨g.clo.step ho hall,λq b a=>?_,λa=>?_,λ_=>by rw[lJ];exact hx.low h.bel.size,g.bel,?_,g.oth⟩
 ·obtain⟨n1,n2,n3,n4,n5,n6⟩:=Ey _ b;rw[aS n4] at a;rw[bW n2];exact g.cl q b a
 ·rw[aS (by decide)] at a;rw[bW (by decide)];exact g.ks a
 ·rw[aS (by decide),aS (by decide),bW (show (7:Nat)≠10 by decide)];have:=g.bx;rw[h9] at this ⊢;exact this
theorem KF.store (h:KF ops W w0 X m t K0 I0 val d v w') (hX:X<w0.heap.size) (i c:Nat) (hi:i=7/\c=2\/i=9/\c=3) {o:Oper} (ho:ops[i]?=some o) (hall: ∀e∈o.after,Region.binds .any e=true->d e.on=true) (x:Value):
  KF ops W w0 X m t K0 I0 val (bF d i) (bP v none x) (w'.setCell ⟨X,c,none⟩ (if c=2 then v 7 else v 10)):=by
 have a: ∀k,k≠X->(w'.setCell ⟨X,c,none⟩ (if c=2 then v 7 else v 10)).heap[k]?=w'.heap[k]?:=λk f=>cP _ ⟨X,c,none⟩ _ k f;have hsz:(w'.setCell ⟨X,c,none⟩ (if c=2 then v 7 else v 10)).heap.size=w'.heap.size:=by simp[World.setCell]
 have n:i≠2/\i≠5/\ ∀q∈tM,q.1≠i:=by
  rcases hi with⟨rfl,_⟩ | ⟨rfl,_⟩<;>decide
 refine⟨h.clo.step ho hall,λq g b=>?_,λb=>?_,λb=>?_,h.bel.setCell (p:=⟨X,c,none⟩) (aE _) _,?_,λk f lt=>(a k f).trans (h.oth k f lt)⟩
 ·rw[aS (n.2.2 q g)] at b;exact h.cl q g b
 ·rw[aS (Ne.symm n.1)] at b;exact(h.ks b).keepX (λk f _=>a k (by omega))
 ·rw[aS (Ne.symm n.2.1)] at b;exact(h.its b).keep (λk f _=>a k (by omega))
 ·rw[fO h.bx];rcases hi with⟨rfl,rfl⟩ | ⟨rfl,rfl⟩
  ·rw[oW,aS (show (9:Nat)≠7 by decide)];rfl
  ·rw[oW,aS (show (7:Nat)≠9 by decide)];rfl
theorem KF.g {a:Array Value} (h:KF ops W w0 X m t K0 I0 val d (λk=>a.getD k undef) w') (i k:Nat) (hm:(i,k)∈tM) (hd:d i=true):a[k]?.getD undef=val i:=by
 have:=h.cl _ hm hd;rw[<-aO];exact this
theorem KF.early (h:KF ops W w0 X m t K0 I0 val d v w') {f i j:Nat} (hr:nS ops f j i=true) (hi:d i=false):d j=false:=by
 cases hc:d j with
 | false=>rfl
 | true=>rw[h.clo.reach f _ _ hr hc] at hi;cases hi
end
theorem aBx {P:Program}{ops:Array Oper}{Q:Exit->Act->World->Prop}{id:Nat}{a0:Act}{wB:World} (hm:P.follows .mixedOrders=true) (K:List Nat) (n:Nat) (hn:a0.tmps.size=n) (hback:oU ops=true) (hdst:nR ops K n=true) (h10:ops.size=10)
  (W:World) (X m:Nat) (t:VT) (K0 I0:Value) (val:Nat->Value) (hX:wB.heap[X]?=some (.cells #[.int .i64 t.kind, .string (bs t.text),K0,I0] 26))
  (hs: ∀(d:Nat->Bool) (a:Act) (w:World) (i:Nat) (o:Oper),ops[i]?=some o->d i=false->(∀e∈o.after,Region.binds .any e=true->d e.on=true)->(∀k,k ∉ K->a.tmps.getD k undef=a0.tmps.getD k undef)->KF ops W wB.drew X m t K0 I0 val d (λk=>a.tmps.getD k undef) w->
   ∀R:Act->World->Prop,(∀x w',KF ops W wB.drew X m t K0 I0 val (bF d i) (bP (λk=>a.tmps.getD k undef) o.dst x) w'->R (a.put o.dst x) w')->o.wp P a w R Q)
  (hd: ∀(v:Nat->Value) (w:World),bR wB.heap.size t.keys (v 7) w->fR W wB.heap.size m t.items 0 (v 10) w->Below X wB w->w.heap[X]?=some (.cells #[.int .i64 t.kind, .string (bs t.text),v 7,v 10] 26)->(∀k,k≠X->k<wB.heap.size->w.heap[k]?=wB.heap[k]?)->Q .normal { a0 with tmps:=cC a0.tmps v K } w):(Code.region id ops true).wp P Q a0 wB:=by
 refine uF hm K n hn hback hdst (λd v w'=>KF ops W wB.drew X m t K0 I0 val d v w') ?_ hs (λv w h=>?_)
 ·exact⟨λ_ _ _ h=>Bool.noConfusion h,λ_ _ h=>Bool.noConfusion h,λh=>Bool.noConfusion h,λh=>Bool.noConfusion h,aB _ _,hX,λ_ _ _=>rfl⟩
 ·have e: ∀i,i<10->decide (i<ops.size)=true:=λi hi=>aM (by omega);have c:=h.bx;rw[e 7 (by omega),e 9 (by omega)] at c;have b:Below X wB w:=(aB X wB).drew.trans h.bel;exact hd v w (h.ks (e 2 (by omega))) (h.its (e 5 (by omega))) b c h.oth
structure vE (w:World) (X R B:Nat) (t:VT) (n i:Nat) (vk vi:Value) (wr:World):Prop where
 bel:Below w.heap.size w wr
 bx:wr.heap[X]?=some (.cells #[.int .i64 t.kind, .string (bs t.text),vk,vi] 26)
 rb:wr.heap[R]?=some (.cells #[.int .i64 0, .string (bs []), .slice none 0 0, .slice none 0 0] 26)
 ks:bR B t.keys vk wr
 row:fR w B n t.items i vi wr
theorem vE.step {w:World}{X R B:Nat}{t:VT}{n i:Nat}{vk:Value}{wr w1:World}{G c:Nat}{x:VT}{kv iv:Value} (h:vE w X R B t n i vk (.slice (some ⟨G,0,none⟩) t.items.length c) wr) (hx:t.items[i]?=some x) (hX:X<B) (hR:R<B) (hB:w.heap.size<=B) (hb:Below wr.heap.size wr w1) (hv:eZ wr.heap.size w1 x.depth x kv iv):
  vE w X R B t n (i+1) vk (.slice (some ⟨G,0,none⟩) t.items.length c) (iE w1 G (i*4) x kv iv):=by
 obtain⟨G',c',_,_,e,hG,hGl,_⟩:=h.row.at_ hx;injection e with e;injection e with e;injection e with e;subst e;obtain⟨cur,b⟩: ∃cur,wr.heap[G]?=some (.cells cur 26):=by
  obtain⟨p,c2,o,h2,f⟩:=h.row;injection o with e1;subst e1;rcases f with f | ⟨G2,e1,_,e3,_⟩
  ·rw[f] at hx;cases hx
  ·injection e1 with e1;injection e1 with e1;subst e1;exact e3
 refine⟨aBr (aC h.bel hb) (by omega),?_,?_,?_,h.row.step hx hb hv⟩
 ·rw[zW (by omega)];exact(hb.block X (aF h.bx)).trans h.bx
 ·rw[zW (by omega)];exact(hb.block R (aF h.rb)).trans h.rb
 ·refine h.ks.keepB (λk hk j lt=>?_);have l:k≠G:=by
   rintro rfl;rcases h.ks.2 with⟨e,_⟩ | ⟨g,cap,cu,rfl,_,a,_⟩
   ·rw[e] at j;cases j
   ·have:k=g:=(by simpa [Value.ownBlock] using j);subst this;rw[b] at a;injection a with a;injection a with _ a;exact absurd a (by decide)
  rw[zW l];exact hb.block k lt
def PhR (W0:World) (G o:Nat) (x:VT):Nat->Value->World->Prop
 | 0,_,w'=>Below W0.heap.size W0 w'
 | 1,c,w'=> ∃kv iv,c=vv x kv iv/\eZ W0.heap.size w' x.depth x kv iv/\Below W0.heap.size W0 w'
 | _,_,w'=> ∃w1 kv iv,eZ W0.heap.size w1 x.depth x kv iv/\Below W0.heap.size W0 w1/\w'=iE w1 G o x kv iv
theorem aBz (n:Nat) (IH:Ex n):Ex (n+1):=by
 intro t kv iv w h a4;obtain⟨m',hm,bf,p,c,rfl,bc,ap⟩:=h.parts;obtain rfl:n=m':=by omega
 obtain⟨pk,ck,rfl,au,L⟩:=bf;obtain⟨X,hX⟩:=exQ<|w.heap.size;obtain⟨W1,ab⟩:=exQ<|w.alloc (.cells #[.int .i64 t.kind, .string (bs t.text), .slice pk t.keys.length ck, .slice p t.items.length c] 26);obtain⟨R,y⟩:=exQ<|W1.heap.size;obtain⟨W2,aa⟩:=exQ<|W1.alloc (.cells #[.int .i64 0, .string ⟨#[]⟩, .slice none 0 0, .slice none 0 0] 26);have aG:Below w.heap.size w W1:=by rw[<-ab];exact aI _ _
 have Q:Below W1.heap.size W1 W2:=by rw[<-aa];exact aI _ _
 have az:=hid (aC aG Q);have a9:Hid (cV W2 X t (.slice pk t.keys.length ck) (.slice p t.items.length c)):=hid (cV.keep (by rw[<-ab,<-hX];exact cV.new w t _ _) Q);have a8:Hid (W2.heap[R]?=some (.cells #[.int .i64 0, .string (bs []), .slice none 0 0, .slice none 0 0] 26)):=hid (by rw[<-aa,<-y];exact heap_alloc_new W1 _);have ax:X<R:=by rw[<-y,<-hX,<-ab];simp
 have aD:R<W2.heap.size:=by rw[<-aa,<-y];simp
 have K:=hid (aJ hX (aJ ax aD));have a5:Hid (∀w',Below w.heap.size w w'-> ∀(j:Nat) (x:VT),t.items[j]?=some x-> ∃g o kv iv,p=some ⟨g,o,none⟩/\w'.cell? ⟨g,o+j*4,none⟩=some (.int .i64 x.kind)/\w'.cell? ⟨g,o+j*4+1,none⟩=some (.string (bs x.text))/\w'.cell? ⟨g,o+j*4+2,none⟩=some kv/\w'.cell? ⟨g,o+j*4+3,none⟩=some iv/\VD w n x kv iv):=hid (λw' D j x hx=>by obtain⟨g,o,kv,iv,e0,e1,e2,e3,e4,e5,e6⟩:=ap j x hx;exact⟨g,o,kv,iv,e0,bH e2 D,bH e3 D,bH e4 D,bH e5 D,e6⟩);have aW:Hid (∀w',Below w.heap.size w w'->SV w' (.slice pk t.keys.length ck) t.keys):=hid (λw' D=>⟨pk,ck,rfl,au,L.keep D⟩);have ba:t.bulk=t.text.length+(gE t.keys+t.keys.length)+dS t.items+1:=by cases t;rw[VT.bulk];rfl
 have aF:=rE t.items;have HN:=hid (show t.keys.length<=1073741824/\t.items.length<=1073741824/\dS t.items<=1073741824 from ⟨by omega,by omega,by omega⟩);unfold vv;clear ap L h hm aG Q ba aF a4 au bc ax aD;go_enter Tryz.func47,Tryz.ntmps47;go_upto_region 1 with fail;clear ab aa y hX;have P:Tryz.prog.follows .mixedOrders=true:=by kernel_rfl
 refine aBx P [5,6,7,8,9,10,11,12] 29 rfl (by kernel_rfl) (by kernel_rfl) rfl w X n t (.slice pk t.keys.length ck) (.slice p t.items.length c) (λiz=>match iz with | 0=> .pointer (some ⟨X,2,none⟩) | 1=> .slice pk t.keys.length ck | 3=> .pointer (some ⟨X,3,none⟩) | 4=> .slice p t.items.length c | 6=> .pointer (some ⟨X,2,none⟩) | 8=> .pointer (some ⟨X,3,none⟩) | _=>undef) a9.out ?_ ?_
 ·intro d a w' iq o' Z M b z l R' y;have ag:iq<10:=(cJ.1 Z).1;have q1:a.tmps[1]?.getD undef= .pointer (some ⟨X,0,none⟩):=bA z 1 (by decide);clear z;have H:=b;have r:=Z;have ar:Below w.heap.size w w':=az.out.trans ((aB _ _).drew.trans (l.bel.mono (by rw[K.out.1];exact aE _)));have an:iq=2\/iq=5\/iq=7\/iq=9\/iq=1\/iq=4\/iq=0\/iq=3\/iq=6\/iq=8:=by omega
  clear ag;rcases an with rfl|rfl|rfl|rfl|rfl|rfl|rfl|rfl|rfl|rfl<;>simp only[eC,dV,cH,cN] at Z<;>subst Z<;>(try simp[Region.binds] at b)
  ·have c6:=l.g 1 6 (by decide) (by simp[b]);have N:=l.early (f:=10) (i:=2) (j:=7) (by kernel_rfl) M;go_simp;go_at_call 88;refine(aBu _ t.keys w' (aW.out _ ar) HN.out.1).mono ?_;rintro e w5 ⟨v5,rfl,ak,u⟩;exact y _ _ (l.callA r H N u ak)
  ·have c9:=l.g 4 9 (by decide) (by simp[b]);have h9:=l.early (f:=10) (i:=5) (j:=9) (by kernel_rfl) M;go_simp;go_at_call 89;refine(aBv w n p c t.items w' (a5.out _ ar) HN.out.2.1).mono ?_;rintro e w5 ⟨v5,rfl,ak,u⟩;exact y _ _ (l.callB r H h9 u ak)
  ·have c11:=l.g 6 11 (by decide) (by simp[b]);obtain⟨p7,z7,N⟩:=(l.ks (by simp[b])).slice;have N:a.tmps.getD 7 undef= .slice p7 t.keys.length z7:=N;have c7:a.tmps[7]?.getD undef= .slice p7 t.keys.length z7:=by rw[<-aO];exact N
   obtain⟨x0,x1,x2,x3,f0,f1,f2,f3⟩:=bC l.bx;have I:=l.store (by have:=K.out;show X<W2.heap.size;omega) 7 2 (.inl ⟨rfl,rfl⟩) r H undef;rw[if_pos rfl,N] at I;clear x0 x1 x3 f0 f1 f3;go_simp;exact y undef _ I
  ·have c12:=l.g 8 12 (by decide) (by simp[b]);obtain⟨p7,z7,N⟩:=(l.its (by simp[b])).slice;have N:a.tmps.getD 10 undef= .slice p7 t.items.length z7:=N;have c7:a.tmps[10]?.getD undef= .slice p7 t.items.length z7:=by rw[<-aO];exact N
   obtain⟨x0,x1,x2,x3,f0,f1,f2,f3⟩:=bC l.bx;have I:=l.store (by have:=K.out;show X<W2.heap.size;omega) 9 3 (.inr ⟨rfl,rfl⟩) r H undef;rw[if_neg (by decide),N] at I;clear x0 x1 x2 f0 f1 f2;go_simp;exact y undef _ I
  ·have c5:=l.g 0 5 (by decide) (by simp[b]);have O:=l.bx;rw[l.early (f:=10) (i:=1) (j:=7) (by kernel_rfl) M] at O;obtain⟨x0,x1,x2,x3,_⟩:=bC O;simp only[Bool.false_eq_true,if_false] at x2;clear x0 x1 x3;go_simp;exact y _ _ (l.pure r H (by decide) rfl)
  ·have c8:=l.g 3 8 (by decide) (by simp[b]);have O:=l.bx;rw[l.early (f:=10) (i:=4) (j:=9) (by kernel_rfl) M] at O;obtain⟨x0,x1,x2,x3,_⟩:=bC O;simp only[Bool.false_eq_true,if_false] at x3;clear x0 x1 x2;go_simp;exact y _ _ (l.pure r H (by decide) rfl)
  iterate 4 (go_simp;exact y _ _ (l.pure r H (by decide) rfl))
 intro v wz h1 h2 h3 h4 h5;simp only[cC,eJ,dO,eK];obtain⟨p7,z7,e7⟩:=h1.slice;obtain⟨p10,z10,e10⟩:=h2.slice;rw[e7] at h1 h4;rw[e10] at h2 h4;obtain⟨B,aL⟩:=exQ<|W2.heap.size;have av:Hid (vE w X R B t n 0 (.slice p7 t.keys.length z7) (.slice p10 t.items.length z10) wz):=hid (by have:=K.out;rw[aL] at h1 h2;exact⟨az.out.trans (h3.mono (by omega)),h4,(h5 R (by omega) (by omega)).trans a8.out,h1,h2⟩);have C:Hid (X<B/\R<B/\w.heap.size<=B/\w.heap.size<=R):=hid (by have:=K.out;omega);obtain⟨b0,b1,b2,b3,_⟩:=bC h4;clear h1 h2 h3 h4 h5 e7 e10 aL;go_wp2_with fail;go_loopw [16] (λs16 wr=> ∃i:Nat,s16= .int .i64 (i:Int)/\i<=t.items.length/\Hid (vE w X R B t n i (.slice p7 t.keys.length z7) (.slice p10 t.items.length z10) wr)) (λs16 _=>t.items.length-(RowKit.intOf s16).toNat)
 case atStart=>exact⟨0,rfl,bM _,by first | exact av | exact hid av.out⟩
 case round=>
  obtain⟨i,rfl,M,E⟩:=hrel;clear b0 b1 b2 b3;obtain⟨b0,b1,b2,b3,_⟩:=bC E.out.bx;by_cases hil:i<t.items.length
  ·obtain⟨x,hx⟩: ∃x,t.items[i]?=some x:=⟨_,bE hil⟩;have aZ:(i:Int)<(t.items.length:Int):=(by omega);have dk:decide ((i:Int)<(t.items.length:Int))=true:=aM aZ;have hni:(t.items.length:Int)<=1073741824:=by have:=HN.out.2.1;omega
   have a6:=uB (aX hx);obtain⟨G,cG,kv',iv',bd,bb,aq,⟨n0,n1,n2,n3⟩,ah,aS⟩:=E.out.row.at_ hx;injection bd with e1 e2 e3;subst e1 e3;obtain⟨pk2,ck2,px,cx,rfl,rfl⟩:=ah.form;have hi0:(0:Int)<=(i:Int):=(by omega);obtain⟨wa,af⟩:=exQ<|wr.alloc (.cells #[.int .i64 x.kind, .string (bs x.text), .slice pk2 x.keys.length ck2, .slice px x.items.length cx] 26);obtain⟨V,hV⟩:=exQ<|wr.heap.size;have ao:Hid (Below wr.heap.size wr wa):=hid (by rw[<-af];exact aI _ _);have aA:Hid (cV wa V x (.slice pk2 x.keys.length ck2) (.slice px x.items.length cx)):=hid (by rw[<-af,<-hV];exact cV.new wr x _ _);obtain⟨W0,J⟩:=exQ<|wa.drew;have F:Hid (Below wr.heap.size wr W0):=hid (by rw[<-J];exact ao.out.drew);have ad:Hid (Below wa.heap.size wa W0):=hid (by rw[<-J];exact(aB _ _).drew);have aw:Hid (∀w',Below W0.heap.size W0 w'->Calls Tryz.prog 47 #[.agg #[.int .i64 x.kind, .string (bs x.text), .slice pk2 x.keys.length ck2, .slice px x.items.length cx]] w' (jN x w')):=hid (λw' D=>IH x _ _ w' (ah.keep (aC (aC E.out.bel F.out) D)) (by have:=HN.out;omega));have aQ:Hid (wr.heap[X]?=some (.cells #[.int .i64 t.kind, .string (bs t.text), .slice p7 t.keys.length z7, .slice (some ⟨G,0,none⟩) t.items.length z10] 26)):=hid E.out.bx;have aP:Hid (∀w',Below W0.heap.size W0 w'->(w'.cell? ⟨G,i*4,none⟩=some (.int .i64 x.kind)/\w'.cell? ⟨G,i*4+1,none⟩=some (.string (bs x.text))/\w'.cell? ⟨G,i*4+2,none⟩=some (.slice pk2 x.keys.length ck2)/\w'.cell? ⟨G,i*4+3,none⟩=some (.slice px x.items.length cx))/\ ∀o,w'.frozen? ⟨G,o,none⟩=false):=hid (λw' D=>by have T:=aC F.out D;exact⟨⟨bH n0 T,bH n1 T,bH n2 T,bH n3 T⟩,λo=>by rw[T.frozen (p:=⟨G,o,none⟩) aq];exact aS o⟩);have HX:=hid hx;clear hx a6 ah bb aq aS;go_upto_region 5 with fail;clear b0 b1 b2 b3 n0 n1 n2 n3 af hV;obtain⟨SA,aj⟩: ∃S:World->Prop,(λw'=>w'.cell? ⟨X,3,none⟩=some (.slice (some ⟨G,0,none⟩) t.items.length z10)/\w'.cell? ⟨V,0,none⟩=some (.int .i64 x.kind)/\w'.cell? ⟨V,1,none⟩=some (.string (bs x.text))/\w'.cell? ⟨V,2,none⟩=some (.slice pk2 x.keys.length ck2)/\w'.cell? ⟨V,3,none⟩=some (.slice px x.items.length cx))=S:=⟨_,rfl⟩;have al:Hid (∀w',Below W0.heap.size W0 w'->SA w'):=hid (λw' D=>by rw[<-aj];obtain⟨a0,a1,a2,a3⟩:=(aA.out.keep (aC ad.out D)).cells;obtain⟨_,_,_,x3,_⟩:=bC aQ.out;exact⟨bH x3 (aC F.out D),a0,a1,a2,a3⟩);have P:Tryz.prog.follows .mixedOrders=true:=(by kernel_rfl);refine lD P [some 21,some 22,some 23,some 24,some 25,some 26,none] [21,22,23,24,25,26] [4,6] 1000000 (λ_ _=>True) 29 rfl (by kernel_rfl) (by kernel_rfl) (by kernel_rfl) (λiz=>match iz with | 0=> .pointer (some ⟨X,3,none⟩) | 1=> .slice (some ⟨G,0,none⟩) t.items.length z10 | 2=> .int .i64 (i:Int) | 3=> .agg #[.int .i64 x.kind, .string (bs x.text), .slice pk2 x.keys.length ck2, .slice px x.items.length cx] | 5=> .pointer (some ⟨G,i*4,none⟩) | _=>undef) SA (PhR W0 G (i*4) x) (by rw[J];exact al.out _ (aB _ _)) (by rw[J];exact aB _ _) ?_ ?_
   ·intro d a w' iq o' Z M b z l R' y;have ag:iq<7:=(cJ.1 Z).1;have q1:a.tmps[1]?.getD undef= .pointer (some ⟨X,0,none⟩):=bA z 1 (by decide);have q3:a.tmps[3]?.getD undef= .int .i64 (i:Int):=bA z 3 (by decide);have q4:a.tmps[4]?.getD undef= .pointer (some ⟨V,0,none⟩):=bA z 4 (by decide);have hc:=l.all [(0,21),(1,22),(2,23),(3,24),(5,26)] (by decide);dsimp only[fC] at hc;clear z;have H:=b;have r:=Z;have an:iq=4\/iq=6\/iq=0\/iq=2\/iq=5\/iq=1\/iq=3:=(by omega);clear ag;rcases an with rfl|rfl|rfl|rfl|rfl|rfl|rfl<;>simp only[eC,dV,cH,cN] at Z<;>subst Z<;>(try simp[Region.binds] at b)
    ·have c24:=l.g 3 24 rfl (by decide) (by decide) (by decide) (by simp[b]);have am:=l.at2 (j:=0) rfl M (.inl rfl);have hA:Below W0.heap.size W0 w':=am;go_simp;go_at_call 47;refine(aw.out _ hA).mono ?_;rintro e w5 ⟨⟨kv5,iv5,rfl,A⟩,u⟩;have aU:=aC hA u;exact y _ _ (l.eff2 (by kernel_rfl) (by decide) 0 r H rfl M (.inl rfl) rfl (by decide) (λ_ _ _=>trivial) (λ_=>al.out _ aU) ⟨kv5,iv5,rfl,A.mono (λq U _=>aY hA.size U),aU⟩)
    ·have c26:=l.g 5 26 rfl (by decide) (by decide) (by decide) (by simp[b]);have aT:d 4=true:=(by simp[b]);have am:=l.at2 (j:=1) rfl M (.inr ⟨4,rfl,aT⟩);obtain⟨kv5,iv5,Y,A,u⟩:=am;obtain⟨u1,u2,u3,u4,rfl,rfl⟩:=A.form;have Y:a.tmps.getD 25 undef=vv x (.slice u1 x.keys.length u2) (.slice u3 x.items.length u4):=Y;have c25:a.tmps[25]?.getD undef= .agg #[.int .i64 x.kind, .string (bs x.text), .slice u1 x.keys.length u2, .slice u3 x.items.length u4]:=by rw[<-aO];exact Y
     clear Y;obtain⟨⟨m0,m1,m2,m3⟩,mf⟩:=aP.out _ u;obtain⟨f0,f1,f2,f3⟩:=aJ (mf (i*4)) (aJ (mf (i*4+1)) (aJ (mf (i*4+2)) (mf (i*4+3))));clear mf;go_simp;exact y undef _ (l.eff2 (by kernel_rfl) (by decide) 1 r H rfl M (.inr ⟨4,rfl,aT⟩) rfl (by decide) (λ_ _ _=>trivial) (λh=>absurd rfl h) ⟨w',_,_,A,u,rfl⟩)
    iterate 3 (go_simp;exact y _ _ (l.pure (by kernel_rfl) r H rfl (by decide) (by decide) (by decide) rfl))
    all_goals
     have aR:=l.early (f:=7) (by kernel_rfl) M;rw[<-aj] at aR;obtain⟨x3,v0,v1,v2,v3⟩:=aR;go_simp;exact y _ _ (l.pure (by kernel_rfl) r H rfl (by decide) (by decide) (by decide) rfl)
   intro v wz a7 aV;obtain⟨w1,kv5,iv5,A,u,rfl⟩:=aV;have aN:Hid (vE w X R B t n (i+1) (.slice p7 t.keys.length z7) (.slice (some ⟨G,0,none⟩) t.items.length z10) (iE w1 G (i*4) x kv5 iv5)):=hid (E.out.step HX.out C.out.1 C.out.2.1 C.out.2.2.1 (aC F.out u) (A.mono (λq U _=>aY F.out.size U)));obtain⟨WN,aK⟩:=exQ<|iE w1 G (i*4) x kv5 iv5;rw[aK] at aN ⊢;clear a7 A u al aj aP aQ aw ad F aA ao J E aK;simp only[cC,eJ,dO,eK];go_wp2_with fail;go_roundw
   case rel=>exact⟨i+1,by go_num,by omega,aN⟩
   case measure=>simp[RowKit.intOf];omega
  ·have dk:decide ((i:Int)<(t.items.length:Int))=false:=aH (by omega);obtain rfl:i=t.items.length:=(by omega);have HT:Hid (eZ w.heap.size wr t.depth t (.slice p7 t.keys.length z7) (.slice p10 t.items.length z10)):=hid (by have:=fR.fin (k:=t.kind) (s:=t.text) ((E.out.ks.toSVx).agree (λq U _=>⟨rfl,U.1⟩)) E.out.row;rw[VT.eta] at this;exact this.mono (λq U _=>aY C.out.2.2.1 U));have HP:Hid (jN t w (.returned (vv t (.slice p7 t.keys.length z7) (.slice p10 t.items.length z10))) (bG wr R t.kind t.text (.slice p7 t.keys.length z7) (.slice p10 t.items.length z10))):=hid (by have h1:=fR.fin (k:=t.kind) (s:=t.text) ((E.out.ks.toSVx).agree (λq U _=>⟨rfl,U.1⟩)) E.out.row;rw[VT.eta] at h1;exact⟨⟨_,_,rfl,h1.agree (λq U lt=>⟨qL (by have:=C.out;omega),aY C.out.2.2.1 U⟩)⟩,pK E.out.bel C.out.2.2.2⟩);have ay:Hid ((bG wr R t.kind t.text (.slice p7 t.keys.length z7) (.slice p10 t.items.length z10)).heap[R]?=some (.cells #[.int .i64 t.kind, .string (bs t.text),(.slice p7 t.keys.length z7),(.slice p10 t.items.length z10)] 26)):=hid (rQ E.out.rb);obtain⟨r0,r1,r2,r3,f0,f1,f2,f3⟩:=bC E.out.rb;go_wp2_with fail;obtain⟨WF,ai⟩:=exQ<|bG wr R t.kind t.text (.slice p7 t.keys.length z7) (.slice p10 t.items.length z10);rw[ai] at HP ay;have ae:(((wr.setCell ⟨R,0,none⟩ (.int .i64 t.kind)).setCell ⟨R,1,none⟩ (.string (bs t.text))).setCell ⟨R,2,none⟩ (.slice p7 t.keys.length z7)).setCell ⟨R,3,none⟩ (.slice p10 t.items.length z10)=WF:=ai;rw[ae];clear ai ae r0 r1 r2 r3 f0 f1 f2 f3;obtain⟨d0,d1,d2,d3,_⟩:=bC ay.out;refine bodyPost_ret (v:=vv t (.slice p7 t.keys.length z7) (.slice p10 t.items.length z10)) ?_ rfl HP.out;simp[results,Tryz.results47,go_sem,d0,d1,d2,d3,vv]
theorem Nz: ∀n,Ex n
 | 0=>λ_ _ _ _ h=>h.elim
 | n+1=>aBz n (Nz n)
end
section
open Go.RowKit Go.Shelf
def zY (ops:Array Oper):Bool:=ops.all λo=>match o.op with
 | .defer _=>false
 | _=>true
theorem aBA {ops:Array Oper} (h:zY ops=true) (i:Nat) (o:Oper) (ho:ops[i]?=some o) (c:_):o.op≠ .defer c:=by
 intro e;unfold zY at h;have:=Array.all_eq_true'.1 h o (Array.mem_of_getElem? ho);rw[e] at this;cases this
theorem aBB {F:Fence}{n:Nat}{P:Program} (l:Nat) (o:Oper) (a:Act) (K:Act->World->Prop) (Q:Exit->Act->World->Prop): ∀r,o.uponIn F n P a K Q r->o.uponIn (F.inRound l) n P a K Q r
 | .ok x w'=>λh=>by cases x<;>exact h
 | .halt x w'=>λh=>by cases x<;>exact h
theorem Oa {F:Fence}{n:Nat}{P:Program}{md:Region.Mode}{ops:Array Oper}{Q:Exit->Act->World->Prop} (l:Nat) (hro:F.round=none) (hnd: ∀(i:Nat) (o:Oper),ops[i]?=some o-> ∀c,o.op≠ .defer c):
  ∀(fuel:Nat) (listed:Array Bool) (a:Act) (w:World),wpAnyIn F n P md ops Q fuel listed a w->wpAnyIn (F.inRound l) n P md ops Q fuel listed a w
 | 0,_,_,_,h=>h
 | fuel+1,listed,a,w,h=>by
  refine⟨h.1,λi hi=>?_⟩;have h2:=wpOpIn_mono (λa' w' e=>Oa l hro hnd fuel (listed.setIfInBounds i true) a' w' e) (h.2 i hi);unfold wpOpIn at h2 ⊢;cases ho:ops[i]? with
  | none=>rw[ho] at h2;exact h2
  | some o=>
   rw[ho] at h2;simp only[] at h2 ⊢;by_cases hw:Region.wanted o (yielded ops a.tmps)=true
   ·rw[if_pos hw] at h2 ⊢;refine⟨h2.1,?_⟩;have b:=h2.2;rw[hro] at b;show o.uponIn (F.inRound l) n P a _ Q ((o.semAt (some l) a.eval).run P w);rw[Oper.semAt_some l _ _ (hnd i o ho)];exact aBB l o a _ Q _ b
   ·rw[if_neg hw] at h2 ⊢;exact h2
theorem aBC {n:Nat}{P:Program}{o:Oper}{a:Act}{w:World}{K:Act->World->Prop}{Q:Exit->Act->World->Prop} (h:o.wp P a w K Q):o.wpIn Fence.wide n P a w K Q:=by
 refine⟨λ_ _=>trivial,?_⟩;unfold Oper.wp at h;show o.uponIn Fence.wide n P a K Q ((execOp a.eval o).run P w);generalize (execOp a.eval o).run P w=r at h ⊢;cases r with
 | ok x w'=>
  cases x with
  | value v=>exact h
  | skip=>exact h
  | defer d=>exact h
  | enter f args=>exact⟨(λe=>by cases e),callsIn_wide.2 h⟩
  | row r args=>exact⟨(λe=>by cases e),λc cs _=>let ⟨v,w',q,s⟩:=(show Rows P r args w' _ from h) c cs;⟨v,w',q,stepsIn_wide.2 s⟩⟩
  | _=>exact h.elim
 | halt x w'=>cases x<;>exact h
theorem aBD {m:Nat}{P:Program}{md:Region.Mode}{ops:Array Oper}{Q:Exit->Act->World->Prop} (Inv:Array Bool->Act->World->Prop)
  (hs: ∀(L:Array Bool) (a:Act) (w:World) (i:Nat) (o:Oper),L.size=ops.size->ops[i]?=some o->L.getD i true=false->(∀e∈o.after,Region.binds md e=true->L.getD e.on false=true)->Inv L a w->
   ∀K:Act->World->Prop,(∀a' w',Inv (L.setIfInBounds i true) a' w'->K a' w')->if Region.wanted o (yielded ops a.tmps)=true then o.wp P a w K Q else K (a.put o.dst undef) w)
  (hd: ∀(L:Array Bool) (a:Act) (w:World),L.size=ops.size->Inv L a w->Region.ready md ops L= []->Q .normal a w):
  ∀(fuel:Nat) (L:Array Bool) (a:Act) (w:World),L.size=ops.size->L.toList.countP (λb=>!b)<=fuel->Inv L a w->wpAnyIn Fence.wide m P md ops Q fuel L a w:=by
 intro fuel
 induction fuel with
 | zero=>
  intro L a w f q g;have j:Region.ready md ops L= []:=by
   rw[List.eq_nil_iff_forall_not_mem];intro i l;have:=yG L i (mem_ready.1 l).1;omega
  exact⟨j,hd L a w f g j⟩
 | succ fuel ih=>
  intro L a w f q g;refine⟨λj=>hd L a w f g j,λi l=>?_⟩;obtain⟨p,o,n,c⟩:=mem_ready.1 l;have k:=hs L a w i o f n p c g (wpAnyIn Fence.wide m P md ops Q fuel (L.setIfInBounds i true)) (λa' w' h=>ih _ _ _ (by simpa using f) (by have:=yG L i p;omega) h);unfold wpOpIn;rw[n];simp only[];by_cases hw:Region.wanted o (yielded ops a.tmps)=true
  ·rw[if_pos hw] at k ⊢;exact aBC k
  ·rw[if_neg hw] at k ⊢;exact⟨λ_ _=>trivial,k⟩
theorem aBE {m:Nat}{P:Program}{ops:Array Oper}{Q:Exit->Act->World->Prop}{a0:Act}{w0:World} (K:List Nat) (n:Nat) (hn:a0.tmps.size=n) (hback:oU ops=true) (hdst:nR ops K n=true)
  (F:(Nat->Bool)->(Nat->Value)->World->Prop) (h0:F (λ_=>false) (λk=>a0.tmps.getD k undef) w0.drew)
  (hs: ∀(d:Nat->Bool) (a:Act) (w:World) (i:Nat) (o:Oper),ops[i]?=some o->d i=false->(∀e∈o.after,Region.binds .any e=true->d e.on=true)->(∀k,k ∉ K->a.tmps.getD k undef=a0.tmps.getD k undef)->F d (λk=>a.tmps.getD k undef) w->
   ∀R:Act->World->Prop,(∀x w',F (bF d i) (bP (λk=>a.tmps.getD k undef) o.dst x) w'->R (a.put o.dst x) w')->o.wp P a w R Q)
  (hd: ∀(v:Nat->Value) (w:World),F (λi=>decide (i<ops.size)) v w->Q .normal { a0 with tmps:=cC a0.tmps v K } w):wpAnyIn Fence.wide m P .any ops Q ops.size (Array.replicate ops.size false) a0 w0.drew:=by
 subst hn;refine aBD (λL a w=>(a.defers=a0.defers/\a.tmps.size=a0.tmps.size/\ ∀k,k ∉ K->a.tmps.getD k undef=a0.tmps.getD k undef)/\F (λi=>L.getD i false) (λk=>a.tmps.getD k undef) w) ?_ ?_ ops.size _ a0 _ (by simp) (by rw[Array.toList_replicate,List.countP_replicate];split<;>omega) ⟨⟨rfl,rfl,λk _=>rfl⟩,?_⟩
 ·intro L a w i o A f l b B R I;obtain⟨⟨u,g,s⟩,z⟩:=B;have r:i<L.size:=by rw[A];exact(cJ.1 f).1
  have D:Region.wanted o (yielded ops a.tmps)=true:=by simp[Region.wanted,(yH hback f).2]
  rw[if_pos D];refine hs (λi=>L.getD i false) a w i o f ?_ b s z R λx w' E=>I _ _ ⟨⟨?_,?_,λk y=>?_⟩,?_⟩
  ·rw[aO,Array.getElem?_eq_getElem r] at l ⊢;simpa using l
  ·unfold Act.put;cases o.dst<;>exact u
  ·unfold Act.put;cases o.dst
   ·exact g
   ·rw[Array.size_setIfInBounds];exact g
  ·rw[<-s k y];have G:=congrFun (uE a o.dst x (λt q=>by rw[g];exact(qD hdst f t q).2)) k;have e: ∀t,o.dst=t->bP (λk=>a.tmps.getD k undef) t x k=a.tmps.getD k undef:=λt q=>by
    cases t with
    | none=>rfl
    | some t=>exact if_neg (λh=>y (by rw[h];exact(qD hdst f t q).1))
   exact G.trans (e _ rfl)
  ·rw[Bf L i r,uE a o.dst x (λt q=>by rw[g];exact(qD hdst f t q).2)];exact E
 ·intro L a w A B H;obtain⟨⟨u,g,s⟩,z⟩:=B;have b:=Ic hback A H;have p:(λi=>L.getD i false)=λi=>decide (i<ops.size):=by
   funext i;by_cases l:i<ops.size
   ·rw[b i l,aM l]
   ·rw[aH l,aO,Array.getElem?_eq_none (by omega)];rfl
  rw[p] at z;have:=hd _ w z;have C:a= { a0 with tmps:=cC a0.tmps (λk=>a.tmps.getD k undef) K }:=by
   cases a with
   | mk tmps defers=>
    simp only at u g s ⊢;rw[u];congr 1;refine Array.ext_getElem? λj=>?_;by_cases hj:j<a0.tmps.size
    ·rw[yI _ _ j hj];have c:tmps[j]?=some (tmps.getD j undef):=by rw[aO,Array.getElem?_eq_getElem (by omega)];rfl
     split
     ·exact c
     ·rename_i y;rw[c,s j y,aO,Array.getElem?_eq_getElem hj];rfl
    ·rw[Array.getElem?_eq_none (by omega),Array.getElem?_eq_none (by rw[vY];omega)]
  rw[C];exact this
 ·have:(λi=>(Array.replicate ops.size false).getD i false)=λ_=>false:=by
   funext i;rw[aO,Array.getElem?_replicate];split<;>rfl
  rw[this];exact h0
theorem aBF {P:Program}{ops:Array Oper}{Q:Exit->Act->World->Prop}{id l m:Nat}{a0:Act}{w0:World} (hm:P.follows .mixedOrders=true) (hnd:zY ops=true) (h:wpAnyIn Fence.wide m P .any ops Q ops.size (Array.replicate ops.size false) a0 w0.drew):(Code.region id ops true).wpIn (Fence.wide.inRound l) m P Q a0 w0:=
 wpIn_region_any hm (Oa l rfl (aBA hnd) _ _ _ _ h)
theorem aBG {P:Program}{α:Type}{g:Operand}{ps:Array Tmp}{assign body:Code}{Q:Exit->Act->World->Prop}{a:Act}{w:World}{n:Nat}
  {gf:Nat}{lb:Array Value} (hg:a.eval g= .func (.func gf) #[] lb) (eg: ∀args w,(callFunc gf args).run P w= .ok (.enter gf args) w)
  {encs:α->Array Value} (hps: ∀x,(encs x).size=ps.size) {S:List α->Prop}{Px:List α->α->Prop}{Ok Kp:World->World->Prop}
  (hOk: ∀A B,Ok A B-> ∀i,w.heap.size<=i->i<A.heap.size->B.heap[i]?=A.heap[i]?)
  (hseq: ∀(l:Nat) (J:List α->World->Prop) (W:World),Below w.heap.size w W->(∀pre A B,J pre A->Ok A B->J pre B)->
   (∀pre x W1,J pre W1->Px pre x->YieldAt Fence.wide (n-1-1) P l (encs x) W1 λe W'=>e= .returned (.bool true)/\J (pre++ [x]) W'/\Kp W1 W')->J [] W->
   CallsIn Fence.wide (n-1) P gf (#[.func (.yield l) #[] #[]]++lb) W λe W'=>(∃v,e= .returned v)/\ ∃ys,S ys/\J ys W')
  (hKt: ∀A B C,Kp A B->Kp B C->Kp A C) (hKb: ∀(W:World) (l:Nat) (o o':Obj),w.heap.size<=l->W.heap[l]?=some o->o.isCells=false->Kp W (W.putObj l o'))
  (I:List α->World->Prop) (hI: ∀pre A B,I pre A->Ok A B->I pre B) (hIp: ∀pre (A:World) (l:Nat) (o o':Obj),I pre A->w.heap.size<=l->A.heap[l]?=some o->o.isCells=false->I pre (A.putObj l o'))
  (hIa: ∀pre (A:World) (o:Obj),I pre A->I pre (A.alloc o)) (h0:I [] w)
  (hbody: ∀(l:Nat) (pre:List α) (x:α) (W:World),w.heap.size<=l->l<W.heap.size->I pre W->Px pre x->
   assign.wpIn (Fence.wide.inRound l) (n-1-1) P (Exit.then (λa' W'=>KeepsFrom w.heap.size W W'/\Kp W W'/\ ∀o o',W'.heap[l]?=some o->o.isCells=false->body.wpIn (Fence.wide.inRound l) (n-1-1) P
    (λe _ W3=>e= .normal/\KeepsFrom w.heap.size (W'.putObj l o') W3/\I (pre++ [x]) W3/\Kp (W'.putObj l o') W3) a' (W'.putObj l o')) (λ_ _ _=>False))
    { tmps:=(ps.zip (encs x)).foldl (λt (p,v)=>t.setIfInBounds p v) a.tmps,defers:= [] } W)
  (hdone: ∀(D:Nat) (ys:List α) (W:World),w.heap.size<=D->S ys->I ys W->W.heap[D]?=some (.deferred (some []))->Q .normal { a with defers:= { target:= .collected D,args:= #[] }::a.defers } W):
  (Code.rangeFunc g ps assign body).wpIn Fence.wide n P Q a w:=by
 refine wpIn_rangeFunc ?_;intro fn K;obtain⟨rec,b⟩: ∃rec:LoopState->Loop,rec=λst=> { state:=st,pending:=none,fn,tmps:=a.tmps,params:=ps,assign,body,defers:=w.heap.size }:=⟨_,rfl⟩;obtain⟨W1,c⟩:=exQ<|(w.alloc (.deferred (some []))).alloc (.loop (rec .ready));obtain⟨D,G⟩:=exQ<|w.heap.size;have sL:W1.heap[D+1]?=some (.loop (rec .ready)):=by
  have:=World.alloc_heap_new (w.alloc (.deferred (some []))) (.loop (rec .ready))
  rwa [kT,G,c] at this
 have sK:W1.heap[D]?=some (.deferred (some [])):=by
  rw[<-c,<-G];exact(Below.heap_alloc _ _ _ (by simp)).trans (World.alloc_heap_new w _)
 have sI:I [] W1:=by rw[<-c];exact hIa _ _ _ (hIa _ _ _ h0)
 have sB:Below w.heap.size w W1:=by rw[<-c];exact((aB _ w).alloc (aE _) _).alloc (by simp) _
 refine⟨D+1,[{ target:= .collected D,args:= #[] }],W1, { target:= .fn (.func gf) lb,args:= #[.func (.yield (D+1)) #[] #[]] },W1,gf, #[.func (.yield (D+1)) #[] #[]]++lb,W1,?_,?_,?_,?_,?_,?_⟩
 ·rw[<-c,b,<-G];exact run_enterLoop_outer _ _ _ _ _
 ·simp only[resolve,hg];simp[go_sem]
 ·intro _ _;trivial
 ·simp[invoke,go_sem,eg]
 ·intro h;cases h
 ·refine(hseq (D+1) (λpre W=>I pre W/\W.heap[D+1]?=some (.loop (rec .ready))/\W.heap[D]?=some (.deferred (some []))) W1 sB ?_ ?_ ⟨sI,sL,sK⟩).mono ?_
  ·rintro pre A B ⟨r,f,s⟩ y;have l1:=(cJ.1 f).1;exact⟨hI _ _ _ r y,(hOk A B y _ (by omega) l1).trans f,(hOk A B y _ (by omega) (by omega)).trans s⟩
  ·rintro pre x W ⟨r,f,s⟩ F;have l1:=(cJ.1 f).1;have u:=run_yield (P:=P) (args:=encs x) f (by rw[b];exact hps x);rw[b] at u;refine⟨fn,_,assign,body,u,roundIn_of_wpIn K (wpIn_mono (hbody (D+1) pre x W (by omega) l1 r F) ?_)⟩;clear u;rintro e a' W' h;cases e with
   | normal=>
    obtain⟨k,H,O⟩:=h;have j:=k.same _ _ (by omega) f rfl;have z:=k.same _ _ (by omega) s rfl;have l1':=(cJ.1 j).1;refine⟨_,run_beginRound j (by rw[b]),?_⟩;have l2:(W'.putObj (D+1) (.loop { rec .ready with state:= .busy })).heap[D+1]?=some (.loop { rec .ready with state:= .busy }):=World.putObj_heap_same l1';have k2:(W'.putObj (D+1) (.loop { rec .ready with state:= .busy })).heap[D]?=some (.deferred (some [])):=(World.putObj_heap_other (by omega)).trans z;have p2:=hKt _ _ _ H (hKb W' (D+1) _ (.loop { rec .ready with state:= .busy }) (by omega) j rfl);refine wpIn_mono (O _ (.loop { rec .ready with state:= .busy }) j rfl) ?_;rintro e a3 W3 ⟨rfl,q,L,E⟩;have l3:=q.same _ _ (by omega) l2 rfl;have k3:=q.same _ _ (by omega) k2 rfl;have M:=run_endRound (P:=P) none l3;have er: { rec .ready with state:=(if(none:Option Code).isNone=true then LoopState.ready else LoopState.done),pending:=none }=rec .ready:=by rw[b];rfl
    refine⟨_,_,M,rfl,⟨hIp _ _ _ _ _ L (by omega) l3 rfl,?_,?_⟩,hKt _ _ _ (hKt _ _ _ p2 E) (hKb W3 (D+1) _ _ (by omega) l3 rfl)⟩
    ·rw[b] at er ⊢;exact World.putObj_heap_same (cJ.1 l3).1
    ·exact(World.putObj_heap_other (by omega)).trans k3
   | _=>exact h.elim
  ·rintro e W2 ⟨⟨v,rfl⟩,ys,N,r,f,s⟩;have M:=run_endLoop (P:=P) f (by rw[b];simp);exact⟨_,_,M,by rw[b];exact hdone D ys _ (by omega) N (hIp _ _ _ _ _ r (by omega) f rfl) ((World.putObj_heap_other (by omega)).trans s)⟩
end
end Go.Proofs.YtaifnmjjpddikaaGreatDoor
