import Derived.Test.YtfhjncbdgjlcoaaGreatDoorYn7
import Derived.Test.YtfhjncbdgjlcoaaGreatDoorYn9
set_option linter.unusedVariables false
set_option linter.unusedSimpArgs false
set_option maxRecDepth 100000
set_option maxHeartbeats 8000000
namespace Go.Proofs.YtfhjncbdgjlcoaaGreatDoor
open Tryz
open Go.RowKit Go.Maps Go.WideMaps
open Go.Lib hiding intOf
theorem Lf: ∀(ts:List aR) (j:Nat) (t:aR),ts[j]?=some t->(mS ts)[j*3]?=some (.int .i64 t.kind)/\(mS ts)[j*3+1]?=some (.int .i64 t.sf)/\(mS ts)[j*3+2]?=some (.int .i64 t.st)
 | [],j,t,h=>by simp at h
 | u::ts,0,t,h=>by
  obtain rfl:u=t:=s'
  exact⟨rfl,rfl,rfl⟩
 | u::ts,j+1,t,h=>by
  rw[bY] at h;have:=Lf ts j t h;rw[show (j+1)*3=j*3+3 by omega];exact this
theorem Wv (ts:List aR) (t:aR):mS (ts++ [t])=mS ts++ [.int .i64 t.kind, .int .i64 t.sf, .int .i64 t.st]:=by unfold mS;simp
theorem fV.toTV {B:Nat}{w:World}{v:Value}{ts:List aR} (h:fV B w v ts):TV w v ts:=by
 rcases h.2 with⟨l,d⟩ | ⟨g,i,e,d,hb,m,p,_⟩
 .exact⟨none,0,by rw[l,d],a_, .inl (List.length_eq_zero_iff.1 d)⟩
 .refine⟨some ⟨g,0,none⟩,i,d,p, .inr ⟨g,0,e,rfl,m,λj t o=>?_⟩⟩;obtain⟨a,b,c⟩:=Lf ts j t o;have k:=h.cells (g:=g) (by rw[d];rfl);have f: ∀n,((⟨g,0,none⟩:Addr).add n)=⟨g,n,none⟩:=λn=>by unfold Addr.add;split<;>simp_all
  simp only[Nat.zero_add];exact⟨by rw[<-f];exact k _ _ a,by rw[<-f];exact k _ _ b,by rw[<-f];exact k _ _ c⟩
theorem Lg: ∀(f:Nat) (l:aC) (i:Nat),∀t∈(eR f l i).1,t.sf<=t.st/\t.st<=i+l.length
 | f,[],i,t,ht=>by rw[uH] at ht;cases ht
 | 0,c::r,i,t,ht=>by cases ht
 | f+1,c::r,i,t,ht=>by
  rw[uG] at ht;split at ht
  .have h1:=(vT (c::r) e_).1;rcases fT.1 ht with rfl | ht
   .simp only[];omega
   .have:=Lg f _ _ t ht;rw[bC] at this;omega
  .cases ht
theorem Lh: ∀(f:Nat) (l:aC) (i:Nat),(eR f l i).1.length<=f
 | 0,l,i=>by simp[eR]
 | f+1,[],i=>by rw[uH];simp
 | f+1,c::r,i=>by
  rw[uG];split
  .simp only[bM];have:=Lh f ((c::r).drop (bT (c::r)).2.1) (i+(bT (c::r)).2.1);omega
  .simp
theorem En (l:aC):(dX l).1.length<=65536/\(∀t∈(dX l).1,t.sf<=t.st/\t.st<=l.length)/\((dX l).2.2=0->l.length<=65536):=by
 unfold dX;split
 .exact⟨e_,λt h=>JD,λh=>JD⟩
 .split
  .exact⟨bF (Lh _ _ _) a_,λt h=>by have:=Lg _ _ _ t h;omega,λ_=>by omega⟩
  .rename_i p e a;refine⟨e_,λt h=>JD,λh=>?_⟩;have:=zN l.length l 0 p e (aF _) a;exact absurd h this.2.2
def Ww (B:Nat) (w:World) (txt:aC) (nodes:List aM) (v:Value):Prop:= ∃z nv,v= .agg #[bs txt,nv]/\z.map (·.1)=nodes/\cK B z nv w
def tI (l:aC):List aM->aC
 | []=> []
 | _::_=>l
def Eo (l:aC) (r:List aM×Int×Int) (w:World) (e:Ending) (w':World):Prop:=
 ∃v,e= .returned (.tuple #[v,r.2.1,r.2.2])/\Ww w.heap.size w' (tI l r.1) r.1 v/\Below w.heap.size w w'
theorem Li {ops:Array Oper}{o:Oper}{a:Act}{K:Act->World->Prop}{Q:Exit->Act->World->Prop}{E:Prop} (hgd:o.guard=none) (s x:Operand)
  (ho:o.op= .call { callee:= .builtin .append,args:= #[s,x],argTypes:= #[156,156] })
  (B:Nat) (w:World) (v:Value) (ts:List aR) (t:aR) (hs:a.eval s=v) (hown:fV B w v ts) (hx:a.eval x= .slice (some ⟨w.heap.size,0,none⟩) 1 1) (hl:ts.length<=4294967295) (hB:B<=w.heap.size)
  (hK: ∀kv w',fV B w' kv (ts++ [t])->w.grownBy w' v.ownBlock->K (a.put o.dst kv) w'):
  if Region.wanted o (yielded ops a.tmps)=true then Oper.wp prog o a (w.alloc (.cells #[t.kind,t.sf,t.st] 163)) K Q else E:=by
 obtain⟨i0,f,d,e,c⟩:=info_parts infoTok;refine step_append_lies _ hgd s x 156 ho B 163 i0 _ 3 24 underlying156 f d e c rfl b_ v _ (mS ts) hs (World.ownsRow.alloc hown _) ⟨w.heap.size,0,none⟩ 1 1 [t.kind,t.sf,t.st] hx DS (tD w #[t.kind,t.sf,t.st] _)
  (λu b=>by
   rcases fT.1 b with rfl | b
   .rfl
   .rcases fT.1 b with rfl | b
    .rfl
    .rw[kT.1 b];rfl) b_ r_ a_ h_ _ rfl ?_
 intro g cap w' i h h7 _;refine hK _ w' ?_ (uS h);unfold fV;rw[Wv,aZ,dF];exact i
theorem Ar {w:World}{X:Nat}{u v:Value}{t:TypeId} (h:w.heap[X]?=some (.cells #[u,v] t)):w.frozen? ⟨X,0,none⟩=false/\w.frozen? ⟨X,1,none⟩=false:=by
 constructor<;>simp[World.frozen?,h]
theorem tJ {fn:Func} (h:fn.results= #[.cell 2 134, .tmp 3, .tmp 4]) (tmps:Array Value) (w:World) {D:Nat}{u v:Value} (hD:tmps.getD 2 undef= .pointer (some ⟨D,0,none⟩)) (h0:w.cell? (D,0)=some u) (h1:w.cell? (D,1)=some v):
  (results fn tmps).run prog w= .ok (.tuple #[.agg #[u,v],tmps.getD 3 undef,tmps.getD 4 undef]) w:=by
 have a:tmps[2]?.getD undef= .pointer (some ⟨D,0,none⟩):=by rw[<-aN];exact hD
 simp[results,h,a,asAddr,go_sem,h0,h1]
theorem dO.rest {w:World}{P:Nat}{txt:aC}{rv nv:Value}{l:Sp}{a:Nat}{er:Int} (h:dO w P txt rv l nv a er) (rv2:Value):dO (w.setCell ⟨P,1,none⟩ rv2) P txt rv2 l nv a er:=D8
theorem dO.off {w w':World}{P B:Nat}{txt:aC}{rv nv:Value}{l:Sp}{a:Nat}{er:Int} (h:dO w P txt rv l nv a er) {ts:List aR}{v:Value} (hr:fV B w v ts) (hg:w.grownBy w' v.ownBlock):dO w' P txt rv l nv a er:=
 (hg.block P h.lt (λe=>by
  rcases dG hr h b_ with b | b
  .rw[b] at e;cases e
  .exact b e.symm)).trans h
theorem Lj {w:World}{B:Nat}{kv:Value}{ts:List aR}{t:aR} (h:fV B w kv (ts++ [t])): ∃g c,kv= .slice (some ⟨g,0,none⟩) (ts.length+1) c:=by
 unfold fV at h;rw[aZ,dF] at h;exact rN h
theorem Wx {w w2 w5:World}{P:Nat}{txt:aC}{rv nv kv:Value}{l:Sp}{a:Nat}{er:Int}{ts:List aR}{t:aR} (h1:dO w P txt rv l nv a er) (hr:fV (P+1) w rv ts) (hb:Below P w2 w) (hg:w.grownBy w5 rv.ownBlock) (ho:fV (P+1) w5 kv (ts++ [t])):
  dO (w5.setCell ⟨P,1,none⟩ kv) P txt kv l nv a er/\fV (P+1) (w5.setCell ⟨P,1,none⟩ kv) kv (ts++ [t])/\Below P w2 (w5.setCell ⟨P,1,none⟩ kv)/\w5.cell? (P,1)=some rv/\w5.frozen? ⟨P,1,none⟩=false:=by
 have j5:=h1.off hr hg;refine⟨j5.rest kv,ho.kept (dP w5 P 1 kv) (dG ho j5 b_),(hb.grown hg (by have:=h1.lt;omega) (λk b=>by have:=(hr.lt k b).1;omega)).setCell e_ _,j5.cells.2.1,j5.cells.2.2.2.2.2.2.2.1⟩
def uX (n:Nat):JR->List aM×Int×Int
 | .bad a e=>([],(a:Int),e)
 | .ok [] _ ns=>(ns,(n:Int),0)
 | .ok (t::_) _ _=>([],(t.sf:Int),2)
def eT (ts:List aR):List aR:=ts.filter (λt=>t.kind !=1)
theorem Ll (ts:List aR) (k:Nat) (t:aR) (h:ts[k]?=some t):eT (ts.take (k+1))=eT (ts.take k)++(if t.kind=1 then [] else [t]):=by
 unfold eT;rw[List.take_add_one,h,Option.toList_some,List.filter_append];congr 1;by_cases hk:t.kind=1
 .simp[hk]
 .simp[hk]
theorem wD {w w2 wr w4:World}{P:Nat} (hD:w2.heap[w.heap.size]?=some (.cells #[.string ⟨#[]⟩,()] 134)) (h1:aA w2 wr) (h2:Fr w2.heap.size P wr w4):
  w4.cell? (w.heap.size,0)=some (.string ⟨#[]⟩)/\w4.cell? (w.heap.size,1)=some (.slice none 0 0)/\w4.frozen? ⟨w.heap.size,0,none⟩=false/\w4.frozen? ⟨w.heap.size,1,none⟩=false/\w4.heap[w.heap.size]?=some (.cells #[.string ⟨#[]⟩,()] 134):=by
 have h:w4.heap[w.heap.size]?=some (.cells #[.string ⟨#[]⟩,()] 134):=((h1.trans h2.bel).block _ (aG hD)).trans hD;exact⟨(qO h).1,(qO h).2,(Ar h).1,(Ar h).2,h⟩
theorem Ep {w:World}{B B':Nat}{e:TypeId}{s:Nat}{v:Value}{n:Nat}{xs:List Value} (h:w.ownsRow B e s v n xs) (hB:B'<=B):w.ownsRow B' e s v n xs:=FL
theorem cK.base {B B':Nat}{z:List ND}{nv:Value}{w:World} (h:cK B z nv w) (hB:B'<=B):cK B' z nv w:=
 ⟨Ep h.row hB,λy a=>Ep (h.kids y a) hB,λy a=>Ep (h.pcs y a) hB,h.ak,h.ap⟩
theorem As {w W:World}{l:aC}{at_ er:Int} (hb:aA w W) (nd:List aM×Int×Int) (h1:nd=([],at_,er)):Eo l nd w (.returned (.tuple #[.agg #[.string ⟨#[]⟩,()],at_,er])) W:=by
 subst h1;exact⟨_,rfl,⟨[], .slice none 0 0,rfl,rfl,cK.nil _ _⟩,hb⟩
theorem Wy (l:aC) (w:World) (hs:l.length<=4611686018427387904) (hV:eQ w) (hT:dE w):
  Calls prog 113 #[bs l] w (Eo l (gE l) w):=by
 have RI:=trivial;exact PN
def uY (w:World) (v:Value) (l:List Nat):Prop:= ∃p c,v= .slice p l.length c/\ ∀(j k:Nat),l[j]?=some k-> ∃g,p=some ⟨g,0,none⟩/\w.cell? ⟨g,j,none⟩=some (.int .i64 (k:Int))
def xZ (w:World) (v:Value) (l:List Sp):Prop:= ∃p c,v= .slice p l.length c/\ ∀(j:Nat) (k:Sp),l[j]?=some k-> ∃g,p=some ⟨g,0,none⟩/\w.cell? ⟨g,j*2,none⟩=some (.int .i64 (k.1:Int))/\w.cell? ⟨g,j*2+1,none⟩=some (.int .i64 (k.2:Int))
def yA (w:World) (g i:Nat) (x:aM):Prop:= ∃kv pv,w.cell? (g,i*7)=some (.int .i64 (x.kind:Int))/\w.cell? (g,i*7+1)=some (.int .i64 (x.sf:Int))/\w.cell? (g,i*7+2)=some (.int .i64 (x.st:Int))/\
 w.cell? (g,i*7+3)=some (.int .i64 (x.key.1:Int))/\w.cell? (g,i*7+4)=some (.int .i64 (x.key.2:Int))/\w.cell? (g,i*7+5)=some kv/\w.cell? (g,i*7+6)=some pv/\uY w kv x.kids/\xZ w pv x.pcs
def At (w:World) (nv:Value) (nodes:List aM):Prop:= ∃p c,nv= .slice p nodes.length c/\ ∀i x,nodes[i]?=some x-> ∃g,p=some ⟨g,0,none⟩/\yA w g i x
theorem fM {w w':World}{a:Addr}{u:Value} (h:w.cell? a=some u) (hb:aA w w'):w'.cell? a=some u:=by
 rw[hb.cell (World.block_lt_of_cell? w a h)];exact h
theorem uY.keep {w w':World}{v:Value}{l:List Nat} (h:uY w v l) (hb:aA w w'):uY w' v l:=by
 obtain⟨p,c,d,b⟩:=h;exact⟨p,c,d,λj k a=>by obtain⟨g,e,f⟩:=b j k a;exact⟨g,e,fM f hb⟩⟩
theorem xZ.keep {w w':World}{v:Value}{l:List Sp} (h:xZ w v l) (hb:aA w w'):xZ w' v l:=by
 obtain⟨p,c,f,d⟩:=h;exact⟨p,c,f,λj k b=>by obtain⟨g,e,i,a⟩:=d j k b;exact⟨g,e,fM i hb,fM a hb⟩⟩
theorem yA.keep {w w':World}{g i:Nat}{x:aM} (h:yA w g i x) (hb:aA w w'):yA w' g i x:=by
 obtain⟨kv,pv,k,e,c,l,d,j,a,f,b⟩:=h;exact⟨kv,pv,fM k hb,fM e hb,fM c hb,fM l hb,fM d hb,fM j hb,fM a hb,f.keep hb,b.keep hb⟩
theorem Lm: ∀(l:List Sp) (j:Nat) (k:Sp),l[j]?=some k->(lS l)[j*2]?=some (.int .i64 (k.1:Int))/\(lS l)[j*2+1]?=some (.int .i64 (k.2:Int))
 | [],j,k,h=>by simp at h
 | u::l,0,k,h=>by
  obtain rfl:u=k:=s'
  exact⟨rfl,rfl⟩
 | u::l,j+1,k,h=>by
  rw[bY] at h;have:=Lm l j k h;rw[show (j+1)*2=j*2+2 by omega];exact this
theorem Au {w:World}{B:Nat}{e:TypeId}{s:Nat}{v:Value}{n:Nat}{xs:List Value} (h:w.ownsRow B e s v n xs): ∃p c,v= .slice p n c/\(n≠0-> ∃g,p=some ⟨g,0,none⟩/\ ∀i u,xs[i]?=some u->w.cell? ⟨g,i,none⟩=some u):=by
 rcases h.2 with⟨rfl,rfl⟩ | ⟨g,cap,cur,rfl,_⟩
 .exact⟨none,0,rfl,λh=>absurd rfl h⟩
 .refine⟨_,_,rfl,λ_=>⟨g,rfl,λi u d=>?_⟩⟩;have b:=h.cells (g:=g) rfl;have a:((⟨g,0,none⟩:Addr).add i)=⟨g,i,none⟩:=by unfold Addr.add;split<;>simp_all
  rw[<-a];exact b _ _ d
theorem Wz {w:World}{B:Nat}{v:Value}{l:List Nat} (h:w.ownsRow B 3 1 v l.length (dH l)):uY w v l:=by
 obtain⟨p,c,d,b⟩:=Au h;refine⟨p,c,d,λj k a=>?_⟩;have hj1:=(aW.1 a).1;obtain⟨g,e,f⟩:=b a_;exact⟨g,e,f j _ (by unfold dH;rw[cF,a];rfl)⟩
theorem Xa {w:World}{B:Nat}{v:Value}{l:List Sp} (h:w.ownsRow B 42 2 v l.length (lS l)):xZ w v l:=by
 obtain⟨p,c,m,i⟩:=Au h;refine⟨p,c,m,λj k d=>?_⟩;have hj1:=(aW.1 d).1;obtain⟨g,e,f⟩:=i a_;obtain⟨a,b⟩:=Lm l j k d;exact⟨g,e,f _ _ a,f _ _ b⟩
theorem At.of {B:Nat}{w:World}{z:List ND}{nv:Value} (h:cK B z nv w):At w nv (z.map (·.1)):=by
 obtain⟨p,c,n,j⟩:=Au h.row;refine⟨p,c,by rw[bP];exact n,λi x d=>?_⟩;rw[cF] at d;obtain⟨y,b,rfl⟩:=uM.1 d;have hj1:=(aW.1 b).1;obtain⟨g,e,o⟩:=j a_;have f:=bH b;have a: ∀k,k<7-> ∀u,(gP y)[k]?=some u->w.cell? ⟨g,i*7+k,none⟩=some u:=λk m u l=>o _ _ (by rw[xS z i y b k m];exact l);exact⟨g,e,y.2.1,y.2.2,a 0 a_ _ rfl,a 1 a_ _ rfl,a 2 a_ _ rfl,a 3 a_ _ rfl,a 4 a_ _ rfl,a 5 a_ _ rfl,a 6 a_ _ rfl,Wz (h.kids y f),Xa (h.pcs y f)⟩
def rQ (w:World) (p:Option Addr) (nodes:List aM):Prop:= ∀(i:Nat) (x:aM),nodes[i]?=some x-> ∃g,p=some ⟨g,0,none⟩/\yA w g i x
theorem rQ.keep {w w':World}{p:Option Addr}{nodes:List aM} (h:rQ w p nodes) (hb:aA w w'):rQ w' p nodes:=λi x a=>by
 obtain⟨g,e,b⟩:=h i x a;exact⟨g,e,b.keep hb⟩
def yB (l:aC) (r:List aM×Int×Int) (w:World) (e:Ending) (w':World):Prop:=
 ∃p c,e= .returned (.tuple #[.agg #[bs (tI l r.1), .slice p r.1.length c],r.2.1,r.2.2])/\rQ w' p r.1/\Below w.heap.size w w'
theorem Xb (l:aC) (r:List aM×Int×Int) (hr:gE l=r) (w:World) (hs:l.length<=4611686018427387904) (hV:eQ w) (hT:dE w):
  Calls prog 113 #[bs l] w (yB l r w):=by
 subst hr;refine(Wy l w hs hV hT).mono λe w' h=>?_;exact FH
theorem Xc (l:aC) (lv:Nat) (ts:List aR) (hts:ts.length<=65536):(vU l.length (bS l lv ts (0,0) [] (0,0))).1.length<=65536:=by
 cases hR:bS l lv ts (0,0) [] (0,0) with
 | bad a er=>simp[vU]
 | ok rr l2 ns=>
  obtain⟨more,b,hm1,c,_⟩:=nY l lv _ _ _ _ _ _ _ hR;cases rr with
  | nil=>rw[rJ] at b;subst b;show ns.length<=_;simp only[lQ] at c;omega
  | cons t rr=>simp[vU]
theorem Av (l:aC):(gE l).1.length<=65536:=by
 rw[Iy];split
 .simp
 .exact Xc l 32 _ (bF (List.length_filter_le _ _) (En l).1)
def wE (w:World) (D:Nat) (txt:ByteArray) (p:Option Addr) (n c:Nat):Prop:=w.heap[D]?=some (.cells #[txt, .slice p n c] 134)
theorem wE.new (w:World) (txt:ByteArray) (p:Option Addr) (n c:Nat):wE (w.alloc (.cells #[txt, .slice p n c] 134)) w.heap.size txt p n c:=heap_alloc_new w _
def tK (txt:ByteArray) (a b:Int):ByteArray:=if a<0\/b<a\/(txt.size:Int)<b then⟨#[]⟩ else txt.extract a.toNat b.toNat
theorem Ln (txt:ByteArray) (nv:Value) (hnv:nv.oneCell'=true) (a b:Int) (w:World):
  Calls prog 154 #[.agg #[txt,nv], .agg #[a,b]] w (aT w (.string (tK txt a b))):=IA
theorem Xd (txt:ByteArray) (nv:Value) (hnv:nv.oneCell'=true) (a b:Int) (w:World):
  Calls prog 133 #[.agg #[txt,nv], .agg #[a,b]] w (aT w (.string (tK txt a b))):=IA
end Go.Proofs.YtfhjncbdgjlcoaaGreatDoor
