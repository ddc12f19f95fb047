import Derived.Test.YtfhjncbdgjlcoaaGreatDoorYa7
import Derived.Test.YtfhjncbdgjlcoaaGreatDoorYa9
set_option maxRecDepth 100000
set_option maxHeartbeats 8000000
set_option linter.unusedVariables false
set_option linter.unusedSimpArgs false
namespace Go.Proofs.YtfhjncbdgjlcoaaGreatDoor
open Go.RowKit Go.Maps Go.WideMaps
open Go.Lib hiding intOf
theorem Kd: ∀(ts:List aN) (j:Nat) (t:aN),ts[j]?=some t->(lS ts)[j*3]?=some (.int .i64 t.kind)/\(lS ts)[j*3+1]?=some (.int .i64 t.sf)/\(lS ts)[j*3+2]?=some (.int .i64 t.st)
 | [],j,t,h=>by simp at h
 | u::ts,0,t,h=>by
  obtain rfl:u=t:=r_
  exact⟨rfl,rfl,rfl⟩
 | u::ts,j+1,t,h=>by
  rw[bZ] at h;have:=Kd ts j t h;rw[show (j+1)*3=j*3+3 by omega];exact this
theorem Uy (ts:List aN) (t:aN):lS (ts++ [t])=lS ts++ [.int .i64 t.kind, .int .i64 t.sf, .int .i64 t.st]:=by unfold lS;simp
theorem fG.toTV {B:Nat}{w:World}{v:Value}{ts:List aN} (h:fG B w v ts):TV w v ts:=by
 rcases h.2 with⟨l,d⟩ | ⟨g,f,k,d,hb,m,p,_⟩
 ·exact⟨none,0,by rw[l,d],a_, .inl (List.length_eq_zero_iff.1 d)⟩
 ·refine⟨some ⟨g,0,none⟩,f,d,p, .inr ⟨g,0,k,rfl,m,λj t o=>?_⟩⟩;obtain⟨a,b,c⟩:=Kd ts j t o;have i:=h.cells (g:=g) (by rw[d];rfl);have e: ∀n,((⟨g,0,none⟩:Addr).add n)=⟨g,n,none⟩:=λn=>by unfold Addr.add;split<;>simp_all
  simp only[Nat.zero_add];exact⟨by rw[<-e];exact i _ _ a,by rw[<-e];exact i _ _ b,by rw[<-e];exact i _ _ c⟩
theorem Ke: ∀(f:Nat) (l:List UInt8) (i:Nat),∀t∈(eG f l i).1,t.sf<=t.st/\t.st<=i+l.length
 | f,[],i,t,ht=>by rw[tN] at ht;cases ht
 | 0,c::r,i,t,ht=>by cases ht
 | f+1,c::r,i,t,ht=>by
  rw[tM] at ht;split at ht
  ·have h1:=(vJ (c::r) e_).1;rcases fY.1 ht with rfl | ht
   ·simp only[];omega
   ·have:=Ke f _ _ t ht;rw[aU] at this;omega
  ·cases ht
theorem Kf: ∀(f:Nat) (l:List UInt8) (i:Nat),(eG f l i).1.length<=f
 | 0,l,i=>by simp[eG]
 | f+1,[],i=>by rw[tN];simp
 | f+1,c::r,i=>by
  rw[tM];split
  ·simp only[bH];have:=Kf f ((c::r).drop (bK (c::r)).2.1) (i+(bK (c::r)).2.1);omega
  ·simp
theorem Dp (l:List UInt8):(dH l).1.length<=65536/\(∀t∈(dH l).1,t.sf<=t.st/\t.st<=l.length)/\((dH l).2.2=0->l.length<=65536):=by
 unfold dH;split
 ·exact⟨e_,λt h=>E0,λh=>E0⟩
 ·split
  ·exact⟨aZ (Kf _ _ _) a_,λt h=>by have:=Ke _ _ _ t h;omega,λ_=>by omega⟩
  ·rename_i p e a;refine⟨e_,λt h=>E0,λh=>?_⟩;have:=yU l.length l 0 p e (aD _) a;exact absurd h this.2.2
def Uz (B:Nat) (w:World) (txt:List UInt8) (nodes:List aH) (v:Value):Prop:= ∃z nv,v= .agg #[bs txt,nv]/\z.map (·.1)=nodes/\cD B z nv w
def sL (l:List UInt8):List aH->List UInt8
 | []=> []
 | _::_=>l
def Dq (l:List UInt8) (r:List aH×Int×Int) (w:World) (e:Ending) (w':World):Prop:=
 ∃v,e= .returned (.tuple #[v,r.2.1,r.2.2])/\Uz w.heap.size w' (sL l r.1) r.1 v/\Below w.heap.size w w'
theorem Kg {ops:Array Oper}{o:Oper}{a:Act}{K:Act->World->Prop}{Q:Exit->Act->World->Prop}{E:Prop} (hgd:o.guard=none) (s x:Operand)
  (ho:o.op= .call { callee:= .builtin .append,args:= #[s,x],argTypes:= #[156,156] })
  (B:Nat) (w:World) (v:Value) (ts:List aN) (t:aN) (hs:a.eval s=v) (hown:fG B w v ts) (hx:a.eval x= .slice (some ⟨w.heap.size,0,none⟩) 1 1) (hl:ts.length<=4294967295) (hB:B<=w.heap.size)
  (hK: ∀kv w',fG B w' kv (ts++ [t])->w.grownBy w' v.ownBlock->K (a.put o.dst kv) w'):
  if Region.wanted o (yielded ops a.tmps)=true then Oper.wp Tryz.prog o a (w.alloc (.cells #[t.kind,t.sf,t.st] 163)) K Q else E:=by
 obtain⟨i0,c,f,e,d⟩:=info_parts Tryz.infoTok;refine step_append_lies _ hgd s x 156 ho B 163 i0 _ 3 24 Tryz.underlying156 c f e d rfl b_ v _ (lS ts) hs (World.ownsRow.alloc hown _) ⟨w.heap.size,0,none⟩ 1 1 [t.kind,t.sf,t.st] hx DU (sF w #[t.kind,t.sf,t.st] _)
  (λu b=>by
   rcases fY.1 b with rfl | b
   ·rfl
   ·rcases fY.1 b with rfl | b
    ·rfl
    ·rw[mX.1 b];rfl) b_ o_ a_ h_ _ rfl ?_
 intro g cap w' h i h7 _;refine hK _ w' ?_ (tZ i);unfold fG;rw[Uy,aT,dS];exact h
theorem zV {w:World}{X:Nat}{u v:Value}{t:TypeId} (h:w.heap[X]?=some (.cells #[u,v] t)):w.frozen? ⟨X,0,none⟩=false/\w.frozen? ⟨X,1,none⟩=false:=by
 constructor<;>simp[World.frozen?,h]
theorem sM {fn:Func} (h:fn.results= #[.cell 2 134, .tmp 3, .tmp 4]) (tmps:Array Value) (w:World) {D:Nat}{u v:Value} (hD:tmps.getD 2 undef= .pointer (some ⟨D,0,none⟩)) (h0:w.cell? ⟨D,0,none⟩=some u) (h1:w.cell? ⟨D,1,none⟩=some v):
  (results fn tmps).run Tryz.prog w= .ok (.tuple #[.agg #[u,v],tmps.getD 3 undef,tmps.getD 4 undef]) w:=by
 have a:tmps[2]?.getD undef= .pointer (some ⟨D,0,none⟩):=by rw[<-aI];exact hD
 simp[results,h,a,asAddr,go_sem,h0,h1]
theorem cZ.rest {w:World}{P:Nat}{txt:List UInt8}{rv nv:Value}{l:Sp}{a:Nat}{er:Int} (h:cZ w P txt rv l nv a er) (rv2:Value):cZ (w.setCell ⟨P,1,none⟩ rv2) P txt rv2 l nv a er:=eo
theorem cZ.off {w w':World}{P B:Nat}{txt:List UInt8}{rv nv:Value}{l:Sp}{a:Nat}{er:Int} (h:cZ w P txt rv l nv a er) {ts:List aN}{v:Value} (hr:fG B w v ts) (hg:w.grownBy w' v.ownBlock):cZ w' P txt rv l nv a er:=
 (hg.block P h.lt (λe=>by
  rcases cQ hr h b_ with b | b
  ·rw[b] at e;cases e
  ·exact b e.symm)).trans h
theorem Kh {w:World}{B:Nat}{kv:Value}{ts:List aN}{t:aN} (h:fG B w kv (ts++ [t])): ∃g c,kv= .slice (some ⟨g,0,none⟩) (ts.length+1) c:=by
 unfold fG at h;rw[aT,dS] at h;exact qP h
theorem Va {w w2 w5:World}{P:Nat}{txt:List UInt8}{rv nv kv:Value}{l:Sp}{a:Nat}{er:Int}{ts:List aN}{t:aN} (h1:cZ w P txt rv l nv a er) (hr:fG (P+1) w rv ts) (hb:Below P w2 w) (hg:w.grownBy w5 rv.ownBlock) (ho:fG (P+1) w5 kv (ts++ [t])):
  cZ (w5.setCell ⟨P,1,none⟩ kv) P txt kv l nv a er/\fG (P+1) (w5.setCell ⟨P,1,none⟩ kv) kv (ts++ [t])/\Below P w2 (w5.setCell ⟨P,1,none⟩ kv)/\w5.cell? ⟨P,1,none⟩=some rv/\w5.frozen? ⟨P,1,none⟩=false:=by
 have j5:=h1.off hr hg;refine⟨j5.rest kv,ho.kept (cT w5 P 1 kv) (cQ ho j5 b_),(hb.grown hg (by have:=h1.lt;omega) (λk b=>by have:=(hr.lt k b).1;omega)).setCell e_ _,j5.cells.2.1,j5.cells.2.2.2.2.2.2.2.1⟩
def uE (n:Nat):JR->List aH×Int×Int
 | .bad a e=>([],(a:Int),e)
 | .ok [] _ ns=>(ns,(n:Int),0)
 | .ok (t::_) _ _=>([],(t.sf:Int),2)
def eH (ts:List aN):List aN:=ts.filter (λt=>t.kind !=1)
theorem Ki (ts:List aN) (k:Nat) (t:aN) (h:ts[k]?=some t):eH (ts.take (k+1))=eH (ts.take k)++(if t.kind=1 then [] else [t]):=by
 unfold eH;rw[List.take_add_one,h,Option.toList_some,List.filter_append];congr 1;by_cases hk:t.kind=1
 ·simp[hk]
 ·simp[hk]
theorem vT {w w2 wr w4:World}{P:Nat} (hD:w2.heap[w.heap.size]?=some (.cells #[.string ⟨#[]⟩,()] 134)) (h1:Below w2.heap.size w2 wr) (h2:Fr w2.heap.size P wr w4):
  w4.cell? ⟨w.heap.size,0,none⟩=some (.string ⟨#[]⟩)/\w4.cell? ⟨w.heap.size,1,none⟩=some (.slice none 0 0)/\w4.frozen? ⟨w.heap.size,0,none⟩=false/\w4.frozen? ⟨w.heap.size,1,none⟩=false/\w4.heap[w.heap.size]?=some (.cells #[.string ⟨#[]⟩,()] 134):=by
 have h:w4.heap[w.heap.size]?=some (.cells #[.string ⟨#[]⟩,()] 134):=((h1.trans h2.bel).block _ (aF hD)).trans hD;exact⟨(pP h).1,(pP h).2,(zV h).1,(zV h).2,h⟩
theorem Dr {w:World}{B B':Nat}{e:TypeId}{s:Nat}{v:Value}{n:Nat}{xs:List Value} (h:w.ownsRow B e s v n xs) (hB:B'<=B):w.ownsRow B' e s v n xs:=kn
theorem cD.base {B B':Nat}{z:List ND}{nv:Value}{w:World} (h:cD B z nv w) (hB:B'<=B):cD B' z nv w:=
 ⟨Dr h.row hB,λy a=>Dr (h.kids y a) hB,λy a=>Dr (h.pcs y a) hB,h.ak,h.ap⟩
theorem zW {w W:World}{l:List UInt8}{at_ er:Int} (hb:Below w.heap.size w W) (nd:List aH×Int×Int) (h1:nd=([],at_,er)):Dq l nd w (.returned (.tuple #[.agg #[.string ⟨#[]⟩,()],at_,er])) W:=by
 subst h1;exact⟨_,rfl,⟨[], .slice none 0 0,rfl,rfl,cD.nil _ _⟩,hb⟩
theorem Vb (l:List UInt8) (w:World) (hs:l.length<=4611686018427387904) (hV:eB w) (hT:cW w):
  Calls Tryz.prog 113 #[bs l] w (Dq l (fP l) w):=by
 have xz:=trivial;exact qi
def qS (w:World) (v:Value) (l:List Nat):Prop:= ∃p c,v= .slice p l.length c/\ ∀(j k:Nat),l[j]?=some k-> ∃g,p=some ⟨g,0,none⟩/\w.cell? ⟨g,j,none⟩=some (.int .i64 (k:Int))
def xK (w:World) (v:Value) (l:List Sp):Prop:= ∃p c,v= .slice p l.length c/\ ∀(j:Nat) (k:Sp),l[j]?=some k-> ∃g,p=some ⟨g,0,none⟩/\w.cell? ⟨g,j*2,none⟩=some (.int .i64 (k.1:Int))/\w.cell? ⟨g,j*2+1,none⟩=some (.int .i64 (k.2:Int))
def xL (w:World) (g i:Nat) (x:aH):Prop:= ∃kv pv,w.cell? ⟨g,i*7,none⟩=some (.int .i64 (x.kind:Int))/\w.cell? ⟨g,i*7+1,none⟩=some (.int .i64 (x.sf:Int))/\w.cell? ⟨g,i*7+2,none⟩=some (.int .i64 (x.st:Int))/\
 w.cell? ⟨g,i*7+3,none⟩=some (.int .i64 (x.key.1:Int))/\w.cell? ⟨g,i*7+4,none⟩=some (.int .i64 (x.key.2:Int))/\w.cell? ⟨g,i*7+5,none⟩=some kv/\w.cell? ⟨g,i*7+6,none⟩=some pv/\qS w kv x.kids/\xK w pv x.pcs
def zX (w:World) (nv:Value) (nodes:List aH):Prop:= ∃p c,nv= .slice p nodes.length c/\ ∀i x,nodes[i]?=some x-> ∃g,p=some ⟨g,0,none⟩/\xL w g i x
theorem gM {w w':World}{a:Addr}{u:Value} (h:w.cell? a=some u) (hb:Below w.heap.size w w'):w'.cell? a=some u:=by
 rw[hb.cell (World.block_lt_of_cell? w a h)];exact h
theorem qS.keep {w w':World}{v:Value}{l:List Nat} (h:qS w v l) (hb:Below w.heap.size w w'):qS w' v l:=by
 obtain⟨p,c,f,b⟩:=h;exact⟨p,c,f,λj k d=>by obtain⟨g,e,a⟩:=b j k d;exact⟨g,e,gM a hb⟩⟩
theorem xK.keep {w w':World}{v:Value}{l:List Sp} (h:xK w v l) (hb:Below w.heap.size w w'):xK w' v l:=by
 obtain⟨p,c,f,b⟩:=h;exact⟨p,c,f,λj k d=>by obtain⟨g,e,a,i⟩:=b j k d;exact⟨g,e,gM a hb,gM i hb⟩⟩
theorem xL.keep {w w':World}{g i:Nat}{x:aH} (h:xL w g i x) (hb:Below w.heap.size w w'):xL w' g i x:=by
 obtain⟨kv,pv,a,l,c,d,j,b,e,f,k⟩:=h;exact⟨kv,pv,gM a hb,gM l hb,gM c hb,gM d hb,gM j hb,gM b hb,gM e hb,f.keep hb,k.keep hb⟩
theorem Kj: ∀(l:List Sp) (j:Nat) (k:Sp),l[j]?=some k->(kU l)[j*2]?=some (.int .i64 (k.1:Int))/\(kU l)[j*2+1]?=some (.int .i64 (k.2:Int))
 | [],j,k,h=>by simp at h
 | u::l,0,k,h=>by
  obtain rfl:u=k:=r_
  exact⟨rfl,rfl⟩
 | u::l,j+1,k,h=>by
  rw[bZ] at h;have:=Kj l j k h;rw[show (j+1)*2=j*2+2 by omega];exact this
theorem zY {w:World}{B:Nat}{e:TypeId}{s:Nat}{v:Value}{n:Nat}{xs:List Value} (h:w.ownsRow B e s v n xs): ∃p c,v= .slice p n c/\(n≠0-> ∃g,p=some ⟨g,0,none⟩/\ ∀i u,xs[i]?=some u->w.cell? ⟨g,i,none⟩=some u):=by
 rcases h.2 with⟨rfl,rfl⟩ | ⟨g,cap,cur,rfl,_⟩
 ·exact⟨none,0,rfl,λh=>absurd rfl h⟩
 ·refine⟨_,_,rfl,λ_=>⟨g,rfl,λi u f=>?_⟩⟩;have d:=h.cells (g:=g) rfl;exact k6
theorem Vc {w:World}{B:Nat}{v:Value}{l:List Nat} (h:w.ownsRow B 3 1 v l.length (dJ l)):qS w v l:=by
 obtain⟨p,c,f,d⟩:=zY h;refine⟨p,c,f,λj k a=>?_⟩;have hj1:=(aR.1 a).1;obtain⟨g,e,b⟩:=d a_;exact⟨g,e,b j _ (by unfold dJ;rw[dE,a];rfl)⟩
theorem Vd {w:World}{B:Nat}{v:Value}{l:List Sp} (h:w.ownsRow B 42 2 v l.length (kU l)):xK w v l:=by
 obtain⟨p,c,m,i⟩:=zY h;refine⟨p,c,m,λj k f=>?_⟩;have hj1:=(aR.1 f).1;obtain⟨g,e,d⟩:=i a_;obtain⟨a,b⟩:=Kj l j k f;exact⟨g,e,d _ _ a,d _ _ b⟩
theorem zX.of {B:Nat}{w:World}{z:List ND}{nv:Value} (h:cD B z nv w):zX w nv (z.map (·.1)):=by
 obtain⟨p,c,o,l⟩:=zY h.row;refine⟨p,c,by rw[bR];exact o,λi x f=>?_⟩;rw[dE] at f;obtain⟨y,b,rfl⟩:=tS.1 f;have hj1:=(aR.1 b).1;obtain⟨g,e,j⟩:=l a_;have d:=bD b;have a: ∀k,k<7-> ∀u,(gA y)[k]?=some u->w.cell? ⟨g,i*7+k,none⟩=some u:=λk n u m=>j _ _ (by rw[xD z i y b k n];exact m);exact⟨g,e,y.2.1,y.2.2,a 0 a_ _ rfl,a 1 a_ _ rfl,a 2 a_ _ rfl,a 3 a_ _ rfl,a 4 a_ _ rfl,a 5 a_ _ rfl,a 6 a_ _ rfl,Vc (h.kids y d),Vd (h.pcs y d)⟩
def qT (w:World) (p:Option Addr) (nodes:List aH):Prop:= ∀(i:Nat) (x:aH),nodes[i]?=some x-> ∃g,p=some ⟨g,0,none⟩/\xL w g i x
theorem qT.keep {w w':World}{p:Option Addr}{nodes:List aH} (h:qT w p nodes) (hb:Below w.heap.size w w'):qT w' p nodes:=λi x a=>by
 obtain⟨g,e,b⟩:=h i x a;exact⟨g,e,b.keep hb⟩
def xM (l:List UInt8) (r:List aH×Int×Int) (w:World) (e:Ending) (w':World):Prop:=
 ∃p c,e= .returned (.tuple #[.agg #[bs (sL l r.1), .slice p r.1.length c],r.2.1,r.2.2])/\qT w' p r.1/\Below w.heap.size w w'
theorem Ve (l:List UInt8) (r:List aH×Int×Int) (hr:fP l=r) (w:World) (hs:l.length<=4611686018427387904) (hV:eB w) (hT:cW w):
  Calls Tryz.prog 113 #[bs l] w (xM l r w):=by
 subst hr;refine(Vb l w hs hV hT).mono λe w' h=>?_;exact j8
theorem Vf (l:List UInt8) (lv:Nat) (ts:List aN) (hts:ts.length<=65536):(vK l.length (bI l lv ts (0,0) [] (0,0))).1.length<=65536:=by
 cases hR:bI l lv ts (0,0) [] (0,0) with
 | bad a er=>simp[vK]
 | ok rr l2 ns=>
  obtain⟨more,b,hm1,c,_⟩:=mV l lv _ _ _ _ _ _ _ hR;cases rr with
  | nil=>rw[qM] at b;subst b;show ns.length<=_;simp only[kS] at c;omega
  | cons t rr=>simp[vK]
theorem Ds (l:List UInt8):(fP l).1.length<=65536:=by
 rw[Hy];split
 ·simp
 ·exact Vf l 32 _ (aZ (List.length_filter_le _ _) (Dp l).1)
def vU (w:World) (D:Nat) (txt:ByteArray) (p:Option Addr) (n c:Nat):Prop:=w.heap[D]?=some (.cells #[txt, .slice p n c] 134)
theorem vU.new (w:World) (txt:ByteArray) (p:Option Addr) (n c:Nat):vU (w.alloc (.cells #[txt, .slice p n c] 134)) w.heap.size txt p n c:=heap_alloc_new w _
def sN (txt:ByteArray) (a b:Int):ByteArray:=if a<0\/b<a\/(txt.size:Int)<b then⟨#[]⟩ else txt.extract a.toNat b.toNat
theorem Kk (txt:ByteArray) (nv:Value) (hnv:nv.oneCell'=true) (a b:Int) (w:World):
  Calls Tryz.prog 154 #[.agg #[txt,nv], .agg #[a,b]] w λe w'=>e= .returned (.string (sN txt a b))/\Below w.heap.size w w':=by
 have vq:=trivial;exact rg
theorem Vg (txt:ByteArray) (nv:Value) (hnv:nv.oneCell'=true) (a b:Int) (w:World):
  Calls Tryz.prog 133 #[.agg #[txt,nv], .agg #[a,b]] w λe w'=>e= .returned (.string (sN txt a b))/\Below w.heap.size w w':=rg
end Go.Proofs.YtfhjncbdgjlcoaaGreatDoor
