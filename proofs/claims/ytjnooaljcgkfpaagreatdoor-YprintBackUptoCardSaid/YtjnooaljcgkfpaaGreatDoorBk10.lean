import Derived.Test.YtjnooaljcgkfpaaGreatDoorBk7
import Derived.Test.YtjnooaljcgkfpaaGreatDoorBk9
import Derived.Test.YtjnooaljcgkfpaaGreatDoorBk3
import Derived.Laws.Bits128
import Derived.Deep.RegionHeld3
set_option maxRecDepth 100000
set_option maxHeartbeats 8000000
namespace Go.Proofs.YtjnooaljcgkfpaaGreatDoor
set_option linter.unusedSimpArgs false
set_option linter.unusedVariables false
open Go.RowKit Go.Maps Go.WideMaps
open Go.Lib hiding intOf
theorem Lp: ∀(ts:List aS) (j:Nat) (t:aS),ts[j]?=some t->(pU ts)[j*3]?=some (.int .i64 t.kind)/\(pU ts)[j*3+1]?=some (.int .i64 t.sf)/\(pU ts)[j*3+2]?=some (.int .i64 t.st)
 | [],j,t,h=>by simp at h
 | u::ts,0,t,h=>by
  obtain rfl:u=t:=by simpa using h
  exact⟨rfl,rfl,rfl⟩
 | u::ts,j+1,t,h=>by
  rw[bM] at h;have:=Lp ts j t h;rw[show (j+1)*3=j*3+3 by omega];exact this
theorem Zq (ts:List aS) (t:aS):pU (ts++ [t])=pU ts++ [.int .i64 t.kind, .int .i64 t.sf, .int .i64 t.st]:=by unfold pU;simp
theorem kA.toTV {B:Nat}{w:World}{v:Value}{ts:List aS} (h:kA B w v ts):TV w v ts:=by
 rcases h.2 with⟨k,d⟩ | ⟨g,cap,cur,d,hb,l,m,_⟩
 ·exact⟨none,0,by rw[k,d],by omega, .inl (List.length_eq_zero_iff.1 d)⟩
 ·refine⟨some ⟨g,0,none⟩,cap,d,m, .inr ⟨g,0,cur,rfl,l,λj t i=>?_⟩⟩;obtain⟨a,b,c⟩:=Lp ts j t i;have f:=h.cells (g:=g) (by rw[d];rfl);have e: ∀n,((⟨g,0,none⟩:Addr).add n)=⟨g,n,none⟩:=λn=>by unfold Addr.add;split<;>simp_all
  simp only[Nat.zero_add];exact⟨by rw[<-e];exact f _ _ a,by rw[<-e];exact f _ _ b,by rw[<-e];exact f _ _ c⟩
theorem Lq: ∀(f:Nat) (l:List UInt8) (i:Nat),∀t∈(gK f l i).1,t.sf<=t.st/\t.st<=i+l.length
 | f,[],i,t,ht=>by rw[wX] at ht;cases ht
 | 0,c::r,i,t,ht=>by cases ht
 | f+1,c::r,i,t,ht=>by
  rw[wW] at ht;split at ht
  ·have h1:=(zS (c::r) (by simp)).1;rcases eV.1 ht with rfl | ht
   ·simp only[];omega
   ·have:=Lq f _ _ t ht;rw[aZ] at this;omega
  ·cases ht
theorem Lr: ∀(f:Nat) (l:List UInt8) (i:Nat),(gK f l i).1.length<=f
 | 0,l,i=>by simp[gK]
 | f+1,[],i=>by rw[wX];simp
 | f+1,c::r,i=>by
  rw[wW];split
  ·simp only[aL];have:=Lr f ((c::r).drop (dL (c::r)).2.1) (i+(dL (c::r)).2.1);omega
  ·simp
theorem Ls (l:List UInt8):(eW l).1.length<=65536/\(∀t∈(eW l).1,t.sf<=t.st/\t.st<=l.length)/\((eW l).2.2=0->l.length<=65536):=by
 unfold eW;split
 ·exact⟨by simp,λt h=>(by cases h),λh=>(by cases h)⟩
 ·split
  ·exact⟨aV (Lr _ _ _) (by omega),λt h=>by have:=Lq _ _ _ t h;omega,λ_=>by omega⟩
  ·rename_i p e a;refine⟨by simp,λt h=>(by cases h),λh=>?_⟩;have:=zT l.length l 0 p e (aD _) a;exact absurd h this.2.2
def Zr (B:Nat) (w:World) (txt:List UInt8) (nodes:List aF) (v:Value):Prop:= ∃z nv,v= .agg #[.string (bs txt),nv]/\z.map (·.1)=nodes/\cI B z nv w
def xM (l:List UInt8):List aF->List UInt8
 | []=> []
 | _::_=>l
def Lt (l:List UInt8) (r:List aF×Int×Int) (w:World) (e:Ending) (w':World):Prop:=
 ∃v,e= .returned (.tuple #[v, .int .i64 r.2.1, .int .i64 r.2.2])/\Zr w.heap.size w' (xM l r.1) r.1 v/\Below w.heap.size w w'
theorem Zs {ops:Array Oper}{o:Oper}{a:Act}{K:Act->World->Prop}{Q:Exit->Act->World->Prop}{E:Prop} (hgd:o.guard=none) (s x:Operand)
  (ho:o.op= .call { callee:= .builtin .append,args:= #[s,x],argTypes:= #[204,204] })
  (B:Nat) (w:World) (v:Value) (ts:List aS) (t:aS) (hs:a.eval s=v) (hown:kA B w v ts) (hx:a.eval x= .slice (some ⟨w.heap.size,0,none⟩) 1 1) (hl:ts.length<=4294967295) (hB:B<=w.heap.size)
  (hK: ∀kv w',kA B w' kv (ts++ [t])->w.grownBy w' v.ownBlock->K (a.put o.dst kv) w'):
  if Region.wanted o (yielded ops a.tmps)=true then Oper.wp Tryz.prog o a (w.alloc (.cells #[.int .i64 (t.kind:Int), .int .i64 (t.sf:Int), .int .i64 (t.st:Int)] 211)) K Q else E:=by
 obtain⟨i0,d,c,e,f⟩:=info_parts Tryz.infoTok;refine step_append_lies _ hgd s x 204 ho B 211 i0 _ 3 24 Tryz.underlying204 d c e f rfl (by decide) v _ (pU ts) hs (World.ownsRow.alloc hown _) ⟨w.heap.size,0,none⟩ 1 1 [.int .i64 (t.kind:Int), .int .i64 (t.sf:Int), .int .i64 (t.st:Int)] hx (by rfl) (xF w #[.int .i64 (t.kind:Int), .int .i64 (t.sf:Int), .int .i64 (t.st:Int)] _)
  (λu b=>by
   rcases eV.1 b with rfl | b
   ·rfl
   ·rcases eV.1 b with rfl | b
    ·rfl
    ·rw[jX.1 b];rfl) (by decide) (by unfold maxLen;omega) (by omega) (by simp;omega) _ rfl ?_
 intro g cap w' i h h7 _;refine hK _ w' ?_ (xG h);unfold kA;rw[Zq,aI,dQ];exact i
theorem Ef {w:World}{X:Nat}{u v:Value}{t:TypeId} (h:w.heap[X]?=some (.cells #[u,v] t)):w.frozen? ⟨X,0,none⟩=false/\w.frozen? ⟨X,1,none⟩=false:=by
 constructor<;>simp[World.frozen?,h]
theorem Ak {fn:Func} (h:fn.results= #[.cell 2 174, .tmp 3, .tmp 4]) (tmps:Array Value) (w:World) {D:Nat}{u v:Value} (hD:tmps.getD 2 undef= .pointer (some ⟨D,0,none⟩)) (h0:w.cell? ⟨D,0,none⟩=some u) (h1:w.cell? ⟨D,1,none⟩=some v):
  (results fn tmps).run Tryz.prog w= .ok (.tuple #[.agg #[u,v],tmps.getD 3 undef,tmps.getD 4 undef]) w:=by
 have a:tmps[2]?.getD undef= .pointer (some ⟨D,0,none⟩):=by rw[<-aU];exact hD
 simp[results,h,a,asAddr,go_sem,h0,h1]
theorem cK.rest {w:World}{P:Nat}{txt:List UInt8}{rv nv:Value}{l:Sp}{a:Nat}{er:Int} (h:cK w P txt rv l nv a er) (rv2:Value):cK (w.setCell ⟨P,1,none⟩ rv2) P txt rv2 l nv a er:=by
 unfold cK at h ⊢;simp[World.setCell,Array.getElem?_modify,h]
theorem cK.off {w w':World}{P B:Nat}{txt:List UInt8}{rv nv:Value}{l:Sp}{a:Nat}{er:Int} (h:cK w P txt rv l nv a er) {ts:List aS}{v:Value} (hr:kA B w v ts) (hg:w.grownBy w' v.ownBlock):cK w' P txt rv l nv a er:=
 (hg.block P h.lt (λe=>by
  rcases dM hr h (by decide) with b | b
  ·rw[b] at e;cases e
  ·exact b e.symm)).trans h
theorem Zt {w:World}{B:Nat}{kv:Value}{ts:List aS}{t:aS} (h:kA B w kv (ts++ [t])): ∃g c,kv= .slice (some ⟨g,0,none⟩) (ts.length+1) c:=by
 unfold kA at h;rw[aI,dQ] at h;exact vM h
theorem Zu {w w2 w5:World}{P:Nat}{txt:List UInt8}{rv nv kv:Value}{l:Sp}{a:Nat}{er:Int}{ts:List aS}{t:aS} (h1:cK w P txt rv l nv a er) (hr:kA (P+1) w rv ts) (hb:Below P w2 w) (hg:w.grownBy w5 rv.ownBlock) (ho:kA (P+1) w5 kv (ts++ [t])):
  cK (w5.setCell ⟨P,1,none⟩ kv) P txt kv l nv a er/\kA (P+1) (w5.setCell ⟨P,1,none⟩ kv) kv (ts++ [t])/\Below P w2 (w5.setCell ⟨P,1,none⟩ kv)/\w5.cell? ⟨P,1,none⟩=some rv/\w5.frozen? ⟨P,1,none⟩=false:=by
 have j5:=h1.off hr hg;refine⟨j5.rest kv,ho.kept (iB w5 P 1 kv) (dM ho j5 (by decide)),(hb.grown hg (by have:=h1.lt;omega) (λk b=>by have:=(hr.lt k b).1;omega)).setCell (by simp) _,j5.cells.2.1,j5.cells.2.2.2.2.2.2.2.1⟩
def Eg (n:Nat):JR->List aF×Int×Int
 | .bad a e=>([],(a:Int),e)
 | .ok [] _ ns=>(ns,(n:Int),0)
 | .ok (t::_) _ _=>([],(t.sf:Int),2)
def lV (ts:List aS):List aS:=ts.filter (λt=>t.kind !=1)
theorem Zv (ts:List aS) (k:Nat) (t:aS) (h:ts[k]?=some t):lV (ts.take (k+1))=lV (ts.take k)++(if t.kind=1 then [] else [t]):=by
 unfold lV;rw[List.take_add_one,h,Option.toList_some,List.filter_append];congr 1;by_cases hk:t.kind=1
 ·simp[hk]
 ·simp[hk]
theorem Eh {w w2 wr w4:World}{P:Nat} (hD:w2.heap[w.heap.size]?=some (.cells #[.string ⟨#[]⟩, .slice none 0 0] 174)) (h1:Below w2.heap.size w2 wr) (h2:Fr w2.heap.size P wr w4):
  w4.cell? ⟨w.heap.size,0,none⟩=some (.string ⟨#[]⟩)/\w4.cell? ⟨w.heap.size,1,none⟩=some (.slice none 0 0)/\w4.frozen? ⟨w.heap.size,0,none⟩=false/\w4.frozen? ⟨w.heap.size,1,none⟩=false/\w4.heap[w.heap.size]?=some (.cells #[.string ⟨#[]⟩, .slice none 0 0] 174):=by
 have h:w4.heap[w.heap.size]?=some (.cells #[.string ⟨#[]⟩, .slice none 0 0] 174):=((h1.trans h2.bel).block _ (aE hD)).trans hD;exact⟨(sJ h).1,(sJ h).2,(Ef h).1,(Ef h).2,h⟩
theorem Ei {w:World}{B B':Nat}{e:TypeId}{s:Nat}{v:Value}{n:Nat}{xs:List Value} (h:w.ownsRow B e s v n xs) (hB:B'<=B):w.ownsRow B' e s v n xs:=by
 refine⟨h.1,?_⟩;rcases h.2 with c | ⟨g,cap,cur,a,b,d⟩
 ·exact .inl c
 ·exact .inr ⟨g,cap,cur,a,aV hB b,d⟩
theorem cI.base {B B':Nat}{z:List ND}{nv:Value}{w:World} (h:cI B z nv w) (hB:B'<=B):cI B' z nv w:=
 ⟨Ei h.row hB,λy a=>Ei (h.kids y a) hB,λy a=>Ei (h.pcs y a) hB,h.ak,h.ap⟩
theorem Lu {w W:World}{l:List UInt8}{at_ er:Int} (hb:Below w.heap.size w W) (nd:List aF×Int×Int) (h1:nd=([],at_,er)):Lt l nd w (.returned (.tuple #[.agg #[.string ⟨#[]⟩, .slice none 0 0], .int .i64 at_, .int .i64 er])) W:=by
 subst h1;exact⟨_,rfl,⟨[], .slice none 0 0,rfl,rfl,cI.nil _ _⟩,hb⟩
theorem Zw (l:List UInt8) (w:World) (hs:l.length<=4611686018427387904) (hV:dC w) (hT:cD w):
  Calls Tryz.prog 144 #[.string (bs l)] w (Lt l (gY l) w):=by
 have sl:=aQ l;obtain⟨I,h,f⟩:=Ls l;have hp:gY l=if(eW l).2.2≠0 then([],(eW l).2.1,(eW l).2.2) else
  Eg l.length (bP l 32 (lV (eW l).1) (0,0) [] (0,0)):=by
  unfold gY lV Eg;rfl
 rw[hp];clear hp;have b1:=aH w (.cells #[.string ⟨#[]⟩, .slice none 0 0] 174);have C:=Zp l (w.alloc (.cells #[.string ⟨#[]⟩, .slice none 0 0] 174)) hs (hV.keep b1) (hT.keep b1);obtain⟨r,hr⟩:=exQ<|eW l;rw[hr] at C I h f ⊢;obtain⟨T,at_,er⟩:=r;have CT:=hid C;have Z:=hid b1;simp only[] at I h f;by_cases he:er=0
 case neg=>
  have hen:(er !=0)=true:=gP.2 he;clear C b1 hr h f;go_enter Tryz.func144,Tryz.ntmps144;go_wp2_with fail;refine CT.out.mono ?_;rintro e w2 ⟨v,rfl,ho,hn,G⟩;have F:w2.heap[w.heap.size]?=some (.cells #[.string ⟨#[]⟩, .slice none 0 0] 174):=(G.block _ (by simp)).trans (heap_alloc_new w _);obtain⟨c0,c1⟩:=sJ F;obtain⟨f0,f1⟩:=Ef F;have hB:Below w.heap.size w w2:=Z.out.trans (G.mono (by simp));have K:=hid hB;clear F ho hn G hB;go_wp2_with fail
  try simp only[Exit.inBlock,Exit.then]
  refine bodyPost_ret (Ak rfl _ _ rfl (u:= .string ⟨#[]⟩) (v:= .slice none 0 0) ?_ ?_) rfl ?_
  ·simp[go_sem,c0,c1]
  ·simp[go_sem,c0,c1]
  ·refine⟨_,rfl,⟨[], .slice none 0 0,rfl,rfl,cI.nil _ _⟩,(K.out.setCell (by simp) _).setCell (by simp) _⟩
 subst he;obtain⟨R,hR⟩:=exQ<|bP l 32 (lV T) (0,0) [] (0,0);rw[if_neg (by simp)];simp only[];rw[hR];have hl:=f rfl;have HR:=hid hR;have aq:=hid h;have Q:=hid (aT hV hT);clear C b1 hr hR h f hV hT;go_enter Tryz.func144,Tryz.ntmps144;go_wp2_with fail;refine CT.out.mono ?_;rintro e w2 ⟨v,rfl,ho,hn,G⟩;have F:w2.heap[w.heap.size]?=some (.cells #[.string ⟨#[]⟩, .slice none 0 0] 174):=(G.block _ (by simp)).trans (heap_alloc_new w _);have hB:Below w.heap.size w w2:=Z.out.trans (G.mono (by simp));have K:=hid hB;have E:=hid F;have ax:w.heap.size<w2.heap.size:=aE F;obtain⟨p0,c0,hv,hvc,aj⟩:=kA.toTV ho;subst hv;have af:Hid (∀j t,T[j]?=some t-> ∃g o,p0=some ⟨g,o,none⟩/\g<w2.heap.size/\w2.cell? ⟨g,o+j*3,none⟩=some (.int .i64 t.kind)/\w2.cell? ⟨g,o+j*3+1,none⟩=some (.int .i64 t.sf)/\w2.cell? ⟨g,o+j*3+2,none⟩=some (.int .i64 t.st)):=hid (λj t N=>by
  rcases aj with h0 | ⟨g,o,cur,h0,A,h2⟩
  ·simp only[] at h0;rw[h0] at N;simp at N
  ·exact⟨g,o,h0,aE A,h2 j t N⟩)
 clear F ho hn G hB aj;obtain⟨P,hP⟩:=exQ<|w2.heap.size;have ad:cK (w2.alloc (.cells #[.string (bs l), .slice none 0 0, .int .i64 0, .int .i64 0, .slice none 0 0, .int .i64 0, .int .i64 0] 209)) P l (.slice none 0 0) (0,0) (.slice none 0 0) 0 0:=by
  rw[<-hP];exact heap_alloc_new w2 _
 have aw:=hid ad;have au:Hid (Below P w2 (w2.alloc (.cells #[.string (bs l), .slice none 0 0, .int .i64 0, .int .i64 0, .slice none 0 0, .int .i64 0, .int .i64 0] 209))):=hid (by rw[<-hP];exact aH w2 _);have ak:Hid (kA (P+1) (w2.alloc (.cells #[.string (bs l), .slice none 0 0, .int .i64 0, .int .i64 0, .slice none 0 0, .int .i64 0, .int .i64 0] 209)) (.slice none 0 0) (lV (T.take 0))):=hid ⟨rfl, .inl ⟨rfl,rfl⟩⟩;clear ad;rw[hP] at ax af;go_wp2_with fail;go_loopw [28] (λs28 wr=> ∃(k:Nat) (rv:Value),s28= .int .i64 (k:Int)/\k<=T.length/\Hid (cK wr P l rv (0,0) (.slice none 0 0) 0 0)/\Hid (kA (P+1) wr rv (lV (T.take k)))/\Hid (Below P w2 wr)) (λs28 _=>T.length-(RowKit.intOf s28).toNat)
 case atStart=>exact⟨0,_,rfl,by omega,aw,ak,au⟩
 case round=>
  obtain⟨k,rv,rfl,hk,HJ,HO,n⟩:=hrel;by_cases hkl:k<T.length
  ·obtain⟨t,O⟩: ∃t,T[k]?=some t:=⟨_,bH hkl⟩;obtain⟨g,o,rfl,hg,e0,e1,e2⟩:=af.out k t O;have hgP:g<P:=hg;have a0:wr.cell? ⟨g,o+k*3,none⟩=some (.int .i64 (t.kind:Int)):=by rw[n.out.cell (p:=⟨g,o+k*3,none⟩) hg];exact e0
   have a1:wr.cell? ⟨g,o+k*3+1,none⟩=some (.int .i64 (t.sf:Int)):=by rw[n.out.cell (p:=⟨g,o+k*3+1,none⟩) hg];exact e1
   have a2:wr.cell? ⟨g,o+k*3+2,none⟩=some (.int .i64 (t.st:Int)):=by rw[n.out.cell (p:=⟨g,o+k*3+2,none⟩) hg];exact e2
   have hk0:(0:Int)<=(k:Int):=(by omega);have az:(k:Int)<(T.length:Int):=(by omega);have dk:decide ((k:Int)<(T.length:Int))=true:=aN az;obtain⟨k1,ai⟩:=exQ<|k+1;have z:(k:Int)+1=(k1:Int):=(by omega);have b:=Zv T k t O;rw[ai] at b;have aa:k1<=T.length:=(by omega);have ap:=HJ.out.lt;obtain⟨tmp,q⟩: ∃o:Obj, .cells #[.int .i64 (t.kind:Int), .int .i64 (t.sf:Int), .int .i64 (t.st:Int)] 211=o:=⟨_,rfl⟩;have bt:=aH wr tmp;have d:=hid (HJ.out.keep bt);have m:Hid (kA (P+1) (wr.alloc tmp) rv (lV (T.take k))):=hid (World.ownsRow.alloc HO.out _);have x:Hid (Below P w2 (wr.alloc tmp)):=hid (n.out.trans (bt.mono (by omega)));rw[<-q] at d m x;by_cases A:t.kind=1
   ·have d1:((t.kind:Int) !=1)=false:=by rw[A];rfl
    rw[if_pos A,List.append_nil] at b;rw[<-b] at m;clear e0 e1 e2 b O bt q A;go_wp2_with fail;go_roundw
    ·exact⟨k1,rv,by rw[<-z],aa,d,m,x⟩
    ·simp only[RowKit.intOf];omega
   ·have d1:((t.kind:Int) !=1)=true:=gP.2 (by omega);rw[if_neg A] at b;clear e0 e1 e2 O bt q A;go_upto_region 9 with fail;obtain⟨X,hX⟩:=exQ<|wr.heap.size;have x0:=xE wr #[.int .i64 (t.kind:Int), .int .i64 (t.sf:Int), .int .i64 (t.st:Int)] 211 0 _ rfl;have x1:=xE wr #[.int .i64 (t.kind:Int), .int .i64 (t.sf:Int), .int .i64 (t.st:Int)] 211 1 _ rfl;have x2:=xE wr #[.int .i64 (t.kind:Int), .int .i64 (t.sf:Int), .int .i64 (t.st:Int)] 211 2 _ rfl;rw[hX] at x0 x1 x2
    try rw[hX]
    obtain⟨W,hW⟩:=exQ<|wr.alloc (.cells #[.int .i64 (t.kind:Int), .int .i64 (t.sf:Int), .int .i64 (t.st:Int)] 211);rw[hW] at x0 x1 x2 d m x;rw[hW];have an:P<W.heap.size:=d.out.lt;have hXW:X<W.heap.size:=by rw[<-hW,<-hX];simp
    have q1:=d.out.cells.2.1;have U:(lV (T.take k)).length<=4294967295:=by
     refine aV (List.length_filter_le _ _) ?_;rw[cB];omega
    have D:kA (P+1) W.drew rv (lV (T.take k)):=m.out;clear hW hX a0 a1 a2;go_region_law (refine Zs (by rfl) (.tmp 39) (.tmp 41) (by rfl) (P+1) W.drew rv (lV (T.take k)) t (by rfl) D (by rfl) U an ?_;intro kv w5 L ae;obtain⟨j5,o5,b5,c5,f5⟩:=Zu (w:=W.drew) (w2:=w2) (d.out.keep (aB _ _).drew) D x.out.drew ae L;obtain⟨gk,pk,rfl⟩:=Zt L)
    all_goals
     rw[<-b] at o5;have ao:=hid j5;have am:=hid o5;have ar:=hid b5;clear j5 o5 b5 c5 f5 L ae b D q1 x0 x1 x2;go_wp2_with fail;go_roundw
     ·exact⟨k1,_,by rw[<-z],aa,ao,am,ar⟩
     ·simp only[RowKit.intOf];omega
  ·have ay:k=T.length:=(by omega);subst ay;rw[List.take_length] at HO;have dk:decide ((T.length:Int)<(T.length:Int))=false:=aJ (by omega);have ap:=HJ.out.lt;have N:J w2.heap.size P l (lV T) (0,0) [] wr:=⟨rv,[], .slice none 0 0,HJ.out,kA.toTV HO.out,rfl,cI.nil _ _,by omega⟩;have hnl:(lV T).length<=65536:=aV (List.length_filter_le _ _) I;have B:Below w2.heap.size w2 wr:=by rw[hP];exact n.out
   have CV:=Kt w2 P l hl (Q.out.1.keep K.out) (Q.out.2.keep K.out) 32 (by omega) wr (lV T) (0,0) [] (0,0) 1 N B ⟨by omega,λt O=>aq.out t (List.mem_filter.1 O).1⟩ (by simp;omega) (by omega);rw[HR.out] at CV;have H:=hid CV;have c:=hid B;clear CV N B;cases R with
   | bad a er=>
    go_wp2_with fail;refine H.out.mono ?_;rintro e w4 ⟨rfl,⟨txt',rv4,l4,z4,nv4,jb, -, -, -⟩,s⟩;obtain⟨_,_,_,_,_,c5,c6,_⟩:=jb.cells;obtain⟨d0,d1,d2,d3,dD⟩:=Eh E.out c.out s;have i:Hid (Below w.heap.size w w4):=hid (K.out.trans ((c.out.trans s.bel).mono (by omega)));have ah:w.heap.size≠P:=(by omega);clear s jb;go_upto_region 15 with fail;go_region
    all_goals
     go_wp2_with fail
     try simp only[Exit.inBlock,Exit.then]
     refine bodyPost_ret (Ak rfl _ _ rfl (u:= .string ⟨#[]⟩) (v:= .slice none 0 0) ?_ ?_) rfl ?_
     ·simp[go_sem,d0,d1]
     ·simp[go_sem,d0,d1]
     ·exact Lu (((i.out.setCell (by simp) _).setCell (by simp) _).drew) _ rfl
   | ok rr l2 ns=>
    cases rr with
    | cons t rr=>
     obtain⟨more,_,_,Y,_⟩:=pL l 32 _ _ _ _ _ _ _ HR.out;simp only[aL] at Y;go_wp2_with fail;refine H.out.mono ?_;rintro e w4 ⟨rfl,S,s⟩;have CF:=hid (pQ _ P l (t::rr) l2 ns 2 w4 S (by simp only[aL];omega) (by omega));obtain⟨rv4,z4,nv4,j1,j2,_⟩:=S;obtain⟨g4,o4,c4,rfl,_⟩:=j2.head;have r1:=j1.cells.2.1;have V:=hid s;have drr:decide ((0:Int)<(rr.length:Int)+1)=true:=aN (by omega);clear s j1 j2;go_wp2_with fail;refine CF.out.mono ?_;rintro e w5 ⟨rfl,⟨txt',rv5,l5,z5,nv5,jb, -, -, -⟩,M⟩;obtain⟨_,_,_,_,_,c5,c6,_⟩:=jb.cells;obtain⟨d0,d1,d2,d3,dD⟩:=Eh E.out c.out (V.out.trans M);have i:Hid (Below w.heap.size w w5):=hid (K.out.trans ((c.out.trans (V.out.trans M).bel).mono (by omega)));have ah:w.heap.size≠P:=(by omega);clear M jb;go_upto_region 15 with fail;go_region
     all_goals
      go_wp2_with fail
      try simp only[Exit.inBlock,Exit.then]
      refine bodyPost_ret (Ak rfl _ _ rfl (u:= .string ⟨#[]⟩) (v:= .slice none 0 0) ?_ ?_) rfl ?_
      ·simp[go_sem,d0,d1]
      ·simp[go_sem,d0,d1]
      ·exact Lu (((i.out.setCell (by simp) _).setCell (by simp) _).drew) _ rfl
    | nil=>
     obtain⟨more,ag,av,Y,_⟩:=pL l 32 _ _ _ _ _ _ _ HR.out;go_wp2_with fail;refine H.out.mono ?_;rintro e w4 ⟨rfl,⟨rv4,z4,nv4,j1,j2,j3,j4,j5⟩,s⟩;obtain⟨p4,c4,rfl⟩:=j2.empty;obtain⟨_,q1,_,_,q4,_⟩:=j1.cells;obtain⟨d0,d1,d2,d3,dD⟩:=Eh E.out c.out s;obtain⟨p5,c5,rfl⟩:=j4.slice;have i:Hid (Below w.heap.size w w4):=hid (K.out.trans ((c.out.trans s.bel).mono (by omega)));have ah:w.heap.size≠P:=(by omega);have ab:=hid (aT j3 j4);clear s j1 j2 j4;have al:=hid dD;clear dD;go_wp2_with fail
     try simp only[Exit.inBlock,Exit.then]
     refine bodyPost_ret (Ak rfl _ _ rfl (u:= .string (bs l)) (v:= .slice p5 z4.length c5) ?_ ?_) rfl ?_
     ·simp[go_sem,d0,d1]
     ·simp[go_sem,d0,d1]
     ·refine⟨_,rfl,⟨z4, .slice p5 z4.length c5,?_,ab.out.1,?_⟩,(i.out.setCell (by simp) _).setCell (by simp) _⟩
      ·have hd:xM l (Eg l.length (JR.ok [] l2 ns)).1=l:=by
        rw[eE] at ag;subst ag;cases ns with
        | nil=>simp at av
        | cons y ys=>rfl
       rw[hd]
      ·exact(ab.out.2.other al.out (by decide) (by decide) (by decide) (tQ (iB w4 w.heap.size 0 (.string (bs l))) (iB _ w.heap.size 1 (.slice p5 z4.length c5)))).base (by omega)
def xN (w:World) (v:Value) (l:List Nat):Prop:= ∃p c,v= .slice p l.length c/\ ∀(j k:Nat),l[j]?=some k-> ∃g,p=some ⟨g,0,none⟩/\w.cell? ⟨g,j,none⟩=some (.int .i64 (k:Int))
def xO (w:World) (v:Value) (l:List Sp):Prop:= ∃p c,v= .slice p l.length c/\ ∀(j:Nat) (k:Sp),l[j]?=some k-> ∃g,p=some ⟨g,0,none⟩/\w.cell? ⟨g,j*2,none⟩=some (.int .i64 (k.1:Int))/\w.cell? ⟨g,j*2+1,none⟩=some (.int .i64 (k.2:Int))
def xP (w:World) (g i:Nat) (x:aF):Prop:= ∃kv pv,w.cell? ⟨g,i*7,none⟩=some (.int .i64 (x.kind:Int))/\w.cell? ⟨g,i*7+1,none⟩=some (.int .i64 (x.sf:Int))/\w.cell? ⟨g,i*7+2,none⟩=some (.int .i64 (x.st:Int))/\
 w.cell? ⟨g,i*7+3,none⟩=some (.int .i64 (x.key.1:Int))/\w.cell? ⟨g,i*7+4,none⟩=some (.int .i64 (x.key.2:Int))/\w.cell? ⟨g,i*7+5,none⟩=some kv/\w.cell? ⟨g,i*7+6,none⟩=some pv/\xN w kv x.kids/\xO w pv x.pcs
def Ej (w:World) (nv:Value) (nodes:List aF):Prop:= ∃p c,nv= .slice p nodes.length c/\ ∀i x,nodes[i]?=some x-> ∃g,p=some ⟨g,0,none⟩/\xP w g i x
theorem pV {w w':World}{a:Addr}{u:Value} (h:w.cell? a=some u) (hb:Below w.heap.size w w'):w'.cell? a=some u:=by
 rw[hb.cell (World.block_lt_of_cell? w a h)];exact h
theorem xN.keep {w w':World}{v:Value}{l:List Nat} (h:xN w v l) (hb:Below w.heap.size w w'):xN w' v l:=by
 obtain⟨p,c,b,d⟩:=h;exact⟨p,c,b,λj k a=>by obtain⟨g,e,f⟩:=d j k a;exact⟨g,e,pV f hb⟩⟩
theorem xO.keep {w w':World}{v:Value}{l:List Sp} (h:xO w v l) (hb:Below w.heap.size w w'):xO w' v l:=by
 obtain⟨p,c,b,d⟩:=h;exact⟨p,c,b,λj k a=>by obtain⟨g,e,i,f⟩:=d j k a;exact⟨g,e,pV i hb,pV f hb⟩⟩
theorem xP.keep {w w':World}{g i:Nat}{x:aF} (h:xP w g i x) (hb:Below w.heap.size w w'):xP w' g i x:=by
 obtain⟨kv,pv,c,a,b,d,e,f,j,k,l⟩:=h;exact⟨kv,pv,pV c hb,pV a hb,pV b hb,pV d hb,pV e hb,pV f hb,pV j hb,k.keep hb,l.keep hb⟩
theorem Lv: ∀(l:List Sp) (j:Nat) (k:Sp),l[j]?=some k->(nB l)[j*2]?=some (.int .i64 (k.1:Int))/\(nB l)[j*2+1]?=some (.int .i64 (k.2:Int))
 | [],j,k,h=>by simp at h
 | u::l,0,k,h=>by
  obtain rfl:u=k:=by simpa using h
  exact⟨rfl,rfl⟩
 | u::l,j+1,k,h=>by
  rw[bM] at h;have:=Lv l j k h;rw[show (j+1)*2=j*2+2 by omega];exact this
theorem Ek {w:World}{B:Nat}{e:TypeId}{s:Nat}{v:Value}{n:Nat}{xs:List Value} (h:w.ownsRow B e s v n xs): ∃p c,v= .slice p n c/\(n≠0-> ∃g,p=some ⟨g,0,none⟩/\ ∀i u,xs[i]?=some u->w.cell? ⟨g,i,none⟩=some u):=by
 rcases h.2 with⟨rfl,rfl⟩ | ⟨g,cap,cur,rfl,_⟩
 ·exact⟨none,0,rfl,λh=>absurd rfl h⟩
 ·refine⟨_,_,rfl,λ_=>⟨g,rfl,λi u d=>?_⟩⟩;have b:=h.cells (g:=g) rfl;have a:((⟨g,0,none⟩:Addr).add i)=⟨g,i,none⟩:=by unfold Addr.add;split<;>simp_all
  rw[<-a];exact b _ _ d
theorem Zx {w:World}{B:Nat}{v:Value}{l:List Nat} (h:w.ownsRow B 3 1 v l.length (eO l)):xN w v l:=by
 obtain⟨p,c,b,d⟩:=Ek h;refine⟨p,c,b,λj k a=>?_⟩;have hj1:=(aP.1 a).1;obtain⟨g,e,f⟩:=d (by omega);exact⟨g,e,f j _ (by unfold eO;rw[cW,a];rfl)⟩
theorem Zy {w:World}{B:Nat}{v:Value}{l:List Sp} (h:w.ownsRow B 76 2 v l.length (nB l)):xO w v l:=by
 obtain⟨p,c,i,m⟩:=Ek h;refine⟨p,c,i,λj k d=>?_⟩;have hj1:=(aP.1 d).1;obtain⟨g,e,f⟩:=m (by omega);obtain⟨a,b⟩:=Lv l j k d;exact⟨g,e,f _ _ a,f _ _ b⟩
theorem Ej.of {B:Nat}{w:World}{z:List ND}{nv:Value} (h:cI B z nv w):Ej w nv (z.map (·.1)):=by
 obtain⟨p,c,j,l⟩:=Ek h.row;refine⟨p,c,by rw[cA];exact j,λi x d=>?_⟩;rw[cW] at d;obtain⟨y,b,rfl⟩:=nU.1 d;have hj1:=(aP.1 b).1;obtain⟨g,e,m⟩:=l (by omega);have f:=bA b;have a: ∀k,k<7-> ∀u,(gD y)[k]?=some u->w.cell? ⟨g,i*7+k,none⟩=some u:=λk n u o=>m _ _ (by rw[xA z i y b k n];exact o);exact⟨g,e,y.2.1,y.2.2,a 0 (by omega) _ rfl,a 1 (by omega) _ rfl,a 2 (by omega) _ rfl,a 3 (by omega) _ rfl,a 4 (by omega) _ rfl,a 5 (by omega) _ rfl,a 6 (by omega) _ rfl,Zx (h.kids y f),Zy (h.pcs y f)⟩
def tV (w:World) (p:Option Addr) (nodes:List aF):Prop:= ∀(i:Nat) (x:aF),nodes[i]?=some x-> ∃g,p=some ⟨g,0,none⟩/\xP w g i x
theorem tV.keep {w w':World}{p:Option Addr}{nodes:List aF} (h:tV w p nodes) (hb:Below w.heap.size w w'):tV w' p nodes:=λi x a=>by
 obtain⟨g,e,b⟩:=h i x a;exact⟨g,e,b.keep hb⟩
def Lw (l:List UInt8) (r:List aF×Int×Int) (w:World) (e:Ending) (w':World):Prop:=
 ∃p c,e= .returned (.tuple #[.agg #[.string (bs (xM l r.1)), .slice p r.1.length c], .int .i64 r.2.1, .int .i64 r.2.2])/\tV w' p r.1/\Below w.heap.size w w'
theorem Zz (l:List UInt8) (r:List aF×Int×Int) (hr:gY l=r) (w:World) (hs:l.length<=4611686018427387904) (hV:dC w) (hT:cD w):
  Calls Tryz.prog 144 #[.string (bs l)] w (Lw l r w):=by
 subst hr;refine(Zw l w hs hV hT).mono λe w' h=>?_;obtain⟨v,i,⟨z,nv,j,d,f⟩,g⟩:=h;subst j;obtain⟨p,c,a,b⟩:=Ej.of f;rw[d] at a b;subst a;exact⟨p,c,i,b,g⟩
theorem aAa (l:List UInt8) (lv:Nat) (ts:List aS) (hts:ts.length<=65536):(vE l.length (bP l lv ts (0,0) [] (0,0))).1.length<=65536:=by
 cases hR:bP l lv ts (0,0) [] (0,0) with
 | bad a er=>simp[vE]
 | ok rr l2 ns=>
  obtain⟨more,b,hm1,c,_⟩:=pL l lv _ _ _ _ _ _ _ hR;cases rr with
  | nil=>rw[eE] at b;subst b;show ns.length<=_;simp only[bY] at c;omega
  | cons t rr=>simp[vE]
theorem Em (l:List UInt8):(gY l).1.length<=65536:=by
 rw[Jm];split
 ·simp
 ·exact aAa l 32 _ (aV (List.length_filter_le _ _) (Ls l).1)
def vO (w:World) (D:Nat) (txt:ByteArray) (p:Option Addr) (n c:Nat):Prop:=w.heap[D]?=some (.cells #[.string txt, .slice p n c] 174)
theorem vO.new (w:World) (txt:ByteArray) (p:Option Addr) (n c:Nat):vO (w.alloc (.cells #[.string txt, .slice p n c] 174)) w.heap.size txt p n c:=heap_alloc_new w _
def xQ (txt:ByteArray) (a b:Int):ByteArray:=if a<0\/b<a\/(txt.size:Int)<b then⟨#[]⟩ else txt.extract a.toNat b.toNat
theorem Lx (txt:ByteArray) (nv:Value) (hnv:nv.oneCell'=true) (a b:Int) (w:World):
  Calls Tryz.prog 180 #[.agg #[.string txt,nv], .agg #[.int .i64 a, .int .i64 b]] w λe w'=>e= .returned (.string (xQ txt a b))/\Below w.heap.size w w':=by
 obtain⟨R,c⟩:=exQ<|xQ txt a b;rw[c];unfold xQ at c;have f:=(aH w (.cells #[.string txt,nv] 174)).trans ((aH (w.alloc (.cells #[.string txt,nv] 174)) (.cells #[.int .i64 a, .int .i64 b] 76)).mono (by simp));have d:=hid f;clear f;by_cases h1:a<0
 ·rw[if_pos (.inl h1)] at c;have d1:decide (a<0)=true:=aN h1;subst c;go_enter Tryz.func180,Tryz.ntmps180;go_wp2_with fail;go_ret;exact⟨rfl,d.out⟩
 have d1:decide (a<0)=false:=aJ h1;by_cases h2:b<a
 ·rw[if_pos (.inr (.inl h2))] at c;have d2:decide (b<a)=true:=aN h2;subst c;go_enter Tryz.func180,Tryz.ntmps180;go_wp2_with fail;go_ret;exact⟨rfl,d.out⟩
 have d2:decide (b<a)=false:=aJ h2;by_cases h3:(txt.size:Int)<b
 ·rw[if_pos (.inr (.inr h3))] at c;have d3:decide ((txt.size:Int)<b)=true:=aN h3;subst c;go_enter Tryz.func180,Tryz.ntmps180;go_wp2_with fail;go_ret;exact⟨rfl,d.out⟩
 have d3:decide ((txt.size:Int)<b)=false:=aJ h3;rw[if_neg (by omega)] at c;obtain⟨a',rfl⟩: ∃a':Nat,a=a':=⟨a.toNat,by omega⟩;obtain⟨b',rfl⟩: ∃b':Nat,b=b':=⟨b.toNat,by omega⟩;have i1:(0:Int)<=(a':Int):=by omega
 have i2:(a':Int)<=(b':Int):=by omega
 have i3:(b':Int)<=(txt.size:Int):=by omega
 subst c;simp only[eU];go_enter Tryz.func180,Tryz.ntmps180;go_wp2_with fail;go_ret;exact⟨rfl,d.out⟩
end Go.Proofs.YtjnooaljcgkfpaaGreatDoor
