import Derived.Test.YtaifnmjjpddikaaGreatDoorRl7
import Derived.Test.YtaifnmjjpddikaaGreatDoorRl9
import Derived.Test.YtaifnmjjpddikaaGreatDoorRl3
import Derived.Laws.Bits128
import Derived.Deep.RegionHeld3
set_option maxRecDepth 100000
set_option maxHeartbeats 8000000
namespace Go.Proofs.YtaifnmjjpddikaaGreatDoor
set_option linter.unusedSimpArgs false
set_option linter.unusedVariables false
open Go.RowKit Go.Maps Go.WideMaps
open Go.Lib hiding intOf
theorem Jm: ∀(ts:List aQ) (j:Nat) (t:aQ),ts[j]?=some t->(pE ts)[j*3]?=some (.int .i64 t.kind)/\(pE ts)[j*3+1]?=some (.int .i64 t.sf)/\(pE ts)[j*3+2]?=some (.int .i64 t.st)
 | [],j,t,h=>by simp at h
 | u::ts,0,t,h=>by
  obtain rfl:u=t:=by simpa using h
  exact⟨rfl,rfl,rfl⟩
 | u::ts,j+1,t,h=>by
  rw[cH] at h;have:=Jm ts j t h;rw[show (j+1)*3=j*3+3 by omega];exact this
theorem Vl (ts:List aQ) (t:aQ):pE (ts++ [t])=pE ts++ [.int .i64 t.kind, .int .i64 t.sf, .int .i64 t.st]:=by unfold pE;simp
theorem iZ.toTV {B:Nat}{w:World}{v:Value}{ts:List aQ} (h:iZ B w v ts):TV w v ts:=by
 rcases h.2 with⟨m,d⟩ | ⟨g,cap,cur,d,hb,k,i,_⟩
 ·exact⟨none,0,by rw[m,d],by omega, .inl (List.length_eq_zero_iff.1 d)⟩
 ·refine⟨some ⟨g,0,none⟩,cap,d,i, .inr ⟨g,0,cur,rfl,k,λj t l=>?_⟩⟩;obtain⟨a,b,c⟩:=Jm ts j t l;have e:=h.cells (g:=g) (by rw[d];rfl);have f: ∀n,((⟨g,0,none⟩:Addr).add n)=⟨g,n,none⟩:=λn=>by unfold Addr.add;split<;>simp_all
  simp only[Nat.zero_add];exact⟨by rw[<-f];exact e _ _ a,by rw[<-f];exact e _ _ b,by rw[<-f];exact e _ _ c⟩
theorem Jn: ∀(f:Nat) (l:List UInt8) (i:Nat),∀t∈(eU f l i).1,t.sf<=t.st/\t.st<=i+l.length
 | f,[],i,t,ht=>by rw[sG] at ht;cases ht
 | 0,c::r,i,t,ht=>by cases ht
 | f+1,c::r,i,t,ht=>by
  rw[sF] at ht;split at ht
  ·have h1:=(rC (c::r) (by simp)).1;rcases dC.1 ht with rfl | ht
   ·simp only[];omega
   ·have:=Jn f _ _ t ht;rw[bB] at this;omega
  ·cases ht
theorem Jo: ∀(f:Nat) (l:List UInt8) (i:Nat),(eU f l i).1.length<=f
 | 0,l,i=>by simp[eU]
 | f+1,[],i=>by rw[sG];simp
 | f+1,c::r,i=>by
  rw[sF];split
  ·simp only[aV];have:=Jo f ((c::r).drop (cA (c::r)).2.1) (i+(cA (c::r)).2.1);omega
  ·simp
theorem Jp (l:List UInt8):(eR l).1.length<=65536/\(∀t∈(eR l).1,t.sf<=t.st/\t.st<=l.length)/\((eR l).2.2=0->l.length<=65536):=by
 unfold eR;split
 ·exact⟨by simp,λt h=>(by cases h),λh=>(by cases h)⟩
 ·split
  ·exact⟨aY (Jo _ _ _) (by omega),λt h=>by have:=Jn _ _ _ t h;omega,λ_=>by omega⟩
  ·rename_i p e a;refine⟨by simp,λt h=>(by cases h),λh=>?_⟩;have:=xZ l.length l 0 p e (aE _) a;exact absurd h this.2.2
def Vm (B:Nat) (w:World) (txt:List UInt8) (nodes:List aD) (v:Value):Prop:= ∃z nv,v= .agg #[.string (bs txt),nv]/\z.map (·.1)=nodes/\cI B z nv w
def wI (l:List UInt8):List aD->List UInt8
 | []=> []
 | _::_=>l
def Jq (l:List UInt8) (r:List aD×Int×Int) (w:World) (e:Ending) (w':World):Prop:=
 ∃v,e= .returned (.tuple #[v, .int .i64 r.2.1, .int .i64 r.2.2])/\Vm w.heap.size w' (wI l r.1) r.1 v/\Below w.heap.size w w'
theorem Vn {ops:Array Oper}{o:Oper}{a:Act}{K:Act->World->Prop}{Q:Exit->Act->World->Prop}{E:Prop} (hgd:o.guard=none) (s x:Operand)
  (ho:o.op= .call { callee:= .builtin .append,args:= #[s,x],argTypes:= #[70,70] })
  (B:Nat) (w:World) (v:Value) (ts:List aQ) (t:aQ) (hs:a.eval s=v) (hown:iZ B w v ts) (hx:a.eval x= .slice (some ⟨w.heap.size,0,none⟩) 1 1) (hl:ts.length<=4294967295) (hB:B<=w.heap.size)
  (hK: ∀kv w',iZ B w' kv (ts++ [t])->w.grownBy w' v.ownBlock->K (a.put o.dst kv) w'):
  if Region.wanted o (yielded ops a.tmps)=true then Oper.wp Tryz.prog o a (w.alloc (.cells #[.int .i64 (t.kind:Int), .int .i64 (t.sf:Int), .int .i64 (t.st:Int)] 77)) K Q else E:=by
 obtain⟨i0,e,d,f,c⟩:=info_parts Tryz.infoTok;refine step_append_lies _ hgd s x 70 ho B 77 i0 _ 3 24 Tryz.underlying70 e d f c rfl (by decide) v _ (pE ts) hs (World.ownsRow.alloc hown _) ⟨w.heap.size,0,none⟩ 1 1 [.int .i64 (t.kind:Int), .int .i64 (t.sf:Int), .int .i64 (t.st:Int)] hx (by rfl) (wD w #[.int .i64 (t.kind:Int), .int .i64 (t.sf:Int), .int .i64 (t.st:Int)] _)
  (λu b=>by
   rcases dC.1 b with rfl | b
   ·rfl
   ·rcases dC.1 b with rfl | b
    ·rfl
    ·rw[iQ.1 b];rfl) (by decide) (by unfold maxLen;omega) (by omega) (by simp;omega) _ rfl ?_
 intro g cap w' h i h7 _;refine hK _ w' ?_ (wE i);unfold iZ;rw[Vl,aW,dU];exact h
theorem Cb {w:World}{X:Nat}{u v:Value}{t:TypeId} (h:w.heap[X]?=some (.cells #[u,v] t)):w.frozen? ⟨X,0,none⟩=false/\w.frozen? ⟨X,1,none⟩=false:=by
 constructor<;>simp[World.frozen?,h]
theorem yP {fn:Func} (h:fn.results= #[.cell 2 49, .tmp 3, .tmp 4]) (tmps:Array Value) (w:World) {D:Nat}{u v:Value} (hD:tmps.getD 2 undef= .pointer (some ⟨D,0,none⟩)) (h0:w.cell? ⟨D,0,none⟩=some u) (h1:w.cell? ⟨D,1,none⟩=some v):
  (results fn tmps).run Tryz.prog w= .ok (.tuple #[.agg #[u,v],tmps.getD 3 undef,tmps.getD 4 undef]) w:=by
 have a:tmps[2]?.getD undef= .pointer (some ⟨D,0,none⟩):=by rw[<-aO];exact hD
 simp[results,h,a,asAddr,go_sem,h0,h1]
theorem cK.rest {w:World}{P:Nat}{txt:List UInt8}{rv nv:Value}{l:Sp}{a:Nat}{er:Int} (h:cK w P txt rv l nv a er) (rv2:Value):cK (w.setCell ⟨P,1,none⟩ rv2) P txt rv2 l nv a er:=by
 unfold cK at h ⊢;simp[World.setCell,Array.getElem?_modify,h]
theorem cK.off {w w':World}{P B:Nat}{txt:List UInt8}{rv nv:Value}{l:Sp}{a:Nat}{er:Int} (h:cK w P txt rv l nv a er) {ts:List aQ}{v:Value} (hr:iZ B w v ts) (hg:w.grownBy w' v.ownBlock):cK w' P txt rv l nv a er:=
 (hg.block P h.lt (λe=>by
  rcases dK hr h (by decide) with b | b
  ·rw[b] at e;cases e
  ·exact b e.symm)).trans h
theorem Vo {w:World}{B:Nat}{kv:Value}{ts:List aQ}{t:aQ} (h:iZ B w kv (ts++ [t])): ∃g c,kv= .slice (some ⟨g,0,none⟩) (ts.length+1) c:=by
 unfold iZ at h;rw[aW,dU] at h;exact uK h
theorem Vp {w w2 w5:World}{P:Nat}{txt:List UInt8}{rv nv kv:Value}{l:Sp}{a:Nat}{er:Int}{ts:List aQ}{t:aQ} (h1:cK w P txt rv l nv a er) (hr:iZ (P+1) w rv ts) (hb:Below P w2 w) (hg:w.grownBy w5 rv.ownBlock) (ho:iZ (P+1) w5 kv (ts++ [t])):
  cK (w5.setCell ⟨P,1,none⟩ kv) P txt kv l nv a er/\iZ (P+1) (w5.setCell ⟨P,1,none⟩ kv) kv (ts++ [t])/\Below P w2 (w5.setCell ⟨P,1,none⟩ kv)/\w5.cell? ⟨P,1,none⟩=some rv/\w5.frozen? ⟨P,1,none⟩=false:=by
 have j5:=h1.off hr hg;refine⟨j5.rest kv,ho.kept (gT w5 P 1 kv) (dK ho j5 (by decide)),(hb.grown hg (by have:=h1.lt;omega) (λk b=>by have:=(hr.lt k b).1;omega)).setCell (by simp) _,j5.cells.2.1,j5.cells.2.2.2.2.2.2.2.1⟩
def Cc (n:Nat):JR->List aD×Int×Int
 | .bad a e=>([],(a:Int),e)
 | .ok [] _ ns=>(ns,(n:Int),0)
 | .ok (t::_) _ _=>([],(t.sf:Int),2)
def kV (ts:List aQ):List aQ:=ts.filter (λt=>t.kind !=1)
theorem Vq (ts:List aQ) (k:Nat) (t:aQ) (h:ts[k]?=some t):kV (ts.take (k+1))=kV (ts.take k)++(if t.kind=1 then [] else [t]):=by
 unfold kV;rw[List.take_add_one,h,Option.toList_some,List.filter_append];congr 1;by_cases hk:t.kind=1
 ·simp[hk]
 ·simp[hk]
theorem Cd {w w2 wr w4:World}{P:Nat} (hD:w2.heap[w.heap.size]?=some (.cells #[.string ⟨#[]⟩, .slice none 0 0] 49)) (h1:Below w2.heap.size w2 wr) (h2:Fr w2.heap.size P wr w4):
  w4.cell? ⟨w.heap.size,0,none⟩=some (.string ⟨#[]⟩)/\w4.cell? ⟨w.heap.size,1,none⟩=some (.slice none 0 0)/\w4.frozen? ⟨w.heap.size,0,none⟩=false/\w4.frozen? ⟨w.heap.size,1,none⟩=false/\w4.heap[w.heap.size]?=some (.cells #[.string ⟨#[]⟩, .slice none 0 0] 49):=by
 have h:w4.heap[w.heap.size]?=some (.cells #[.string ⟨#[]⟩, .slice none 0 0] 49):=((h1.trans h2.bel).block _ (aF hD)).trans hD;exact⟨(rI h).1,(rI h).2,(Cb h).1,(Cb h).2,h⟩
theorem Ce {w:World}{B B':Nat}{e:TypeId}{s:Nat}{v:Value}{n:Nat}{xs:List Value} (h:w.ownsRow B e s v n xs) (hB:B'<=B):w.ownsRow B' e s v n xs:=by
 refine⟨h.1,?_⟩;rcases h.2 with c | ⟨g,cap,cur,b,d,a⟩
 ·exact .inl c
 ·exact .inr ⟨g,cap,cur,b,aY hB d,a⟩
theorem cI.base {B B':Nat}{z:List ND}{nv:Value}{w:World} (h:cI B z nv w) (hB:B'<=B):cI B' z nv w:=
 ⟨Ce h.row hB,λy a=>Ce (h.kids y a) hB,λy a=>Ce (h.pcs y a) hB,h.ak,h.ap⟩
theorem Jr {w W:World}{l:List UInt8}{at_ er:Int} (hb:Below w.heap.size w W) (nd:List aD×Int×Int) (h1:nd=([],at_,er)):Jq l nd w (.returned (.tuple #[.agg #[.string ⟨#[]⟩, .slice none 0 0], .int .i64 at_, .int .i64 er])) W:=by
 subst h1;exact⟨_,rfl,⟨[], .slice none 0 0,rfl,rfl,cI.nil _ _⟩,hb⟩
theorem Vr (l:List UInt8) (w:World) (hs:l.length<=4611686018427387904) (hV:cM w) (hT:bZ w):
  Calls Tryz.prog 15 #[.string (bs l)] w (Jq l (fN l) w):=by
 have sl:=aT l;obtain⟨E,n,m⟩:=Jp l;have hp:fN l=if(eR l).2.2≠0 then([],(eR l).2.1,(eR l).2.2) else
  Cc l.length (bS l 32 (kV (eR l).1) (0,0) [] (0,0)):=by
  unfold fN kV Cc;rfl
 rw[hp];clear hp;have b1:=aI w (.cells #[.string ⟨#[]⟩, .slice none 0 0] 49);have C:=Vk l (w.alloc (.cells #[.string ⟨#[]⟩, .slice none 0 0] 49)) hs (hV.keep b1) (hT.keep b1);obtain⟨r,hr⟩:=exQ<|eR l;rw[hr] at C E n m ⊢;obtain⟨T,at_,er⟩:=r;have CT:=hid C;have ae:=hid b1;simp only[] at E n m;by_cases he:er=0
 case neg=>
  have hen:(er !=0)=true:=gD.2 he;clear C b1 hr n m;go_enter Tryz.func15,Tryz.ntmps15;go_wp2_with fail;refine CT.out.mono ?_;rintro e w2 ⟨v,rfl,ho,hn,F⟩;have B:w2.heap[w.heap.size]?=some (.cells #[.string ⟨#[]⟩, .slice none 0 0] 49):=(F.block _ (by simp)).trans (heap_alloc_new w _);obtain⟨c0,c1⟩:=rI B;obtain⟨f0,f1⟩:=Cb B;have Z:Below w.heap.size w w2:=ae.out.trans (F.mono (by simp));have L:=hid Z;clear B ho hn F Z;go_wp2_with fail
  try simp only[Exit.inBlock,Exit.then]
  refine bodyPost_ret (yP rfl _ _ rfl (u:= .string ⟨#[]⟩) (v:= .slice none 0 0) ?_ ?_) rfl ?_
  ·simp[go_sem,c0,c1]
  ·simp[go_sem,c0,c1]
  ·refine⟨_,rfl,⟨[], .slice none 0 0,rfl,rfl,cI.nil _ _⟩,(L.out.setCell (by simp) _).setCell (by simp) _⟩
 subst he;obtain⟨R,hR⟩:=exQ<|bS l 32 (kV T) (0,0) [] (0,0);rw[if_neg (by simp)];simp only[];rw[hR];have hl:=m rfl;have HR:=hid hR;have ao:=hid n;have af:=hid (aJ hV hT);clear C b1 hr hR n m hV hT;go_enter Tryz.func15,Tryz.ntmps15;go_wp2_with fail;refine CT.out.mono ?_;rintro e w2 ⟨v,rfl,ho,hn,F⟩;have B:w2.heap[w.heap.size]?=some (.cells #[.string ⟨#[]⟩, .slice none 0 0] 49):=(F.block _ (by simp)).trans (heap_alloc_new w _);have Z:Below w.heap.size w w2:=ae.out.trans (F.mono (by simp));have L:=hid Z;have D:=hid B;have ap:w.heap.size<w2.heap.size:=aF B;obtain⟨p0,c0,hv,hvc,ah⟩:=iZ.toTV ho;subst hv;have Q:Hid (∀j t,T[j]?=some t-> ∃g o,p0=some ⟨g,o,none⟩/\g<w2.heap.size/\w2.cell? ⟨g,o+j*3,none⟩=some (.int .i64 t.kind)/\w2.cell? ⟨g,o+j*3+1,none⟩=some (.int .i64 t.sf)/\w2.cell? ⟨g,o+j*3+2,none⟩=some (.int .i64 t.st)):=hid (λj t O=>by
  rcases ah with h0 | ⟨g,o,cur,h0,I,h2⟩
  ·simp only[] at h0;rw[h0] at O;simp at O
  ·exact⟨g,o,h0,aF I,h2 j t O⟩)
 clear B ho hn F Z ah;obtain⟨P,hP⟩:=exQ<|w2.heap.size;have V:cK (w2.alloc (.cells #[.string (bs l), .slice none 0 0, .int .i64 0, .int .i64 0, .slice none 0 0, .int .i64 0, .int .i64 0] 75)) P l (.slice none 0 0) (0,0) (.slice none 0 0) 0 0:=by
  rw[<-hP];exact heap_alloc_new w2 _
 have ar:=hid V;have ay:Hid (Below P w2 (w2.alloc (.cells #[.string (bs l), .slice none 0 0, .int .i64 0, .int .i64 0, .slice none 0 0, .int .i64 0, .int .i64 0] 75))):=hid (by rw[<-hP];exact aI w2 _);have au:Hid (iZ (P+1) (w2.alloc (.cells #[.string (bs l), .slice none 0 0, .int .i64 0, .int .i64 0, .slice none 0 0, .int .i64 0, .int .i64 0] 75)) (.slice none 0 0) (kV (T.take 0))):=hid ⟨rfl, .inl ⟨rfl,rfl⟩⟩;clear V;rw[hP] at ap Q;go_wp2_with fail;go_loopw [28] (λs28 wr=> ∃(k:Nat) (rv:Value),s28= .int .i64 (k:Int)/\k<=T.length/\Hid (cK wr P l rv (0,0) (.slice none 0 0) 0 0)/\Hid (iZ (P+1) wr rv (kV (T.take k)))/\Hid (Below P w2 wr)) (λs28 _=>T.length-(RowKit.intOf s28).toNat)
 case atStart=>exact⟨0,_,rfl,by omega,ar,au,ay⟩
 case round=>
  obtain⟨k,rv,rfl,hk,HJ,HO,f⟩:=hrel;by_cases hkl:k<T.length
  ·obtain⟨t,N⟩: ∃t,T[k]?=some t:=⟨_,bE hkl⟩;obtain⟨g,o,rfl,hg,e0,e1,e2⟩:=Q.out k t N;have hgP:g<P:=hg;have a0:wr.cell? ⟨g,o+k*3,none⟩=some (.int .i64 (t.kind:Int)):=by rw[f.out.cell (p:=⟨g,o+k*3,none⟩) hg];exact e0
   have a1:wr.cell? ⟨g,o+k*3+1,none⟩=some (.int .i64 (t.sf:Int)):=by rw[f.out.cell (p:=⟨g,o+k*3+1,none⟩) hg];exact e1
   have a2:wr.cell? ⟨g,o+k*3+2,none⟩=some (.int .i64 (t.st:Int)):=by rw[f.out.cell (p:=⟨g,o+k*3+2,none⟩) hg];exact e2
   have hk0:(0:Int)<=(k:Int):=(by omega);have ax:(k:Int)<(T.length:Int):=(by omega);have dk:decide ((k:Int)<(T.length:Int))=true:=aM ax;obtain⟨k1,Y⟩:=exQ<|k+1;have z:(k:Int)+1=(k1:Int):=(by omega);have b:=Vq T k t N;rw[Y] at b;have ab:k1<=T.length:=(by omega);have av:=HJ.out.lt;obtain⟨tmp,h⟩: ∃o:Obj, .cells #[.int .i64 (t.kind:Int), .int .i64 (t.sf:Int), .int .i64 (t.st:Int)] 77=o:=⟨_,rfl⟩;have bt:=aI wr tmp;have c:=hid (HJ.out.keep bt);have q:Hid (iZ (P+1) (wr.alloc tmp) rv (kV (T.take k))):=hid (World.ownsRow.alloc HO.out _);have x:Hid (Below P w2 (wr.alloc tmp)):=hid (f.out.trans (bt.mono (by omega)));rw[<-h] at c q x;by_cases I:t.kind=1
   ·have d1:((t.kind:Int) !=1)=false:=by rw[I];rfl
    rw[if_pos I,List.append_nil] at b;rw[<-b] at q;clear e0 e1 e2 b N bt h I;go_wp2_with fail;go_roundw
    ·exact⟨k1,rv,by rw[<-z],ab,c,q,x⟩
    ·simp only[RowKit.intOf];omega
   ·have d1:((t.kind:Int) !=1)=true:=gD.2 (by omega);rw[if_neg I] at b;clear e0 e1 e2 N bt h I;go_upto_region 9 with fail;obtain⟨X,hX⟩:=exQ<|wr.heap.size;have x0:=wC wr #[.int .i64 (t.kind:Int), .int .i64 (t.sf:Int), .int .i64 (t.st:Int)] 77 0 _ rfl;have x1:=wC wr #[.int .i64 (t.kind:Int), .int .i64 (t.sf:Int), .int .i64 (t.st:Int)] 77 1 _ rfl;have x2:=wC wr #[.int .i64 (t.kind:Int), .int .i64 (t.sf:Int), .int .i64 (t.st:Int)] 77 2 _ rfl;rw[hX] at x0 x1 x2
    try rw[hX]
    obtain⟨W,hW⟩:=exQ<|wr.alloc (.cells #[.int .i64 (t.kind:Int), .int .i64 (t.sf:Int), .int .i64 (t.st:Int)] 77);rw[hW] at x0 x1 x2 c q x;rw[hW];have an:P<W.heap.size:=c.out.lt;have hXW:X<W.heap.size:=by rw[<-hW,<-hX];simp
    have q1:=c.out.cells.2.1;have ad:(kV (T.take k)).length<=4294967295:=by
     refine aY (List.length_filter_le _ _) ?_;rw[cD];omega
    have G:iZ (P+1) W.drew rv (kV (T.take k)):=q.out;clear hW hX a0 a1 a2;go_region_law (refine Vn (by rfl) (.tmp 39) (.tmp 41) (by rfl) (P+1) W.drew rv (kV (T.take k)) t (by rfl) G (by rfl) ad an ?_;intro kv w5 H aa;obtain⟨j5,o5,b5,c5,f5⟩:=Vp (w:=W.drew) (w2:=w2) (c.out.keep (aB _ _).drew) G x.out.drew aa H;obtain⟨gk,pk,rfl⟩:=Vo H)
    all_goals
     rw[<-b] at o5;have aq:=hid j5;have aA:=hid o5;have az:=hid b5;clear j5 o5 b5 c5 f5 H aa b G q1 x0 x1 x2;go_wp2_with fail;go_roundw
     ·exact⟨k1,_,by rw[<-z],ab,aq,aA,az⟩
     ·simp only[RowKit.intOf];omega
  ·have al:k=T.length:=(by omega);subst al;rw[List.take_length] at HO;have dk:decide ((T.length:Int)<(T.length:Int))=false:=aH (by omega);have av:=HJ.out.lt;have O:J w2.heap.size P l (kV T) (0,0) [] wr:=⟨rv,[], .slice none 0 0,HJ.out,iZ.toTV HO.out,rfl,cI.nil _ _,by omega⟩;have hnl:(kV T).length<=65536:=aY (List.length_filter_le _ _) E;have A:Below w2.heap.size w2 wr:=by rw[hP];exact f.out
   have CV:=Is w2 P l hl (af.out.1.keep L.out) (af.out.2.keep L.out) 32 (by omega) wr (kV T) (0,0) [] (0,0) 1 O A ⟨by omega,λt N=>ao.out t (List.mem_filter.1 N).1⟩ (by simp;omega) (by omega);rw[HR.out] at CV;have K:=hid CV;have d:=hid A;clear CV O A;cases R with
   | bad a er=>
    go_wp2_with fail;refine K.out.mono ?_;rintro e w4 ⟨rfl,⟨txt',rv4,l4,z4,nv4,jb, -, -, -⟩,s⟩;obtain⟨_,_,_,_,_,c5,c6,_⟩:=jb.cells;obtain⟨d0,d1,d2,d3,dD⟩:=Cd D.out d.out s;have i:Hid (Below w.heap.size w w4):=hid (L.out.trans ((d.out.trans s.bel).mono (by omega)));have ag:w.heap.size≠P:=(by omega);clear s jb;go_upto_region 15 with fail;go_region
    all_goals
     go_wp2_with fail
     try simp only[Exit.inBlock,Exit.then]
     refine bodyPost_ret (yP rfl _ _ rfl (u:= .string ⟨#[]⟩) (v:= .slice none 0 0) ?_ ?_) rfl ?_
     ·simp[go_sem,d0,d1]
     ·simp[go_sem,d0,d1]
     ·exact Jr (((i.out.setCell (by simp) _).setCell (by simp) _).drew) _ rfl
   | ok rr l2 ns=>
    cases rr with
    | cons t rr=>
     obtain⟨more,_,_,ak,_⟩:=nO l 32 _ _ _ _ _ _ _ HR.out;simp only[aV] at ak;go_wp2_with fail;refine K.out.mono ?_;rintro e w4 ⟨rfl,U,s⟩;have CF:=hid (pB _ P l (t::rr) l2 ns 2 w4 U (by simp only[aV];omega) (by omega));obtain⟨rv4,z4,nv4,j1,j2,_⟩:=U;obtain⟨g4,o4,c4,rfl,_⟩:=j2.head;have r1:=j1.cells.2.1;have aj:=hid s;have drr:decide ((0:Int)<(rr.length:Int)+1)=true:=aM (by omega);clear s j1 j2;go_wp2_with fail;refine CF.out.mono ?_;rintro e w5 ⟨rfl,⟨txt',rv5,l5,z5,nv5,jb, -, -, -⟩,M⟩;obtain⟨_,_,_,_,_,c5,c6,_⟩:=jb.cells;obtain⟨d0,d1,d2,d3,dD⟩:=Cd D.out d.out (aj.out.trans M);have i:Hid (Below w.heap.size w w5):=hid (L.out.trans ((d.out.trans (aj.out.trans M).bel).mono (by omega)));have ag:w.heap.size≠P:=(by omega);clear M jb;go_upto_region 15 with fail;go_region
     all_goals
      go_wp2_with fail
      try simp only[Exit.inBlock,Exit.then]
      refine bodyPost_ret (yP rfl _ _ rfl (u:= .string ⟨#[]⟩) (v:= .slice none 0 0) ?_ ?_) rfl ?_
      ·simp[go_sem,d0,d1]
      ·simp[go_sem,d0,d1]
      ·exact Jr (((i.out.setCell (by simp) _).setCell (by simp) _).drew) _ rfl
    | nil=>
     obtain⟨more,S,am,ak,_⟩:=nO l 32 _ _ _ _ _ _ _ HR.out;go_wp2_with fail;refine K.out.mono ?_;rintro e w4 ⟨rfl,⟨rv4,z4,nv4,j1,j2,j3,j4,j5⟩,s⟩;obtain⟨p4,c4,rfl⟩:=j2.empty;obtain⟨_,q1,_,_,q4,_⟩:=j1.cells;obtain⟨d0,d1,d2,d3,dD⟩:=Cd D.out d.out s;obtain⟨p5,c5,rfl⟩:=j4.slice;have i:Hid (Below w.heap.size w w4):=hid (L.out.trans ((d.out.trans s.bel).mono (by omega)));have ag:w.heap.size≠P:=(by omega);have ai:=hid (aJ j3 j4);clear s j1 j2 j4;have aw:=hid dD;clear dD;go_wp2_with fail
     try simp only[Exit.inBlock,Exit.then]
     refine bodyPost_ret (yP rfl _ _ rfl (u:= .string (bs l)) (v:= .slice p5 z4.length c5) ?_ ?_) rfl ?_
     ·simp[go_sem,d0,d1]
     ·simp[go_sem,d0,d1]
     ·refine⟨_,rfl,⟨z4, .slice p5 z4.length c5,?_,ai.out.1,?_⟩,(i.out.setCell (by simp) _).setCell (by simp) _⟩
      ·have hd:wI l (Cc l.length (JR.ok [] l2 ns)).1=l:=by
        rw[jJ] at S;subst S;cases ns with
        | nil=>simp at am
        | cons y ys=>rfl
       rw[hd]
      ·exact(ai.out.2.other aw.out (by decide) (by decide) (by decide) (sO (gT w4 w.heap.size 0 (.string (bs l))) (gT _ w.heap.size 1 (.slice p5 z4.length c5)))).base (by omega)
def wJ (w:World) (v:Value) (l:List Nat):Prop:= ∃p c,v= .slice p l.length c/\ ∀(j k:Nat),l[j]?=some k-> ∃g,p=some ⟨g,0,none⟩/\w.cell? ⟨g,j,none⟩=some (.int .i64 (k:Int))
def wK (w:World) (v:Value) (l:List Sp):Prop:= ∃p c,v= .slice p l.length c/\ ∀(j:Nat) (k:Sp),l[j]?=some k-> ∃g,p=some ⟨g,0,none⟩/\w.cell? ⟨g,j*2,none⟩=some (.int .i64 (k.1:Int))/\w.cell? ⟨g,j*2+1,none⟩=some (.int .i64 (k.2:Int))
def wL (w:World) (g i:Nat) (x:aD):Prop:= ∃kv pv,w.cell? ⟨g,i*7,none⟩=some (.int .i64 (x.kind:Int))/\w.cell? ⟨g,i*7+1,none⟩=some (.int .i64 (x.sf:Int))/\w.cell? ⟨g,i*7+2,none⟩=some (.int .i64 (x.st:Int))/\
 w.cell? ⟨g,i*7+3,none⟩=some (.int .i64 (x.key.1:Int))/\w.cell? ⟨g,i*7+4,none⟩=some (.int .i64 (x.key.2:Int))/\w.cell? ⟨g,i*7+5,none⟩=some kv/\w.cell? ⟨g,i*7+6,none⟩=some pv/\wJ w kv x.kids/\wK w pv x.pcs
def Cf (w:World) (nv:Value) (nodes:List aD):Prop:= ∃p c,nv= .slice p nodes.length c/\ ∀i x,nodes[i]?=some x-> ∃g,p=some ⟨g,0,none⟩/\wL w g i x
theorem pF {w w':World}{a:Addr}{u:Value} (h:w.cell? a=some u) (hb:Below w.heap.size w w'):w'.cell? a=some u:=by
 rw[hb.cell (World.block_lt_of_cell? w a h)];exact h
theorem wJ.keep {w w':World}{v:Value}{l:List Nat} (h:wJ w v l) (hb:Below w.heap.size w w'):wJ w' v l:=by
 obtain⟨p,c,d,f⟩:=h;exact⟨p,c,d,λj k b=>by obtain⟨g,e,a⟩:=f j k b;exact⟨g,e,pF a hb⟩⟩
theorem wK.keep {w w':World}{v:Value}{l:List Sp} (h:wK w v l) (hb:Below w.heap.size w w'):wK w' v l:=by
 obtain⟨p,c,d,f⟩:=h;exact⟨p,c,d,λj k b=>by obtain⟨g,e,a,i⟩:=f j k b;exact⟨g,e,pF a hb,pF i hb⟩⟩
theorem wL.keep {w w':World}{g i:Nat}{x:aD} (h:wL w g i x) (hb:Below w.heap.size w w'):wL w' g i x:=by
 obtain⟨kv,pv,k,e,j,d,a,f,l,b,c⟩:=h;exact⟨kv,pv,pF k hb,pF e hb,pF j hb,pF d hb,pF a hb,pF f hb,pF l hb,b.keep hb,c.keep hb⟩
theorem Js: ∀(l:List Sp) (j:Nat) (k:Sp),l[j]?=some k->(mE l)[j*2]?=some (.int .i64 (k.1:Int))/\(mE l)[j*2+1]?=some (.int .i64 (k.2:Int))
 | [],j,k,h=>by simp at h
 | u::l,0,k,h=>by
  obtain rfl:u=k:=by simpa using h
  exact⟨rfl,rfl⟩
 | u::l,j+1,k,h=>by
  rw[cH] at h;have:=Js l j k h;rw[show (j+1)*2=j*2+2 by omega];exact this
theorem Cg {w:World}{B:Nat}{e:TypeId}{s:Nat}{v:Value}{n:Nat}{xs:List Value} (h:w.ownsRow B e s v n xs): ∃p c,v= .slice p n c/\(n≠0-> ∃g,p=some ⟨g,0,none⟩/\ ∀i u,xs[i]?=some u->w.cell? ⟨g,i,none⟩=some u):=by
 rcases h.2 with⟨rfl,rfl⟩ | ⟨g,cap,cur,rfl,_⟩
 ·exact⟨none,0,rfl,λh=>absurd rfl h⟩
 ·refine⟨_,_,rfl,λ_=>⟨g,rfl,λi u d=>?_⟩⟩;have a:=h.cells (g:=g) rfl;have b:((⟨g,0,none⟩:Addr).add i)=⟨g,i,none⟩:=by unfold Addr.add;split<;>simp_all
  rw[<-b];exact a _ _ d
theorem Vs {w:World}{B:Nat}{v:Value}{l:List Nat} (h:w.ownsRow B 3 1 v l.length (eI l)):wJ w v l:=by
 obtain⟨p,c,d,f⟩:=Cg h;refine⟨p,c,d,λj k a=>?_⟩;have hj1:=(aR.1 a).1;obtain⟨g,e,b⟩:=f (by omega);exact⟨g,e,b j _ (by unfold eI;rw[cW,a];rfl)⟩
theorem Vt {w:World}{B:Nat}{v:Value}{l:List Sp} (h:w.ownsRow B 59 2 v l.length (mE l)):wK w v l:=by
 obtain⟨p,c,i,m⟩:=Cg h;refine⟨p,c,i,λj k f=>?_⟩;have hj1:=(aR.1 f).1;obtain⟨g,e,d⟩:=m (by omega);obtain⟨a,b⟩:=Js l j k f;exact⟨g,e,d _ _ a,d _ _ b⟩
theorem Cf.of {B:Nat}{w:World}{z:List ND}{nv:Value} (h:cI B z nv w):Cf w nv (z.map (·.1)):=by
 obtain⟨p,c,j,o⟩:=Cg h.row;refine⟨p,c,by rw[bK];exact j,λi x f=>?_⟩;rw[cW] at f;obtain⟨y,b,rfl⟩:=rG.1 f;have hj1:=(aR.1 b).1;obtain⟨g,e,l⟩:=o (by omega);have d:=aX b;have a: ∀k,k<7-> ∀u,(fW y)[k]?=some u->w.cell? ⟨g,i*7+k,none⟩=some u:=λk m u n=>l _ _ (by rw[vX z i y b k m];exact n);exact⟨g,e,y.2.1,y.2.2,a 0 (by omega) _ rfl,a 1 (by omega) _ rfl,a 2 (by omega) _ rfl,a 3 (by omega) _ rfl,a 4 (by omega) _ rfl,a 5 (by omega) _ rfl,a 6 (by omega) _ rfl,Vs (h.kids y d),Vt (h.pcs y d)⟩
def sV (w:World) (p:Option Addr) (nodes:List aD):Prop:= ∀(i:Nat) (x:aD),nodes[i]?=some x-> ∃g,p=some ⟨g,0,none⟩/\wL w g i x
theorem sV.keep {w w':World}{p:Option Addr}{nodes:List aD} (h:sV w p nodes) (hb:Below w.heap.size w w'):sV w' p nodes:=λi x b=>by
 obtain⟨g,e,a⟩:=h i x b;exact⟨g,e,a.keep hb⟩
def Jt (l:List UInt8) (r:List aD×Int×Int) (w:World) (e:Ending) (w':World):Prop:=
 ∃p c,e= .returned (.tuple #[.agg #[.string (bs (wI l r.1)), .slice p r.1.length c], .int .i64 r.2.1, .int .i64 r.2.2])/\sV w' p r.1/\Below w.heap.size w w'
theorem Vu (l:List UInt8) (r:List aD×Int×Int) (hr:fN l=r) (w:World) (hs:l.length<=4611686018427387904) (hV:cM w) (hT:bZ w):
  Calls Tryz.prog 15 #[.string (bs l)] w (Jt l r w):=by
 subst hr;refine(Vr l w hs hV hT).mono λe w' h=>?_;obtain⟨v,i,⟨z,nv,g,f,j⟩,d⟩:=h;subst g;obtain⟨p,c,a,b⟩:=Cf.of j;rw[f] at a b;subst a;exact⟨p,c,i,b,d⟩
theorem Vv (l:List UInt8) (lv:Nat) (ts:List aQ) (hts:ts.length<=65536):(uA l.length (bS l lv ts (0,0) [] (0,0))).1.length<=65536:=by
 cases hR:bS l lv ts (0,0) [] (0,0) with
 | bad a er=>simp[uA]
 | ok rr l2 ns=>
  obtain⟨more,b,hm1,c,_⟩:=nO l lv _ _ _ _ _ _ _ hR;cases rr with
  | nil=>rw[jJ] at b;subst b;show ns.length<=_;simp only[gY] at c;omega
  | cons t rr=>simp[uA]
theorem Ch (l:List UInt8):(fN l).1.length<=65536:=by
 rw[Hf];split
 ·simp
 ·exact Vv l 32 _ (aY (List.length_filter_le _ _) (Jp l).1)
def uO (w:World) (D:Nat) (txt:ByteArray) (p:Option Addr) (n c:Nat):Prop:=w.heap[D]?=some (.cells #[.string txt, .slice p n c] 49)
theorem uO.new (w:World) (txt:ByteArray) (p:Option Addr) (n c:Nat):uO (w.alloc (.cells #[.string txt, .slice p n c] 49)) w.heap.size txt p n c:=heap_alloc_new w _
def wM (txt:ByteArray) (a b:Int):ByteArray:=if a<0\/b<a\/(txt.size:Int)<b then⟨#[]⟩ else txt.extract a.toNat b.toNat
theorem Ju (txt:ByteArray) (nv:Value) (hnv:nv.oneCell'=true) (a b:Int) (w:World):
  Calls Tryz.prog 30 #[.agg #[.string txt,nv], .agg #[.int .i64 a, .int .i64 b]] w λe w'=>e= .returned (.string (wM txt a b))/\Below w.heap.size w w':=by
 obtain⟨R,c⟩:=exQ<|wM txt a b;rw[c];unfold wM at c;have f:=(aI w (.cells #[.string txt,nv] 49)).trans ((aI (w.alloc (.cells #[.string txt,nv] 49)) (.cells #[.int .i64 a, .int .i64 b] 59)).mono (by simp));have d:=hid f;clear f;by_cases h1:a<0
 ·rw[if_pos (.inl h1)] at c;have d1:decide (a<0)=true:=aM h1;subst c;go_enter Tryz.func30,Tryz.ntmps30;go_wp2_with fail;go_ret;exact⟨rfl,d.out⟩
 have d1:decide (a<0)=false:=aH h1;by_cases h2:b<a
 ·rw[if_pos (.inr (.inl h2))] at c;have d2:decide (b<a)=true:=aM h2;subst c;go_enter Tryz.func30,Tryz.ntmps30;go_wp2_with fail;go_ret;exact⟨rfl,d.out⟩
 have d2:decide (b<a)=false:=aH h2;by_cases h3:(txt.size:Int)<b
 ·rw[if_pos (.inr (.inr h3))] at c;have d3:decide ((txt.size:Int)<b)=true:=aM h3;subst c;go_enter Tryz.func30,Tryz.ntmps30;go_wp2_with fail;go_ret;exact⟨rfl,d.out⟩
 have d3:decide ((txt.size:Int)<b)=false:=aH h3;rw[if_neg (by omega)] at c;obtain⟨a',rfl⟩: ∃a':Nat,a=a':=⟨a.toNat,by omega⟩;obtain⟨b',rfl⟩: ∃b':Nat,b=b':=⟨b.toNat,by omega⟩;have i1:(0:Int)<=(a':Int):=by omega
 have i2:(a':Int)<=(b':Int):=by omega
 have i3:(b':Int)<=(txt.size:Int):=by omega
 subst c;simp only[fT];go_enter Tryz.func30,Tryz.ntmps30;go_wp2_with fail;go_ret;exact⟨rfl,d.out⟩
end Go.Proofs.YtaifnmjjpddikaaGreatDoor
