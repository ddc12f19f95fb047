import Derived.Test.YtaifnmjjpddikaaGreatDoorRf8
import Derived.Test.YtaifnmjjpddikaaGreatDoorRf10
import Derived.Test.YtaifnmjjpddikaaGreatDoorRf4
import Derived.Laws.Bits128
import Derived.Deep.RegionHeld3
set_option maxRecDepth 100000
set_option maxHeartbeats 8000000
namespace Go.Proofs.YtaifnmjjpddikaaGreatDoor
set_option linter.unusedSimpArgs false
set_option linter.unusedVariables false
open Go.RowKit Go.Maps Go.WideMaps
open Go.Lib hiding intOf
theorem Ii: ∀(ts:List aL) (j:Nat) (t:aL),ts[j]?=some t->(oE ts)[j*3]?=some (.int .i64 t.kind)/\(oE ts)[j*3+1]?=some (.int .i64 t.sf)/\(oE ts)[j*3+2]?=some (.int .i64 t.st)
 | [],j,t,h=>by simp at h
 | u::ts,0,t,h=>by
  obtain rfl:u=t:=by simpa using h
  exact⟨rfl,rfl,rfl⟩
 | u::ts,j+1,t,h=>by
  rw[cD] at h;have:=Ii ts j t h;rw[show (j+1)*3=j*3+3 by omega];exact this
theorem Uk (ts:List aL) (t:aL):oE (ts++ [t])=oE ts++ [.int .i64 t.kind, .int .i64 t.sf, .int .i64 t.st]:=by unfold oE;simp
theorem iY.toTV {B:Nat}{w:World}{v:Value}{ts:List aL} (h:iY B w v ts):TV w v ts:=by
 rcases h.2 with⟨h0,h1⟩ | ⟨g,cap,cur,h1,hb,h3,h4,_⟩
 ·exact⟨none,0,by rw[h0,h1],by omega, .inl (List.length_eq_zero_iff.1 h1)⟩
 ·refine⟨some ⟨g,0,none⟩,cap,h1,h4, .inr ⟨g,0,cur,rfl,h3,λj t hj=>?_⟩⟩;obtain⟨a,b,c⟩:=Ii ts j t hj;have hc:=h.cells (g:=g) (by rw[h1];rfl);have ha: ∀n,((⟨g,0,none⟩:Addr).add n)=⟨g,n,none⟩:=λn=>by unfold Addr.add;split<;>simp_all
  simp only[Nat.zero_add];exact⟨by rw[<-ha];exact hc _ _ a,by rw[<-ha];exact hc _ _ b,by rw[<-ha];exact hc _ _ c⟩
theorem Ij: ∀(f:Nat) (l:List UInt8) (i:Nat),∀t∈(bS f l i).1,t.sf<=t.st/\t.st<=i+l.length
 | f,[],i,t,ht=>by rw[lM] at ht;cases ht
 | 0,c::r,i,t,ht=>by cases ht
 | f+1,c::r,i,t,ht=>by
  rw[iU] at ht;split at ht
  ·have h1:=(nS (c::r) (by simp)).1;rcases dN.1 ht with rfl | ht
   ·simp only[];omega
   ·have:=Ij f _ _ t ht;rw[aV] at this;omega
  ·cases ht
theorem Ik: ∀(f:Nat) (l:List UInt8) (i:Nat),(bS f l i).1.length<=f
 | 0,l,i=>by simp[bS]
 | f+1,[],i=>by rw[lM];simp
 | f+1,c::r,i=>by
  rw[iU];split
  ·simp only[aT];have:=Ik f ((c::r).drop (bB (c::r)).2.1) (i+(bB (c::r)).2.1);omega
  ·simp
theorem Il (l:List UInt8):(dT l).1.length<=65536/\(∀t∈(dT l).1,t.sf<=t.st/\t.st<=l.length)/\((dT l).2.2=0->l.length<=65536):=by
 unfold dT;split
 ·exact⟨by simp,λt h=>(by cases h),λh=>(by cases h)⟩
 ·split
  ·exact⟨aW (Ik _ _ _) (by omega),λt h=>by have:=Ij _ _ _ t h;omega,λ_=>by omega⟩
  ·rename_i p e ho;refine⟨by simp,λt h=>(by cases h),λh=>?_⟩;have:=xG l.length l 0 p e (aE _) ho;exact absurd h this.2.2
def Ul (B:Nat) (w:World) (txt:List UInt8) (nodes:List aD) (v:Value):Prop:= ∃z nv,v= .agg #[.string (bs txt),nv]/\z.map (·.1)=nodes/\cH B z nv w
def vR (l:List UInt8):List aD->List UInt8
 | []=> []
 | _::_=>l
def Im (l:List UInt8) (r:List aD×Int×Int) (w:World) (e:Ending) (w':World):Prop:=
 ∃v,e= .returned (.tuple #[v, .int .i64 r.2.1, .int .i64 r.2.2])/\Ul w.heap.size w' (vR l r.1) r.1 v/\Below w.heap.size w w'
theorem Um {ops:Array Oper}{o:Oper}{a:Act}{K:Act->World->Prop}{Q:Exit->Act->World->Prop}{E:Prop} (hgd:o.guard=none) (s x:Operand)
  (ho:o.op= .call { callee:= .builtin .append,args:= #[s,x],argTypes:= #[70,70] })
  (B:Nat) (w:World) (v:Value) (ts:List aL) (t:aL) (hs:a.eval s=v) (hown:iY B w v ts) (hx:a.eval x= .slice (some ⟨w.heap.size,0,none⟩) 1 1) (hl:ts.length<=4294967295) (hB:B<=w.heap.size)
  (hK: ∀kv w',iY B w' kv (ts++ [t])->w.grownBy w' v.ownBlock->K (a.put o.dst kv) w'):
  if Region.wanted o (yielded ops a.tmps)=true then Oper.wp Tryz.prog o a (w.alloc (.cells #[.int .i64 (t.kind:Int), .int .i64 (t.sf:Int), .int .i64 (t.st:Int)] 77)) K Q else E:=by
 obtain⟨i0,hi0,hz0,hz1,hz2⟩:=info_parts Tryz.infoTok;refine step_append_lies _ hgd s x 70 ho B 77 i0 _ 3 24 Tryz.underlying70 hi0 hz0 hz1 hz2 rfl (by decide) v _ (oE ts) hs (World.ownsRow.alloc hown _) ⟨w.heap.size,0,none⟩ 1 1 [.int .i64 (t.kind:Int), .int .i64 (t.sf:Int), .int .i64 (t.st:Int)] hx (by rfl) (vL w #[.int .i64 (t.kind:Int), .int .i64 (t.sf:Int), .int .i64 (t.st:Int)] _)
  (λu hu=>by
   rcases dN.1 hu with rfl | hu
   ·rfl
   ·rcases dN.1 hu with rfl | hu
    ·rfl
    ·rw[kH.1 hu];rfl) (by decide) (by unfold maxLen;omega) (by omega) (by simp;omega) _ rfl ?_
 intro g cap w' h5 h6 h7 _;refine hK _ w' ?_ (vM h6);unfold iY;rw[Uk,aS,eD];exact h5
theorem Bj {w:World}{X:Nat}{u v:Value}{t:TypeId} (h:w.heap[X]?=some (.cells #[u,v] t)):w.frozen? ⟨X,0,none⟩=false/\w.frozen? ⟨X,1,none⟩=false:=by
 constructor<;>simp[World.frozen?,h]
theorem xW {fn:Func} (h:fn.results= #[.cell 2 49, .tmp 3, .tmp 4]) (tmps:Array Value) (w:World) {D:Nat}{u v:Value} (hD:tmps.getD 2 undef= .pointer (some ⟨D,0,none⟩)) (h0:w.cell? ⟨D,0,none⟩=some u) (h1:w.cell? ⟨D,1,none⟩=some v):
  (results fn tmps).run Tryz.prog w= .ok (.tuple #[.agg #[u,v],tmps.getD 3 undef,tmps.getD 4 undef]) w:=by
 have hD':tmps[2]?.getD undef= .pointer (some ⟨D,0,none⟩):=by rw[<-aO];exact hD
 simp[results,h,hD',asAddr,go_sem,h0,h1]
theorem cK.rest {w:World}{P:Nat}{txt:List UInt8}{rv nv:Value}{l:Sp}{a:Nat}{er:Int} (h:cK w P txt rv l nv a er) (rv2:Value):cK (w.setCell ⟨P,1,none⟩ rv2) P txt rv2 l nv a er:=by
 unfold cK at h ⊢;simp[World.setCell,Array.getElem?_modify,h]
theorem cK.off {w w':World}{P B:Nat}{txt:List UInt8}{rv nv:Value}{l:Sp}{a:Nat}{er:Int} (h:cK w P txt rv l nv a er) {ts:List aL}{v:Value} (hr:iY B w v ts) (hg:w.grownBy w' v.ownBlock):cK w' P txt rv l nv a er:=
 (hg.block P h.lt (λe=>by
  rcases cY hr h (by decide) with h1 | h1
  ·rw[h1] at e;cases e
  ·exact h1 e.symm)).trans h
theorem Un {w:World}{B:Nat}{kv:Value}{ts:List aL}{t:aL} (h:iY B w kv (ts++ [t])): ∃g c,kv= .slice (some ⟨g,0,none⟩) (ts.length+1) c:=by
 unfold iY at h;rw[aS,eD] at h;exact tW h
theorem Uo {w w2 w5:World}{P:Nat}{txt:List UInt8}{rv nv kv:Value}{l:Sp}{a:Nat}{er:Int}{ts:List aL}{t:aL} (h1:cK w P txt rv l nv a er) (hr:iY (P+1) w rv ts) (hb:Below P w2 w) (hg:w.grownBy w5 rv.ownBlock) (ho:iY (P+1) w5 kv (ts++ [t])):
  cK (w5.setCell ⟨P,1,none⟩ kv) P txt kv l nv a er/\iY (P+1) (w5.setCell ⟨P,1,none⟩ kv) kv (ts++ [t])/\Below P w2 (w5.setCell ⟨P,1,none⟩ kv)/\w5.cell? ⟨P,1,none⟩=some rv/\w5.frozen? ⟨P,1,none⟩=false:=by
 have j5:=h1.off hr hg;refine⟨j5.rest kv,ho.kept (gM w5 P 1 kv) (cY ho j5 (by decide)),(hb.grown hg (by have:=h1.lt;omega) (λk hk=>by have:=(hr.lt k hk).1;omega)).setCell (by simp) _,j5.cells.2.1,j5.cells.2.2.2.2.2.2.2.1⟩
def Bk (n:Nat):JR->List aD×Int×Int
 | .bad a e=>([],(a:Int),e)
 | .ok [] _ ns=>(ns,(n:Int),0)
 | .ok (t::_) _ _=>([],(t.sf:Int),2)
def kM (ts:List aL):List aL:=ts.filter (λt=>t.kind !=1)
theorem Up (ts:List aL) (k:Nat) (t:aL) (h:ts[k]?=some t):kM (ts.take (k+1))=kM (ts.take k)++(if t.kind=1 then [] else [t]):=by
 unfold kM;rw[List.take_add_one,h,Option.toList_some,List.filter_append];congr 1;by_cases hk:t.kind=1
 ·simp[hk]
 ·simp[hk]
theorem Bm {w w2 wr w4:World}{P:Nat} (hD:w2.heap[w.heap.size]?=some (.cells #[.string ⟨#[]⟩, .slice none 0 0] 49)) (h1:Below w2.heap.size w2 wr) (h2:Fr w2.heap.size P wr w4):
  w4.cell? ⟨w.heap.size,0,none⟩=some (.string ⟨#[]⟩)/\w4.cell? ⟨w.heap.size,1,none⟩=some (.slice none 0 0)/\w4.frozen? ⟨w.heap.size,0,none⟩=false/\w4.frozen? ⟨w.heap.size,1,none⟩=false/\w4.heap[w.heap.size]?=some (.cells #[.string ⟨#[]⟩, .slice none 0 0] 49):=by
 have h:w4.heap[w.heap.size]?=some (.cells #[.string ⟨#[]⟩, .slice none 0 0] 49):=((h1.trans h2.bel).block _ (aF hD)).trans hD;exact⟨(qU h).1,(qU h).2,(Bj h).1,(Bj h).2,h⟩
theorem Bn {w:World}{B B':Nat}{e:TypeId}{s:Nat}{v:Value}{n:Nat}{xs:List Value} (h:w.ownsRow B e s v n xs) (hB:B'<=B):w.ownsRow B' e s v n xs:=by
 refine⟨h.1,?_⟩;rcases h.2 with h0 | ⟨g,cap,cur,h1,h2,h3⟩
 ·exact .inl h0
 ·exact .inr ⟨g,cap,cur,h1,aW hB h2,h3⟩
theorem cH.base {B B':Nat}{z:List ND}{nv:Value}{w:World} (h:cH B z nv w) (hB:B'<=B):cH B' z nv w:=
 ⟨Bn h.row hB,λy hy=>Bn (h.kids y hy) hB,λy hy=>Bn (h.pcs y hy) hB,h.ak,h.ap⟩
theorem In {w W:World}{l:List UInt8}{at_ er:Int} (hb:Below w.heap.size w W) (nd:List aD×Int×Int) (h1:nd=([],at_,er)):Im l nd w (.returned (.tuple #[.agg #[.string ⟨#[]⟩, .slice none 0 0], .int .i64 at_, .int .i64 er])) W:=by
 subst h1;exact⟨_,rfl,⟨[], .slice none 0 0,rfl,rfl,cH.nil _ _⟩,hb⟩
theorem Uq (l:List UInt8) (w:World) (hs:l.length<=4611686018427387904) (hV:cO w) (hT:cC w):
  Calls Tryz.prog 15 #[.string (bs l)] w (Im l (eC l) w):=by
 have sl:=aR l;obtain⟨ht1,ht2,ht3⟩:=Il l;have hp:eC l=if(dT l).2.2≠0 then([],(dT l).2.1,(dT l).2.2) else
  Bk l.length (bP l 32 (kM (dT l).1) (0,0) [] (0,0)):=by
  unfold eC kM Bk;rfl
 rw[hp];clear hp;have b1:=aH w (.cells #[.string ⟨#[]⟩, .slice none 0 0] 49);have C:=Uj l (w.alloc (.cells #[.string ⟨#[]⟩, .slice none 0 0] 49)) hs (hV.keep b1) (hT.keep b1);obtain⟨r,hr⟩:=exQ<|dT l;rw[hr] at C ht1 ht2 ht3 ⊢;obtain⟨T,at_,er⟩:=r;have CT:=hid C;have HB1:=hid b1;simp only[] at ht1 ht2 ht3;by_cases he:er=0
 case neg=>
  have hen:(er !=0)=true:=fH.2 he;clear C b1 hr ht2 ht3;go_enter Tryz.func15,Tryz.ntmps15;go_wp2_with fail;refine CT.out.mono ?_;rintro e w2 ⟨v,rfl,ho,hn,hb⟩;have hD:w2.heap[w.heap.size]?=some (.cells #[.string ⟨#[]⟩, .slice none 0 0] 49):=(hb.block _ (by simp)).trans (heap_alloc_new w _);obtain⟨c0,c1⟩:=qU hD;obtain⟨f0,f1⟩:=Bj hD;have hB:Below w.heap.size w w2:=HB1.out.trans (hb.mono (by simp));have HB:=hid hB;clear hD ho hn hb hB;go_wp2_with fail
  try simp only[Exit.inBlock,Exit.then]
  refine bodyPost_ret (xW rfl _ _ rfl (u:= .string ⟨#[]⟩) (v:= .slice none 0 0) ?_ ?_) rfl ?_
  ·simp[go_sem,c0,c1]
  ·simp[go_sem,c0,c1]
  ·refine⟨_,rfl,⟨[], .slice none 0 0,rfl,rfl,cH.nil _ _⟩,(HB.out.setCell (by simp) _).setCell (by simp) _⟩
 subst he;obtain⟨R,hR⟩:=exQ<|bP l 32 (kM T) (0,0) [] (0,0);rw[if_neg (by simp)];simp only[];rw[hR];have hl:=ht3 rfl;have HR:=hid hR;have HT2:=hid ht2;have HVT:=hid (aI hV hT);clear C b1 hr hR ht2 ht3 hV hT;go_enter Tryz.func15,Tryz.ntmps15;go_wp2_with fail;refine CT.out.mono ?_;rintro e w2 ⟨v,rfl,ho,hn,hb⟩;have hD:w2.heap[w.heap.size]?=some (.cells #[.string ⟨#[]⟩, .slice none 0 0] 49):=(hb.block _ (by simp)).trans (heap_alloc_new w _);have hB:Below w.heap.size w w2:=HB1.out.trans (hb.mono (by simp));have HB:=hid hB;have HDv:=hid hD;have hDl:w.heap.size<w2.heap.size:=aF hD;obtain⟨p0,c0,hv,hvc,hat⟩:=iY.toTV ho;subst hv;have HAt:Hid (∀j t,T[j]?=some t-> ∃g o,p0=some ⟨g,o,none⟩/\g<w2.heap.size/\w2.cell? ⟨g,o+j*3,none⟩=some (.int .i64 t.kind)/\w2.cell? ⟨g,o+j*3+1,none⟩=some (.int .i64 t.sf)/\w2.cell? ⟨g,o+j*3+2,none⟩=some (.int .i64 t.st)):=hid (λj t hj=>by
  rcases hat with h0 | ⟨g,o,cur,h0,h1,h2⟩
  ·simp only[] at h0;rw[h0] at hj;simp at hj
  ·exact⟨g,o,h0,aF h1,h2 j t hj⟩)
 clear hD ho hn hb hB hat;obtain⟨P,hP⟩:=exQ<|w2.heap.size;have hJ0:cK (w2.alloc (.cells #[.string (bs l), .slice none 0 0, .int .i64 0, .int .i64 0, .slice none 0 0, .int .i64 0, .int .i64 0] 75)) P l (.slice none 0 0) (0,0) (.slice none 0 0) 0 0:=by
  rw[<-hP];exact heap_alloc_new w2 _
 have HJ0:=hid hJ0;have HB0:Hid (Below P w2 (w2.alloc (.cells #[.string (bs l), .slice none 0 0, .int .i64 0, .int .i64 0, .slice none 0 0, .int .i64 0, .int .i64 0] 75))):=hid (by rw[<-hP];exact aH w2 _);have HO0:Hid (iY (P+1) (w2.alloc (.cells #[.string (bs l), .slice none 0 0, .int .i64 0, .int .i64 0, .slice none 0 0, .int .i64 0, .int .i64 0] 75)) (.slice none 0 0) (kM (T.take 0))):=hid ⟨rfl, .inl ⟨rfl,rfl⟩⟩;clear hJ0;rw[hP] at hDl HAt;go_wp2_with fail;go_loopw [28] (λs28 wr=> ∃(k:Nat) (rv:Value),s28= .int .i64 (k:Int)/\k<=T.length/\Hid (cK wr P l rv (0,0) (.slice none 0 0) 0 0)/\Hid (iY (P+1) wr rv (kM (T.take k)))/\Hid (Below P w2 wr)) (λs28 _=>T.length-(RowKit.intOf s28).toNat)
 case atStart=>exact⟨0,_,rfl,by omega,HJ0,HO0,HB0⟩
 case round=>
  obtain⟨k,rv,rfl,hk,HJ,HO,HBr⟩:=hrel;by_cases hkl:k<T.length
  ·obtain⟨t,ht⟩: ∃t,T[k]?=some t:=⟨_,bJ hkl⟩;obtain⟨g,o,rfl,hg,e0,e1,e2⟩:=HAt.out k t ht;have hgP:g<P:=hg;have a0:wr.cell? ⟨g,o+k*3,none⟩=some (.int .i64 (t.kind:Int)):=by rw[HBr.out.cell (p:=⟨g,o+k*3,none⟩) hg];exact e0
   have a1:wr.cell? ⟨g,o+k*3+1,none⟩=some (.int .i64 (t.sf:Int)):=by rw[HBr.out.cell (p:=⟨g,o+k*3+1,none⟩) hg];exact e1
   have a2:wr.cell? ⟨g,o+k*3+2,none⟩=some (.int .i64 (t.st:Int)):=by rw[HBr.out.cell (p:=⟨g,o+k*3+2,none⟩) hg];exact e2
   have hk0:(0:Int)<=(k:Int):=(by omega);have hk1:(k:Int)<(T.length:Int):=(by omega);have dk:decide ((k:Int)<(T.length:Int))=true:=aN hk1;obtain⟨k1,hk1e⟩:=exQ<|k+1;have hk1z:(k:Int)+1=(k1:Int):=(by omega);have hstep:=Up T k t ht;rw[hk1e] at hstep;have hkk:k1<=T.length:=(by omega);have hPr:=HJ.out.lt;obtain⟨tmp,htmp⟩: ∃o:Obj, .cells #[.int .i64 (t.kind:Int), .int .i64 (t.sf:Int), .int .i64 (t.st:Int)] 77=o:=⟨_,rfl⟩;have bt:=aH wr tmp;have HJt:=hid (HJ.out.keep bt);have HOt:Hid (iY (P+1) (wr.alloc tmp) rv (kM (T.take k))):=hid (World.ownsRow.alloc HO.out _);have HBt:Hid (Below P w2 (wr.alloc tmp)):=hid (HBr.out.trans (bt.mono (by omega)));rw[<-htmp] at HJt HOt HBt;by_cases h1:t.kind=1
   ·have d1:((t.kind:Int) !=1)=false:=by rw[h1];rfl
    rw[if_pos h1,List.append_nil] at hstep;rw[<-hstep] at HOt;clear e0 e1 e2 hstep ht bt htmp h1;go_wp2_with fail;go_roundw
    ·exact⟨k1,rv,by rw[<-hk1z],hkk,HJt,HOt,HBt⟩
    ·simp only[RowKit.intOf];omega
   ·have d1:((t.kind:Int) !=1)=true:=fH.2 (by omega);rw[if_neg h1] at hstep;clear e0 e1 e2 ht bt htmp h1;go_upto_region 9 with fail;obtain⟨X,hX⟩:=exQ<|wr.heap.size;have x0:=vK wr #[.int .i64 (t.kind:Int), .int .i64 (t.sf:Int), .int .i64 (t.st:Int)] 77 0 _ rfl;have x1:=vK wr #[.int .i64 (t.kind:Int), .int .i64 (t.sf:Int), .int .i64 (t.st:Int)] 77 1 _ rfl;have x2:=vK wr #[.int .i64 (t.kind:Int), .int .i64 (t.sf:Int), .int .i64 (t.st:Int)] 77 2 _ rfl;rw[hX] at x0 x1 x2
    try rw[hX]
    obtain⟨W,hW⟩:=exQ<|wr.alloc (.cells #[.int .i64 (t.kind:Int), .int .i64 (t.sf:Int), .int .i64 (t.st:Int)] 77);rw[hW] at x0 x1 x2 HJt HOt HBt;rw[hW];have hPW:P<W.heap.size:=HJt.out.lt;have hXW:X<W.heap.size:=by rw[<-hW,<-hX];simp
    have q1:=HJt.out.cells.2.1;have hlen:(kM (T.take k)).length<=4294967295:=by
     refine aW (List.length_filter_le _ _) ?_;rw[cF];omega
    have hOd:iY (P+1) W.drew rv (kM (T.take k)):=HOt.out;clear hW hX a0 a1 a2;go_region_law (refine Um (by rfl) (.tmp 39) (.tmp 41) (by rfl) (P+1) W.drew rv (kM (T.take k)) t (by rfl) hOd (by rfl) hlen hPW ?_;intro kv w5 ho5 hg5;obtain⟨j5,o5,b5,c5,f5⟩:=Uo (w:=W.drew) (w2:=w2) (HJt.out.keep (aB _ _).drew) hOd HBt.out.drew hg5 ho5;obtain⟨gk,pk,rfl⟩:=Un ho5)
    all_goals
     rw[<-hstep] at o5;have HJ5:=hid j5;have HO5:=hid o5;have HB5:=hid b5;clear j5 o5 b5 c5 f5 ho5 hg5 hstep hOd q1 x0 x1 x2;go_wp2_with fail;go_roundw
     ·exact⟨k1,_,by rw[<-hk1z],hkk,HJ5,HO5,HB5⟩
     ·simp only[RowKit.intOf];omega
  ·have hke:k=T.length:=(by omega);subst hke;rw[List.take_length] at HO;have dk:decide ((T.length:Int)<(T.length:Int))=false:=aJ (by omega);have hPr:=HJ.out.lt;have hj:J w2.heap.size P l (kM T) (0,0) [] wr:=⟨rv,[], .slice none 0 0,HJ.out,iY.toTV HO.out,rfl,cH.nil _ _,by omega⟩;have hnl:(kM T).length<=65536:=aW (List.length_filter_le _ _) ht1;have hbw:Below w2.heap.size w2 wr:=by rw[hP];exact HBr.out
   have CV:=Ho w2 P l hl (HVT.out.1.keep HB.out) (HVT.out.2.keep HB.out) 32 (by omega) wr (kM T) (0,0) [] (0,0) 1 hj hbw ⟨by omega,λt ht=>HT2.out t (List.mem_filter.1 ht).1⟩ (by simp;omega) (by omega);rw[HR.out] at CV;have HCV:=hid CV;have HBw:=hid hbw;clear CV hj hbw;cases R with
   | bad a er=>
    go_wp2_with fail;refine HCV.out.mono ?_;rintro e w4 ⟨rfl,⟨txt',rv4,l4,z4,nv4,jb, -, -, -⟩,hf⟩;obtain⟨_,_,_,_,_,c5,c6,_⟩:=jb.cells;obtain⟨d0,d1,d2,d3,dD⟩:=Bm HDv.out HBw.out hf;have HB4:Hid (Below w.heap.size w w4):=hid (HB.out.trans ((HBw.out.trans hf.bel).mono (by omega)));have hDP:w.heap.size≠P:=(by omega);clear hf jb;go_upto_region 15 with fail;go_region
    all_goals
     go_wp2_with fail
     try simp only[Exit.inBlock,Exit.then]
     refine bodyPost_ret (xW rfl _ _ rfl (u:= .string ⟨#[]⟩) (v:= .slice none 0 0) ?_ ?_) rfl ?_
     ·simp[go_sem,d0,d1]
     ·simp[go_sem,d0,d1]
     ·exact In (((HB4.out.setCell (by simp) _).setCell (by simp) _).drew) _ rfl
   | ok rr l2 ns=>
    cases rr with
    | cons t rr=>
     obtain⟨more,_,_,hm2,_⟩:=mP l 32 _ _ _ _ _ _ _ HR.out;simp only[aT] at hm2;go_wp2_with fail;refine HCV.out.mono ?_;rintro e w4 ⟨rfl,hj4,hf⟩;have CF:=hid (oB _ P l (t::rr) l2 ns 2 w4 hj4 (by simp only[aT];omega) (by omega));obtain⟨rv4,z4,nv4,j1,j2,_⟩:=hj4;obtain⟨g4,o4,c4,rfl,_⟩:=j2.head;have r1:=j1.cells.2.1;have HF4:=hid hf;have drr:decide ((0:Int)<(rr.length:Int)+1)=true:=aN (by omega);clear hf j1 j2;go_wp2_with fail;refine CF.out.mono ?_;rintro e w5 ⟨rfl,⟨txt',rv5,l5,z5,nv5,jb, -, -, -⟩,hf5⟩;obtain⟨_,_,_,_,_,c5,c6,_⟩:=jb.cells;obtain⟨d0,d1,d2,d3,dD⟩:=Bm HDv.out HBw.out (HF4.out.trans hf5);have HB4:Hid (Below w.heap.size w w5):=hid (HB.out.trans ((HBw.out.trans (HF4.out.trans hf5).bel).mono (by omega)));have hDP:w.heap.size≠P:=(by omega);clear hf5 jb;go_upto_region 15 with fail;go_region
     all_goals
      go_wp2_with fail
      try simp only[Exit.inBlock,Exit.then]
      refine bodyPost_ret (xW rfl _ _ rfl (u:= .string ⟨#[]⟩) (v:= .slice none 0 0) ?_ ?_) rfl ?_
      ·simp[go_sem,d0,d1]
      ·simp[go_sem,d0,d1]
      ·exact In (((HB4.out.setCell (by simp) _).setCell (by simp) _).drew) _ rfl
    | nil=>
     obtain⟨more,hne,hm1,hm2,_⟩:=mP l 32 _ _ _ _ _ _ _ HR.out;go_wp2_with fail;refine HCV.out.mono ?_;rintro e w4 ⟨rfl,⟨rv4,z4,nv4,j1,j2,j3,j4,j5⟩,hf⟩;obtain⟨p4,c4,rfl⟩:=j2.empty;obtain⟨_,q1,_,_,q4,_⟩:=j1.cells;obtain⟨d0,d1,d2,d3,dD⟩:=Bm HDv.out HBw.out hf;obtain⟨p5,c5,rfl⟩:=j4.slice;have HB4:Hid (Below w.heap.size w w4):=hid (HB.out.trans ((HBw.out.trans hf.bel).mono (by omega)));have hDP:w.heap.size≠P:=(by omega);have HJ4:=hid (aI j3 j4);clear hf j1 j2 j4;have HDD:=hid dD;clear dD;go_wp2_with fail
     try simp only[Exit.inBlock,Exit.then]
     refine bodyPost_ret (xW rfl _ _ rfl (u:= .string (bs l)) (v:= .slice p5 z4.length c5) ?_ ?_) rfl ?_
     ·simp[go_sem,d0,d1]
     ·simp[go_sem,d0,d1]
     ·refine⟨_,rfl,⟨z4, .slice p5 z4.length c5,?_,HJ4.out.1,?_⟩,(HB4.out.setCell (by simp) _).setCell (by simp) _⟩
      ·have hd:vR l (Bk l.length (JR.ok [] l2 ns)).1=l:=by
        rw[iL] at hne;subst hne;cases ns with
        | nil=>simp at hm1
        | cons y ys=>rfl
       rw[hd]
      ·exact(HJ4.out.2.other HDD.out (by decide) (by decide) (by decide) (rW (gM w4 w.heap.size 0 (.string (bs l))) (gM _ w.heap.size 1 (.slice p5 z4.length c5)))).base (by omega)
def vS (w:World) (v:Value) (l:List Nat):Prop:= ∃p c,v= .slice p l.length c/\ ∀(j k:Nat),l[j]?=some k-> ∃g,p=some ⟨g,0,none⟩/\w.cell? ⟨g,j,none⟩=some (.int .i64 (k:Int))
def vT (w:World) (v:Value) (l:List Sp):Prop:= ∃p c,v= .slice p l.length c/\ ∀(j:Nat) (k:Sp),l[j]?=some k-> ∃g,p=some ⟨g,0,none⟩/\w.cell? ⟨g,j*2,none⟩=some (.int .i64 (k.1:Int))/\w.cell? ⟨g,j*2+1,none⟩=some (.int .i64 (k.2:Int))
def vU (w:World) (g i:Nat) (x:aD):Prop:= ∃kv pv,w.cell? ⟨g,i*7,none⟩=some (.int .i64 (x.kind:Int))/\w.cell? ⟨g,i*7+1,none⟩=some (.int .i64 (x.sf:Int))/\w.cell? ⟨g,i*7+2,none⟩=some (.int .i64 (x.st:Int))/\
 w.cell? ⟨g,i*7+3,none⟩=some (.int .i64 (x.key.1:Int))/\w.cell? ⟨g,i*7+4,none⟩=some (.int .i64 (x.key.2:Int))/\w.cell? ⟨g,i*7+5,none⟩=some kv/\w.cell? ⟨g,i*7+6,none⟩=some pv/\vS w kv x.kids/\vT w pv x.pcs
def Bo (w:World) (nv:Value) (nodes:List aD):Prop:= ∃p c,nv= .slice p nodes.length c/\ ∀i x,nodes[i]?=some x-> ∃g,p=some ⟨g,0,none⟩/\vU w g i x
theorem oF {w w':World}{a:Addr}{u:Value} (h:w.cell? a=some u) (hb:Below w.heap.size w w'):w'.cell? a=some u:=by
 rw[hb.cell (World.block_lt_of_cell? w a h)];exact h
theorem vS.keep {w w':World}{v:Value}{l:List Nat} (h:vS w v l) (hb:Below w.heap.size w w'):vS w' v l:=by
 obtain⟨p,c,h1,h2⟩:=h;exact⟨p,c,h1,λj k hj=>by obtain⟨g,e,hc⟩:=h2 j k hj;exact⟨g,e,oF hc hb⟩⟩
theorem vT.keep {w w':World}{v:Value}{l:List Sp} (h:vT w v l) (hb:Below w.heap.size w w'):vT w' v l:=by
 obtain⟨p,c,h1,h2⟩:=h;exact⟨p,c,h1,λj k hj=>by obtain⟨g,e,hc,hd⟩:=h2 j k hj;exact⟨g,e,oF hc hb,oF hd hb⟩⟩
theorem vU.keep {w w':World}{g i:Nat}{x:aD} (h:vU w g i x) (hb:Below w.heap.size w w'):vU w' g i x:=by
 obtain⟨kv,pv,h0,h1,h2,h3,h4,h5,h6,h7,h8⟩:=h;exact⟨kv,pv,oF h0 hb,oF h1 hb,oF h2 hb,oF h3 hb,oF h4 hb,oF h5 hb,oF h6 hb,h7.keep hb,h8.keep hb⟩
theorem Io: ∀(l:List Sp) (j:Nat) (k:Sp),l[j]?=some k->(lN l)[j*2]?=some (.int .i64 (k.1:Int))/\(lN l)[j*2+1]?=some (.int .i64 (k.2:Int))
 | [],j,k,h=>by simp at h
 | u::l,0,k,h=>by
  obtain rfl:u=k:=by simpa using h
  exact⟨rfl,rfl⟩
 | u::l,j+1,k,h=>by
  rw[cD] at h;have:=Io l j k h;rw[show (j+1)*2=j*2+2 by omega];exact this
theorem Bq {w:World}{B:Nat}{e:TypeId}{s:Nat}{v:Value}{n:Nat}{xs:List Value} (h:w.ownsRow B e s v n xs): ∃p c,v= .slice p n c/\(n≠0-> ∃g,p=some ⟨g,0,none⟩/\ ∀i u,xs[i]?=some u->w.cell? ⟨g,i,none⟩=some u):=by
 rcases h.2 with⟨rfl,rfl⟩ | ⟨g,cap,cur,rfl,_⟩
 ·exact⟨none,0,rfl,λh=>absurd rfl h⟩
 ·refine⟨_,_,rfl,λ_=>⟨g,rfl,λi u hi=>?_⟩⟩;have hc:=h.cells (g:=g) rfl;have ha:((⟨g,0,none⟩:Addr).add i)=⟨g,i,none⟩:=by unfold Addr.add;split<;>simp_all
  rw[<-ha];exact hc _ _ hi
theorem Ur {w:World}{B:Nat}{v:Value}{l:List Nat} (h:w.ownsRow B 3 1 v l.length (dV l)):vS w v l:=by
 obtain⟨p,c,h1,h2⟩:=Bq h;refine⟨p,c,h1,λj k hj=>?_⟩;have hj1:=(aQ.1 hj).1;obtain⟨g,e,hc⟩:=h2 (by omega);exact⟨g,e,hc j _ (by unfold dV;rw[cU,hj];rfl)⟩
theorem Us {w:World}{B:Nat}{v:Value}{l:List Sp} (h:w.ownsRow B 59 2 v l.length (lN l)):vT w v l:=by
 obtain⟨p,c,h1,h2⟩:=Bq h;refine⟨p,c,h1,λj k hj=>?_⟩;have hj1:=(aQ.1 hj).1;obtain⟨g,e,hc⟩:=h2 (by omega);obtain⟨a,b⟩:=Io l j k hj;exact⟨g,e,hc _ _ a,hc _ _ b⟩
theorem Bo.of {B:Nat}{w:World}{z:List ND}{nv:Value} (h:cH B z nv w):Bo w nv (z.map (·.1)):=by
 obtain⟨p,c,h1,h2⟩:=Bq h.row;refine⟨p,c,by rw[bU];exact h1,λi x hx=>?_⟩;rw[cU] at hx;obtain⟨y,hy,rfl⟩:=rT.1 hx;have hj1:=(aQ.1 hy).1;obtain⟨g,e,hc⟩:=h2 (by omega);have hm:=aX hy;have ha: ∀k,k<7-> ∀u,(fN y)[k]?=some u->w.cell? ⟨g,i*7+k,none⟩=some u:=λk hk u hu=>hc _ _ (by rw[vF z i y hy k hk];exact hu);exact⟨g,e,y.2.1,y.2.2,ha 0 (by omega) _ rfl,ha 1 (by omega) _ rfl,ha 2 (by omega) _ rfl,ha 3 (by omega) _ rfl,ha 4 (by omega) _ rfl,ha 5 (by omega) _ rfl,ha 6 (by omega) _ rfl,Ur (h.kids y hm),Us (h.pcs y hm)⟩
def sC (w:World) (p:Option Addr) (nodes:List aD):Prop:= ∀(i:Nat) (x:aD),nodes[i]?=some x-> ∃g,p=some ⟨g,0,none⟩/\vU w g i x
theorem sC.keep {w w':World}{p:Option Addr}{nodes:List aD} (h:sC w p nodes) (hb:Below w.heap.size w w'):sC w' p nodes:=λi x hx=>by
 obtain⟨g,e,hn⟩:=h i x hx;exact⟨g,e,hn.keep hb⟩
def Ip (l:List UInt8) (r:List aD×Int×Int) (w:World) (e:Ending) (w':World):Prop:=
 ∃p c,e= .returned (.tuple #[.agg #[.string (bs (vR l r.1)), .slice p r.1.length c], .int .i64 r.2.1, .int .i64 r.2.2])/\sC w' p r.1/\Below w.heap.size w w'
theorem Ut (l:List UInt8) (r:List aD×Int×Int) (hr:eC l=r) (w:World) (hs:l.length<=4611686018427387904) (hV:cO w) (hT:cC w):
  Calls Tryz.prog 15 #[.string (bs l)] w (Ip l r w):=by
 subst hr;refine(Uq l w hs hV hT).mono λe w' h=>?_;obtain⟨v,he,⟨z,nv,hv,hz,hn⟩,hb⟩:=h;subst hv;obtain⟨p,c,hnv,hp⟩:=Bo.of hn;rw[hz] at hnv hp;subst hnv;exact⟨p,c,he,hp,hb⟩
theorem Uu (l:List UInt8) (lv:Nat) (ts:List aL) (hts:ts.length<=65536):(rQ l.length (bP l lv ts (0,0) [] (0,0))).1.length<=65536:=by
 cases hR:bP l lv ts (0,0) [] (0,0) with
 | bad a er=>simp[rQ]
 | ok rr l2 ns=>
  obtain⟨more,hne,hm1,hm2,_⟩:=mP l lv _ _ _ _ _ _ _ hR;cases rr with
  | nil=>rw[iL] at hne;subst hne;show ns.length<=_;simp only[gR] at hm2;omega
  | cons t rr=>simp[rQ]
theorem xY (l:List UInt8):(eC l).1.length<=65536:=by
 rw[Ae];split
 ·simp
 ·exact Uu l 32 _ (aW (List.length_filter_le _ _) (Il l).1)
def tZ (w:World) (D:Nat) (txt:ByteArray) (p:Option Addr) (n c:Nat):Prop:=w.heap[D]?=some (.cells #[.string txt, .slice p n c] 49)
theorem tZ.new (w:World) (txt:ByteArray) (p:Option Addr) (n c:Nat):tZ (w.alloc (.cells #[.string txt, .slice p n c] 49)) w.heap.size txt p n c:=heap_alloc_new w _
def vV (txt:ByteArray) (a b:Int):ByteArray:=if a<0\/b<a\/(txt.size:Int)<b then⟨#[]⟩ else txt.extract a.toNat b.toNat
theorem Iq (txt:ByteArray) (nv:Value) (hnv:nv.oneCell'=true) (a b:Int) (w:World):
  Calls Tryz.prog 30 #[.agg #[.string txt,nv], .agg #[.int .i64 a, .int .i64 b]] w λe w'=>e= .returned (.string (vV txt a b))/\Below w.heap.size w w':=by
 obtain⟨R,hR⟩:=exQ<|vV txt a b;rw[hR];unfold vV at hR;have hb:=(aH w (.cells #[.string txt,nv] 49)).trans ((aH (w.alloc (.cells #[.string txt,nv] 49)) (.cells #[.int .i64 a, .int .i64 b] 59)).mono (by simp));have HB:=hid hb;clear hb;by_cases h1:a<0
 ·rw[if_pos (.inl h1)] at hR;have d1:decide (a<0)=true:=aN h1;subst hR;go_enter Tryz.func30,Tryz.ntmps30;go_wp2_with fail;go_ret;exact⟨rfl,HB.out⟩
 have d1:decide (a<0)=false:=aJ h1;by_cases h2:b<a
 ·rw[if_pos (.inr (.inl h2))] at hR;have d2:decide (b<a)=true:=aN h2;subst hR;go_enter Tryz.func30,Tryz.ntmps30;go_wp2_with fail;go_ret;exact⟨rfl,HB.out⟩
 have d2:decide (b<a)=false:=aJ h2;by_cases h3:(txt.size:Int)<b
 ·rw[if_pos (.inr (.inr h3))] at hR;have d3:decide ((txt.size:Int)<b)=true:=aN h3;subst hR;go_enter Tryz.func30,Tryz.ntmps30;go_wp2_with fail;go_ret;exact⟨rfl,HB.out⟩
 have d3:decide ((txt.size:Int)<b)=false:=aJ h3;rw[if_neg (by omega)] at hR;obtain⟨a',rfl⟩: ∃a':Nat,a=a':=⟨a.toNat,by omega⟩;obtain⟨b',rfl⟩: ∃b':Nat,b=b':=⟨b.toNat,by omega⟩;have i1:(0:Int)<=(a':Int):=by omega
 have i2:(a':Int)<=(b':Int):=by omega
 have i3:(b':Int)<=(txt.size:Int):=by omega
 subst hR;simp only[fC];go_enter Tryz.func30,Tryz.ntmps30;go_wp2_with fail;go_ret;exact⟨rfl,HB.out⟩
end Go.Proofs.YtaifnmjjpddikaaGreatDoor
