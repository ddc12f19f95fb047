import Derived.Test.YtaifnmjjpddikaaGreatDoorRf24
import Derived.Test.YtaifnmjjpddikaaGreatDoorShelfD
set_option maxRecDepth 100000
set_option maxHeartbeats 8000000
namespace Go.Proofs.YtaifnmjjpddikaaGreatDoor
set_option linter.unusedSimpArgs false
set_option linter.unusedVariables false
open Go.RowKit
open Go.Lib hiding intOf
structure rF (s:aA) (d:dG):Prop where
 txt:s.length<=65536
 lns:d.lines.length<=131072
 nds:d.nodes.length<=131072
 nd: ∀x∈d.nodes,x.fr<=1073741824/\x.til<=1073741824/\x.kids.length<=131072
 ind: ∀l∈d.lines,0<=l.ind
theorem wV (ls:List aP) (x:aM):(pH ls x).length=min x.til ls.length-(x.fr+1):=by
 unfold pH;rw[aV,cF]
theorem Md {ls:List aP}{x:aM}{i:Nat}{r:aP} (h:(pH ls x)[i]?=some r):ls[x.fr+1+i]?=some r:=by
 unfold pH at h;rw[iI] at h;rw[List.getElem?_take] at h;split at h
 ·exact h
 ·cases h
theorem Zi {w:World}{B:Nat}{d:dG}{pl:Option Addr}{n cl:Nat} (h:w.ownsRow B 121 10 (.slice pl n cl) d.lines.length (jA d.lines)) (x:aM):
  n=d.lines.length/\n<=cl/\(pl=none->n=0)/\ ∃pr cr,(if min x.til n<=x.fr+1 then .slice none 0 0 else .slice (pl.map λa=>a.add ((x.fr+1)*10)) (min x.til n-(x.fr+1)) (cl-(x.fr+1)):Value)= .slice pr (pH d.lines x).length cr/\
   ∀i r,(pH d.lines x)[i]?=some r-> ∃g o,pr=some ⟨g,o,none⟩/\g<w.heap.size/\ ∀j u,j<10->(sP r)[j]?=some u->w.cell? ⟨g,o+i*10+j,none⟩=some u:=by
 have hr:=h;rcases h.2 with⟨h0,h1⟩ | ⟨g,cap,cur,h1,h2,h3,h4,_⟩
 ·injection h0 with e1 e2 e3;subst e1 e2 e3;refine⟨h1.symm,aE _,λ_=>rfl,none,0,?_,λi r hi=>?_⟩
  ·rw[if_pos (by omega),wV,h1];simp
  ·have:=Md hi;rw[List.length_eq_zero_iff.1 h1] at this;cases this
 ·injection h1 with e1 e2 e3;subst e1 e2 e3;refine⟨rfl,h4,λe=>(by cases e),?_⟩;by_cases hm:min x.til d.lines.length<=x.fr+1
  ·refine⟨none,0,?_,λi r hi=>?_⟩
   ·rw[if_pos hm,wV,show min x.til d.lines.length-(x.fr+1)=0 by omega]
   ·have:=(aQ.1 hi).1;rw[wV] at this;omega
  ·refine⟨some ⟨g,(x.fr+1)*10,none⟩,cl-(x.fr+1),?_,λi r hi=>⟨g,(x.fr+1)*10,rfl,aF h3,λj u hj hu=>?_⟩⟩
   ·rw[if_neg hm,wV];simp[Addr.add]
   ·have hl:=Md hi;have hll:=(aQ.1 hl).1;have key:=sO _ 10 Kg d.lines _ r hl j hj;rw[show (x.fr+1)*10+i*10+j=(x.fr+1+i)*10+j by omega,World.ownsRow.cellAt hr _ (by omega),jA,key,hu]
theorem Me (t:aA) (i:Int): ∀l:List (aA×Int),(∀q∈l,0<=q.2)->jX (l++ [(t,i)])=if jX l<0 then(if bQ t≠t.length then i else -1) else jX l
 | [],_=>by simp[jX]
 | (u,j)::l,h=>by
  have h0:=h (u,j) iB;have ih:=Me t i l (λq hq=>h q (List.mem_cons_of_mem _ hq));rw[dH,jX,jX];by_cases hu:bQ u≠u.length
  ·rw[if_pos hu,if_pos hu,if_neg (by simp only[] at h0;omega)]
  ·rw[if_neg hu,if_neg hu];exact ih
theorem Dl: ∀l:List (aA×Int),(∀q∈l,0<=q.2/\q.2<=1099511627776)-> -1<=jX l/\jX l<=1099511627776
 | [],_=>by simp[jX]
 | (u,j)::l,h=>by
  have h0:=h (u,j) iB;have ih:=Dl l (λq hq=>h q (List.mem_cons_of_mem _ hq));rw[jX];split
  ·simp only[] at h0;omega
  ·exact ih
theorem bV.snoc {B:Nat}{l:List aA}{v:Value}{w:World}{t:aA} (h:w.ownsRow B 9 1 v (l.length+1) (gT l++(#[Value.string (bs t)]:Array Value).toList)):bV B (l++ [t]) v w:=by
 unfold bV;rw[aS];unfold gT at h ⊢;rw[oM];exact h
theorem Dm: ∀l:List aA,Lib.join l [10]=pG l
 | []=>rfl
 | [x]=>Lib.join_one x [10]
 | x::y::r=>by
  have:=Dm (y::r);unfold pG;rw[<-this];unfold Lib.join;simp[List.intercalate]
theorem bV.stored {B:Nat}{l:List aA}{g cap:Nat}{w:World} (h:bV B l (.slice (some ⟨g,0,none⟩) l.length cap) w) (i:Nat) (t:aA):bV B (l.set i t) (.slice (some ⟨g,0,none⟩) (l.set i t).length cap) (w.setCell ⟨g,i,none⟩ (.string (bs t))):=by
 obtain⟨h1,_⟩:=World.ownsRow.stored h i (.string (bs t));unfold bV;rw[List.length_set];unfold gT at h1 ⊢;rw[List.map_set];exact h1
theorem Zj (t:aA):Lib.trimLeftB t 32= []↔bQ t=t.length:=by
 have hsp:bQ t<=t.length:=mR t;rw[<-List.length_eq_zero_iff,Lf t];omega
theorem Zk (t:aA) (w:World):Calls Tryz.prog 94 #[.string (bs t), .string ⟨#[32]⟩] w λe w'=>e= .returned (.string (bs (Lib.trimLeftB t 32)))/\w=w':=by
 have h:=Tryz.strings_TrimLeft_one (bs t) 32 (by decide) w;rw[aU] at h;exact h.mono λ_ _ ⟨a,b⟩=>⟨a,b.symm⟩
def jD (c:Nat) (i:Nat) (l:List aA):List aA:=(l.take i).map (·.drop c)++l.drop i
theorem Dn (c i:Nat) (l:List aA):(jD c i l).length=l.length:=by
 unfold jD;rw[aS,bU,cF,aV];omega
theorem Zl {c i:Nat}{l:List aA}{t:aA} (h:l[i]?=some t):(jD c i l)[i]?=some t:=by
 have hl:=(aQ.1 h).1;unfold jD;rw[kX (by simp;omega)];simp only[bU,cF];rw[iI,show i+(i-min i l.length)=i by omega];exact h
theorem Zm {c i:Nat}{l:List aA}{t:aA} (h:l[i]?=some t):jD c (i+1) l=(jD c i l).set i (t.drop c):=by
 have hl:=(aQ.1 h).1;have ht:l[i]=t:=(aQ.1 h).2;unfold jD;rw[List.take_add_one,h,Option.toList_some,oM,pN];rw[List.set_append_right _ _ (by simp;omega)];simp only[bU,cF];rw[show i-min i l.length=0 by omega,iK hl];rfl
theorem Zn (c:Nat) (l:List aA):jD c l.length l=l.map (·.drop c):=by
 unfold jD;rw[List.take_length,List.drop_length,List.append_nil]
theorem Zo (c:Nat) (l:List aA):jD c 0 l=l:=by simp[jD]
theorem Zp (s:aA) (ls:List aP) (x:aM):(qJ s ls x).length=(pH ls x).length:=by unfold qJ;rw[bU]
theorem Do (s:aA) (a b:Int):(eZ s a b).length<=s.length:=by
 unfold eZ;split
 ·exact cN _
 ·exact wN _ _ _
theorem Dp (n:Nat): ∀l:List aA,(∀t∈l,t.length<=n)->(pG l).length<=l.length*(n+1)
 | [],_=>by simp[pG]
 | [x],h=>by have:=h x iB;simp only[pG,eD];omega
 | x::y::r,h=>by
  have h1:=h x iB;have ih:=Dp n (y::r) (λt ht=>h t (List.mem_cons_of_mem _ ht));rw[pG,aS,aT,aT (a:=x),Nat.add_mul,Nat.one_mul];omega
theorem Zq {B:Nat}{l:List aA}{v:Value}{w:World} (h:bV B l v w) (hl:l.length<=131072) (hb: ∀t∈l,t.length<=65536):
  Calls Tryz.prog 95 #[v, .string ⟨#[10]⟩] w λe w'=>e= .returned (.string (bs (pG l)))/\Below w.heap.size w w':=by
 rcases h.2 with⟨h0,h1⟩ | ⟨g,cap,cur,h1,h2,h3,h4,_⟩
 ·subst h0;rw[List.length_eq_zero_iff.1 h1];exact(Tryz.strings_Join_none none 0 ⟨#[10]⟩ w).mono (λe w' ⟨a,b⟩=>⟨a,by rw[b];exact aB _ _⟩)
 ·have hr:=h;unfold bV at hr;rw[h1] at hr;subst h1;have hmap:(l.map bs).map (·.data.toList)=l:=by
   rw[List.map_map];conv=>rhs;rw[<-List.map_id l]
   exact List.map_congr_left (λt _=>aU t)
  have hJ:=Dp 65536 l hb;have hmul:l.length*(65536+1)<=131072*65537:=Nat.mul_le_mul_right _ hl;have hC:=Tryz.strings_Join g 0 cap (l.map bs) ⟨#[10]⟩ w (λj x hj=>by
   rw[cU] at hj;obtain⟨t,ht,rfl⟩:=rT.1 hj;have hlt:=(aQ.1 ht).1;rw[Nat.zero_add,World.ownsRow.cellAt hr _ (by omega)];unfold gT;rw[cU,ht];rfl) (aF h3) (by rw[bU];omega) (by rw[bU];exact h4) (by
    rw[hmap,show (⟨#[10]⟩:ByteArray).data.toList= [10] from rfl,Dm];omega)
  rw[bU,hmap,show (⟨#[10]⟩:ByteArray).data.toList= [10] from rfl,Dm] at hC;exact hC
theorem Zr (s:aA) (d:dG) (lv nv:Value) (B:Nat) (w:World) (hD:eY B d lv nv w) (hb:rF s d) (hi64: ∀l∈d.lines,l.ind<=1099511627776) (k:Nat) (x:aM) (hx:d.nodes[k]?=some x) (hk4:x.kind=4):
  Calls Tryz.prog 50 #[.agg #[.string (bs s),lv,nv], .int .i64 (k:Int)] w λe w'=>e= .returned (.tuple #[.string (bs (wU s d.lines x)), .bool true])/\Below w.heap.size w w':=by
 obtain⟨z,hz,hln,hnd⟩:=hD;obtain⟨y,hy⟩: ∃y,z[k]?=some y:=by
  rw[<-hz,cU] at hx;cases hq:z[k]? with
  | none=>rw[hq] at hx;cases hx
  | some q=>exact⟨q,rfl⟩
 have hyx:y.1=x:=by
  rw[<-hz,cU,hy] at hx;exact bD hx
 obtain⟨gn,cn,cur,rfl,hcn,_,hgn⟩:=hnd.form (λe=>by rw[e] at hy;cases hy);obtain⟨pl,nl,cl,rfl⟩: ∃p n c,lv= .slice p n c:=by
  rcases hln.2 with⟨h0,_⟩ | ⟨g,cap,cur,h1,_⟩
  ·exact⟨none,0,0,h0⟩
  ·exact⟨_,_,_,h1⟩
 have hkm:=hnd.kids y (aX hy);obtain⟨pk,ck,hkv⟩: ∃p c,y.2= .slice p y.1.kids.length c:=by
  rcases hkm.2 with⟨h0,h1⟩ | ⟨g,cap,cur,h1,_⟩
  ·exact⟨none,0,by rw[h0,h1]⟩
  ·exact⟨_,cap,h1⟩
 obtain⟨mk,hmk⟩:=exQ<|y.1.kids.length;obtain⟨nz,hnz⟩:=exQ<|z.length;have hzl:z.length=d.nodes.length:=by rw[<-hz,bU]
 have hkz:k<z.length:=(aQ.1 hy).1;rw[hnz];have hk0:(0:Int)<=(k:Int):=by omega
 have hk1:(k:Int)<(nz:Int):=by omega
 have dk:decide ((k:Int)<0)=false:=aJ (by omega);have dk2:decide ((nz:Int)<=(k:Int))=false:=aJ (by omega);have dk3:decide (nz<=k)=false:=aJ (by omega);have HC:Hid (∀j u,j<9->(jB y)[j]?=some u->w.cell? ⟨gn,k*9+j,none⟩=some u):=hid (λj u hj hu=>(hnd.at_ hy j hj hu).1);obtain⟨hbf,hbt,hbk⟩:=hb.nd x (aX hx);rw[hyx] at hmk hkv;rw[hmk] at hkv;obtain⟨nll,hlcl,hln0,pr,cr,hrow,hrc⟩:=Zi hln x;obtain⟨W1,hW1⟩:=exQ<|w.alloc (.cells #[.string (bs s), .slice pl nl cl, .slice (some ⟨gn,0,none⟩) nz cn] 36);obtain⟨D,hDe⟩:=exQ<|w.heap.size;have b1:Below w.heap.size w W1:=by rw[<-hW1];exact aH _ _
 have h1:W1.heap[D]?=some (.cells #[.string (bs s), .slice pl nl cl, .slice (some ⟨gn,0,none⟩) nz cn] 36):=by rw[<-hW1,<-hDe];exact heap_alloc_new w _
 obtain⟨W2,hW2⟩:=exQ<|W1.alloc (.cells #[.int .i64 4, .int .i64 x.ind, .int .i64 (x.fr:Int), .int .i64 (x.til:Int), .int .i64 x.kf, .int .i64 x.kt, .int .i64 x.rf, .int .i64 x.rt, .slice pk mk ck] 62);obtain⟨X,hXe⟩:=exQ<|W1.heap.size;have b2:Below W1.heap.size W1 W2:=by rw[<-hW2];exact aH _ _
 have h2:W2.heap[X]?=some (.cells #[.int .i64 4, .int .i64 x.ind, .int .i64 (x.fr:Int), .int .i64 (x.til:Int), .int .i64 x.kf, .int .i64 x.kt, .int .i64 x.rf, .int .i64 x.rt, .slice pk mk ck] 62):=by rw[<-hW2,<-hXe];exact heap_alloc_new W1 _
 have HB2:=hid (aC b1 b2);have hd2:=(b2.block D (aF h1)).trans h1;have HDX:Hid (∀w',Below W2.heap.size W2 w'->w'.heap[D]?=some (.cells #[.string (bs s), .slice pl nl cl, .slice (some ⟨gn,0,none⟩) nz cn] 36)/\w'.heap[X]?=some (.cells #[.int .i64 4, .int .i64 x.ind, .int .i64 (x.fr:Int), .int .i64 (x.til:Int), .int .i64 x.kf, .int .i64 x.kt, .int .i64 x.rf, .int .i64 x.rt, .slice pk mk ck] 62)):=hid (λw' h=>⟨(h.block D (aF hd2)).trans hd2,(h.block X (aF h2)).trans h2⟩);have ck': ∀j u,j<9->(jB y)[j]?=some u->W1.cell? ⟨gn,k*9+j,none⟩=some u:=λj u hj hu=>by
  exact bE (HC.out j u hj hu) b1
 have y0:=ck' 0 _ (by omega) rfl;have y1:=ck' 1 _ (by omega) rfl;have y2:=ck' 2 _ (by omega) rfl;have y3:=ck' 3 _ (by omega) rfl;have y4:=ck' 4 _ (by omega) rfl;have y5:=ck' 5 _ (by omega) rfl;have y6:=ck' 6 _ (by omega) rfl;have y7:=ck' 7 _ (by omega) rfl;have y8:=ck' 8 _ (by omega) rfl;rw[hyx] at y0 y1 y2 y3 y4 y5 y6 y7;rw[hkv] at y8;rw[hk4] at y0;simp only[Nat.add_zero] at y0;obtain⟨d0,d1,d2,_⟩:=gQ h1;obtain⟨ts,hts⟩:=exQ<|qJ s d.lines x;obtain⟨rs,hrs⟩:=exQ<|pH d.lines x;obtain⟨m,hm⟩:=exQ<|rs.length;rw[hrs] at hrow hrc;rw[hm] at hrow;have hmb:m<=131072:=by rw[<-hm,<-hrs,wV];have:=hb.lns;omega
 have hlb:=hb.lns;have CAm:Hid (∀w',Calls Tryz.prog 93 #[.agg #[.string (bs s), .slice pl nl cl, .slice (some ⟨gn,0,none⟩) nz cn], .agg #[.int .i64 4, .int .i64 x.ind, .int .i64 (x.fr:Int), .int .i64 (x.til:Int), .int .i64 x.kf, .int .i64 x.kt, .int .i64 x.rf, .int .i64 x.rt, .slice pk mk ck]] w' λe w2=>e= .returned (.slice pr m cr)/\Below w'.heap.size w' w2):=hid (λw'=>by have:=Zh s pl nl cl (.slice (some ⟨gn,0,none⟩) nz cn) ⟨_,_,_,rfl⟩ x (.slice pk mk ck) ⟨_,_,_,rfl⟩ w' (by omega) hlcl hln0 hbf hbt;rw[hrow] at this;unfold Mc at this;rw[hk4] at this;exact this.mono (λe w2 h=>⟨h.2,h.1⟩));have CBy:Hid (∀(a b:Int) w',Calls Tryz.prog 49 #[.agg #[.string (bs s), .slice pl nl cl, .slice (some ⟨gn,0,none⟩) nz cn], .agg #[.int .i64 a, .int .i64 b]] w' λe w2=>e= .returned (.string (bs (eZ s a b)))/\Below w'.heap.size w' w2):=hid (λa b w'=>yZ s _ _ ⟨_,_,_,rfl⟩ ⟨_,_,_,rfl⟩ a b w' (by have:=hb.txt;omega));have HRC:Hid (∀w',Below W2.heap.size W2 w'-> ∀(i:Nat) (r:aP),rs[i]?=some r-> ∃g o,pr=some ⟨g,o,none⟩/\ ∀j u,j<10->(sP r)[j]?=some u->w'.cell? ⟨g,o+i*10+j,none⟩=some u):=hid (λw' h i r hi=>by obtain⟨g,o,e1,e2,e3⟩:=hrc i r hi;exact⟨g,o,e1,λj u hj hu=>bE (bE (e3 j u hj hu) HB2.out) h⟩);have htl:ts.length=m:=by rw[<-hts,Zp,hrs,hm]
 have hta: ∀(i:Nat) (r:aP),rs[i]?=some r->ts[i]?=some (eZ s r.sf r.st,r.ind):=λi r hi=>by
  rw[<-hts];unfold qJ;rw[cU,hrs,hi];rfl
 have hti: ∀q∈ts,0<=q.2/\q.2<=1099511627776:=λq hq=>by
  rw[<-hts] at hq;unfold qJ at hq;obtain⟨r,hr,rfl⟩:=qS.1 hq;have hrl:r∈d.lines:=by unfold pH at hr;exact List.mem_of_mem_take (List.mem_of_mem_drop hr)
  exact⟨hb.ind r hrl,hi64 r hrl⟩
 have htb: ∀q∈ts,q.1.length<=65536:=λq hq=>by
  rw[<-hts] at hq;unfold qJ at hq;obtain⟨r,hr,rfl⟩:=qS.1 hq;have:=Do s r.sf r.st;have:=hb.txt;simp only[];omega
 obtain⟨Y,hY⟩:=exQ<|wU s d.lines x;have HY:=hid hY;rw[hY];unfold wU at hY;rw[hts] at hY;have HT:=hid (aI htl (aI hta (aI hti htb)));have HYR:=hid hY;obtain⟨i0,hi0,hz0,hz1,hz2⟩:=info_parts Tryz.infoString;have HM:=hid (aI hm hrs);have HKX:=hid hk4;have HBn:=hid hb;clear nll hnz hlb hlcl hln0 hrow hrc htl hta hti htb hts hrs hm hY hz hln hnd hkm hkv hmk hx hy hyx h1 h2 b1 b2 hd2 hzl hkz hgn hcn hi64 ck' hk4 hb;go_enter Tryz.func50,Tryz.ntmps50;go_upto_region 1 with fail;clear hW1;go_upto_region 3 with fail;go_upto_region 4 with fail;clear hW2;clear y0 y1 y2 y3 y4 y5 y6 y7 y8 d0 d1 d2;obtain⟨hd2,hx2⟩:=HDX.out W2 (aB _ _);obtain⟨d0,d1,d2,_⟩:=gQ hd2;obtain⟨n0,n1,n2,n3,n4,n5,n6,n7,n8⟩:=pE hx2;have hDl:D<W2.heap.size:=aF hd2;have hXl:X<W2.heap.size:=aF hx2;clear hd2 hx2;go_wp2_with fail;refine(CAm.out _).mono ?_;rintro e w3 ⟨rfl,hb3⟩;have HB3:Hid (Below W2.heap.size W2 w3):=hid (by first | exact hb3 | exact aC (aB _ _).drew hb3);clear hb3 n0 n1 n2 n3 n4 n5 n6 n7 n8 d0 d1 d2;go_wp2_with fail;go_loopw [42,7,8] (λs42 s7 s8 wr=> ∃i:Nat,s42= .int .i64 (i:Int)/\i<=m/\s7= .int .i64 (jX (ts.take i))/\Hid (bV W2.heap.size ((ts.take i).map (·.1)) s8 wr)/\Hid (Below W2.heap.size W2 wr)) (λs42 _ _ _=>m-(RowKit.intOf s42).toNat)
 case atStart=>exact⟨0,rfl,cN _,rfl,hid (bV.nil _ _),HB3⟩
 case round=>
  clear HB3;obtain⟨i,rfl,hi,rfl,HO,HBr⟩:=hrel;by_cases him:i<m
  ·have dk:decide ((i:Int)<(m:Int))=true:=aN (by omega);obtain⟨r,hr⟩: ∃r,rs[i]?=some r:=⟨_,bJ (by have:=HM.out.1;omega)⟩;obtain⟨g,o,rfl,hcell⟩:=HRC.out wr HBr.out i r hr;have g0:=hcell 0 _ (by omega) rfl;have g1:=hcell 1 _ (by omega) rfl;have g2:=hcell 2 _ (by omega) rfl;have g3:=hcell 3 _ (by omega) rfl;have g4:=hcell 4 _ (by omega) rfl;have g5:=hcell 5 _ (by omega) rfl;have g6:=hcell 6 _ (by omega) rfl;have g7:=hcell 7 _ (by omega) rfl;have g8:=hcell 8 _ (by omega) rfl;have g9:=hcell 9 _ (by omega) rfl;simp only[Nat.add_zero] at g0;have hii0:(0:Int)<=(i:Int):=(by omega);have hii1:(i:Int)<(m:Int):=(by omega);obtain⟨i1,hi1e⟩:=exQ<|i+1;have hi1z:(i:Int)+1=(i1:Int):=(by omega);have hi1m:i1<=m:=(by omega);have hta:=HT.out.2.1 i r hr;obtain⟨t,ht⟩:=exQ<|eZ s r.sf r.st;have CB:=hid (λw'=>CBy.out r.sf r.st w');rw[ht] at CB hta;have htk:ts.take i1=ts.take i++ [(t,r.ind)]:=by rw[<-hi1e,List.take_add_one,hta];rfl
   have hcs:=Me t r.ind (ts.take i) (λq hq=>(HT.out.2.2.1 q (List.mem_of_mem_take hq)).1);rw[<-htk] at hcs;have HTL:Hid (((ts.take i).map (·.1)).length=i):=hid (by rw[bU,cF,HT.out.1];omega);have HTK:Hid ((ts.take i1).map (·.1)=(ts.take i).map (·.1)++ [t]):=hid (by rw[htk,oM];rfl);obtain⟨c,hc⟩:=exQ<|jX (ts.take i);have HCB:=hid (Dl (ts.take i) (λq hq=>HT.out.2.2.1 q (List.mem_of_mem_take hq)));rw[hc] at hcs HCB;have HCS:=hid hcs;have b10:=aH wr (.cells (lineA r) 121);have h10:=heap_alloc_new wr (.cells (lineA r) 121);obtain⟨X10,hX10⟩:=exQ<|wr.heap.size;obtain⟨W3,hW3⟩:=exQ<|wr.alloc (.cells (lineA r) 121);rw[hW3] at b10 h10;rw[hX10] at h10;have HB13:=hid b10;have H10:=hid h10;unfold lineA at hW3;obtain⟨hd3,hx3⟩:=HDX.out W3 (HBr.out.trans (b10.mono HBr.out.size));obtain⟨d0,d1,d2,_⟩:=gQ hd3;have hlz:cB W3 X10 r:=h10;obtain⟨l0,l1,l2,l3,l4,l5,l6,l7,l8,l9,_⟩:=hlz.cells;rw[hc];have CT:=hid (λw'=>Zk t w');obtain⟨q,hq⟩:=exQ<|Lib.trimLeftB t 32;have hqi:=Zj t;rw[hq] at CT hqi;have HQI:=hid hqi;clear hcell hr hta htk hcs hc b10 h10 hd3 hx3 hlz hq hqi ht hi1e;go_upto_region 9 with fail;clear hW3 hX10 g0 g1 g2 g3 g4 g5 g6 g7 g8 g9;go_wp2_with fail;refine(CB.out _).mono ?_;rintro e w5 ⟨rfl,hb5⟩;have HB5:Hid (Below W3.heap.size W3 w5):=hid (by first | exact hb5 | exact aC (aB _ _).drew hb5);clear hb5 l0 l1 l2 l3 l4 l5 l6 l7 l8 l9 d0 d1 d2;have hlz5:cB w5 X10 r:=(HB5.out.block X10 (aF H10.out)).trans H10.out;obtain⟨_,_,_,l3,_⟩:=hlz5.cells;have HO5:Hid (w5.ownsRow W2.heap.size 9 1 u8 i (gT ((ts.take i).map (·.1)))):=hid (by have:=(HO.out.keep HB13.out).keep HB5.out;unfold bV at this;rw[HTL.out] at this;exact this);clear hlz5;by_cases hc0:c<0
   ·have dc:decide (c<0)=true:=aN hc0;have hcs:=HCS.out;rw[if_pos hc0] at hcs;by_cases hq0:q= []
    ·have e0:((bs q).toList== [])=true:=by rw[hq0];exact mU []
     have e0b:(bs q).toList.isEmpty=true:=by rw[hq0];exact mI []
     rw[if_neg (λh=>h (HQI.out.1 hq0))] at hcs;have hcm:c= -1:=by have:=HCB.out;omega
     clear hc0 hq0;have hsz5:W2.heap.size<=w5.heap.size:=aW HBr.out.size (aW HB13.out.size HB5.out.size);go_wp2_with (first | (go_at_call 94;refine(CT.out _).mono ?_;rintro e w6 ⟨rfl,rfl⟩) | (at_builtin;go_must (refine uR rfl _ _ 23 rfl W2.heap.size 9 i0 _ 1 16 Tryz.underlying23 hi0 hz0 hz1 hz2 rfl (by decide) w5 u8 i (gT ((ts.take i).map (·.1))) rfl HO5.out #[.string (bs t)] rfl rfl (by simp[Value.oneCell']) (by omega) (by decide) hsz5 ?_);intro v1 w7 hown7 hsz7 hbel7 hkeep7 hne7));have HOn:Hid (bV W2.heap.size ((ts.take i1).map (·.1)) v1 w7):=hid (by rw[HTK.out];exact bV.snoc (by rw[HTL.out];exact hown7));have HBn:Hid (Below W2.heap.size W2 w7):=hid ((HBr.out.trans ((HB13.out.trans (HB5.out.mono HB13.out.size)).mono HBr.out.size)).trans hbel7);go_roundw
     ·exact⟨i1,by rw[<-hi1z],hi1m,by rw[hcs],HOn,HBn⟩
     ·simp only[RowKit.intOf];omega
    ·have e0:((bs q).toList== [])=false:=by rw[mU];cases q<;>simp at hq0 ⊢
     have e0b:(bs q).toList.isEmpty=false:=by rw[mI];cases q<;>simp at hq0 ⊢
     rw[if_pos (λh=>hq0 (HQI.out.2 h))] at hcs;clear hc0 hq0;have hsz5:W2.heap.size<=w5.heap.size:=aW HBr.out.size (aW HB13.out.size HB5.out.size);go_wp2_with (first | (go_at_call 94;refine(CT.out _).mono ?_;rintro e w6 ⟨rfl,rfl⟩) | (at_builtin;go_must (refine uR rfl _ _ 23 rfl W2.heap.size 9 i0 _ 1 16 Tryz.underlying23 hi0 hz0 hz1 hz2 rfl (by decide) w5 u8 i (gT ((ts.take i).map (·.1))) rfl HO5.out #[.string (bs t)] rfl rfl (by simp[Value.oneCell']) (by omega) (by decide) hsz5 ?_);intro v1 w7 hown7 hsz7 hbel7 hkeep7 hne7));have HOn:Hid (bV W2.heap.size ((ts.take i1).map (·.1)) v1 w7):=hid (by rw[HTK.out];exact bV.snoc (by rw[HTL.out];exact hown7));have HBn:Hid (Below W2.heap.size W2 w7):=hid ((HBr.out.trans ((HB13.out.trans (HB5.out.mono HB13.out.size)).mono HBr.out.size)).trans hbel7);go_roundw
     ·exact⟨i1,by rw[<-hi1z],hi1m,by rw[hcs],HOn,HBn⟩
     ·simp only[RowKit.intOf];omega
   ·have dc:decide (c<0)=false:=aJ hc0;have hcs:=HCS.out;rw[if_neg hc0] at hcs;clear hc0;have hsz5:W2.heap.size<=w5.heap.size:=aW HBr.out.size (aW HB13.out.size HB5.out.size);go_wp2_with (first | (fail) | (at_builtin;go_must (refine uR rfl _ _ 23 rfl W2.heap.size 9 i0 _ 1 16 Tryz.underlying23 hi0 hz0 hz1 hz2 rfl (by decide) w5 u8 i (gT ((ts.take i).map (·.1))) rfl HO5.out #[.string (bs t)] rfl rfl (by simp[Value.oneCell']) (by omega) (by decide) hsz5 ?_);intro v1 w7 hown7 hsz7 hbel7 hkeep7 hne7));have HOn:Hid (bV W2.heap.size ((ts.take i1).map (·.1)) v1 w7):=hid (by rw[HTK.out];exact bV.snoc (by rw[HTL.out];exact hown7));have HBn:Hid (Below W2.heap.size W2 w7):=hid ((HBr.out.trans ((HB13.out.trans (HB5.out.mono HB13.out.size)).mono HBr.out.size)).trans hbel7);go_roundw
    ·exact⟨i1,by rw[<-hi1z],hi1m,by rw[hcs],HOn,HBn⟩
    ·simp only[RowKit.intOf];omega
  ·obtain rfl:i=m:=(by omega);have dk:decide ((i:Int)<(i:Int))=false:=aJ (by omega);have htt:ts.take i=ts:=(by rw[<-HT.out.1,List.take_length]);obtain⟨tl,htl⟩:=exQ<|ts.map (·.1);obtain⟨c,hc⟩:=exQ<|jX ts;have hO:=HO.out;rw[htt,htl] at hO;rw[htt,hc];have htll:tl.length=i:=by rw[<-htl,bU];exact HT.out.1
   have hcb:=Dl ts HT.out.2.2.1;rw[hc] at hcb;have htbd: ∀t∈tl,t.length<=65536:=λt ht=>by
    rw[<-htl] at ht;obtain⟨q,hq,rfl⟩:=qS.1 ht;exact HT.out.2.2.2 q hq
   obtain⟨C,hC⟩:=exQ<|c.toNat;have hmx:max c 0=(C:Int):=(by omega);obtain⟨pu,cu,hu8⟩:=hO.slice;rw[htll] at hu8;subst hu8;have HTl:=hid (aI htll (aI htbd htl));have HCc:=hid (aI hc hC);have HO0:Hid (bV W2.heap.size (jD C 0 tl) (.slice pu i cu) wr):=hid (by rw[Zo];exact hO);clear hO HO htt hc htl htll htbd hC;go_wp2_with fail;go_loopw [66,12,13] (λs66 s12 s13 wx=> ∃j:Nat,s66= .int .i64 (j:Int)/\j<=i/\Hid (bV W2.heap.size (jD C j tl) (.slice pu i cu) wx)/\Hid (Below W2.heap.size W2 wx)) (λs66 _ _ _=>i-(RowKit.intOf s66).toNat)
   case atStart=>exact⟨0,rfl,cN _,HO0,HBr⟩
   case round=>
    clear HO0 HBr;obtain⟨j,rfl,hj,HO,HBr⟩:=hrel;by_cases hji:j<i
    ·have dj:decide ((j:Int)<(i:Int))=true:=aN (by omega);have hj0:(0:Int)<=(j:Int):=(by omega);have hj1:(j:Int)<(i:Int):=(by omega);obtain⟨t,ht⟩: ∃t,tl[j]?=some t:=⟨_,bJ (by rw[HTl.out.1];exact hji)⟩;have hct:=Zl (c:=C) ht;have hO:=HO.out;obtain⟨g,rfl,hgW⟩: ∃g,pu=some ⟨g,0,none⟩/\W2.heap.size<=g:=by
      rcases hO.2 with⟨h0,h1⟩ | ⟨g,cap,cur,h1,h2,_⟩
      ·rw[Dn,HTl.out.1] at h1;omega
      ·injection h1 with e1;exact⟨g,e1,h2⟩
     have hlen:(jD C j tl).length=i:=by rw[Dn];exact HTl.out.1
     have hO1:bV W2.heap.size (jD C j tl) (.slice (some ⟨g,0,none⟩) (jD C j tl).length cu) wr:=by rw[hlen];exact hO
     have hcell:wr.cell? ⟨g,j,none⟩=some (.string (bs t)):=by
      rw[World.ownsRow.cellAt hO1 _ (by rw[hlen];omega)];unfold gT;rw[cU,hct];rfl
     have hfz:wr.frozen? ⟨g,j,none⟩=false:=World.ownsRow.frozenAt hO1 _;have hst:=hO1.stored j (t.drop C);rw[<-Zm ht] at hst;have hlen2:(jD C (j+1) tl).length=i:=by rw[Dn];exact HTl.out.1
     rw[hlen2] at hst;have htb:=HTl.out.2.1 t (aX ht);obtain⟨e,he⟩:=exQ<|min C t.length;have hmn:min (C:Int) (t.length:Int)=(e:Int):=(by omega);have hel:e<=t.length:=(by omega);have hex:(bs t).extract e t.length=bs (t.drop C):=by
      rw[kV,aU];congr 1;rw[<-he];by_cases hle:C<=t.length
      ·rw[Nat.min_eq_left hle,rZ (by rw[aV];exact aE _)]
      ·rw[Nat.min_eq_right (by omega),List.drop_length,List.drop_eq_nil_of_le (by omega)];simp
     have hsz:=aR t;have he1:(e:Int)<=(t.length:Int):=(by omega);have he0:(0:Int)<=(e:Int):=(by omega);obtain⟨j1,hj1e⟩:=exQ<|j+1;have hj1z:(j:Int)+1=(j1:Int):=(by omega);rw[hj1e] at hst;have HST:=hid hst;have HBn:=hid (HBr.out.setCell (p:=⟨g,j,none⟩) hgW (.string (bs (t.drop C))));clear ht hct hO hlen hO1 hst hlen2 he hj1e;go_wp2_with fail;go_roundw
     ·exact⟨j1,rfl,by omega,HST,HBn⟩
     ·simp only[RowKit.intOf];omega
    ·obtain rfl:j=i:=(by omega);have dj:decide ((j:Int)<(j:Int))=false:=aJ (by omega);have hO:bV W2.heap.size (tl.map (·.drop C)) (.slice pu j cu) wr:=by
      have:=HO.out;rw[show jD C j tl=tl.map (·.drop C) by rw[<-HTl.out.1,Zn]] at this;exact this
     obtain⟨J,hJ⟩:=exQ<|pG (tl.map (·.drop C));have hb2: ∀t∈tl.map (·.drop C),t.length<=65536:=λt ht=>by
      obtain⟨q,hq,rfl⟩:=qS.1 ht;have:=HTl.out.2.1 q hq;simp only[aV];omega
     have hlj:(tl.map (·.drop C)).length=j:=by rw[bU];exact HTl.out.1
     have hJl:=Dp 65536 _ hb2;rw[hJ,hlj] at hJl;have hmul:j*(65536+1)<=131072*65537:=Nat.mul_le_mul_right _ hmb;have hJsz:=aR J;have CJ:Hid (∀w',Below wr.heap.size wr w'->Calls Tryz.prog 95 #[.slice pu j cu, .string ⟨#[10]⟩] w' λe w2=>e= .returned (.string (bs J))/\Below w'.heap.size w' w2):=hid (λw' hb=>by have:=Zq (hO.keep hb) (by rw[hlj];exact hmb) hb2;rw[hJ] at this;exact this);have hYR:=HYR.out;rw[show (ts.map λt=>t.1.drop (jX ts).toNat)=tl.map (·.drop C) by rw[<-HTl.out.2.2,List.map_map,HCc.out.1,HCc.out.2];rfl,hJ] at hYR;have HYR2:=hid hYR;obtain⟨hd2,hx2⟩:=HDX.out wr HBr.out;have HBw:Hid (Below w.heap.size w wr):=hid (HB2.out.trans (HBr.out.mono HB2.out.size));clear hO hJ hb2 hlj hmul hYR HYR HO hd2 hx2;have hJl2:J.length<=8590065664:=(by omega);go_wp2_with fail;refine(CJ.out _ (by first | exact aB _ _ | exact(aB _ _).drew)).mono ?_;rintro e w6 ⟨rfl,hb6⟩;have HB6:Hid (Below wr.heap.size wr w6):=hid (by first | exact hb6 | exact aC (aB _ _).drew hb6);obtain⟨hd2,hx2⟩:=HDX.out w6 (HBr.out.trans (HB6.out.mono HBr.out.size));obtain⟨d0,d1,d2,_⟩:=gQ hd2;obtain⟨n0,n1,n2,n3,n4,n5,n6,n7,n8⟩:=pE hx2;have HBe:Hid (Below w.heap.size w w6):=hid (HBw.out.trans (HB6.out.mono HBw.out.size));clear hb6 hd2 hx2;by_cases hj0:j=0
     ·subst hj0;have hYR:=HYR2.out;rw[if_neg (λe=>e.1 (List.length_eq_zero_iff.1 HT.out.1)),List.append_nil] at hYR;have HF:=hid hYR;clear hYR;go_wp2_with fail;go_ret2;rw[<-HF.out];exact⟨rfl,by first | exact HBe.out | exact HBe.out.drew⟩
     ·have dj2:decide ((0:Int)<(j:Int))=true:=aN (by omega);have dj3:decide (0<j)=true:=aN (by omega);have hne:ts≠ []:=λe=>hj0 (by rw[<-HT.out.1,e];rfl);obtain⟨rb,hrb⟩:=exQ<|eZ s x.rf x.rt;have CR:=hid (λw'=>CBy.out x.rf x.rt w');have hYR:=HYR2.out;rw[hrb] at CR hYR;by_cases hrb2:rb= [124]
      ·rw[if_pos ⟨hne,hrb2⟩] at hYR;have e1:=yU hrb2;have HF:=hid hYR;have hcat:bs J++⟨#[10]⟩=bs (J++ [10]):=(uT J [10]).symm;clear hYR hne hrb hrb2;go_wp2_with fail;refine(CR.out _).mono ?_;rintro e w7 ⟨rfl,hb7⟩;have HB7:Hid (Below w6.heap.size w6 w7):=hid (by first | exact hb7 | exact aC (aB _ _).drew hb7);clear hb7;go_wp2_with fail;go_ret2;rw[<-HF.out];exact⟨rfl,aC HBe.out HB7.out⟩
      ·rw[if_neg (λe=>hrb2 e.2),List.append_nil] at hYR;have e1:=wO hrb2;have HF:=hid hYR;clear hYR hne hrb hrb2;go_wp2_with fail;refine(CR.out _).mono ?_;rintro e w7 ⟨rfl,hb7⟩;have HB7:Hid (Below w6.heap.size w6 w7):=hid (by first | exact hb7 | exact aC (aB _ _).drew hb7);clear hb7;go_wp2_with fail;go_ret2;rw[<-HF.out];exact⟨rfl,aC HBe.out HB7.out⟩
end Go.Proofs.YtaifnmjjpddikaaGreatDoor
