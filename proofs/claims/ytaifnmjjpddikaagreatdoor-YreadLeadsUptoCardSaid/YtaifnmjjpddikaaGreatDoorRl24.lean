import Derived.Test.YtaifnmjjpddikaaGreatDoorRl23
import Derived.Test.YtaifnmjjpddikaaGreatDoorShelfD
set_option maxRecDepth 100000
set_option maxHeartbeats 8000000
namespace Go.Proofs.YtaifnmjjpddikaaGreatDoor
set_option linter.unusedSimpArgs false
set_option linter.unusedVariables false
open Go.RowKit
open Go.Lib hiding intOf
structure rT (s:aA) (d:cF):Prop where
 txt:s.length<=65536
 lns:d.lines.length<=131072
 nds:d.nodes.length<=131072
 nd: ∀x∈d.nodes,x.fr<=1073741824/\x.til<=1073741824/\x.kids.length<=131072
 ind: ∀l∈d.lines,0<=l.ind
theorem xH (ls:List aP) (x:aG):(nE ls x).length=min x.til ls.length-(x.fr+1):=by
 unfold nE;rw[bB,cD]
theorem Mu {ls:List aP}{x:aG}{i:Nat}{r:aP} (h:(nE ls x)[i]?=some r):ls[x.fr+1+i]?=some r:=by
 unfold nE at h;rw[mP] at h;rw[List.getElem?_take] at h;split at h
 ·exact h
 ·cases h
theorem aAj {w:World}{B:Nat}{d:cF}{pl:Option Addr}{n cl:Nat} (h:w.ownsRow B 121 10 (.slice pl n cl) d.lines.length (jB d.lines)) (x:aG):
  n=d.lines.length/\n<=cl/\(pl=none->n=0)/\ ∃pr cr,(if min x.til n<=x.fr+1 then .slice none 0 0 else .slice (pl.map λa=>a.add ((x.fr+1)*10)) (min x.til n-(x.fr+1)) (cl-(x.fr+1)):Value)= .slice pr (nE d.lines x).length cr/\
   ∀i r,(nE d.lines x)[i]?=some r-> ∃g o,pr=some ⟨g,o,none⟩/\g<w.heap.size/\ ∀j u,j<10->(tE r)[j]?=some u->w.cell? ⟨g,o+i*10+j,none⟩=some u:=by
 have q:=h;rcases h.2 with⟨s,c⟩ | ⟨g,cap,cur,c,h2,l,k,_⟩
 ·injection s with e1 e2 e3;subst e1 e2 e3;refine⟨c.symm,aE _,λ_=>rfl,none,0,?_,λi r b=>?_⟩
  ·rw[if_pos (by omega),xH,c];simp
  ·have:=Mu b;rw[List.length_eq_zero_iff.1 c] at this;cases this
 ·injection c with e1 e2 e3;subst e1 e2 e3;refine⟨rfl,k,λe=>(by cases e),?_⟩;by_cases hm:min x.til d.lines.length<=x.fr+1
  ·refine⟨none,0,?_,λi r b=>?_⟩
   ·rw[if_pos hm,xH,show min x.til d.lines.length-(x.fr+1)=0 by omega]
   ·have:=(aR.1 b).1;rw[xH] at this;omega
  ·refine⟨some ⟨g,(x.fr+1)*10,none⟩,cl-(x.fr+1),?_,λi r b=>⟨g,(x.fr+1)*10,rfl,aF l,λj u m p=>?_⟩⟩
   ·rw[if_neg hm,xH];simp[Addr.add]
   ·have f:=Mu b;have hll:=(aR.1 f).1;have key:=tD _ 10 Lh d.lines _ r f j m;rw[show (x.fr+1)*10+i*10+j=(x.fr+1+i)*10+j by omega,World.ownsRow.cellAt q _ (by omega),jB,key,p]
theorem Mv (t:aA) (i:Int): ∀l:List (aA×Int),(∀q∈l,0<=q.2)->iV (l++ [(t,i)])=if iV l<0 then(if bI t≠t.length then i else -1) else iV l
 | [],_=>by simp[iV]
 | (u,j)::l,h=>by
  have h0:=h (u,j) gS;have ih:=Mv t i l (λq a=>h q (List.mem_cons_of_mem _ a));rw[jW,iV,iV];by_cases hu:bI u≠u.length
  ·rw[if_pos hu,if_pos hu,if_neg (by simp only[] at h0;omega)]
  ·rw[if_neg hu,if_neg hu];exact ih
theorem Ee: ∀l:List (aA×Int),(∀q∈l,0<=q.2/\q.2<=1099511627776)-> -1<=iV l/\iV l<=1099511627776
 | [],_=>by simp[iV]
 | (u,j)::l,h=>by
  have h0:=h (u,j) gS;have ih:=Ee l (λq a=>h q (List.mem_cons_of_mem _ a));rw[iV];split
  ·simp only[] at h0;omega
  ·exact ih
theorem bR.snoc {B:Nat}{l:List aA}{v:Value}{w:World}{t:aA} (h:w.ownsRow B 9 1 v (l.length+1) (iA l++(#[Value.string (bs t)]:Array Value).toList)):bR B (l++ [t]) v w:=by
 unfold bR;rw[aW];unfold iA at h ⊢;rw[mZ];exact h
theorem Ef: ∀l:List aA,Lib.join l [10]=jE l
 | []=>rfl
 | [x]=>Lib.join_one x [10]
 | x::y::r=>by
  have:=Ef (y::r);unfold jE;rw[<-this];unfold Lib.join;simp[List.intercalate]
theorem bR.stored {B:Nat}{l:List aA}{g cap:Nat}{w:World} (h:bR B l (.slice (some ⟨g,0,none⟩) l.length cap) w) (i:Nat) (t:aA):bR B (l.set i t) (.slice (some ⟨g,0,none⟩) (l.set i t).length cap) (w.setCell ⟨g,i,none⟩ (.string (bs t))):=by
 obtain⟨a,_⟩:=World.ownsRow.stored h i (.string (bs t));unfold bR;rw[List.length_set];unfold iA at a ⊢;rw[List.map_set];exact a
theorem aAk (t:aA):Lib.trimLeftB t 32= []↔bI t=t.length:=by
 have hsp:bI t<=t.length:=nV t;rw[<-List.length_eq_zero_iff,Md t];omega
theorem aAl (t:aA) (w:World):Calls Tryz.prog 94 #[.string (bs t), .string ⟨#[32]⟩] w λe w'=>e= .returned (.string (bs (Lib.trimLeftB t 32)))/\w=w':=by
 have h:=Tryz.strings_TrimLeft_one (bs t) 32 (by decide) w;rw[aZ] at h;exact h.mono λ_ _ ⟨a,b⟩=>⟨a,b.symm⟩
def jF (c:Nat) (i:Nat) (l:List aA):List aA:=(l.take i).map (·.drop c)++l.drop i
theorem Eg (c i:Nat) (l:List aA):(jF c i l).length=l.length:=by
 unfold jF;rw[aW,bK,cD,bB];omega
theorem aAm {c i:Nat}{l:List aA}{t:aA} (h:l[i]?=some t):(jF c i l)[i]?=some t:=by
 have hl:=(aR.1 h).1;unfold jF;rw[mC (by simp;omega)];simp only[bK,cD];rw[mP,show i+(i-min i l.length)=i by omega];exact h
theorem aAn {c i:Nat}{l:List aA}{t:aA} (h:l[i]?=some t):jF c (i+1) l=(jF c i l).set i (t.drop c):=by
 have a:=(aR.1 h).1;have ht:l[i]=t:=(aR.1 h).2;unfold jF;rw[List.take_add_one,h,Option.toList_some,mZ,mV];rw[List.set_append_right _ _ (by simp;omega)];simp only[bK,cD];rw[show i-min i l.length=0 by omega,iH a];rfl
theorem aAo (c:Nat) (l:List aA):jF c l.length l=l.map (·.drop c):=by
 unfold jF;rw[List.take_length,List.drop_length,List.append_nil]
theorem aAp (c:Nat) (l:List aA):jF c 0 l=l:=by simp[jF]
theorem aAq (s:aA) (ls:List aP) (x:aG):(oJ s ls x).length=(nE ls x).length:=by unfold oJ;rw[bK]
theorem Eh (s:aA) (a b:Int):(dY s a b).length<=s.length:=by
 unfold dY;split
 ·exact bM _
 ·exact xA _ _ _
theorem Ei (n:Nat): ∀l:List aA,(∀t∈l,t.length<=n)->(jE l).length<=l.length*(n+1)
 | [],_=>by simp[jE]
 | [x],h=>by have:=h x gS;simp only[jE,dU];omega
 | x::y::r,h=>by
  have h1:=h x gS;have ih:=Ei n (y::r) (λt b=>h t (List.mem_cons_of_mem _ b));rw[jE,aW,aV,aV (a:=x),Nat.add_mul,Nat.one_mul];omega
theorem aAr {B:Nat}{l:List aA}{v:Value}{w:World} (h:bR B l v w) (hl:l.length<=131072) (hb: ∀t∈l,t.length<=65536):
  Calls Tryz.prog 95 #[v, .string ⟨#[10]⟩] w λe w'=>e= .returned (.string (bs (jE l)))/\Below w.heap.size w w':=by
 rcases h.2 with⟨p,d⟩ | ⟨g,cap,cur,d,h2,o,n,_⟩
 ·subst p;rw[List.length_eq_zero_iff.1 d];exact(Tryz.strings_Join_none none 0 ⟨#[10]⟩ w).mono (λe w' ⟨a,b⟩=>⟨a,by rw[b];exact aB _ _⟩)
 ·have f:=h;unfold bR at f;rw[d] at f;subst d;have c:(l.map bs).map (·.data.toList)=l:=by
   rw[List.map_map];conv=>rhs;rw[<-List.map_id l]
   exact List.map_congr_left (λt _=>aZ t)
  have hJ:=Ei 65536 l hb;have hmul:l.length*(65536+1)<=131072*65537:=Nat.mul_le_mul_right _ hl;have m:=Tryz.strings_Join g 0 cap (l.map bs) ⟨#[10]⟩ w (λj x i=>by
   rw[cW] at i;obtain⟨t,k,rfl⟩:=rG.1 i;have hlt:=(aR.1 k).1;rw[Nat.zero_add,World.ownsRow.cellAt f _ (by omega)];unfold iA;rw[cW,k];rfl) (aF o) (by rw[bK];omega) (by rw[bK];exact n) (by
    rw[c,show (⟨#[10]⟩:ByteArray).data.toList= [10] from rfl,Ef];omega)
  rw[bK,c,show (⟨#[10]⟩:ByteArray).data.toList= [10] from rfl,Ef] at m;exact m
theorem aAs (s:aA) (d:cF) (lv nv:Value) (B:Nat) (w:World) (hD:fE B d lv nv w) (hb:rT s d) (hi64: ∀l∈d.lines,l.ind<=1099511627776) (k:Nat) (x:aG) (hx:d.nodes[k]?=some x) (hk4:x.kind=4):
  Calls Tryz.prog 50 #[.agg #[.string (bs s),lv,nv], .int .i64 (k:Int)] w λe w'=>e= .returned (.tuple #[.string (bs (pU s d.lines x)), .bool true])/\Below w.heap.size w w':=by
 obtain⟨z,hz,bc,ao⟩:=hD;obtain⟨y,hy⟩: ∃y,z[k]?=some y:=by
  rw[<-hz,cW] at hx;cases K:z[k]? with
  | none=>rw[K] at hx;cases hx
  | some q=>exact⟨q,rfl⟩
 have a1:y.1=x:=by
  rw[<-hz,cW,hy] at hx;exact bD hx
 obtain⟨gn,cn,cur,rfl,bS,_,b3⟩:=ao.form (λe=>by rw[e] at hy;cases hy);obtain⟨pl,nl,cl,rfl⟩: ∃p n c,lv= .slice p n c:=by
  rcases bc.2 with⟨h0,_⟩ | ⟨g,cap,cur,S,_⟩
  ·exact⟨none,0,0,h0⟩
  ·exact⟨_,_,_,S⟩
 have bk:=ao.kids y (aX hy);obtain⟨pk,ck,am⟩: ∃p c,y.2= .slice p y.1.kids.length c:=by
  rcases bk.2 with⟨h0,S⟩ | ⟨g,cap,cur,S,_⟩
  ·exact⟨none,0,by rw[h0,S]⟩
  ·exact⟨_,cap,S⟩
 obtain⟨mk,a7⟩:=exQ<|y.1.kids.length;obtain⟨nz,bw⟩:=exQ<|z.length;have b4:z.length=d.nodes.length:=by rw[<-hz,bK]
 have bP:k<z.length:=(aR.1 hy).1;rw[bw];have hk0:(0:Int)<=(k:Int):=by omega
 have hk1:(k:Int)<(nz:Int):=by omega
 have dk:decide ((k:Int)<0)=false:=aH (by omega);have dk2:decide ((nz:Int)<=(k:Int))=false:=aH (by omega);have dk3:decide (nz<=k)=false:=aH (by omega);have HC:Hid (∀j u,j<9->(jC y)[j]?=some u->w.cell? ⟨gn,k*9+j,none⟩=some u):=hid (λj u hj hu=>(ao.at_ hy j hj hu).1);obtain⟨bX,bZ,hbk⟩:=hb.nd x (aX hx);rw[a1] at a7 am;rw[a7] at am;obtain⟨nll,az,ap,pr,cr,U,a0⟩:=aAj bc x;obtain⟨W1,aV⟩:=exQ<|w.alloc (.cells #[.string (bs s), .slice pl nl cl, .slice (some ⟨gn,0,none⟩) nz cn] 36);obtain⟨D,b0⟩:=exQ<|w.heap.size;have b1:Below w.heap.size w W1:=by rw[<-aV];exact aI _ _
 have S:W1.heap[D]?=some (.cells #[.string (bs s), .slice pl nl cl, .slice (some ⟨gn,0,none⟩) nz cn] 36):=by rw[<-aV,<-b0];exact heap_alloc_new w _
 obtain⟨W2,aU⟩:=exQ<|W1.alloc (.cells #[.int .i64 4, .int .i64 x.ind, .int .i64 (x.fr:Int), .int .i64 (x.til:Int), .int .i64 x.kf, .int .i64 x.kt, .int .i64 x.rf, .int .i64 x.rt, .slice pk mk ck] 62);obtain⟨X,bW⟩:=exQ<|W1.heap.size;have b2:Below W1.heap.size W1 W2:=by rw[<-aU];exact aI _ _
 have h2:W2.heap[X]?=some (.cells #[.int .i64 4, .int .i64 x.ind, .int .i64 (x.fr:Int), .int .i64 (x.til:Int), .int .i64 x.kf, .int .i64 x.kt, .int .i64 x.rf, .int .i64 x.rt, .slice pk mk ck] 62):=by rw[<-aU,<-bW];exact heap_alloc_new W1 _
 have a5:=hid (aC b1 b2);have G:=(b2.block D (aF S)).trans S;have an:Hid (∀w',Below W2.heap.size W2 w'->w'.heap[D]?=some (.cells #[.string (bs s), .slice pl nl cl, .slice (some ⟨gn,0,none⟩) nz cn] 36)/\w'.heap[X]?=some (.cells #[.int .i64 4, .int .i64 x.ind, .int .i64 (x.fr:Int), .int .i64 (x.til:Int), .int .i64 x.kf, .int .i64 x.kt, .int .i64 x.rf, .int .i64 x.rt, .slice pk mk ck] 62)):=hid (λw' h=>⟨(h.block D (aF G)).trans G,(h.block X (aF h2)).trans h2⟩);have ck': ∀j u,j<9->(jC y)[j]?=some u->W1.cell? ⟨gn,k*9+j,none⟩=some u:=λj u hj hu=>by
  exact bH (HC.out j u hj hu) b1
 have y0:=ck' 0 _ (by omega) rfl;have y1:=ck' 1 _ (by omega) rfl;have y2:=ck' 2 _ (by omega) rfl;have y3:=ck' 3 _ (by omega) rfl;have y4:=ck' 4 _ (by omega) rfl;have y5:=ck' 5 _ (by omega) rfl;have y6:=ck' 6 _ (by omega) rfl;have y7:=ck' 7 _ (by omega) rfl;have y8:=ck' 8 _ (by omega) rfl;rw[a1] at y0 y1 y2 y3 y4 y5 y6 y7;rw[am] at y8;rw[hk4] at y0;simp only[Nat.add_zero] at y0;obtain⟨d0,d1,d2,_⟩:=gJ S;obtain⟨ts,W⟩:=exQ<|oJ s d.lines x;obtain⟨rs,Z⟩:=exQ<|nE d.lines x;obtain⟨m,hm⟩:=exQ<|rs.length;rw[Z] at U a0;rw[hm] at U;have bA:m<=131072:=by rw[<-hm,<-Z,xH];have:=hb.lns;omega
 have bO:=hb.lns;have CAm:Hid (∀w',Calls Tryz.prog 93 #[.agg #[.string (bs s), .slice pl nl cl, .slice (some ⟨gn,0,none⟩) nz cn], .agg #[.int .i64 4, .int .i64 x.ind, .int .i64 (x.fr:Int), .int .i64 (x.til:Int), .int .i64 x.kf, .int .i64 x.kt, .int .i64 x.rf, .int .i64 x.rt, .slice pk mk ck]] w' λe w2=>e= .returned (.slice pr m cr)/\Below w'.heap.size w' w2):=hid (λw'=>by have:=aAi s pl nl cl (.slice (some ⟨gn,0,none⟩) nz cn) ⟨_,_,_,rfl⟩ x (.slice pk mk ck) ⟨_,_,_,rfl⟩ w' (by omega) az ap bX bZ;rw[U] at this;unfold Mt at this;rw[hk4] at this;exact this.mono (λe w2 h=>⟨h.2,h.1⟩));have CBy:Hid (∀(a b:Int) w',Calls Tryz.prog 49 #[.agg #[.string (bs s), .slice pl nl cl, .slice (some ⟨gn,0,none⟩) nz cn], .agg #[.int .i64 a, .int .i64 b]] w' λe w2=>e= .returned (.string (bs (dY s a b)))/\Below w'.heap.size w' w2):=hid (λa b w'=>zU s _ _ ⟨_,_,_,rfl⟩ ⟨_,_,_,rfl⟩ a b w' (by have:=hb.txt;omega));have bL:Hid (∀w',Below W2.heap.size W2 w'-> ∀(i:Nat) (r:aP),rs[i]?=some r-> ∃g o,pr=some ⟨g,o,none⟩/\ ∀j u,j<10->(tE r)[j]?=some u->w'.cell? ⟨g,o+i*10+j,none⟩=some u):=hid (λw' h i r hi=>by obtain⟨g,o,e1,e2,e3⟩:=a0 i r hi;exact⟨g,o,e1,λj u hj hu=>bH (bH (e3 j u hj hu) a5.out) h⟩);have N:ts.length=m:=by rw[<-W,aAq,Z,hm]
 have V: ∀(i:Nat) (r:aP),rs[i]?=some r->ts[i]?=some (dY s r.sf r.st,r.ind):=λi r hi=>by
  rw[<-W];unfold oJ;rw[cW,Z,hi];rfl
 have bG: ∀q∈ts,0<=q.2/\q.2<=1099511627776:=λq K=>by
  rw[<-W] at K;unfold oJ at K;obtain⟨r,hr,rfl⟩:=oQ.1 K;have br:r∈d.lines:=by unfold nE at hr;exact List.mem_of_mem_take (List.mem_of_mem_drop hr)
  exact⟨hb.ind r br,hi64 r br⟩
 have ba: ∀q∈ts,q.1.length<=65536:=λq K=>by
  rw[<-W] at K;unfold oJ at K;obtain⟨r,hr,rfl⟩:=oQ.1 K;have:=Eh s r.sf r.st;have:=hb.txt;simp only[];omega
 obtain⟨Y,hY⟩:=exQ<|pU s d.lines x;have HY:=hid hY;rw[hY];unfold pU at hY;rw[W] at hY;have HT:=hid (aJ N (aJ V (aJ bG ba)));have bJ:=hid hY;obtain⟨i0,a4,a6,a3,aN⟩:=info_parts Tryz.infoString;have HM:=hid (aJ hm Z);have HKX:=hid hk4;have P:=hid hb;clear nll bw bO az ap U a0 N V bG ba W Z hm hY hz bc ao bk am a7 hx hy a1 S h2 b1 b2 G b4 bP b3 bS hi64 ck' hk4 hb;go_enter Tryz.func50,Tryz.ntmps50;go_upto_region 1 with fail;clear aV;go_upto_region 3 with fail;go_upto_region 4 with fail;clear aU;clear y0 y1 y2 y3 y4 y5 y6 y7 y8 d0 d1 d2;obtain⟨G,O⟩:=an.out W2 (aB _ _);obtain⟨d0,d1,d2,_⟩:=gJ G;obtain⟨n0,n1,n2,n3,n4,n5,n6,n7,n8⟩:=pS O;have hDl:D<W2.heap.size:=aF G;have hXl:X<W2.heap.size:=aF O;clear G O;go_wp2_with fail;refine(CAm.out _).mono ?_;rintro e w3 ⟨rfl,bb⟩;have bo:Hid (Below W2.heap.size W2 w3):=hid (by first | exact bb | exact aC (aB _ _).drew bb);clear bb n0 n1 n2 n3 n4 n5 n6 n7 n8 d0 d1 d2;go_wp2_with fail;go_loopw [42,7,8] (λs42 s7 s8 wr=> ∃i:Nat,s42= .int .i64 (i:Int)/\i<=m/\s7= .int .i64 (iV (ts.take i))/\Hid (bR W2.heap.size ((ts.take i).map (·.1)) s8 wr)/\Hid (Below W2.heap.size W2 wr)) (λs42 _ _ _=>m-(RowKit.intOf s42).toNat)
 case atStart=>exact⟨0,rfl,bM _,rfl,hid (bR.nil _ _),bo⟩
 case round=>
  clear bo;obtain⟨i,rfl,hi,rfl,HO,v⟩:=hrel;by_cases him:i<m
  ·have dk:decide ((i:Int)<(m:Int))=true:=aM (by omega);obtain⟨r,hr⟩: ∃r,rs[i]?=some r:=⟨_,bE (by have:=HM.out.1;omega)⟩;obtain⟨g,o,rfl,f⟩:=bL.out wr v.out i r hr;have g0:=f 0 _ (by omega) rfl;have g1:=f 1 _ (by omega) rfl;have g2:=f 2 _ (by omega) rfl;have g3:=f 3 _ (by omega) rfl;have g4:=f 4 _ (by omega) rfl;have g5:=f 5 _ (by omega) rfl;have g6:=f 6 _ (by omega) rfl;have g7:=f 7 _ (by omega) rfl;have g8:=f 8 _ (by omega) rfl;have g9:=f 9 _ (by omega) rfl;simp only[Nat.add_zero] at g0;have hii0:(0:Int)<=(i:Int):=(by omega);have hii1:(i:Int)<(m:Int):=(by omega);obtain⟨i1,ay⟩:=exQ<|i+1;have ad:(i:Int)+1=(i1:Int):=(by omega);have af:i1<=m:=(by omega);have V:=HT.out.2.1 i r hr;obtain⟨t,ht⟩:=exQ<|dY s r.sf r.st;have CB:=hid (λw'=>CBy.out r.sf r.st w');rw[ht] at CB V;have a8:ts.take i1=ts.take i++ [(t,r.ind)]:=by rw[<-ay,List.take_add_one,V];rfl
   have F:=Mv t r.ind (ts.take i) (λq K=>(HT.out.2.2.1 q (List.mem_of_mem_take K)).1);rw[<-a8] at F;have aj:Hid (((ts.take i).map (·.1)).length=i):=hid (by rw[bK,cD,HT.out.1];omega);have a9:Hid ((ts.take i1).map (·.1)=(ts.take i).map (·.1)++ [t]):=hid (by rw[a8,mZ];rfl);obtain⟨c,hc⟩:=exQ<|iV (ts.take i);have bu:=hid (Ee (ts.take i) (λq K=>HT.out.2.2.1 q (List.mem_of_mem_take K)));rw[hc] at F bu;have bz:=hid F;have b10:=aI wr (.cells (lineA r) 121);have ah:=heap_alloc_new wr (.cells (lineA r) 121);obtain⟨X10,aq⟩:=exQ<|wr.heap.size;obtain⟨W3,bd⟩:=exQ<|wr.alloc (.cells (lineA r) 121);rw[bd] at b10 ah;rw[aq] at ah;have A:=hid b10;have bF:=hid ah;unfold lineA at bd;obtain⟨bm,bQ⟩:=an.out W3 (v.out.trans (b10.mono v.out.size));obtain⟨d0,d1,d2,_⟩:=gJ bm;have bI:bY W3 X10 r:=ah;obtain⟨l0,l1,l2,l3,l4,l5,l6,l7,l8,l9,_⟩:=bI.cells;rw[hc];have CT:=hid (λw'=>aAl t w');obtain⟨q,K⟩:=exQ<|Lib.trimLeftB t 32;have bi:=aAk t;rw[K] at CT bi;have bp:=hid bi;clear f hr V a8 F hc b10 ah bm bQ bI K bi ht ay;go_upto_region 9 with fail;clear bd aq g0 g1 g2 g3 g4 g5 g6 g7 g8 g9;go_wp2_with fail;refine(CB.out _).mono ?_;rintro e w5 ⟨rfl,a2⟩;have Q:Hid (Below W3.heap.size W3 w5):=hid (by first | exact a2 | exact aC (aB _ _).drew a2);clear a2 l0 l1 l2 l3 l4 l5 l6 l7 l8 l9 d0 d1 d2;have aw:bY w5 X10 r:=(Q.out.block X10 (aF bF.out)).trans bF.out;obtain⟨_,_,_,l3,_⟩:=aw.cells;have bg:Hid (w5.ownsRow W2.heap.size 9 1 u8 i (iA ((ts.take i).map (·.1)))):=hid (by have:=(HO.out.keep A.out).keep Q.out;unfold bR at this;rw[aj.out] at this;exact this);clear aw;by_cases hc0:c<0
   ·have dc:decide (c<0)=true:=aM hc0;have F:=bz.out;rw[if_pos hc0] at F;by_cases hq0:q= []
    ·have e0:((bs q).toList== [])=true:=by rw[hq0];exact nX []
     have e0b:(bs q).toList.isEmpty=true:=by rw[hq0];exact mY []
     rw[if_neg (λh=>h (bp.out.1 hq0))] at F;have hcm:c= -1:=by have:=bu.out;omega
     clear hc0 hq0;have M:W2.heap.size<=w5.heap.size:=aY v.out.size (aY A.out.size Q.out.size);go_wp2_with (first | (go_at_call 94;refine(CT.out _).mono ?_;rintro e w6 ⟨rfl,rfl⟩) | (at_builtin;go_must (refine vJ rfl _ _ 23 rfl W2.heap.size 9 i0 _ 1 16 Tryz.underlying23 a4 a6 a3 aN rfl (by decide) w5 u8 i (iA ((ts.take i).map (·.1))) rfl bg.out #[.string (bs t)] rfl rfl (by simp[Value.oneCell']) (by omega) (by decide) M ?_);intro v1 w7 H ax I T av));have aa:Hid (bR W2.heap.size ((ts.take i1).map (·.1)) v1 w7):=hid (by rw[a9.out];exact bR.snoc (by rw[aj.out];exact H));have P:Hid (Below W2.heap.size W2 w7):=hid ((v.out.trans ((A.out.trans (Q.out.mono A.out.size)).mono v.out.size)).trans I);go_roundw
     ·exact⟨i1,by rw[<-ad],af,by rw[F],aa,P⟩
     ·simp only[RowKit.intOf];omega
    ·have e0:((bs q).toList== [])=false:=by rw[nX];cases q<;>simp at hq0 ⊢
     have e0b:(bs q).toList.isEmpty=false:=by rw[mY];cases q<;>simp at hq0 ⊢
     rw[if_pos (λh=>hq0 (bp.out.2 h))] at F;clear hc0 hq0;have M:W2.heap.size<=w5.heap.size:=aY v.out.size (aY A.out.size Q.out.size);go_wp2_with (first | (go_at_call 94;refine(CT.out _).mono ?_;rintro e w6 ⟨rfl,rfl⟩) | (at_builtin;go_must (refine vJ rfl _ _ 23 rfl W2.heap.size 9 i0 _ 1 16 Tryz.underlying23 a4 a6 a3 aN rfl (by decide) w5 u8 i (iA ((ts.take i).map (·.1))) rfl bg.out #[.string (bs t)] rfl rfl (by simp[Value.oneCell']) (by omega) (by decide) M ?_);intro v1 w7 H ax I T av));have aa:Hid (bR W2.heap.size ((ts.take i1).map (·.1)) v1 w7):=hid (by rw[a9.out];exact bR.snoc (by rw[aj.out];exact H));have P:Hid (Below W2.heap.size W2 w7):=hid ((v.out.trans ((A.out.trans (Q.out.mono A.out.size)).mono v.out.size)).trans I);go_roundw
     ·exact⟨i1,by rw[<-ad],af,by rw[F],aa,P⟩
     ·simp only[RowKit.intOf];omega
   ·have dc:decide (c<0)=false:=aH hc0;have F:=bz.out;rw[if_neg hc0] at F;clear hc0;have M:W2.heap.size<=w5.heap.size:=aY v.out.size (aY A.out.size Q.out.size);go_wp2_with (first | (fail) | (at_builtin;go_must (refine vJ rfl _ _ 23 rfl W2.heap.size 9 i0 _ 1 16 Tryz.underlying23 a4 a6 a3 aN rfl (by decide) w5 u8 i (iA ((ts.take i).map (·.1))) rfl bg.out #[.string (bs t)] rfl rfl (by simp[Value.oneCell']) (by omega) (by decide) M ?_);intro v1 w7 H ax I T av));have aa:Hid (bR W2.heap.size ((ts.take i1).map (·.1)) v1 w7):=hid (by rw[a9.out];exact bR.snoc (by rw[aj.out];exact H));have P:Hid (Below W2.heap.size W2 w7):=hid ((v.out.trans ((A.out.trans (Q.out.mono A.out.size)).mono v.out.size)).trans I);go_roundw
    ·exact⟨i1,by rw[<-ad],af,by rw[F],aa,P⟩
    ·simp only[RowKit.intOf];omega
  ·obtain rfl:i=m:=(by omega);have dk:decide ((i:Int)<(i:Int))=false:=aH (by omega);have aS:ts.take i=ts:=(by rw[<-HT.out.1,List.take_length]);obtain⟨tl,N⟩:=exQ<|ts.map (·.1);obtain⟨c,hc⟩:=exQ<|iV ts;have hO:=HO.out;rw[aS,N] at hO;rw[aS,hc];have ai:tl.length=i:=by rw[<-N,bK];exact HT.out.1
   have bT:=Ee ts HT.out.2.2.1;rw[hc] at bT;have au: ∀t∈tl,t.length<=65536:=λt ht=>by
    rw[<-N] at ht;obtain⟨q,K,rfl⟩:=oQ.1 ht;exact HT.out.2.2.2 q K
   obtain⟨C,hC⟩:=exQ<|c.toNat;have hmx:max c 0=(C:Int):=(by omega);obtain⟨pu,cu,bj⟩:=hO.slice;rw[ai] at bj;subst bj;have L:=hid (aJ ai (aJ au N));have bt:=hid (aJ hc hC);have bx:Hid (bR W2.heap.size (jF C 0 tl) (.slice pu i cu) wr):=hid (by rw[aAp];exact hO);clear hO HO aS hc N ai au hC;go_wp2_with fail;go_loopw [66,12,13] (λs66 s12 s13 wx=> ∃j:Nat,s66= .int .i64 (j:Int)/\j<=i/\Hid (bR W2.heap.size (jF C j tl) (.slice pu i cu) wx)/\Hid (Below W2.heap.size W2 wx)) (λs66 _ _ _=>i-(RowKit.intOf s66).toNat)
   case atStart=>exact⟨0,rfl,bM _,bx,v⟩
   case round=>
    clear bx v;obtain⟨j,rfl,hj,HO,v⟩:=hrel;by_cases hji:j<i
    ·have dj:decide ((j:Int)<(i:Int))=true:=aM (by omega);have aW:(0:Int)<=(j:Int):=(by omega);have hj1:(j:Int)<(i:Int):=(by omega);obtain⟨t,ht⟩: ∃t,tl[j]?=some t:=⟨_,bE (by rw[L.out.1];exact hji)⟩;have bl:=aAm (c:=C) ht;have hO:=HO.out;obtain⟨g,rfl,bV⟩: ∃g,pu=some ⟨g,0,none⟩/\W2.heap.size<=g:=by
      rcases hO.2 with⟨h0,S⟩ | ⟨g,cap,cur,S,h2,_⟩
      ·rw[Eg,L.out.1] at S;omega
      ·injection S with e1;exact⟨g,e1,h2⟩
     have ag:(jF C j tl).length=i:=by rw[Eg];exact L.out.1
     have ak:bR W2.heap.size (jF C j tl) (.slice (some ⟨g,0,none⟩) (jF C j tl).length cu) wr:=by rw[ag];exact hO
     have f:wr.cell? ⟨g,j,none⟩=some (.string (bs t)):=by
      rw[World.ownsRow.cellAt ak _ (by rw[ag];omega)];unfold iA;rw[cW,bl];rfl
     have hfz:wr.frozen? ⟨g,j,none⟩=false:=World.ownsRow.frozenAt ak _;have ab:=ak.stored j (t.drop C);rw[<-aAn ht] at ab;have ae:(jF C (j+1) tl).length=i:=by rw[Eg];exact L.out.1
     rw[ae] at ab;have ba:=L.out.2.1 t (aX ht);obtain⟨e,he⟩:=exQ<|min C t.length;have hmn:min (C:Int) (t.length:Int)=(e:Int):=(by omega);have hel:e<=t.length:=(by omega);have hex:(bs t).extract e t.length=bs (t.drop C):=by
      rw[lG,aZ];congr 1;rw[<-he];by_cases hle:C<=t.length
      ·rw[Nat.min_eq_left hle,uL (by rw[bB];exact aE _)]
      ·rw[Nat.min_eq_right (by omega),List.drop_length,List.drop_eq_nil_of_le (by omega)];simp
     have hsz:=aT t;have he1:(e:Int)<=(t.length:Int):=(by omega);have he0:(0:Int)<=(e:Int):=(by omega);obtain⟨j1,aD⟩:=exQ<|j+1;have hj1z:(j:Int)+1=(j1:Int):=(by omega);rw[aD] at ab;have bU:=hid ab;have P:=hid (v.out.setCell (p:=⟨g,j,none⟩) bV (.string (bs (t.drop C))));clear ht bl hO ag ak ab ae he aD;go_wp2_with fail;go_roundw
     ·exact⟨j1,rfl,by omega,bU,P⟩
     ·simp only[RowKit.intOf];omega
    ·obtain rfl:j=i:=(by omega);have dj:decide ((j:Int)<(j:Int))=false:=aH (by omega);have hO:bR W2.heap.size (tl.map (·.drop C)) (.slice pu j cu) wr:=by
      have:=HO.out;rw[show jF C j tl=tl.map (·.drop C) by rw[<-L.out.1,aAo]] at this;exact this
     obtain⟨J,hJ⟩:=exQ<|jE (tl.map (·.drop C));have bf: ∀t∈tl.map (·.drop C),t.length<=65536:=λt ht=>by
      obtain⟨q,K,rfl⟩:=oQ.1 ht;have:=L.out.2.1 q K;simp only[bB];omega
     have aO:(tl.map (·.drop C)).length=j:=by rw[bK];exact L.out.1
     have bN:=Ei 65536 _ bf;rw[hJ,aO] at bN;have bC:j*(65536+1)<=131072*65537:=Nat.mul_le_mul_right _ bA;have hJsz:=aT J;have CJ:Hid (∀w',Below wr.heap.size wr w'->Calls Tryz.prog 95 #[.slice pu j cu, .string ⟨#[10]⟩] w' λe w2=>e= .returned (.string (bs J))/\Below w'.heap.size w' w2):=hid (λw' hb=>by have:=aAr (hO.keep hb) (by rw[aO];exact bA) bf;rw[hJ] at this;exact this);have E:=bJ.out;rw[show (ts.map λt=>t.1.drop (iV ts).toNat)=tl.map (·.drop C) by rw[<-L.out.2.2,List.map_map,bt.out.1,bt.out.2];rfl,hJ] at E;have ar:=hid E;obtain⟨G,O⟩:=an.out wr v.out;have bq:Hid (Below w.heap.size w wr):=hid (a5.out.trans (v.out.mono a5.out.size));clear hO hJ bf aO bC E bJ HO G O;have hJl2:J.length<=8590065664:=(by omega);go_wp2_with fail;refine(CJ.out _ (by first | exact aB _ _ | exact(aB _ _).drew)).mono ?_;rintro e w6 ⟨rfl,bh⟩;have bn:Hid (Below wr.heap.size wr w6):=hid (by first | exact bh | exact aC (aB _ _).drew bh);obtain⟨G,O⟩:=an.out w6 (v.out.trans (bn.out.mono v.out.size));obtain⟨d0,d1,d2,_⟩:=gJ G;obtain⟨n0,n1,n2,n3,n4,n5,n6,n7,n8⟩:=pS O;have al:Hid (Below w.heap.size w w6):=hid (bq.out.trans (bn.out.mono bq.out.size));clear bh G O;by_cases aW:j=0
     ·subst aW;have E:=ar.out;rw[if_neg (λe=>e.1 (List.length_eq_zero_iff.1 HT.out.1)),List.append_nil] at E;have HF:=hid E;clear E;go_wp2_with fail;go_ret2;rw[<-HF.out];exact⟨rfl,by first | exact al.out | exact al.out.drew⟩
     ·have dj2:decide ((0:Int)<(j:Int))=true:=aM (by omega);have dj3:decide (0<j)=true:=aM (by omega);have aK:ts≠ []:=λe=>aW (by rw[<-HT.out.1,e];rfl);obtain⟨rb,aL⟩:=exQ<|dY s x.rf x.rt;have CR:=hid (λw'=>CBy.out x.rf x.rt w');have E:=ar.out;rw[aL] at CR E;by_cases hrb2:rb= [124]
      ·rw[if_pos ⟨aK,hrb2⟩] at E;have e1:=zP hrb2;have HF:=hid E;have hcat:bs J++⟨#[10]⟩=bs (J++ [10]):=(vK J [10]).symm;clear E aK aL hrb2;go_wp2_with fail;refine(CR.out _).mono ?_;rintro e w7 ⟨rfl,R⟩;have aQ:Hid (Below w6.heap.size w6 w7):=hid (by first | exact R | exact aC (aB _ _).drew R);clear R;go_wp2_with fail;go_ret2;rw[<-HF.out];exact⟨rfl,aC al.out aQ.out⟩
      ·rw[if_neg (λe=>hrb2 e.2),List.append_nil] at E;have e1:=xB hrb2;have HF:=hid E;clear E aK aL hrb2;go_wp2_with fail;refine(CR.out _).mono ?_;rintro e w7 ⟨rfl,R⟩;have aQ:Hid (Below w6.heap.size w6 w7):=hid (by first | exact R | exact aC (aB _ _).drew R);clear R;go_wp2_with fail;go_ret2;rw[<-HF.out];exact⟨rfl,aC al.out aQ.out⟩
end Go.Proofs.YtaifnmjjpddikaaGreatDoor
