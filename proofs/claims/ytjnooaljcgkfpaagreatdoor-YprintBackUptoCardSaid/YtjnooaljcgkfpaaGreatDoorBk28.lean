import Derived.Test.YtjnooaljcgkfpaaGreatDoorBk27
import Derived.Test.YtjnooaljcgkfpaaGreatDoorShelfD
set_option maxRecDepth 100000
set_option maxHeartbeats 8000000
namespace Go.Proofs.YtjnooaljcgkfpaaGreatDoor
set_option linter.unusedSimpArgs false
set_option linter.unusedVariables false
open Go.RowKit
open Go.Lib hiding intOf
structure uS (s:aA) (d:fS):Prop where
 txt:s.length<=65536
 lns:d.lines.length<=131072
 nds:d.nodes.length<=131072
 nd: ∀x∈d.nodes,x.fr<=1073741824/\x.til<=1073741824/\x.kids.length<=131072
 ind: ∀l∈d.lines,0<=l.ind
theorem zG (ls:List aO) (x:aM):(qO ls x).length=min x.til ls.length-(x.fr+1):=by
 unfold qO;rw[aZ,cB]
theorem Sd {ls:List aO}{x:aM}{i:Nat}{r:aO} (h:(qO ls x)[i]?=some r):ls[x.fr+1+i]?=some r:=by
 unfold qO at h;rw[nO] at h;rw[List.getElem?_take] at h;split at h
 ·exact h
 ·cases h
theorem aDP {w:World}{B:Nat}{d:fS}{pl:Option Addr}{n cl:Nat} (h:w.ownsRow B 143 10 (.slice pl n cl) d.lines.length (kE d.lines)) (x:aM):
  n=d.lines.length/\n<=cl/\(pl=none->n=0)/\ ∃pr cr,(if min x.til n<=x.fr+1 then .slice none 0 0 else .slice (pl.map λa=>a.add ((x.fr+1)*10)) (min x.til n-(x.fr+1)) (cl-(x.fr+1)):Value)= .slice pr (qO d.lines x).length cr/\
   ∀i r,(qO d.lines x)[i]?=some r-> ∃g o,pr=some ⟨g,o,none⟩/\g<w.heap.size/\ ∀j u,j<10->(uM r)[j]?=some u->w.cell? ⟨g,o+i*10+j,none⟩=some u:=by
 have q:=h;rcases h.2 with⟨l,c⟩ | ⟨g,cap,cur,c,h2,m,p,_⟩
 ·injection l with e1 e2 e3;subst e1 e2 e3;refine⟨c.symm,aD _,λ_=>rfl,none,0,?_,λi r b=>?_⟩
  ·rw[if_pos (by omega),zG,c];simp
  ·have:=Sd b;rw[List.length_eq_zero_iff.1 c] at this;cases this
 ·injection c with e1 e2 e3;subst e1 e2 e3;refine⟨rfl,p,λe=>(by cases e),?_⟩;by_cases hm:min x.til d.lines.length<=x.fr+1
  ·refine⟨none,0,?_,λi r b=>?_⟩
   ·rw[if_pos hm,zG,show min x.til d.lines.length-(x.fr+1)=0 by omega]
   ·have:=(aP.1 b).1;rw[zG] at this;omega
  ·refine⟨some ⟨g,(x.fr+1)*10,none⟩,cl-(x.fr+1),?_,λi r b=>⟨g,(x.fr+1)*10,rfl,aE m,λj u k s=>?_⟩⟩
   ·rw[if_neg hm,zG];simp[Addr.add]
   ·have f:=Sd b;have hll:=(aP.1 f).1;have key:=uL _ 10 Qv d.lines _ r f j k;rw[show (x.fr+1)*10+i*10+j=(x.fr+1+i)*10+j by omega,World.ownsRow.cellAt q _ (by omega),kE,key,s]
theorem Se (t:aA) (i:Int): ∀l:List (aA×Int),(∀q∈l,0<=q.2)->lJ (l++ [(t,i)])=if lJ l<0 then(if bI t≠t.length then i else -1) else lJ l
 | [],_=>by simp[lJ]
 | (u,j)::l,h=>by
  have h0:=h (u,j) fV;have ih:=Se t i l (λq a=>h q (List.mem_cons_of_mem _ a));rw[cU,lJ,lJ];by_cases hu:bI u≠u.length
  ·rw[if_pos hu,if_pos hu,if_neg (by simp only[] at h0;omega)]
  ·rw[if_neg hu,if_neg hu];exact ih
theorem Hg: ∀l:List (aA×Int),(∀q∈l,0<=q.2/\q.2<=1099511627776)-> -1<=lJ l/\lJ l<=1099511627776
 | [],_=>by simp[lJ]
 | (u,j)::l,h=>by
  have h0:=h (u,j) fV;have ih:=Hg l (λq a=>h q (List.mem_cons_of_mem _ a));rw[lJ];split
  ·simp only[] at h0;omega
  ·exact ih
theorem bS.snoc {B:Nat}{l:List aA}{v:Value}{w:World}{t:aA} (h:w.ownsRow B 9 1 v (l.length+1) (strCells l++(#[Value.string (bs t)]:Array Value).toList)):bS B (l++ [t]) v w:=by
 unfold bS;rw[aI];unfold strCells at h ⊢;rw[qE];exact h
theorem Hh: ∀l:List aA,Lib.join l [10]=qN l
 | []=>rfl
 | [x]=>Lib.join_one x [10]
 | x::y::r=>by
  have:=Hh (y::r);unfold qN;rw[<-this];unfold Lib.join;simp[List.intercalate]
theorem bS.stored {B:Nat}{l:List aA}{g cap:Nat}{w:World} (h:bS B l (.slice (some ⟨g,0,none⟩) l.length cap) w) (i:Nat) (t:aA):bS B (l.set i t) (.slice (some ⟨g,0,none⟩) (l.set i t).length cap) (w.setCell ⟨g,i,none⟩ (.string (bs t))):=by
 obtain⟨a,_⟩:=World.ownsRow.stored h i (.string (bs t));unfold bS;rw[List.length_set];unfold strCells at a ⊢;rw[List.map_set];exact a
theorem aDQ (t:aA):Lib.trimLeftB t 32= []↔bI t=t.length:=by
 have hsp:bI t<=t.length:=oO t;rw[<-List.length_eq_zero_iff,Rj t];omega
theorem aDR (t:aA) (w:World):Calls Tryz.prog 76 #[.string (bs t), .string ⟨#[32]⟩] w λe w'=>e= .returned (.string (bs (Lib.trimLeftB t 32)))/\w=w':=by
 have h:=Tryz.strings_TrimLeft_one (bs t) 32 (by decide) w;rw[aW] at h;exact h.mono λ_ _ ⟨a,b⟩=>⟨a,b.symm⟩
def kG (c:Nat) (i:Nat) (l:List aA):List aA:=(l.take i).map (·.drop c)++l.drop i
theorem Hi (c i:Nat) (l:List aA):(kG c i l).length=l.length:=by
 unfold kG;rw[aI,cA,cB,aZ];omega
theorem aDS {c i:Nat}{l:List aA}{t:aA} (h:l[i]?=some t):(kG c i l)[i]?=some t:=by
 have hl:=(aP.1 h).1;unfold kG;rw[jO (by simp;omega)];simp only[cA,cB];rw[nO,show i+(i-min i l.length)=i by omega];exact h
theorem aDT {c i:Nat}{l:List aA}{t:aA} (h:l[i]?=some t):kG c (i+1) l=(kG c i l).set i (t.drop c):=by
 have a:=(aP.1 h).1;have ht:l[i]=t:=(aP.1 h).2;unfold kG;rw[List.take_add_one,h,Option.toList_some,qE,dY];rw[List.set_append_right _ _ (by simp;omega)];simp only[cA,cB];rw[show i-min i l.length=0 by omega,iJ a];rfl
theorem aDU (c:Nat) (l:List aA):kG c l.length l=l.map (·.drop c):=by
 unfold kG;rw[List.take_length,List.drop_length,List.append_nil]
theorem aDV (c:Nat) (l:List aA):kG c 0 l=l:=by simp[kG]
theorem aDW (s:aA) (ls:List aO) (x:aM):(rN s ls x).length=(qO ls x).length:=by unfold rN;rw[cA]
theorem Hj (s:aA) (a b:Int):(jG s a b).length<=s.length:=by
 unfold jG;split
 ·exact cH _
 ·exact zA _ _ _
theorem Hk (n:Nat): ∀l:List aA,(∀t∈l,t.length<=n)->(qN l).length<=l.length*(n+1)
 | [],_=>by simp[qN]
 | [x],h=>by have:=h x fV;simp only[qN,dQ];omega
 | x::y::r,h=>by
  have h1:=h x fV;have ih:=Hk n (y::r) (λt b=>h t (List.mem_cons_of_mem _ b));rw[qN,aI,aL,aL (a:=x),Nat.add_mul,Nat.one_mul];omega
theorem aDX {B:Nat}{l:List aA}{v:Value}{w:World} (h:bS B l v w) (hl:l.length<=131072) (hb: ∀t∈l,t.length<=65536):
  Calls Tryz.prog 117 #[v, .string ⟨#[10]⟩] w λe w'=>e= .returned (.string (bs (qN l)))/\Below w.heap.size w w':=by
 rcases h.2 with⟨n,d⟩ | ⟨g,cap,cur,d,h2,o,p,_⟩
 ·subst n;rw[List.length_eq_zero_iff.1 d];exact(Tryz.strings_Join_none none 0 ⟨#[10]⟩ w).mono (λe w' ⟨a,b⟩=>⟨a,by rw[b];exact aB _ _⟩)
 ·have f:=h;unfold bS at f;rw[d] at f;subst d;have c:(l.map bs).map (·.data.toList)=l:=by
   rw[List.map_map];conv=>rhs;rw[<-List.map_id l]
   exact List.map_congr_left (λt _=>aW t)
  have hJ:=Hk 65536 l hb;have hmul:l.length*(65536+1)<=131072*65537:=Nat.mul_le_mul_right _ hl;have k:=Tryz.strings_Join g 0 cap (l.map bs) ⟨#[10]⟩ w (λj x i=>by
   rw[cW] at i;obtain⟨t,m,rfl⟩:=nU.1 i;have hlt:=(aP.1 m).1;rw[Nat.zero_add,World.ownsRow.cellAt f _ (by omega)];unfold strCells;rw[cW,m];rfl) (aE o) (by rw[cA];omega) (by rw[cA];exact p) (by
    rw[c,show (⟨#[10]⟩:ByteArray).data.toList= [10] from rfl,Hh];omega)
  rw[cA,c,show (⟨#[10]⟩:ByteArray).data.toList= [10] from rfl,Hh] at k;exact k
theorem aDY (s:aA) (d:fS) (lv nv:Value) (B:Nat) (w:World) (hD:iX B d lv nv w) (hb:uS s d) (hi64: ∀l∈d.lines,l.ind<=1099511627776) (k:Nat) (x:aM) (hx:d.nodes[k]?=some x) (hk4:x.kind=4):
  Calls Tryz.prog 71 #[.agg #[.string (bs s),lv,nv], .int .i64 (k:Int)] w λe w'=>e= .returned (.tuple #[.string (bs (yJ s d.lines x)), .bool true])/\Below w.heap.size w w':=by
 obtain⟨z,hz,bb,al⟩:=hD;obtain⟨y,hy⟩: ∃y,z[k]?=some y:=by
  rw[<-hz,cW] at hx;cases K:z[k]? with
  | none=>rw[K] at hx;cases hx
  | some q=>exact⟨q,rfl⟩
 have aL:y.1=x:=by
  rw[<-hz,cW,hy] at hx;exact bC hx
 obtain⟨gn,cn,cur,rfl,bX,_,bJ⟩:=al.form (λe=>by rw[e] at hy;cases hy);obtain⟨pl,nl,cl,rfl⟩: ∃p n c,lv= .slice p n c:=by
  rcases bb.2 with⟨h0,_⟩ | ⟨g,cap,cur,S,_⟩
  ·exact⟨none,0,0,h0⟩
  ·exact⟨_,_,_,S⟩
 have bw:=al.kids y (bA hy);obtain⟨pk,ck,am⟩: ∃p c,y.2= .slice p y.1.kids.length c:=by
  rcases bw.2 with⟨h0,S⟩ | ⟨g,cap,cur,S,_⟩
  ·exact⟨none,0,by rw[h0,S]⟩
  ·exact⟨_,cap,S⟩
 obtain⟨mk,a8⟩:=exQ<|y.1.kids.length;obtain⟨nz,bq⟩:=exQ<|z.length;have bP:z.length=d.nodes.length:=by rw[<-hz,cA]
 have bU:k<z.length:=(aP.1 hy).1;rw[bq];have hk0:(0:Int)<=(k:Int):=by omega
 have hk1:(k:Int)<(nz:Int):=by omega
 have dk:decide ((k:Int)<0)=false:=aJ (by omega);have dk2:decide ((nz:Int)<=(k:Int))=false:=aJ (by omega);have dk3:decide (nz<=k)=false:=aJ (by omega);have HC:Hid (∀j u,j<9->(kR y)[j]?=some u->w.cell? ⟨gn,k*9+j,none⟩=some u):=hid (λj u hj hu=>(al.at_ hy j hj hu).1);obtain⟨bQ,bY,hbk⟩:=hb.nd x (bA hx);rw[aL] at a8 am;rw[a8] at am;obtain⟨nll,aF,aq,pr,cr,T,aG⟩:=aDP bb x;obtain⟨W1,a2⟩:=exQ<|w.alloc (.cells #[.string (bs s), .slice pl nl cl, .slice (some ⟨gn,0,none⟩) nz cn] 45);obtain⟨D,bO⟩:=exQ<|w.heap.size;have b1:Below w.heap.size w W1:=by rw[<-a2];exact aH _ _
 have S:W1.heap[D]?=some (.cells #[.string (bs s), .slice pl nl cl, .slice (some ⟨gn,0,none⟩) nz cn] 45):=by rw[<-a2,<-bO];exact heap_alloc_new w _
 obtain⟨W2,bd⟩:=exQ<|W1.alloc (.cells #[.int .i64 4, .int .i64 x.ind, .int .i64 (x.fr:Int), .int .i64 (x.til:Int), .int .i64 x.kf, .int .i64 x.kt, .int .i64 x.rf, .int .i64 x.rt, .slice pk mk ck] 100);obtain⟨X,bK⟩:=exQ<|W1.heap.size;have b2:Below W1.heap.size W1 W2:=by rw[<-bd];exact aH _ _
 have h2:W2.heap[X]?=some (.cells #[.int .i64 4, .int .i64 x.ind, .int .i64 (x.fr:Int), .int .i64 (x.til:Int), .int .i64 x.kf, .int .i64 x.kt, .int .i64 x.rf, .int .i64 x.rt, .slice pk mk ck] 100):=by rw[<-bd,<-bK];exact heap_alloc_new W1 _
 have bc:=hid (aC b1 b2);have G:=(b2.block D (aE S)).trans S;have ao:Hid (∀w',Below W2.heap.size W2 w'->w'.heap[D]?=some (.cells #[.string (bs s), .slice pl nl cl, .slice (some ⟨gn,0,none⟩) nz cn] 45)/\w'.heap[X]?=some (.cells #[.int .i64 4, .int .i64 x.ind, .int .i64 (x.fr:Int), .int .i64 (x.til:Int), .int .i64 x.kf, .int .i64 x.kt, .int .i64 x.rf, .int .i64 x.rt, .slice pk mk ck] 100)):=hid (λw' h=>⟨(h.block D (aE G)).trans G,(h.block X (aE h2)).trans h2⟩);have ck': ∀j u,j<9->(kR y)[j]?=some u->W1.cell? ⟨gn,k*9+j,none⟩=some u:=λj u hj hu=>by
  exact dT (HC.out j u hj hu) b1
 have y0:=ck' 0 _ (by omega) rfl;have y1:=ck' 1 _ (by omega) rfl;have y2:=ck' 2 _ (by omega) rfl;have y3:=ck' 3 _ (by omega) rfl;have y4:=ck' 4 _ (by omega) rfl;have y5:=ck' 5 _ (by omega) rfl;have y6:=ck' 6 _ (by omega) rfl;have y7:=ck' 7 _ (by omega) rfl;have y8:=ck' 8 _ (by omega) rfl;rw[aL] at y0 y1 y2 y3 y4 y5 y6 y7;rw[am] at y8;rw[hk4] at y0;simp only[Nat.add_zero] at y0;obtain⟨d0,d1,d2,_⟩:=kS S;obtain⟨ts,W⟩:=exQ<|rN s d.lines x;obtain⟨rs,V⟩:=exQ<|qO d.lines x;obtain⟨m,hm⟩:=exQ<|rs.length;rw[V] at T aG;rw[hm] at T;have bp:m<=131072:=by rw[<-hm,<-V,zG];have:=hb.lns;omega
 have bM:=hb.lns;have CAm:Hid (∀w',Calls Tryz.prog 116 #[.agg #[.string (bs s), .slice pl nl cl, .slice (some ⟨gn,0,none⟩) nz cn], .agg #[.int .i64 4, .int .i64 x.ind, .int .i64 (x.fr:Int), .int .i64 (x.til:Int), .int .i64 x.kf, .int .i64 x.kt, .int .i64 x.rf, .int .i64 x.rt, .slice pk mk ck]] w' λe w2=>e= .returned (.slice pr m cr)/\Below w'.heap.size w' w2):=hid (λw'=>by have:=aDO s pl nl cl (.slice (some ⟨gn,0,none⟩) nz cn) ⟨_,_,_,rfl⟩ x (.slice pk mk ck) ⟨_,_,_,rfl⟩ w' (by omega) aF aq bQ bY;rw[T] at this;unfold Sc at this;rw[hk4] at this;exact this.mono (λe w2 h=>⟨h.2,h.1⟩));have CBy:Hid (∀(a b:Int) w',Calls Tryz.prog 70 #[.agg #[.string (bs s), .slice pl nl cl, .slice (some ⟨gn,0,none⟩) nz cn], .agg #[.int .i64 a, .int .i64 b]] w' λe w2=>e= .returned (.string (bs (jG s a b)))/\Below w'.heap.size w' w2):=hid (λa b w'=>Ci s _ _ ⟨_,_,_,rfl⟩ ⟨_,_,_,rfl⟩ a b w' (by have:=hb.txt;omega));have bW:Hid (∀w',Below W2.heap.size W2 w'-> ∀(i:Nat) (r:aO),rs[i]?=some r-> ∃g o,pr=some ⟨g,o,none⟩/\ ∀j u,j<10->(uM r)[j]?=some u->w'.cell? ⟨g,o+i*10+j,none⟩=some u):=hid (λw' h i r hi=>by obtain⟨g,o,e1,e2,e3⟩:=aG i r hi;exact⟨g,o,e1,λj u hj hu=>dT (dT (e3 j u hj hu) bc.out) h⟩);have P:ts.length=m:=by rw[<-W,aDW,V,hm]
 have Z: ∀(i:Nat) (r:aO),rs[i]?=some r->ts[i]?=some (jG s r.sf r.st,r.ind):=λi r hi=>by
  rw[<-W];unfold rN;rw[cW,V,hi];rfl
 have bD: ∀q∈ts,0<=q.2/\q.2<=1099511627776:=λq K=>by
  rw[<-W] at K;unfold rN at K;obtain⟨r,hr,rfl⟩:=pJ.1 K;have bu:r∈d.lines:=by unfold qO at hr;exact List.mem_of_mem_take (List.mem_of_mem_drop hr)
  exact⟨hb.ind r bu,hi64 r bu⟩
 have a4: ∀q∈ts,q.1.length<=65536:=λq K=>by
  rw[<-W] at K;unfold rN at K;obtain⟨r,hr,rfl⟩:=pJ.1 K;have:=Hj s r.sf r.st;have:=hb.txt;simp only[];omega
 obtain⟨Y,hY⟩:=exQ<|yJ s d.lines x;have HY:=hid hY;rw[hY];unfold yJ at hY;rw[W] at hY;have HT:=hid (aT P (aT Z (aT bD a4)));have bE:=hid hY;obtain⟨i0,aY,a6,bg,a5⟩:=info_parts Tryz.infoString;have HM:=hid (aT hm V);have HKX:=hid hk4;have O:=hid hb;clear nll bq bM aF aq T aG P Z bD a4 W V hm hY hz bb al bw am a8 hx hy aL S h2 b1 b2 G bP bU bJ bX hi64 ck' hk4 hb;go_enter Tryz.func71,Tryz.ntmps71;go_upto_region 1 with fail;clear a2;go_upto_region 3 with fail;go_upto_region 4 with fail;clear bd;clear y0 y1 y2 y3 y4 y5 y6 y7 y8 d0 d1 d2;obtain⟨G,M⟩:=ao.out W2 (aB _ _);obtain⟨d0,d1,d2,_⟩:=kS G;obtain⟨n0,n1,n2,n3,n4,n5,n6,n7,n8⟩:=qU M;have hDl:D<W2.heap.size:=aE G;have hXl:X<W2.heap.size:=aE M;clear G M;go_wp2_with fail;refine(CAm.out _).mono ?_;rintro e w3 ⟨rfl,bh⟩;have bo:Hid (Below W2.heap.size W2 w3):=hid (by first | exact bh | exact aC (aB _ _).drew bh);clear bh n0 n1 n2 n3 n4 n5 n6 n7 n8 d0 d1 d2;go_wp2_with fail;go_loopw [42,7,8] (λs42 s7 s8 wr=> ∃i:Nat,s42= .int .i64 (i:Int)/\i<=m/\s7= .int .i64 (lJ (ts.take i))/\Hid (bS W2.heap.size ((ts.take i).map (·.1)) s8 wr)/\Hid (Below W2.heap.size W2 wr)) (λs42 _ _ _=>m-(RowKit.intOf s42).toNat)
 case atStart=>exact⟨0,rfl,cH _,rfl,hid (bS.nil _ _),bo⟩
 case round=>
  clear bo;obtain⟨i,rfl,hi,rfl,HO,v⟩:=hrel;by_cases him:i<m
  ·have dk:decide ((i:Int)<(m:Int))=true:=aN (by omega);obtain⟨r,hr⟩: ∃r,rs[i]?=some r:=⟨_,bH (by have:=HM.out.1;omega)⟩;obtain⟨g,o,rfl,f⟩:=bW.out wr v.out i r hr;have g0:=f 0 _ (by omega) rfl;have g1:=f 1 _ (by omega) rfl;have g2:=f 2 _ (by omega) rfl;have g3:=f 3 _ (by omega) rfl;have g4:=f 4 _ (by omega) rfl;have g5:=f 5 _ (by omega) rfl;have g6:=f 6 _ (by omega) rfl;have g7:=f 7 _ (by omega) rfl;have g8:=f 8 _ (by omega) rfl;have g9:=f 9 _ (by omega) rfl;simp only[Nat.add_zero] at g0;have hii0:(0:Int)<=(i:Int):=(by omega);have hii1:(i:Int)<(m:Int):=(by omega);obtain⟨i1,av⟩:=exQ<|i+1;have af:(i:Int)+1=(i1:Int):=(by omega);have ab:i1<=m:=(by omega);have Z:=HT.out.2.1 i r hr;obtain⟨t,ht⟩:=exQ<|jG s r.sf r.st;have CB:=hid (λw'=>CBy.out r.sf r.st w');rw[ht] at CB Z;have a0:ts.take i1=ts.take i++ [(t,r.ind)]:=by rw[<-av,List.take_add_one,Z];rfl
   have F:=Se t r.ind (ts.take i) (λq K=>(HT.out.2.2.1 q (List.mem_of_mem_take K)).1);rw[<-a0] at F;have an:Hid (((ts.take i).map (·.1)).length=i):=hid (by rw[cA,cB,HT.out.1];omega);have a3:Hid ((ts.take i1).map (·.1)=(ts.take i).map (·.1)++ [t]):=hid (by rw[a0,qE];rfl);obtain⟨c,hc⟩:=exQ<|lJ (ts.take i);have bz:=hid (Hg (ts.take i) (λq K=>HT.out.2.2.1 q (List.mem_of_mem_take K)));rw[hc] at F bz;have bl:=hid F;have b10:=aH wr (.cells (lineA r) 143);have ag:=heap_alloc_new wr (.cells (lineA r) 143);obtain⟨X10,ax⟩:=exQ<|wr.heap.size;obtain⟨W3,aK⟩:=exQ<|wr.alloc (.cells (lineA r) 143);rw[aK] at b10 ag;rw[ax] at ag;have A:=hid b10;have br:=hid ag;unfold lineA at aK;obtain⟨bG,bN⟩:=ao.out W3 (v.out.trans (b10.mono v.out.size));obtain⟨d0,d1,d2,_⟩:=kS bG;have bm:bR W3 X10 r:=ag;obtain⟨l0,l1,l2,l3,l4,l5,l6,l7,l8,l9,_⟩:=bm.cells;rw[hc];have CT:=hid (λw'=>aDR t w');obtain⟨q,K⟩:=exQ<|Lib.trimLeftB t 32;have aU:=aDQ t;rw[K] at CT aU;have bF:=hid aU;clear f hr Z a0 F hc b10 ag bG bN bm K aU ht av;go_upto_region 9 with fail;clear aK ax g0 g1 g2 g3 g4 g5 g6 g7 g8 g9;go_wp2_with fail;refine(CB.out _).mono ?_;rintro e w5 ⟨rfl,aR⟩;have N:Hid (Below W3.heap.size W3 w5):=hid (by first | exact aR | exact aC (aB _ _).drew aR);clear aR l0 l1 l2 l3 l4 l5 l6 l7 l8 l9 d0 d1 d2;have aw:bR w5 X10 r:=(N.out.block X10 (aE br.out)).trans br.out;obtain⟨_,_,_,l3,_⟩:=aw.cells;have aI:Hid (w5.ownsRow W2.heap.size 9 1 u8 i (strCells ((ts.take i).map (·.1)))):=hid (by have:=(HO.out.keep A.out).keep N.out;unfold bS at this;rw[an.out] at this;exact this);clear aw;by_cases hc0:c<0
   ·have dc:decide (c<0)=true:=aN hc0;have F:=bl.out;rw[if_pos hc0] at F;by_cases hq0:q= []
    ·have e0:((bs q).toList== [])=true:=by rw[hq0];exact rH []
     have e0b:(bs q).toList.isEmpty=true:=by rw[hq0];exact pZ []
     rw[if_neg (λh=>h (bF.out.1 hq0))] at F;have hcm:c= -1:=by have:=bz.out;omega
     clear hc0 hq0;have Q:W2.heap.size<=w5.heap.size:=aV v.out.size (aV A.out.size N.out.size);go_wp2_with (first | (go_at_call 76;refine(CT.out _).mono ?_;rintro e w6 ⟨rfl,rfl⟩) | (at_builtin;go_must (refine wP rfl _ _ 22 rfl W2.heap.size 9 i0 _ 1 16 Tryz.underlying22 aY a6 bg a5 rfl (by decide) w5 u8 i (strCells ((ts.take i).map (·.1))) rfl aI.out #[.string (bs t)] rfl rfl (by simp[Value.oneCell']) (by omega) (by decide) Q ?_);intro v1 w7 I az H U ar));have ah:Hid (bS W2.heap.size ((ts.take i1).map (·.1)) v1 w7):=hid (by rw[a3.out];exact bS.snoc (by rw[an.out];exact I));have O:Hid (Below W2.heap.size W2 w7):=hid ((v.out.trans ((A.out.trans (N.out.mono A.out.size)).mono v.out.size)).trans H);go_roundw
     ·exact⟨i1,by rw[<-af],ab,by rw[F],ah,O⟩
     ·simp only[RowKit.intOf];omega
    ·have e0:((bs q).toList== [])=false:=by rw[rH];cases q<;>simp at hq0 ⊢
     have e0b:(bs q).toList.isEmpty=false:=by rw[pZ];cases q<;>simp at hq0 ⊢
     rw[if_pos (λh=>hq0 (bF.out.2 h))] at F;clear hc0 hq0;have Q:W2.heap.size<=w5.heap.size:=aV v.out.size (aV A.out.size N.out.size);go_wp2_with (first | (go_at_call 76;refine(CT.out _).mono ?_;rintro e w6 ⟨rfl,rfl⟩) | (at_builtin;go_must (refine wP rfl _ _ 22 rfl W2.heap.size 9 i0 _ 1 16 Tryz.underlying22 aY a6 bg a5 rfl (by decide) w5 u8 i (strCells ((ts.take i).map (·.1))) rfl aI.out #[.string (bs t)] rfl rfl (by simp[Value.oneCell']) (by omega) (by decide) Q ?_);intro v1 w7 I az H U ar));have ah:Hid (bS W2.heap.size ((ts.take i1).map (·.1)) v1 w7):=hid (by rw[a3.out];exact bS.snoc (by rw[an.out];exact I));have O:Hid (Below W2.heap.size W2 w7):=hid ((v.out.trans ((A.out.trans (N.out.mono A.out.size)).mono v.out.size)).trans H);go_roundw
     ·exact⟨i1,by rw[<-af],ab,by rw[F],ah,O⟩
     ·simp only[RowKit.intOf];omega
   ·have dc:decide (c<0)=false:=aJ hc0;have F:=bl.out;rw[if_neg hc0] at F;clear hc0;have Q:W2.heap.size<=w5.heap.size:=aV v.out.size (aV A.out.size N.out.size);go_wp2_with (first | (fail) | (at_builtin;go_must (refine wP rfl _ _ 22 rfl W2.heap.size 9 i0 _ 1 16 Tryz.underlying22 aY a6 bg a5 rfl (by decide) w5 u8 i (strCells ((ts.take i).map (·.1))) rfl aI.out #[.string (bs t)] rfl rfl (by simp[Value.oneCell']) (by omega) (by decide) Q ?_);intro v1 w7 I az H U ar));have ah:Hid (bS W2.heap.size ((ts.take i1).map (·.1)) v1 w7):=hid (by rw[a3.out];exact bS.snoc (by rw[an.out];exact I));have O:Hid (Below W2.heap.size W2 w7):=hid ((v.out.trans ((A.out.trans (N.out.mono A.out.size)).mono v.out.size)).trans H);go_roundw
    ·exact⟨i1,by rw[<-af],ab,by rw[F],ah,O⟩
    ·simp only[RowKit.intOf];omega
  ·obtain rfl:i=m:=(by omega);have dk:decide ((i:Int)<(i:Int))=false:=aJ (by omega);have aX:ts.take i=ts:=(by rw[<-HT.out.1,List.take_length]);obtain⟨tl,P⟩:=exQ<|ts.map (·.1);obtain⟨c,hc⟩:=exQ<|lJ ts;have hO:=HO.out;rw[aX,P] at hO;rw[aX,hc];have ai:tl.length=i:=by rw[<-P,cA];exact HT.out.1
   have bL:=Hg ts HT.out.2.2.1;rw[hc] at bL;have ay: ∀t∈tl,t.length<=65536:=λt ht=>by
    rw[<-P] at ht;obtain⟨q,K,rfl⟩:=pJ.1 ht;exact HT.out.2.2.2 q K
   obtain⟨C,hC⟩:=exQ<|c.toNat;have hmx:max c 0=(C:Int):=(by omega);obtain⟨pu,cu,bI⟩:=hO.slice;rw[ai] at bI;subst bI;have L:=hid (aT ai (aT ay P));have bn:=hid (aT hc hC);have bj:Hid (bS W2.heap.size (kG C 0 tl) (.slice pu i cu) wr):=hid (by rw[aDV];exact hO);clear hO HO aX hc P ai ay hC;go_wp2_with fail;go_loopw [66,12,13] (λs66 s12 s13 wx=> ∃j:Nat,s66= .int .i64 (j:Int)/\j<=i/\Hid (bS W2.heap.size (kG C j tl) (.slice pu i cu) wx)/\Hid (Below W2.heap.size W2 wx)) (λs66 _ _ _=>i-(RowKit.intOf s66).toNat)
   case atStart=>exact⟨0,rfl,cH _,bj,v⟩
   case round=>
    clear bj v;obtain⟨j,rfl,hj,HO,v⟩:=hrel;by_cases hji:j<i
    ·have dj:decide ((j:Int)<(i:Int))=true:=aN (by omega);have a9:(0:Int)<=(j:Int):=(by omega);have hj1:(j:Int)<(i:Int):=(by omega);obtain⟨t,ht⟩: ∃t,tl[j]?=some t:=⟨_,bH (by rw[L.out.1];exact hji)⟩;have bk:=aDS (c:=C) ht;have hO:=HO.out;obtain⟨g,rfl,bV⟩: ∃g,pu=some ⟨g,0,none⟩/\W2.heap.size<=g:=by
      rcases hO.2 with⟨h0,S⟩ | ⟨g,cap,cur,S,h2,_⟩
      ·rw[Hi,L.out.1] at S;omega
      ·injection S with e1;exact⟨g,e1,h2⟩
     have aa:(kG C j tl).length=i:=by rw[Hi];exact L.out.1
     have aj:bS W2.heap.size (kG C j tl) (.slice (some ⟨g,0,none⟩) (kG C j tl).length cu) wr:=by rw[aa];exact hO
     have f:wr.cell? ⟨g,j,none⟩=some (.string (bs t)):=by
      rw[World.ownsRow.cellAt aj _ (by rw[aa];omega)];unfold strCells;rw[cW,bk];rfl
     have hfz:wr.frozen? ⟨g,j,none⟩=false:=World.ownsRow.frozenAt aj _;have ad:=aj.stored j (t.drop C);rw[<-aDT ht] at ad;have ae:(kG C (j+1) tl).length=i:=by rw[Hi];exact L.out.1
     rw[ae] at ad;have a4:=L.out.2.1 t (bA ht);obtain⟨e,he⟩:=exQ<|min C t.length;have hmn:min (C:Int) (t.length:Int)=(e:Int):=(by omega);have hel:e<=t.length:=(by omega);have hex:(bs t).extract e t.length=bs (t.drop C):=by
      rw[mT,aW];congr 1;rw[<-he];by_cases hle:C<=t.length
      ·rw[Nat.min_eq_left hle,xH (by rw[aZ];exact aD _)]
      ·rw[Nat.min_eq_right (by omega),List.drop_length,List.drop_eq_nil_of_le (by omega)];simp
     have hsz:=aQ t;have he1:(e:Int)<=(t.length:Int):=(by omega);have he0:(0:Int)<=(e:Int):=(by omega);obtain⟨j1,au⟩:=exQ<|j+1;have hj1z:(j:Int)+1=(j1:Int):=(by omega);rw[au] at ad;have bT:=hid ad;have O:=hid (v.out.setCell (p:=⟨g,j,none⟩) bV (.string (bs (t.drop C))));clear ht bk hO aa aj ad ae he au;go_wp2_with fail;go_roundw
     ·exact⟨j1,rfl,by omega,bT,O⟩
     ·simp only[RowKit.intOf];omega
    ·obtain rfl:j=i:=(by omega);have dj:decide ((j:Int)<(j:Int))=false:=aJ (by omega);have hO:bS W2.heap.size (tl.map (·.drop C)) (.slice pu j cu) wr:=by
      have:=HO.out;rw[show kG C j tl=tl.map (·.drop C) by rw[<-L.out.1,aDU]] at this;exact this
     obtain⟨J,hJ⟩:=exQ<|qN (tl.map (·.drop C));have ba: ∀t∈tl.map (·.drop C),t.length<=65536:=λt ht=>by
      obtain⟨q,K,rfl⟩:=pJ.1 ht;have:=L.out.2.1 q K;simp only[aZ];omega
     have a1:(tl.map (·.drop C)).length=j:=by rw[cA];exact L.out.1
     have bZ:=Hk 65536 _ ba;rw[hJ,a1] at bZ;have bB:j*(65536+1)<=131072*65537:=Nat.mul_le_mul_right _ bp;have hJsz:=aQ J;have CJ:Hid (∀w',Below wr.heap.size wr w'->Calls Tryz.prog 117 #[.slice pu j cu, .string ⟨#[10]⟩] w' λe w2=>e= .returned (.string (bs J))/\Below w'.heap.size w' w2):=hid (λw' hb=>by have:=aDX (hO.keep hb) (by rw[a1];exact bp) ba;rw[hJ] at this;exact this);have E:=bE.out;rw[show (ts.map λt=>t.1.drop (lJ ts).toNat)=tl.map (·.drop C) by rw[<-L.out.2.2,List.map_map,bn.out.1,bn.out.2];rfl,hJ] at E;have ap:=hid E;obtain⟨G,M⟩:=ao.out wr v.out;have bt:Hid (Below w.heap.size w wr):=hid (bc.out.trans (v.out.mono bc.out.size));clear hO hJ ba a1 bB E bE HO G M;have hJl2:J.length<=8590065664:=(by omega);go_wp2_with fail;refine(CJ.out _ (by first | exact aB _ _ | exact(aB _ _).drew)).mono ?_;rintro e w6 ⟨rfl,aS⟩;have bx:Hid (Below wr.heap.size wr w6):=hid (by first | exact aS | exact aC (aB _ _).drew aS);obtain⟨G,M⟩:=ao.out w6 (v.out.trans (bx.out.mono v.out.size));obtain⟨d0,d1,d2,_⟩:=kS G;obtain⟨n0,n1,n2,n3,n4,n5,n6,n7,n8⟩:=qU M;have ak:Hid (Below w.heap.size w w6):=hid (bt.out.trans (bx.out.mono bt.out.size));clear aS G M;by_cases a9:j=0
     ·subst a9;have E:=ap.out;rw[if_neg (λe=>e.1 (List.length_eq_zero_iff.1 HT.out.1)),List.append_nil] at E;have HF:=hid E;clear E;go_wp2_with fail;go_ret2;rw[<-HF.out];exact⟨rfl,by first | exact ak.out | exact ak.out.drew⟩
     ·have dj2:decide ((0:Int)<(j:Int))=true:=aN (by omega);have dj3:decide (0<j)=true:=aN (by omega);have bf:ts≠ []:=λe=>a9 (by rw[<-HT.out.1,e];rfl);obtain⟨rb,bi⟩:=exQ<|jG s x.rf x.rt;have CR:=hid (λw'=>CBy.out x.rf x.rt w');have E:=ap.out;rw[bi] at CR E;by_cases hrb2:rb= [124]
      ·rw[if_pos ⟨bf,hrb2⟩] at E;have e1:=Cd hrb2;have HF:=hid E;have hcat:bs J++⟨#[10]⟩=bs (J++ [10]):=(mU J [10]).symm;clear E bf bi hrb2;go_wp2_with fail;refine(CR.out _).mono ?_;rintro e w7 ⟨rfl,R⟩;have a7:Hid (Below w6.heap.size w6 w7):=hid (by first | exact R | exact aC (aB _ _).drew R);clear R;go_wp2_with fail;go_ret2;rw[<-HF.out];exact⟨rfl,aC ak.out a7.out⟩
      ·rw[if_neg (λe=>hrb2 e.2),List.append_nil] at E;have e1:=zB hrb2;have HF:=hid E;clear E bf bi hrb2;go_wp2_with fail;refine(CR.out _).mono ?_;rintro e w7 ⟨rfl,R⟩;have a7:Hid (Below w6.heap.size w6 w7):=hid (by first | exact R | exact aC (aB _ _).drew R);clear R;go_wp2_with fail;go_ret2;rw[<-HF.out];exact⟨rfl,aC ak.out a7.out⟩
end Go.Proofs.YtjnooaljcgkfpaaGreatDoor
