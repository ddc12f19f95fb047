import Derived.Test.YtaifnmjjpddikaaGreatDoorRl4
import Derived.Test.YtaifnmjjpddikaaGreatDoorRl5
import Derived.Test.YtaifnmjjpddikaaGreatDoorRl10
import Derived.Test.YtaifnmjjpddikaaGreatDoorRl12
import Derived.Test.YtaifnmjjpddikaaGreatDoorRl8
import Derived.Deep.RegionHeld3
import Derived.Deep.RegionLaw
import Derived.Deep.DeepCutAuto
set_option maxRecDepth 100000
set_option maxHeartbeats 4000000
namespace Go.Proofs.YtaifnmjjpddikaaGreatDoor
set_option linter.unusedSimpArgs false
set_option linter.unusedVariables false
open Go.RowKit Go.Maps Go.WideMaps
open Go.Lib hiding intOf
def bU (w:World):Prop:=nY w/\cM w
theorem bU.keep {w w':World} (h:bU w) (hb:Below w.heap.size w w'):bU w':=⟨h.1.keep hb,h.2.keep hb⟩
theorem bU.tabs {w:World} (h:bU w):bZ w:=h.1.1.1
theorem Kl (txt:aA) (a b:Nat):wM (bs txt) (a:Int) (b:Int)=bs (cZ txt (a,b)):=by
 unfold wM cZ;simp only[];have sl:=aT txt;by_cases h:b<a\/txt.length<b
 ·rw[if_pos h,if_pos (by rcases h with h | h;exact .inr (.inl (by omega));exact .inr (.inr (by omega)))];rfl
 ·rw[if_neg h,if_neg (by omega),fT,fT,lG,aZ,List.drop_take]
theorem uU (txt:aA) (s:Sp):(cZ txt s).length<=txt.length:=by
 unfold cZ;split
 ·exact bM _
 ·rw[bB,cD];omega
theorem Wu (s:aA):(cL s).1.dig.length<=1000:=by
 by_cases he:(cL s).2=0
 ·exact Cq s he
 ·unfold cL at he ⊢;cases hl:iN s with
  | none=>exact bM _
  | some x=>
   rw[hl] at he;simp only[] at he ⊢;obtain⟨q,a⟩:=exQ<|nL x;rw[a] at he ⊢;unfold nL at a;simp only[] at a
   (repeat' split at a)<;>subst a<;>first | exact bM _ | exact absurd rfl he
abbrev kG (W:World) (D:Nat) (txt:ByteArray) (p:Option Addr) (n c g k:Nat) (k1 k2:Int) (w:World):Prop:=
 (w.cell? ⟨D,0,none⟩=some (.string txt)/\w.cell? ⟨D,1,none⟩=some (.slice p n c)/\w.cell? ⟨g,k*7+3,none⟩=some (.int .i64 k1)/\w.cell? ⟨g,k*7+4,none⟩=some (.int .i64 k2))/\Hid (Below W.heap.size W w)
section
variable {W w w2:World}{D:Nat}{txt:ByteArray}{p:Option Addr}{n c g k:Nat}{k1 k2:Int}
theorem kG.bel (h:kG W D txt p n c g k k1 k2 w):Below W.heap.size W w:=h.2.out
theorem kG.step (h:kG W D txt p n c g k k1 k2 w) (hb:Below w.heap.size w w2):kG W D txt p n c g k k1 k2 w2:=by
 obtain⟨⟨d,a,b,f⟩,e⟩:=h;exact⟨⟨bH d hb,bH a hb,bH b hb,bH f hb⟩,hid (aC e.out hb)⟩
theorem kG.drew (h:kG W D txt p n c g k k1 k2 w):kG W D txt p n c g k k1 k2 w.drew:=h.step (aB _ _).drew
end
theorem Wv (txt:aA) (ns:List aD) (p:Option Addr) (c k:Nat) (x:aD) (w:World) (hx:ns[k]?=some x) (hn:sV w p ns) (hN:ns.length<=65536) (hs:txt.length<=1073741824) (hV:bU w):
  Calls Tryz.prog 31 #[.agg #[.string (bs txt), .slice p ns.length c], .int .i64 (k:Int)] w λe w'=>e= .returned (.string (bs (cE txt ns k)))/\Below w.heap.size w w':=by
 obtain⟨g,rfl,kv,pv,n0,n1,n2,n3,n4,n5,n6,_,_⟩:=hn k x hx;have o:=(aR.1 hx).1;obtain⟨D,m⟩:=exQ<|w.heap.size;obtain⟨W1,b⟩:=exQ<|w.alloc (.cells #[.string (bs txt), .slice (some ⟨g,0,none⟩) ns.length c] 49);have a:Hid (Below w.heap.size w W1):=hid (by rw[<-b];exact aI _ _);have d:Hid (uO W1 D (bs txt) (some ⟨g,0,none⟩) ns.length c):=hid (by rw[<-b,<-m];exact uO.new w _ _ _ _);have m3:=bH n3 a.out;have m4:=bH n4 a.out;have f:cE txt ns k=(dM (cZ txt x.key)).1:=by unfold cE;rw[hx]
 rw[f];have CS1:Hid (∀w',Calls Tryz.prog 30 #[.agg #[.string (bs txt), .slice (some ⟨g,0,none⟩) ns.length c], .agg #[.int .i64 (x.key.1:Int), .int .i64 (x.key.2:Int)]] w' λe w2=>e= .returned (.string (bs (cZ txt x.key)))/\Below w'.heap.size w' w2):=hid (λw'=>by have:=Ju (bs txt) (.slice (some ⟨g,0,none⟩) ns.length c) rfl (x.key.1:Int) (x.key.2:Int) w';rw[Kl] at this;exact this);have hsl:=uU txt x.key;have j:=hid (hV.keep a.out);have CU:Hid (∀w',Below W1.heap.size W1 w'->Calls Tryz.prog 65 #[.string (bs (cZ txt x.key))] w' λe w2=>e=lZ (dM (cZ txt x.key))/\Below w'.heap.size w' w2):=hid (λw' i=>xV _ w' (by omega) (j.out.keep i).2 (j.out.keep i).tabs);unfold lZ at CU;obtain⟨⟨U,ua,ue⟩,h⟩:=exQ<|dM (cZ txt x.key);rw[h] at CU;rw[h];have hk0:(0:Int)<=(k:Int):=by omega
 have hk1:(k:Int)<(ns.length:Int):=by omega
 have c0:W1.cell? ⟨D,0,none⟩=some (.string (bs txt)):=by have:=d.out;unfold uO at this;simp[World.cell?,this]
 have c1:W1.cell? ⟨D,1,none⟩=some (.slice (some ⟨g,0,none⟩) ns.length c):=by have:=d.out;unfold uO at this;simp[World.cell?,this]
 have HS0:kG W1 D (bs txt) (some ⟨g,0,none⟩) ns.length c g k (x.key.1:Int) (x.key.2:Int) W1:=⟨⟨c0,c1,m3,m4⟩,hid (aB _ _)⟩;clear hn n0 n1 n2 n3 n4 n5 n6 hV h f hx o;go_enter Tryz.func31,Tryz.ntmps31;go_upto_region 1 with fail;clear b;go_region_held3 (λw'=>kG W1 D (bs txt) (some ⟨g,0,none⟩) ns.length c g k (x.key.1:Int) (x.key.2:Int) w') ((first | exact kG.drew (by assumption) | exact kG.step (by assumption) (by assumption) | assumption))
  ((first
   | (go_at_call 30;(refine(CS1.out _).mono ?_);rintro e w5 ⟨rfl,hb5⟩)
   | (go_at_call 65;(refine(CU.out _ (kG.bel (by assumption:kG W1 D (bs txt) (some ⟨g,0,none⟩) ns.length c g k (x.key.1:Int) (x.key.2:Int) _))).mono ?_);rintro e w6 ⟨rfl,hb6⟩)))
 all_goals
  have l:Hid (Below w.heap.size w w6):=hid (aC a.out (kG.bel (by assumption:kG W1 D (bs txt) (some ⟨g,0,none⟩) ns.length c g k (x.key.1:Int) (x.key.2:Int) w6)));go_wp2_with fail;go_ret;exact⟨rfl,by first | exact l.out | (rw[<-m];exact l.out)⟩
theorem Ww (kd:Nat) (s:aA) (w:World) (hs:s.length<=1073741824) (hV:bU w):
  Calls Tryz.prog 29 #[.int .i64 (kd:Int), .string (bs s)] w λe w'=>e= .returned (.string (bs (mD kd s)))/\Below w.heap.size w w':=by
 unfold mD;by_cases h2:kd=2
 ·subst h2;rw[if_pos rfl];go_enter Tryz.func29,Tryz.ntmps29;go_wp2_with fail;go_ret;exact⟨rfl,aB _ _⟩
 have d2:((kd:Int)==2)=false:=aK.2 (by omega);rw[if_neg h2];by_cases h3:kd=3
 ·subst h3;rw[if_pos rfl];have CP:=hid (λw=>yM s w (by omega));have b:=Wu s;obtain⟨P,hP⟩:=exQ<|cL s;rw[hP] at CP b;rw[hP];obtain⟨n,er⟩:=P;simp only[] at b ⊢;have m:=hid hV;have CT:Hid (∀w',Below w.heap.size w w'->Calls Tryz.prog 64 #[.agg #[.bool n.neg, .string (bs n.dig), .int .i64 n.exp]] w' λe w2=>e= .returned (.string (bs (eX n)))/\Below w'.heap.size w' w2):=hid (λw' o=>Bu n w' (by omega) (m.out.keep o).1.1.2);clear hV hP b h2;go_enter Tryz.func29,Tryz.ntmps29;go_wp2_with fail;refine(CP.out _).mono ?_;unfold uM gG;rintro e w1 ⟨rfl,a⟩;have h:Below w.heap.size w (w1.alloc (.cells #[.bool n.neg, .string (bs n.dig), .int .i64 n.exp] 113)):=aC a (aI _ _);have f:=hid h;clear a h;go_wp2_with fail;refine(CT.out _ f.out).mono ?_;rintro e w3 ⟨rfl,d⟩;have l:=hid (aC f.out d);clear d;go_wp2_with fail;go_ret;exact⟨rfl,l.out⟩
 have d3:((kd:Int)==3)=false:=aK.2 (by omega);rw[if_neg h3];by_cases h4:kd=4
 ·subst h4;rw[if_pos rfl];have CU:=hid (xV s w (by omega) hV.2 hV.tabs);unfold lZ at CU;obtain⟨⟨U,ua,ue⟩,i⟩:=exQ<|dM s;rw[i] at CU;rw[i];clear i hV;go_enter Tryz.func29,Tryz.ntmps29;go_wp2_with fail;refine CU.out.mono ?_;rintro e w1 ⟨rfl,a⟩;have j:=hid a;clear a;go_wp2_with fail;go_ret;exact⟨rfl,j.out⟩
 have d4:((kd:Int)==4)=false:=aK.2 (by omega);rw[if_neg h4];go_enter Tryz.func29,Tryz.ntmps29;go_wp2_with fail;go_ret;exact⟨rfl,aB _ _⟩
def wS (W W0:World) (kd:Int) (sl tx:aA):Nat->Value->World->Prop
 | 0,_,w'=>Below W0.heap.size W0 w'
 | 1,c,w'=>c= .string (bs sl)/\Below W0.heap.size W0 w'
 | 2,c,w'=>c= .string (bs tx)/\Below W0.heap.size W0 w'
 | 3,c,w'=>c= .agg #[.int .i64 kd, .string (bs tx), .slice none 0 0, .slice none 0 0]/\Below W0.heap.size W0 w'
 | _,c,w'=> ∃Y,c= .pointer (some ⟨Y,0,none⟩)/\CS W Y kd tx [] [] (.slice none 0 0) (.slice none 0 0) w'
theorem wS.keep {W W0:World}{kd:Int}{sl tx:aA}{k:Nat}{c:Value}{w' w2:World} (h:wS W W0 kd sl tx k c w') (hb:Below w'.heap.size w' w2):wS W W0 kd sl tx k c w2:=by
 match k,h with
 | 0,h=>exact aC (show Below W0.heap.size W0 w' from h) hb
 | 1,h=>exact⟨h.1,aC h.2 hb⟩
 | 2,h=>exact⟨h.1,aC h.2 hb⟩
 | 3,h=>exact⟨h.1,aC h.2 hb⟩
 | k+4,⟨Y,h1,h2⟩=>exact⟨Y,h1,h2.keep hb⟩
theorem Km {P:Nat->Nat->Prop} (hlt: ∀k m,P k m->k<m) {hi N:Nat}: ∀ {l:List Nat}{a:Nat},cO P l a hi->(∀k∈l,k<N)->a<=N->a+l.length<=N
 | [],a,_,_,h=>h
 | y::l,a,h,hm,_=>by
  obtain⟨rfl,m,h2,h3⟩:=h;have h4:=hlt _ _ h2;have h5:=hm y gS;cases l with
  | nil=>simp only[dU];omega
  | cons z l=>
   have h6:=hm z (List.mem_cons_of_mem _ gS);have h7:z=m:=h3.1;have:=Km hlt h3 (λk b=>hm k (List.mem_cons_of_mem _ b)) (by omega);rw[aV];omega
theorem Kn {ns:List aD}{lv k m:Nat}{x:aD} (hT:dT ns (lv+1) k m) (hx:ns[k]?=some x) (hN:ns.length<=65536):x.kids.length<=65536:=by
 have hk:=(aR.1 hx).1;have b:=λq (hq:q∈x.kids)=>(hT.kid hx hq).2;obtain⟨x',a,d⟩:=hT;rw[hx] at a;injection a with e;subst e;have:=Km (λ_ _=>dT.lt) d b (by omega);omega
def iL (txt:aA) (ns:List aD) (kd:Nat) (l:List Nat):List aA:=if kd=6 then l.map (cE txt ns) else []
theorem Wx (txt:aA) (ns:List aD) (kd:Nat):iL txt ns kd []= []:=by unfold iL;split<;>rfl
def Cs (txt:aA) (ns:List aD) (p:Option Addr) (c:Nat) (lv:Nat):Prop:= ∀(k m:Nat) (lev:Int) (w:World),dT ns lv k m->Hid (lev=33-(lv:Int))->lv<=32->sV w p ns->bU w->
 Calls Tryz.prog 16 #[.agg #[.string (bs txt), .slice p ns.length c], .int .i64 (k:Int), .int .i64 lev] w (jN (bN txt ns lv k) w)
theorem tA {w:World}{X:Nat}{cs:Array Value}{t:TypeId} (h:w.heap[X]?=some (.cells cs t (0,0))) (i:Nat):w.cell? ⟨X,i,none⟩=cs[i]?:=by
 simp[World.cell?,h]
theorem Wy (txt:aA) (ns:List aD) (p:Option Addr) (c:Nat) (hN:ns.length<=65536) (hs:txt.length<=1073741824) (lv:Nat) (IH:Cs txt ns p c lv):Cs txt ns p c (lv+1):=by
 intro k m lev w hT az hlv hn hV;obtain⟨x,K⟩: ∃x,ns[k]?=some x:=by obtain⟨x,K,_⟩:=hT;exact⟨x,K⟩
 have a8:=hid (λq (P:q∈x.kids)=>hT.kid K P);obtain⟨g,hp,kv,pv,n0,n1,n2,n3,n4,n5,n6,n7,n8⟩:=hn k x K;obtain⟨pq,cq,rfl,P⟩:=n7;obtain⟨pz,cz,rfl,_⟩:=n8;have hk:=(aR.1 K).1;have ay:bN txt ns (lv+1) k= .mk (x.kind:Int) (mD x.kind (cZ txt (x.sf,x.st))) (iL txt ns x.kind x.kids) (x.kids.map (bN txt ns lv)):=by rw[bN,K];rfl
 rw[ay];have bL:=hp;subst hp;obtain⟨D,hD⟩:=exQ<|w.heap.size;obtain⟨W1,ar⟩:=exQ<|w.alloc (.cells #[.string (bs txt), .slice (some ⟨g,0,none⟩) ns.length c] 49);obtain⟨R,B⟩:=exQ<|W1.heap.size;obtain⟨W2,bp⟩:=exQ<|W1.alloc (.cells #[.int .i64 0, .string ⟨#[]⟩, .slice none 0 0, .slice none 0 0] 26);obtain⟨X,hX⟩:=exQ<|W2.heap.size;obtain⟨W3,aT⟩:=exQ<|W2.alloc (.cells #[.int .i64 (x.kind:Int), .int .i64 (x.sf:Int), .int .i64 (x.st:Int), .int .i64 (x.key.1:Int), .int .i64 (x.key.2:Int), .slice pq x.kids.length cq, .slice pz x.pcs.length cz] 81);have bt:Below w.heap.size w W1:=by rw[<-ar];exact aI _ _
 have O:Below W1.heap.size W1 W2:=by rw[<-bp];exact aI _ _
 have ae:Below W2.heap.size W2 W3:=by rw[<-aT];exact aI _ _
 have Q:=hid (aC bt O);have ai:=hid (aC Q.out ae);have aw:W1.heap[D]?=some (.cells #[.string (bs txt), .slice (some ⟨g,0,none⟩) ns.length c] 49):=by rw[<-ar,<-hD];exact heap_alloc_new w _
 have av:=aF aw;have au:Hid (W3.heap[D]?=some (.cells #[.string (bs txt), .slice (some ⟨g,0,none⟩) ns.length c] 49)):=hid ((ae.block D (fV av O.size)).trans ((O.block D av).trans aw));have aV:W2.heap[R]?=some (.cells #[.int .i64 0, .string (bs []), .slice none 0 0, .slice none 0 0] 26):=by rw[<-bp,<-B];exact heap_alloc_new W1 _
 have aS:Hid (W3.heap[R]?=some (.cells #[.int .i64 0, .string (bs []), .slice none 0 0, .slice none 0 0] 26)):=hid ((ae.block R (aF aV)).trans aV);have a7:Hid (W3.heap[X]?=some (.cells #[.int .i64 (x.kind:Int), .int .i64 (x.sf:Int), .int .i64 (x.st:Int), .int .i64 (x.key.1:Int), .int .i64 (x.key.2:Int), .slice pq x.kids.length cq, .slice pz x.pcs.length cz] 81)):=hid (by rw[<-aT,<-hX];exact heap_alloc_new W2 _);have a9:R<W3.heap.size:=aF aS.out;have HQ:Hid (∀(w':World),Below W3.heap.size W3 w'-> ∀(j q:Nat),x.kids[j]?=some q-> ∃gk,pq=some ⟨gk,0,none⟩/\w'.cell? ⟨gk,j,none⟩=some (.int .i64 (q:Int))):=hid (λw' C j q hj=>by obtain⟨gk,e1,e2⟩:=P j q hj;exact⟨gk,e1,bH (bH e2 ai.out) C⟩);have bo:Hid (∀w',Below W3.heap.size W3 w'->sV w' (some ⟨g,0,none⟩) ns):=hid (λw' C=>(hn.keep ai.out).keep C);have HV:Hid (∀w',Below W3.heap.size W3 w'->bU w'):=hid (λw' C=>(hV.keep ai.out).keep C);have bJ:Hid (∀w',Below W3.heap.size W3 w'-> ∀q∈x.kids,Calls Tryz.prog 16 #[.agg #[.string (bs txt), .slice (some ⟨g,0,none⟩) ns.length c], .int .i64 (q:Int), .int .i64 (lev+1)] w' (jN (bN txt ns lv q) w')):=hid (λw' C q P=>by obtain⟨⟨m',bD⟩,_⟩:=a8.out q P;exact IH q m' (lev+1) w' bD (hid (by rw[az.out];omega)) (by omega) (bo.out w' C) (HV.out w' C));have bA:Hid (∀w',Below W3.heap.size W3 w'-> ∀q∈x.kids,Calls Tryz.prog 31 #[.agg #[.string (bs txt), .slice (some ⟨g,0,none⟩) ns.length c], .int .i64 (q:Int)] w' λe w2=>e= .returned (.string (bs (cE txt ns q)))/\Below w'.heap.size w' w2):=hid (λw' C q P=>by obtain⟨_,bx⟩:=a8.out q P;exact Wv txt ns _ c q _ w' (bE bx) (bo.out w' C) hN hs (HV.out w' C));obtain⟨sl,aE⟩:=exQ<|cZ txt (x.sf,x.st);have bk:=uU txt (x.sf,x.st);rw[aE] at bk ⊢;have CS1:Hid (∀w',Calls Tryz.prog 30 #[.agg #[.string (bs txt), .slice (some ⟨g,0,none⟩) ns.length c], .agg #[.int .i64 (x.sf:Int), .int .i64 (x.st:Int)]] w' λe w2=>e= .returned (.string (bs sl))/\Below w'.heap.size w' w2):=hid (λw'=>by have:=Ju (bs txt) (.slice (some ⟨g,0,none⟩) ns.length c) rfl (x.sf:Int) (x.st:Int) w';rw[Kl,aE] at this;exact this);obtain⟨tx,aG⟩:=exQ<|mD x.kind sl;rw[aG];have CT:Hid (∀w',Below W3.heap.size W3 w'->Calls Tryz.prog 29 #[.int .i64 (x.kind:Int), .string (bs sl)] w' λe w2=>e= .returned (.string (bs tx))/\Below w'.heap.size w' w2):=hid (λw' C=>by have:=Ww x.kind sl w' (by omega) (HV.out w' C);rw[aG] at this;exact this);have hk0:(0:Int)<=(k:Int):=by omega
 have hk1:(k:Int)<(ns.length:Int):=by omega
 have hl0:(-1:Int)<=lev/\lev<=32:=by have:=az.out;omega
 have hl1:decide ((32:Int)<lev)=false:=aH (by omega);have hl2:IntKind.i64.wrap (lev+1)=lev+1:=IntWalk.i64_in _ (by omega);have hkl:x.kids.length<=65536:=Kn hT K hN;have e0:W2.cell? ⟨g,k*7,none⟩=some (.int .i64 (x.kind:Int)):=bH n0 Q.out;have e1:W2.cell? ⟨g,k*7+1,none⟩=some (.int .i64 (x.sf:Int)):=bH n1 Q.out;have e2:W2.cell? ⟨g,k*7+2,none⟩=some (.int .i64 (x.st:Int)):=bH n2 Q.out;have e3:W2.cell? ⟨g,k*7+3,none⟩=some (.int .i64 (x.key.1:Int)):=bH n3 Q.out;have e4:W2.cell? ⟨g,k*7+4,none⟩=some (.int .i64 (x.key.2:Int)):=bH n4 Q.out;have e5:W2.cell? ⟨g,k*7+5,none⟩=some (.slice pq x.kids.length cq):=bH n5 Q.out;have e6:W2.cell? ⟨g,k*7+6,none⟩=some (.slice pz x.pcs.length cz):=bH n6 Q.out;have c1:W2.cell? ⟨D,1,none⟩=some (.slice (some ⟨g,0,none⟩) ns.length c):=by rw[tA ((O.block D av).trans aw) 1];rfl
 have hDR:D<R:=by rw[<-B,<-hD,<-ar];simp
 obtain⟨kd,bi⟩: ∃kd:Int,(x.kind:Int)=kd:=⟨_,rfl⟩;have bc:x.kind=6↔kd=6:=by omega
 have H6:=hid bc;rw[bi] at a7 aT CT e0 ⊢;clear hn n0 n1 n2 n3 n4 n5 n6 hV ay K hk hT bt O ae aw aV aE aG bL P av bi bc IH;go_enter Tryz.func16,Tryz.ntmps16;go_upto_region 1 with fail;clear ar B;go_upto_region 2 with fail;obtain⟨W0,H⟩:=exQ<|W3.drew;have bb:Below W3.heap.size W3 W0:=by rw[<-H];exact(aB _ _).drew
 have a6:=hid bb;have ab:Hid (∀w',Below W3.heap.size W3 w'->(w'.cell? ⟨X,0,none⟩=some (.int .i64 kd)/\w'.cell? ⟨X,1,none⟩=some (.int .i64 (x.sf:Int))/\w'.cell? ⟨X,2,none⟩=some (.int .i64 (x.st:Int))/\w'.cell? ⟨X,5,none⟩=some (.slice pq x.kids.length cq))/\w'.cell? ⟨D,0,none⟩=some (.string (bs txt))/\w'.cell? ⟨D,1,none⟩=some (.slice (some ⟨g,0,none⟩) ns.length c)):=hid (λw' C=>by have K:=(C.block X (aF a7.out)).trans a7.out;have hd:=(C.block D (aF au.out)).trans au.out;exact⟨⟨by rw[tA K];rfl,by rw[tA K];rfl,by rw[tA K];rfl,by rw[tA K];rfl⟩,by rw[tA hd];rfl,by rw[tA hd];rfl⟩);obtain⟨SA,y⟩: ∃S:World->Prop,(λw'=>((w'.cell? ⟨X,0,none⟩=some (.int .i64 kd)/\w'.cell? ⟨X,1,none⟩=some (.int .i64 (x.sf:Int))/\w'.cell? ⟨X,2,none⟩=some (.int .i64 (x.st:Int))/\w'.cell? ⟨D,0,none⟩=some (.string (bs txt))/\w'.cell? ⟨D,1,none⟩=some (.slice (some ⟨g,0,none⟩) ns.length c))/\W0.heap.size<=w'.heap.size))=S:=⟨_,rfl⟩;have E:Hid (∀w',Below W0.heap.size W0 w'->SA w'):=hid (λw' C=>by rw[<-y];obtain⟨⟨a0,a1,a2,_⟩,a3,a4⟩:=ab.out w' (aC bb C);exact⟨⟨a0,a1,a2,a3,a4⟩,C.size⟩);have br:Hid (∀w1 w2,SA w1->Below w1.heap.size w1 w2->SA w2):=hid (λw1 w2 h1 C=>by rw[<-y] at h1 ⊢;obtain⟨⟨a0,a1,a2,a3,a4⟩,a5⟩:=h1;exact⟨⟨bH a0 C,bH a1 C,bH a2 C,bH a3 C,bH a4 C⟩,aY a5 C.size⟩);clear e0 e1 e2 e3 e4 e5 e6 c1;have N:Tryz.prog.follows .mixedOrders=true:=by kernel_rfl
 refine Bk N [16,17,18,19,20,21,22,23,24,25,8] [7,8,9,11] 10 (qM W0) 74 rfl (by kernel_rfl) (by kernel_rfl) (by kernel_rfl) (λiz=>match iz with | 0=> .pointer (some ⟨X,0,none⟩) | 1=> .int .i64 kd | 2=> .pointer (some ⟨X,0,none⟩) | 3=> .int .i64 kd | 4=> .agg #[.string (bs txt), .slice (some ⟨g,0,none⟩) ns.length c] | 5=> .pointer (some ⟨X,1,none⟩) | 6=> .agg #[.int .i64 (x.sf:Int), .int .i64 (x.st:Int)] | _=>undef) SA (wS W3 W0 kd sl tx) (by rw[H];exact E.out _ (aB _ _)) (by rw[H];exact aB _ _) ?_ ?_
 ·intro d a w' iq o' ho A b G l R' B;have ap:iq<12:=(cJ.1 ho).1;have q3:a.tmps[3]?.getD undef= .pointer (some ⟨D,0,none⟩):=by rw[<-aO];exact G 3 (by decide)
  have q7:a.tmps[7]?.getD undef= .pointer (some ⟨X,0,none⟩):=by rw[<-aO];exact G 7 (by decide)
  clear G;have z:=b;have o:=ho;have ao:iq=0\/iq=1\/iq=2\/iq=3\/iq=4\/iq=5\/iq=6\/iq=7\/iq=8\/iq=9\/iq=10\/iq=11:=by omega
  clear ap;rcases ao with rfl|rfl|rfl|rfl|rfl|rfl|rfl|rfl|rfl|rfl|rfl|rfl<;>simp only[eC,dV,cH,cN] at ho<;>subst ho
  ·go_simp;exact B _ _ (l.pure (by decide) o z rfl (by decide) (by decide) (by decide) rfl)
  ·simp[Region.binds] at b;have c16:a.tmps[16]?.getD undef= .pointer (some ⟨X,0,none⟩):=by rw[<-aO];exact l.cl 0 (by decide) (by decide) (by decide) (by simp[b])
   have r:=l.early (f:=12) (i:=1) (by kernel_rfl) A;rw[<-y] at r;obtain⟨⟨s0,s1,s2,s3,s4⟩,_⟩:=r;go_simp;exact B _ _ (l.pure (by decide) o z rfl (by decide) (by decide) (by decide) rfl)
  ·go_simp;exact B _ _ (l.pure (by decide) o z rfl (by decide) (by decide) (by decide) rfl)
  ·simp[Region.binds] at b;have c18:a.tmps[18]?.getD undef= .pointer (some ⟨X,0,none⟩):=by rw[<-aO];exact l.cl 2 (by decide) (by decide) (by decide) (by simp[b])
   have r:=l.early (f:=12) (i:=3) (by kernel_rfl) A;rw[<-y] at r;obtain⟨⟨s0,s1,s2,s3,s4⟩,_⟩:=r;go_simp;exact B _ _ (l.pure (by decide) o z rfl (by decide) (by decide) (by decide) rfl)
  ·have r:=l.early (f:=12) (i:=4) (by kernel_rfl) A;rw[<-y] at r;obtain⟨⟨s0,s1,s2,s3,s4⟩,_⟩:=r;go_simp;exact B _ _ (l.pure (by decide) o z rfl (by decide) (by decide) (by decide) rfl)
  ·go_simp;exact B _ _ (l.pure (by decide) o z rfl (by decide) (by decide) (by decide) rfl)
  ·simp[Region.binds] at b;have c21:a.tmps[21]?.getD undef= .pointer (some ⟨X,1,none⟩):=by rw[<-aO];exact l.cl 5 (by decide) (by decide) (by decide) (by simp[b])
   have r:=l.early (f:=12) (i:=6) (by kernel_rfl) A;rw[<-y] at r;obtain⟨⟨s0,s1,s2,s3,s4⟩,_⟩:=r;go_simp;exact B _ _ (l.pure (by decide) o z rfl (by decide) (by decide) (by decide) rfl)
  ·simp[Region.binds] at b;have c20:a.tmps[20]?.getD undef= .agg #[.string (bs txt), .slice (some ⟨g,0,none⟩) ns.length c]:=by rw[<-aO];exact l.cl 4 (by decide) (by decide) (by decide) (by simp[b])
   have c22:a.tmps[22]?.getD undef= .agg #[.int .i64 (x.sf:Int), .int .i64 (x.st:Int)]:=by rw[<-aO];exact l.cl 6 (by decide) (by decide) (by decide) (by simp[b])
   have u:=l.at2 (j:=0) rfl A (.inl rfl);have L:Below W0.heap.size W0 w':=u;go_simp;go_at_call 30;refine(CS1.out _).mono ?_;rintro e w5 ⟨rfl,I⟩;have F:=aC L I;exact B _ _ (l.eff2 (by decide) (by decide) 0 o z rfl A (.inl rfl) rfl (by decide) (λ_ x K=>qM.keep K I) (λ_=>E.out _ F) ⟨rfl,F⟩)
  ·simp[Region.binds] at b;have c19:a.tmps[19]?.getD undef= .int .i64 kd:=by rw[<-aO];exact l.cl 3 (by decide) (by decide) (by decide) (by simp[b])
   have t:d 7=true:=by first | first | exact b | exact b.1 | exact b.2 | exact b.2.1 | exact b.2.2 | exact b.2.2.1 | exact b.2.2.2 | (exact z ⟨_,_⟩ (by simp) rfl)
   have u:=l.at2 (j:=1) rfl A (.inr ⟨7,rfl,t⟩);obtain⟨hc,L⟩:=u;have hc:a.tmps.getD 23 undef= .string (bs sl):=hc;have c23:a.tmps[23]?.getD undef= .string (bs sl):=by rw[<-aO];exact hc
   go_simp;go_at_call 29;refine(CT.out _ (aC a6.out L)).mono ?_;rintro e w5 ⟨rfl,I⟩;have F:=aC L I;exact B _ _ (l.eff2 (by decide) (by decide) 1 o z rfl A (.inr ⟨7,rfl,t⟩) rfl (by decide) (λ_ x K=>qM.keep K I) (λ_=>E.out _ F) ⟨rfl,F⟩)
  ·simp[Region.binds] at b;have c17:a.tmps[17]?.getD undef= .int .i64 kd:=by rw[<-aO];exact l.cl 1 (by decide) (by decide) (by decide) (by simp[b])
   have t:d 8=true:=by first | first | exact b | exact b.1 | exact b.2 | exact b.2.1 | exact b.2.2 | exact b.2.2.1 | exact b.2.2.2 | (exact z ⟨_,_⟩ (by simp) rfl)
   have u:=l.at2 (j:=2) rfl A (.inr ⟨8,rfl,t⟩);obtain⟨hc,L⟩:=u;have hc:a.tmps.getD 24 undef= .string (bs tx):=hc;have c24:a.tmps[24]?.getD undef= .string (bs tx):=by rw[<-aO];exact hc
   go_simp;exact B _ _ (l.eff2 (by decide) (by decide) 2 o z rfl A (.inr ⟨8,rfl,t⟩) rfl (by decide) (λ_ x K=>K) (λ_=>E.out _ L) ⟨rfl,L⟩)
  ·have bh:=aI w' (.cells #[.int .i64 0, .string ⟨#[]⟩, .slice none 0 0, .slice none 0 0] 26);have aL:=l.st (l.lastNot (f:=12) (i:=10) (by kernel_rfl) A);rw[<-y] at aL;have bz:=qM.new (W0:=W0) (w':=w') aL.2;clear aL;go_simp;exact B _ _ (l.free (by decide) o z rfl (by decide) rfl (by decide) (by decide) (by decide) (l.lastNot (f:=12) (i:=10) (by kernel_rfl) A) (λhs=>br.out _ _ hs bh) (λk c hp=>wS.keep hp bh) bz)
  ·simp[Region.binds] at b;have t:d 9=true:=by first | first | exact b | exact b.1 | exact b.2 | exact b.2.1 | exact b.2.2 | exact b.2.2.1 | exact b.2.2.2 | (exact z ⟨_,_⟩ (by simp) rfl)
   have u:=l.at2 (j:=3) rfl A (.inr ⟨9,rfl,t⟩);obtain⟨aU,L⟩:=u;have aU:a.tmps.getD 25 undef= .agg #[.int .i64 kd, .string (bs tx), .slice none 0 0, .slice none 0 0]:=aU;have c25:a.tmps[25]?.getD undef= .agg #[.int .i64 kd, .string (bs tx), .slice none 0 0, .slice none 0 0]:=by rw[<-aO];exact aU
   obtain⟨Y,hY,bB,bg⟩:=l.fb A (by simp[b]);have hY:a.tmps.getD 8 undef= .pointer (some ⟨Y,0,none⟩):=hY;have c8:a.tmps[8]?.getD undef= .pointer (some ⟨Y,0,none⟩):=by rw[<-aO];exact hY
   obtain⟨y0,y1,y2,y3,g0,g1,g2,g3⟩:=bC bg;go_simp;exact B undef _ (l.eff2 (by decide) (by decide) 3 o z rfl A (.inr ⟨9,rfl,t⟩) rfl (by decide) (λh=>absurd rfl h) (λh=>absurd rfl h) ⟨Y,hY,CS.ofStore a6.out L (bR.nil _ _) bB bg⟩)
 intro v wz ak V;obtain⟨Y,hY,hC⟩:=V;have hY:v 8= .pointer (some ⟨Y,0,none⟩):=hY;have HC:=hid hC;simp only[cC,eJ,dO,eK,hY];clear ak hC br E y H bb a6 SA W0 CS1 CT;obtain⟨⟨x0,x1,x2,x5⟩,z0,z1⟩:=ab.out wz HC.out.bel;go_wp2_with fail;clear x0 x1 x2 x5 z0 z1 hY;go_loopw [29,9,10] (λs29 s9 s10 wr=> ∃(i:Nat) (kv ov:Value),s29= .int .i64 (i:Int)/\i<=x.kids.length/\Hid (CS W3 Y kd tx (iL txt ns x.kind (x.kids.take i)) ((x.kids.take i).map (bN txt ns lv)) kv ov wr)) (λs29 _ _ _=>x.kids.length-(RowKit.intOf s29).toNat)
 case atStart=>exact⟨0, .slice none 0 0, .slice none 0 0,rfl,bM _,by rw[List.take_zero,Wx];first | exact HC | exact hid (HC.out.keep (aB _ _).drew)⟩
 case round=>
  obtain⟨i,kv,ov,rfl,A,HC⟩:=hrel;obtain⟨⟨x0,x1,x2,x5⟩,z0,z1⟩:=ab.out wr HC.out.bel;by_cases hil:i<x.kids.length
  ·obtain⟨q,P⟩: ∃q,x.kids[i]?=some q:=⟨_,bE hil⟩;have ba:=aX P;obtain⟨gk,rfl,kc⟩:=HQ.out wr HC.out.bel i q P;obtain⟨_,hqn⟩:=a8.out q ba;have bw:(i:Int)<(x.kids.length:Int):=(by omega);have dk:decide ((i:Int)<(x.kids.length:Int))=true:=aM bw;have hi0:(0:Int)<=(i:Int):=(by omega);have dq1:decide ((q:Int)<0)=false:=aH (by omega);have dq2:decide ((ns.length:Int)<=(q:Int))=false:=aH (by omega);have dq3:decide (ns.length<=q)=false:=aH (by omega);have bu:=hid (vU P);obtain⟨pa,ca,ag⟩:=HC.out.keys.slice;obtain⟨po,co,an⟩:=HC.out.its.slice;have bm:((x.kids.take i).map (bN txt ns lv)).length=i:=by rw[bK,cD];omega
   rw[bm] at an;obtain⟨nk,ad⟩:=exQ<|(iL txt ns x.kind (x.kids.take i)).length;have bf:nk<=65536:=by
    rw[<-ad];unfold iL;split
    ·rw[bK,cD];omega
    ·exact bM _
   rw[ad] at ag;subst ag an;have bj:=hid ad;have bl:=hid ba;clear P ba ad bm;go_upto_if 53 with fail;go_cut [54,55,56,57,58,59,60,61] (λs54 s55 s56 s57 s58 s59 s60 s61 wx=> ∃kv',Hid (CS W3 Y kd tx (iL txt ns x.kind (x.kids.take (i+1))) ((x.kids.take i).map (bN txt ns lv)) kv' (.slice po i co) wx))
   case first=>
    by_cases h6:kd=6;rotate_left
    ·have d6:(kd==6)=false:=aK.2 h6;have Z: ¬x.kind=6:=λe=>h6 (H6.out.1 e);have aj:Hid (CS W3 Y kd tx (iL txt ns x.kind (x.kids.take (i+1))) ((x.kids.take i).map (bN txt ns lv)) (.slice pa nk ca) (.slice po i co) wr):=hid (by have:=HC.out;unfold iL at this ⊢;rw[if_neg Z] at this ⊢;exact this);clear h6 Z;go_wp2_with fail;go_meet;exact⟨_,by first | exact aj | exact hid (aj.out.keep (aB _ _).drew)⟩
    ·have d6:(kd==6)=true:=by rw[h6];rfl
     have Z:x.kind=6:=H6.out.2 h6;obtain⟨W0,H⟩:=exQ<|wr.drew;have T:Below wr.heap.size wr W0:=by rw[<-H];exact(aB _ _).drew
     have s:Hid (CS W3 Y kd tx ((x.kids.take i).map (cE txt ns)) ((x.kids.take i).map (bN txt ns lv)) (.slice pa nk ca) (.slice po i co) W0):=hid (by have:=HC.out.keep T;unfold iL at this;rw[if_pos Z] at this;exact this);have J:((x.kids.take i).map (cE txt ns)++ [cE txt ns q]).length=nk+1:=by
      have:=bj.out;unfold iL at this;rw[if_pos Z] at this;rw[aW,this,dU]
     have al:((x.kids.take i).map (cE txt ns)).length<=4294967295:=by rw[bK,cD];omega
     have bI:=hid Z;have ah:=hid (aJ J al);clear h6 Z J al T;go_upto_region 10 with fail;obtain⟨SA,y⟩: ∃S:World->Prop,(λw'=>(w'.cell? ⟨Y,2,none⟩=some (.slice pa nk ca)/\w'.frozen? ⟨Y,2,none⟩=false)/\w'.cell? ⟨D,0,none⟩=some (.string (bs txt))/\w'.cell? ⟨D,1,none⟩=some (.slice (some ⟨g,0,none⟩) ns.length c))=S:=⟨_,rfl⟩;have E:Hid (∀w',Below W0.heap.size W0 w'->SA w'):=hid (λw' C=>by rw[<-y];obtain⟨_,a3,a4⟩:=ab.out w' (aC s.out.bel C);have q:=(s.out.keep C).cells;exact⟨⟨q.2.2.1,q.2.2.2.2.2.2.1⟩,a3,a4⟩);have am:Hid (∀w' c',mW W3 W0 Y (cE txt ns q) ((x.kids.take i).map (cE txt ns)) (.slice pa nk ca) 3 c' w'->SA w'):=hid (λw' c' hp=>by rw[<-y];obtain⟨q1,q2,q3,q4,q5⟩:=hp;have af:=s.out.box;have bF:=aF af;have e1:w'.heap[Y]?=W0.heap[Y]?:=q4 Y bF s.out.off;have e2:=e1.trans af;have e3: ∀o',w'.cell? ⟨D,o',none⟩=W0.cell? ⟨D,o',none⟩:=λo'=>q2.cell (p:=⟨D,o',none⟩) (aF au.out);obtain⟨_,a3,a4⟩:=ab.out W0 s.out.bel;obtain⟨y0,y1,y2,y3,y4,y5,y6,y7⟩:=bC e2;exact⟨⟨y2,y6⟩,by rw[e3];exact a3,by rw[e3];exact a4⟩);clear x0 x1 x2 x5 z0 z1 kc;have N:Tryz.prog.follows .mixedOrders=true:=(by kernel_rfl);refine Bk N [54,55,56,57,58,59,60,61] [4,5,6,8] 1000000 (λ_ _=>True) 74 rfl (by kernel_rfl) (by kernel_rfl) (by kernel_rfl) (λiz=>match iz with | 0=> .pointer (some ⟨Y,2,none⟩) | 1=> .slice pa nk ca | 2=> .agg #[.string (bs txt), .slice (some ⟨g,0,none⟩) ns.length c] | 3=> .int .i64 (q:Int) | 7=> .pointer (some ⟨Y,2,none⟩) | _=>undef) SA (mW W3 W0 Y (cE txt ns q) ((x.kids.take i).map (cE txt ns)) (.slice pa nk ca)) (by rw[H];exact E.out _ (aB _ _)) (by rw[H];exact aB _ _) ?_ ?_
     ·intro d a w' iq o' ho A b G l R' B;have ap:iq<9:=(cJ.1 ho).1;have q3:a.tmps[3]?.getD undef= .pointer (some ⟨D,0,none⟩):=by rw[<-aO];exact G 3 (by decide)
      have q8:a.tmps[8]?.getD undef= .pointer (some ⟨Y,0,none⟩):=by rw[<-aO];exact G 8 (by decide)
      have q10:a.tmps[10]?.getD undef= .int .i64 (q:Int):=by rw[<-aO];exact G 10 (by decide)
      clear G;have z:=b;have o:=ho;have ao:iq=0\/iq=1\/iq=2\/iq=3\/iq=4\/iq=5\/iq=6\/iq=7\/iq=8:=(by omega);clear ap;rcases ao with rfl|rfl|rfl|rfl|rfl|rfl|rfl|rfl|rfl<;>simp only[eC,dV,cH,cN] at ho<;>subst ho
      ·go_simp;exact B _ _ (l.pure (by decide) o z rfl (by decide) (by decide) (by decide) rfl)
      ·simp[Region.binds] at b;have c54:a.tmps[54]?.getD undef= .pointer (some ⟨Y,2,none⟩):=by rw[<-aO];exact l.cl 0 (by decide) (by decide) (by decide) (by simp[b])
       have r:=l.early (f:=9) (i:=1) (by kernel_rfl) A;rw[<-y] at r;obtain⟨⟨x3,x3f⟩,s3,s4⟩:=r;go_simp;exact B _ _ (l.pure (by decide) o z rfl (by decide) (by decide) (by decide) rfl)
      ·have r:=l.early (f:=9) (i:=2) (by kernel_rfl) A;rw[<-y] at r;obtain⟨⟨x3,x3f⟩,s3,s4⟩:=r;go_simp;exact B _ _ (l.pure (by decide) o z rfl (by decide) (by decide) (by decide) rfl)
      ·go_simp;exact B _ _ (l.pure (by decide) o z rfl (by decide) (by decide) (by decide) rfl)
      ·simp[Region.binds] at b;have c56:a.tmps[56]?.getD undef= .agg #[.string (bs txt), .slice (some ⟨g,0,none⟩) ns.length c]:=by rw[<-aO];exact l.cl 2 (by decide) (by decide) (by decide) (by simp[b])
       have c57:a.tmps[57]?.getD undef= .int .i64 (q:Int):=by rw[<-aO];exact l.cl 3 (by decide) (by decide) (by decide) (by simp[b])
       have u:=l.at2 (j:=0) rfl A (.inl rfl);have L:Below W0.heap.size W0 w':=u;go_simp;go_at_call 31;refine(bA.out _ (aC s.out.bel L) q bl.out).mono ?_;rintro e w5 ⟨rfl,I⟩;have F:=aC L I;exact B _ _ (l.eff2 (by decide) (by decide) 0 o z rfl A (.inl rfl) rfl (by decide) (λ_ _ _=>trivial) (λ_=>E.out _ F) ⟨rfl,F⟩)
      ·simp[Region.binds] at b;have t:d 4=true:=by first | first | exact b | exact b.1 | exact b.2 | exact b.2.1 | exact b.2.2 | exact b.2.2.1 | exact b.2.2.2 | (exact z ⟨_,_⟩ (by simp) rfl)
       have u:=l.at2 (j:=1) rfl A (.inr ⟨4,rfl,t⟩);obtain⟨hc,L⟩:=u;have hc:a.tmps.getD 58 undef= .string (bs (cE txt ns q)):=hc;have c58:a.tmps[58]?.getD undef= .string (bs (cE txt ns q)):=by rw[<-aO];exact hc
       have F:=λob=>aC L (aI w' ob);go_simp;exact B _ _ (l.eff2 (by decide) (by decide) 1 o z rfl A (.inr ⟨4,rfl,t⟩) rfl (by decide) (λ_ _ _=>trivial) (λ_=>E.out _ (F _)) ⟨w',L,rfl,rfl⟩)
      ·simp[Region.binds] at b;have c55:a.tmps[55]?.getD undef= .slice pa nk ca:=by rw[<-aO];exact l.cl 1 (by decide) (by decide) (by decide) (by simp[b])
       have t:d 5=true:=by first | first | exact b | exact b.1 | exact b.2 | exact b.2.1 | exact b.2.2 | exact b.2.2.1 | exact b.2.2.2 | (exact z ⟨_,_⟩ (by simp) rfl)
       have u:=l.at2 (j:=2) rfl A (.inr ⟨5,rfl,t⟩);have c55':a.tmps.getD 55 undef= .slice pa nk ca:=by rw[aO];exact c55
       exact mW.app (.tmp 55) (.tmp 59) rfl s.out u c55' rfl ah.out.2 (λv' w2 aq=>B _ _ (l.eff2 (by decide) (by decide) 2 o z rfl A (.inr ⟨5,rfl,t⟩) rfl (by decide) (λ_ _ _=>trivial) (λ_=>am.out _ _ aq) aq))
      ·go_simp;exact B _ _ (l.pure (by decide) o z rfl (by decide) (by decide) (by decide) rfl)
      ·simp[Region.binds] at b;have c61:a.tmps[61]?.getD undef= .pointer (some ⟨Y,2,none⟩):=by rw[<-aO];exact l.cl 7 (by decide) (by decide) (by decide) (by simp[b])
       have t:d 6=true:=by first | first | exact b | exact b.1 | exact b.2 | exact b.2.1 | exact b.2.2 | exact b.2.2.1 | exact b.2.2.2 | (exact z ⟨_,_⟩ (by simp) rfl)
       have u:=l.at2 (j:=3) rfl A (.inr ⟨6,rfl,t⟩);have aa:mW W3 W0 Y (cE txt ns q) ((x.kids.take i).map (cE txt ns)) (.slice pa nk ca) 3 (a.tmps.getD 60 undef) w':=u;have r:=l.st A;rw[<-y] at r;obtain⟨⟨x3,x3f⟩,_⟩:=r;obtain⟨pz2,cz2,hz⟩:=aa.1.slice;rw[ah.out.1] at hz;rw[hz] at aa;have c60:a.tmps[60]?.getD undef= .slice pz2 (nk+1) cz2:=by rw[<-aO];exact hz
       go_simp;exact B undef _ (l.eff2 (by decide) (by decide) 3 o z rfl A (.inr ⟨6,rfl,t⟩) rfl (by decide) (λ_ _ _=>trivial) (λh=>absurd rfl h) ⟨_,_,aa,rfl⟩)
     intro v wz ak V;obtain⟨kv2,M⟩:=mW.fin s.out V;have M:Hid (CS W3 Y kd tx (iL txt ns x.kind (x.kids.take (i+1))) ((x.kids.take i).map (bN txt ns lv)) kv2 (.slice po i co) wz):=hid (by unfold iL;rw[if_pos bI.out,bu.out,mZ];exact M);clear ak V am E y s H;simp only[cC,eJ,dO,eK];go_wp2_with fail;go_meet;exact⟨_,by first | exact M | exact hid (M.out.keep (aB _ _).drew)⟩
   case rest=>
    obtain⟨kv',aj⟩:=hcut;clear HC bj bf x0 x1 x2 x5 z0 z1 kc;obtain⟨W0,H⟩:=exQ<|wc.drew;have T:Below wc.heap.size wc W0:=by rw[<-H];exact(aB _ _).drew
    have s:=hid (aj.out.keep T);have J:((x.kids.take i).map (bN txt ns lv)++ [bN txt ns lv q]).length=i+1:=by rw[aW,bK,cD,dU];omega
    have al:((x.kids.take i).map (bN txt ns lv)).length<=4294967295:=by rw[bK,cD];omega
    have ah:=hid (aJ J al);clear J al T;go_upto_region 11 with fail;obtain⟨SA,y⟩: ∃S:World->Prop,(λw'=>(w'.cell? ⟨Y,3,none⟩=some (.slice po i co)/\w'.frozen? ⟨Y,3,none⟩=false)/\w'.cell? ⟨D,0,none⟩=some (.string (bs txt))/\w'.cell? ⟨D,1,none⟩=some (.slice (some ⟨g,0,none⟩) ns.length c))=S:=⟨_,rfl⟩;have E:Hid (∀w',Below W0.heap.size W0 w'->SA w'):=hid (λw' C=>by rw[<-y];obtain⟨_,a3,a4⟩:=ab.out w' (aC s.out.bel C);have q:=(s.out.keep C).cells;exact⟨⟨q.2.2.2.1,q.2.2.2.2.2.2.2⟩,a3,a4⟩);have am:Hid (∀w' c',iK W0 Y kv'.ownBlock (bN txt ns lv q) ((x.kids.take i).map (bN txt ns lv)) (.slice po i co) 3 c' w'->SA w'):=hid (λw' c' hp=>by rw[<-y];obtain⟨q1,q2,q3,q4⟩:=hp;have af:=s.out.box;have hn:=s.out.new_;have hD3l:=aF au.out;have bd:Below (Y+1) W0 w':=q2;have e2:w'.heap[Y]?=_:=(bd.block Y (uG _)).trans af;have e3: ∀o',w'.cell? ⟨D,o',none⟩=W0.cell? ⟨D,o',none⟩:=λo'=>bd.cell (p:=⟨D,o',none⟩) (by show D<Y+1;omega);obtain⟨_,a3,a4⟩:=ab.out W0 s.out.bel;obtain⟨y0,y1,y2,y3,y4,y5,y6,y7⟩:=bC e2;exact⟨⟨y3,y7⟩,by rw[e3];exact a3,by rw[e3];exact a4⟩);have N:Tryz.prog.follows .mixedOrders=true:=(by kernel_rfl);refine Bk N [62,63,64,65,66,67,68,69,70,71] [6,7,8,10] 1000000 (λ_ _=>True) 74 rfl (by kernel_rfl) (by kernel_rfl) (by kernel_rfl) (λiz=>match iz with | 0=> .pointer (some ⟨Y,3,none⟩) | 1=> .slice po i co | 2=> .agg #[.string (bs txt), .slice (some ⟨g,0,none⟩) ns.length c] | 3=> .int .i64 (q:Int) | 4=> .int .i64 lev | 5=> .int .i64 (lev+1) | 9=> .pointer (some ⟨Y,3,none⟩) | _=>undef) SA (iK W0 Y kv'.ownBlock (bN txt ns lv q) ((x.kids.take i).map (bN txt ns lv)) (.slice po i co)) (by rw[H];exact E.out _ (aB _ _)) (by rw[H];exact aB _ _) ?_ ?_
    ·intro d a w' iq o' ho A b G l R' B;have ap:iq<11:=(cJ.1 ho).1;have q2:a.tmps[2]?.getD undef= .int .i64 lev:=by rw[<-aO];exact G 2 (by decide)
     have q3:a.tmps[3]?.getD undef= .pointer (some ⟨D,0,none⟩):=by rw[<-aO];exact G 3 (by decide)
     have q8:a.tmps[8]?.getD undef= .pointer (some ⟨Y,0,none⟩):=by rw[<-aO];exact G 8 (by decide)
     have q10:a.tmps[10]?.getD undef= .int .i64 (q:Int):=by rw[<-aO];exact G 10 (by decide)
     clear G;have z:=b;have o:=ho;have ao:iq=0\/iq=1\/iq=2\/iq=3\/iq=4\/iq=5\/iq=6\/iq=7\/iq=8\/iq=9\/iq=10:=(by omega);clear ap;rcases ao with rfl|rfl|rfl|rfl|rfl|rfl|rfl|rfl|rfl|rfl|rfl<;>simp only[eC,dV,cH,cN] at ho<;>subst ho
     ·go_simp;exact B _ _ (l.pure (by decide) o z rfl (by decide) (by decide) (by decide) rfl)
     ·simp[Region.binds] at b;have c62:a.tmps[62]?.getD undef= .pointer (some ⟨Y,3,none⟩):=by rw[<-aO];exact l.cl 0 (by decide) (by decide) (by decide) (by simp[b])
      have r:=l.early (f:=11) (i:=1) (by kernel_rfl) A;rw[<-y] at r;obtain⟨⟨x3,x3f⟩,s3,s4⟩:=r;go_simp;exact B _ _ (l.pure (by decide) o z rfl (by decide) (by decide) (by decide) rfl)
     ·have r:=l.early (f:=11) (i:=2) (by kernel_rfl) A;rw[<-y] at r;obtain⟨⟨x3,x3f⟩,s3,s4⟩:=r;go_simp;exact B _ _ (l.pure (by decide) o z rfl (by decide) (by decide) (by decide) rfl)
     ·go_simp;exact B _ _ (l.pure (by decide) o z rfl (by decide) (by decide) (by decide) rfl)
     ·go_simp;exact B _ _ (l.pure (by decide) o z rfl (by decide) (by decide) (by decide) rfl)
     ·simp[Region.binds] at b;have c66:a.tmps[66]?.getD undef= .int .i64 lev:=by rw[<-aO];exact l.cl 4 (by decide) (by decide) (by decide) (by simp[b])
      go_simp;exact B _ _ (l.pure (by decide) o z rfl (by decide) (by decide) (by decide) rfl)
     ·simp[Region.binds] at b;have c64:a.tmps[64]?.getD undef= .agg #[.string (bs txt), .slice (some ⟨g,0,none⟩) ns.length c]:=by rw[<-aO];exact l.cl 2 (by decide) (by decide) (by decide) (by simp[b])
      have c65:a.tmps[65]?.getD undef= .int .i64 (q:Int):=by rw[<-aO];exact l.cl 3 (by decide) (by decide) (by decide) (by simp[b])
      have c67:a.tmps[67]?.getD undef= .int .i64 (lev+1):=by rw[<-aO];exact l.cl 5 (by decide) (by decide) (by decide) (by simp[b])
      have u:=l.at2 (j:=0) rfl A (.inl rfl);have L:Below W0.heap.size W0 w':=u;go_simp;go_at_call 16;refine(bJ.out _ (aC s.out.bel L) q bl.out).mono ?_;rintro e w5 ⟨⟨kv5,iv5,rfl,aN⟩,I⟩;have F:=aC L I;exact B _ _ (l.eff2 (by decide) (by decide) 0 o z rfl A (.inl rfl) rfl (by decide) (λ_ _ _=>trivial) (λ_=>E.out _ F) ⟨kv5,iv5,rfl,aN.mono (λq P _=>aY L.size P),F⟩)
     ·simp[Region.binds] at b;have t:d 6=true:=by first | first | exact b | exact b.1 | exact b.2 | exact b.2.1 | exact b.2.2 | exact b.2.2.1 | exact b.2.2.2 | (exact z ⟨_,_⟩ (by simp) rfl)
      have u:=l.at2 (j:=1) rfl A (.inr ⟨6,rfl,t⟩);obtain⟨kv5,iv5,aP,aN,I⟩:=u;have aP:a.tmps.getD 68 undef=vv (bN txt ns lv q) kv5 iv5:=aP;have c68:a.tmps[68]?.getD undef= .agg #[.int .i64 (bN txt ns lv q).kind, .string (bs (bN txt ns lv q).text),kv5,iv5]:=by rw[<-aO];exact aP
      have F:=λob=>aC I (aI w' ob);go_simp;exact B _ _ (l.eff2 (by decide) (by decide) 1 o z rfl A (.inr ⟨6,rfl,t⟩) rfl (by decide) (λ_ _ _=>trivial) (λ_=>E.out _ (F _)) ⟨w',kv5,iv5,aN,I,rfl,rfl⟩)
     ·simp[Region.binds] at b;have c63:a.tmps[63]?.getD undef= .slice po i co:=by rw[<-aO];exact l.cl 1 (by decide) (by decide) (by decide) (by simp[b])
      have t:d 7=true:=by first | first | exact b | exact b.1 | exact b.2 | exact b.2.1 | exact b.2.2 | exact b.2.2.1 | exact b.2.2.2 | (exact z ⟨_,_⟩ (by simp) rfl)
      have u:=l.at2 (j:=2) rfl A (.inr ⟨7,rfl,t⟩);have c63':a.tmps.getD 63 undef= .slice po i co:=by rw[aO];exact c63
      exact iK.app (.tmp 63) (.tmp 69) rfl s.out u c63' rfl ah.out.2 (λv' w2 aq=>B _ _ (l.eff2 (by decide) (by decide) 2 o z rfl A (.inr ⟨7,rfl,t⟩) rfl (by decide) (λ_ _ _=>trivial) (λ_=>am.out _ _ aq) aq))
     ·go_simp;exact B _ _ (l.pure (by decide) o z rfl (by decide) (by decide) (by decide) rfl)
     ·simp[Region.binds] at b;have c71:a.tmps[71]?.getD undef= .pointer (some ⟨Y,3,none⟩):=by rw[<-aO];exact l.cl 9 (by decide) (by decide) (by decide) (by simp[b])
      have t:d 8=true:=by first | first | exact b | exact b.1 | exact b.2 | exact b.2.1 | exact b.2.2 | exact b.2.2.1 | exact b.2.2.2 | (exact z ⟨_,_⟩ (by simp) rfl)
      have u:=l.at2 (j:=3) rfl A (.inr ⟨8,rfl,t⟩);have aa:iK W0 Y kv'.ownBlock (bN txt ns lv q) ((x.kids.take i).map (bN txt ns lv)) (.slice po i co) 3 (a.tmps.getD 70 undef) w':=u;have r:=l.st A;rw[<-y] at r;obtain⟨⟨x3,x3f⟩,_⟩:=r;obtain⟨pz2,cz2,hz⟩:=aa.1.slice;rw[ah.out.1] at hz;rw[hz] at aa;have c70:a.tmps[70]?.getD undef= .slice pz2 (i+1) cz2:=by rw[<-aO];exact hz
      go_simp;exact B undef _ (l.eff2 (by decide) (by decide) 3 o z rfl A (.inr ⟨8,rfl,t⟩) rfl (by decide) (λ_ _ _=>trivial) (λh=>absurd rfl h) ⟨_,_,aa,rfl⟩)
    intro v wz ak V;obtain⟨ov2,M⟩:=iK.fin s.out V;have M:Hid (CS W3 Y kd tx (iL txt ns x.kind (x.kids.take (i+1))) ((x.kids.take (i+1)).map (bN txt ns lv)) kv' ov2 wz):=hid (by
     have e:(x.kids.take (i+1)).map (bN txt ns lv)=(x.kids.take i).map (bN txt ns lv)++ [bN txt ns lv q]:=by rw[bu.out,mZ];rfl
     rw[e];exact M)
    clear ak V am E y s H aj;simp only[cC,eJ,dO,eK];go_wp2_with fail;go_roundw
    case rel=>exact⟨i+1,kv',ov2,by go_num,by omega,by first | exact M | exact hid (M.out.keep (aB _ _).drew)⟩
    case measure=>simp[RowKit.intOf];omega
  ·have dk:decide ((i:Int)<(x.kids.length:Int))=false:=aH (by omega);obtain rfl:i=x.kids.length:=(by omega);have aQ:=HC.out;rw[List.take_length] at aQ;have U:=hid aQ;clear aQ HC;obtain⟨pa,ca,ag⟩:=U.out.keys.slice;obtain⟨po,co,an⟩:=U.out.its.slice;obtain⟨nk,ad⟩:=exQ<|(iL txt ns x.kind x.kids).length;obtain⟨ni,bn⟩:=exQ<|(x.kids.map (bN txt ns lv)).length;rw[ad] at ag;rw[bn] at an;subst ag an;have HP:Hid (jN (VT.mk kd tx (iL txt ns x.kind x.kids) (x.kids.map (bN txt ns lv))) w (.returned (.agg #[.int .i64 kd, .string (bs tx), .slice pa nk ca, .slice po ni co])) (bG wr R kd tx (.slice pa nk ca) (.slice po ni co))):=hid (by refine⟨⟨_,_,rfl,?_⟩,pK (aC ai.out U.out.bel) (by omega)⟩;exact(U.out.put (R:=R) a9).mono (λq P _=>aY ai.out.size P));have bq:Hid ((bG wr R kd tx (.slice pa nk ca) (.slice po ni co)).heap[R]?=some (.cells #[.int .i64 kd, .string (bs tx), .slice pa nk ca, .slice po ni co] 26)):=hid (rQ ((U.out.bel.block R a9).trans aS.out));obtain⟨r0,r1,r2,r3,f0,f1,f2,f3⟩:=bC ((U.out.bel.block R a9).trans aS.out);obtain⟨y0,y1,y2,y3,_⟩:=U.out.cells;clear ad bn;go_wp2_with fail;obtain⟨WF,aZ⟩:=exQ<|bG wr R kd tx (.slice pa nk ca) (.slice po ni co);rw[aZ] at HP bq;have ax:(((wr.setCell ⟨R,0,none⟩ (.int .i64 kd)).setCell ⟨R,1,none⟩ (.string (bs tx))).setCell ⟨R,2,none⟩ (.slice pa nk ca)).setCell ⟨R,3,none⟩ (.slice po ni co)=WF:=aZ;rw[ax];clear aZ ax r0 r1 r2 r3 f0 f1 f2 f3 y0 y1 y2 y3;obtain⟨d0,d1,d2,d3,_⟩:=bC bq.out;refine bodyPost_ret (v:= .agg #[.int .i64 kd, .string (bs tx), .slice pa nk ca, .slice po ni co]) ?_ rfl HP.out;simp[results,Tryz.results16,go_sem,d0,d1,d2,d3]
theorem Ko (txt:aA) (ns:List aD) (p:Option Addr) (c:Nat) (hN:ns.length<=65536) (hs:txt.length<=1073741824): ∀lv,Cs txt ns p c lv
 | 0=>λ_ _ _ _ h=>h.elim
 | lv+1=>Wy txt ns p c hN hs lv (Ko txt ns p c hN hs lv)
end Go.Proofs.YtaifnmjjpddikaaGreatDoor
