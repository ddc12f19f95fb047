import Derived.Test.YtjnooaljcgkfpaaGreatDoorBk4
import Derived.Test.YtjnooaljcgkfpaaGreatDoorBk5
import Derived.Test.YtjnooaljcgkfpaaGreatDoorBk10
import Derived.Test.YtjnooaljcgkfpaaGreatDoorBk13
import Derived.Test.YtjnooaljcgkfpaaGreatDoorBk8
import Derived.Deep.RegionHeld3
import Derived.Deep.RegionLaw
import Derived.Deep.DeepCutAuto
set_option maxRecDepth 100000
set_option maxHeartbeats 4000000
namespace Go.Proofs.YtjnooaljcgkfpaaGreatDoor
set_option linter.unusedSimpArgs false
set_option linter.unusedVariables false
open Go.RowKit Go.Maps Go.WideMaps
open Go.Lib hiding intOf
def cG (w:World):Prop:=dA w/\dC w
theorem cG.keep {w w':World} (h:cG w) (hb:Below w.heap.size w w'):cG w':=⟨h.1.keep hb,h.2.keep hb⟩
theorem cG.tabs {w:World} (h:cG w):cD w:=h.1.1.1
theorem Mz (txt:aA) (a b:Nat):xQ (bs txt) (a:Int) (b:Int)=bs (gZ txt (a,b)):=by
 unfold xQ gZ;simp only[];have sl:=aQ txt;by_cases h:b<a\/txt.length<b
 ·rw[if_pos h,if_pos (by rcases h with h | h;exact .inr (.inl (by omega));exact .inr (.inr (by omega)))];rfl
 ·rw[if_neg h,if_neg (by omega),eU,eU,mT,aW,List.drop_take]
theorem Ax (txt:aA) (s:Sp):(gZ txt s).length<=txt.length:=by
 unfold gZ;split
 ·exact cH _
 ·rw[aZ,cB];omega
theorem aAO (s:aA):(cO s).1.dig.length<=1000:=by
 by_cases he:(cO s).2=0
 ·exact Fa s he
 ·unfold cO at he ⊢;cases hl:lM s with
  | none=>exact cH _
  | some x=>
   rw[hl] at he;simp only[] at he ⊢;obtain⟨q,a⟩:=exQ<|qX x;rw[a] at he ⊢;unfold qX at a;simp only[] at a
   (repeat' split at a)<;>subst a<;>first | exact cH _ | exact absurd rfl he
abbrev lE (W:World) (D:Nat) (txt:ByteArray) (p:Option Addr) (n c g k:Nat) (k1 k2:Int) (w:World):Prop:=
 (w.cell? ⟨D,0,none⟩=some (.string txt)/\w.cell? ⟨D,1,none⟩=some (.slice p n c)/\w.cell? ⟨g,k*7+3,none⟩=some (.int .i64 k1)/\w.cell? ⟨g,k*7+4,none⟩=some (.int .i64 k2))/\Hid (Below W.heap.size W w)
section
variable {W w w2:World}{D:Nat}{txt:ByteArray}{p:Option Addr}{n c g k:Nat}{k1 k2:Int}
theorem lE.bel (h:lE W D txt p n c g k k1 k2 w):Below W.heap.size W w:=h.2.out
theorem lE.step (h:lE W D txt p n c g k k1 k2 w) (hb:Below w.heap.size w w2):lE W D txt p n c g k k1 k2 w2:=by
 obtain⟨⟨d,a,b,f⟩,e⟩:=h;exact⟨⟨dT d hb,dT a hb,dT b hb,dT f hb⟩,hid (aC e.out hb)⟩
theorem lE.drew (h:lE W D txt p n c g k k1 k2 w):lE W D txt p n c g k k1 k2 w.drew:=h.step (aB _ _).drew
end
theorem aAP (txt:aA) (ns:List aF) (p:Option Addr) (c k:Nat) (x:aF) (w:World) (hx:ns[k]?=some x) (hn:tV w p ns) (hN:ns.length<=65536) (hs:txt.length<=1073741824) (hV:cG w):
  Calls Tryz.prog 181 #[.agg #[.string (bs txt), .slice p ns.length c], .int .i64 (k:Int)] w λe w'=>e= .returned (.string (bs (fY txt ns k)))/\Below w.heap.size w w':=by
 obtain⟨g,rfl,kv,pv,n0,n1,n2,n3,n4,n5,n6,_,_⟩:=hn k x hx;have o:=(aP.1 hx).1;obtain⟨D,m⟩:=exQ<|w.heap.size;obtain⟨W1,b⟩:=exQ<|w.alloc (.cells #[.string (bs txt), .slice (some ⟨g,0,none⟩) ns.length c] 174);have a:Hid (Below w.heap.size w W1):=hid (by rw[<-b];exact aH _ _);have d:Hid (vO W1 D (bs txt) (some ⟨g,0,none⟩) ns.length c):=hid (by rw[<-b,<-m];exact vO.new w _ _ _ _);have m3:=dT n3 a.out;have m4:=dT n4 a.out;have f:fY txt ns k=(fW (gZ txt x.key)).1:=by unfold fY;rw[hx]
 rw[f];have CS1:Hid (∀w',Calls Tryz.prog 180 #[.agg #[.string (bs txt), .slice (some ⟨g,0,none⟩) ns.length c], .agg #[.int .i64 (x.key.1:Int), .int .i64 (x.key.2:Int)]] w' λe w2=>e= .returned (.string (bs (gZ txt x.key)))/\Below w'.heap.size w' w2):=hid (λw'=>by have:=Lx (bs txt) (.slice (some ⟨g,0,none⟩) ns.length c) rfl (x.key.1:Int) (x.key.2:Int) w';rw[Mz] at this;exact this);have hsl:=Ax txt x.key;have j:=hid (hV.keep a.out);have CU:Hid (∀w',Below W1.heap.size W1 w'->Calls Tryz.prog 143 #[.string (bs (gZ txt x.key))] w' λe w2=>e=lR (fW (gZ txt x.key))/\Below w'.heap.size w' w2):=hid (λw' l=>zP _ w' (by omega) (j.out.keep l).2 (j.out.keep l).tabs);unfold lR at CU;obtain⟨⟨U,ua,ue⟩,h⟩:=exQ<|fW (gZ txt x.key);rw[h] at CU;rw[h];have hk0:(0:Int)<=(k:Int):=by omega
 have hk1:(k:Int)<(ns.length:Int):=by omega
 have c0:W1.cell? ⟨D,0,none⟩=some (.string (bs txt)):=by have:=d.out;unfold vO at this;simp[World.cell?,this]
 have c1:W1.cell? ⟨D,1,none⟩=some (.slice (some ⟨g,0,none⟩) ns.length c):=by have:=d.out;unfold vO at this;simp[World.cell?,this]
 have HS0:lE W1 D (bs txt) (some ⟨g,0,none⟩) ns.length c g k (x.key.1:Int) (x.key.2:Int) W1:=⟨⟨c0,c1,m3,m4⟩,hid (aB _ _)⟩;clear hn n0 n1 n2 n3 n4 n5 n6 hV h f hx o;go_enter Tryz.func181,Tryz.ntmps181;go_upto_region 1 with fail;clear b;go_region_held3 (λw'=>lE W1 D (bs txt) (some ⟨g,0,none⟩) ns.length c g k (x.key.1:Int) (x.key.2:Int) w') ((first | exact lE.drew (by assumption) | exact lE.step (by assumption) (by assumption) | assumption))
  ((first
   | (go_at_call 180;(refine(CS1.out _).mono ?_);rintro e w5 ⟨rfl,hb5⟩)
   | (go_at_call 143;(refine(CU.out _ (lE.bel (by assumption:lE W1 D (bs txt) (some ⟨g,0,none⟩) ns.length c g k (x.key.1:Int) (x.key.2:Int) _))).mono ?_);rintro e w6 ⟨rfl,hb6⟩)))
 all_goals
  have i:Hid (Below w.heap.size w w6):=hid (aC a.out (lE.bel (by assumption:lE W1 D (bs txt) (some ⟨g,0,none⟩) ns.length c g k (x.key.1:Int) (x.key.2:Int) w6)));go_wp2_with fail;go_ret;exact⟨rfl,by first | exact i.out | (rw[<-m];exact i.out)⟩
theorem aAQ (kd:Nat) (s:aA) (w:World) (hs:s.length<=1073741824) (hV:cG w):
  Calls Tryz.prog 179 #[.int .i64 (kd:Int), .string (bs s)] w λe w'=>e= .returned (.string (bs (pM kd s)))/\Below w.heap.size w w':=by
 unfold pM;by_cases h2:kd=2
 ·subst h2;rw[if_pos rfl];go_enter Tryz.func179,Tryz.ntmps179;go_wp2_with fail;go_ret;exact⟨rfl,aB _ _⟩
 have d2:((kd:Int)==2)=false:=aG.2 (by omega);rw[if_neg h2];by_cases h3:kd=3
 ·subst h3;rw[if_pos rfl];have CP:=hid (λw=>xJ s w (by omega));have b:=aAO s;obtain⟨P,hP⟩:=exQ<|cO s;rw[hP] at CP b;rw[hP];obtain⟨n,er⟩:=P;simp only[] at b ⊢;have m:=hid hV;have CT:Hid (∀w',Below w.heap.size w w'->Calls Tryz.prog 25 #[.agg #[.bool n.neg, .string (bs n.dig), .int .i64 n.exp]] w' λe w2=>e= .returned (.string (bs (fK n)))/\Below w'.heap.size w' w2):=hid (λw' o=>Aj n w' (by omega) (m.out.keep o).1.1.2);clear hV hP b h2;go_enter Tryz.func179,Tryz.ntmps179;go_wp2_with fail;refine(CP.out _).mono ?_;unfold tT fQ;rintro e w1 ⟨rfl,a⟩;have f:Below w.heap.size w (w1.alloc (.cells #[.bool n.neg, .string (bs n.dig), .int .i64 n.exp] 52)):=aC a (aH _ _);have d:=hid f;clear a f;go_wp2_with fail;refine(CT.out _ d.out).mono ?_;rintro e w3 ⟨rfl,h⟩;have j:=hid (aC d.out h);clear h;go_wp2_with fail;go_ret;exact⟨rfl,j.out⟩
 have d3:((kd:Int)==3)=false:=aG.2 (by omega);rw[if_neg h3];by_cases h4:kd=4
 ·subst h4;rw[if_pos rfl];have CU:=hid (zP s w (by omega) hV.2 hV.tabs);unfold lR at CU;obtain⟨⟨U,ua,ue⟩,l⟩:=exQ<|fW s;rw[l] at CU;rw[l];clear l hV;go_enter Tryz.func179,Tryz.ntmps179;go_wp2_with fail;refine CU.out.mono ?_;rintro e w1 ⟨rfl,a⟩;have i:=hid a;clear a;go_wp2_with fail;go_ret;exact⟨rfl,i.out⟩
 have d4:((kd:Int)==4)=false:=aG.2 (by omega);rw[if_neg h4];go_enter Tryz.func179,Tryz.ntmps179;go_wp2_with fail;go_ret;exact⟨rfl,aB _ _⟩
def yE (W W0:World) (kd:Int) (sl tx:aA):Nat->Value->World->Prop
 | 0,_,w'=>Below W0.heap.size W0 w'
 | 1,c,w'=>c= .string (bs sl)/\Below W0.heap.size W0 w'
 | 2,c,w'=>c= .string (bs tx)/\Below W0.heap.size W0 w'
 | 3,c,w'=>c= .agg #[.int .i64 kd, .string (bs tx), .slice none 0 0, .slice none 0 0]/\Below W0.heap.size W0 w'
 | _,c,w'=> ∃Y,c= .pointer (some ⟨Y,0,none⟩)/\CS W Y kd tx [] [] (.slice none 0 0) (.slice none 0 0) w'
theorem yE.keep {W W0:World}{kd:Int}{sl tx:aA}{k:Nat}{c:Value}{w' w2:World} (h:yE W W0 kd sl tx k c w') (hb:Below w'.heap.size w' w2):yE W W0 kd sl tx k c w2:=by
 match k,h with
 | 0,h=>exact aC (show Below W0.heap.size W0 w' from h) hb
 | 1,h=>exact⟨h.1,aC h.2 hb⟩
 | 2,h=>exact⟨h.1,aC h.2 hb⟩
 | 3,h=>exact⟨h.1,aC h.2 hb⟩
 | k+4,⟨Y,h1,h2⟩=>exact⟨Y,h1,h2.keep hb⟩
theorem Na {P:Nat->Nat->Prop} (hlt: ∀k m,P k m->k<m) {hi N:Nat}: ∀ {l:List Nat}{a:Nat},dP P l a hi->(∀k∈l,k<N)->a<=N->a+l.length<=N
 | [],a,_,_,h=>h
 | y::l,a,h,hm,_=>by
  obtain⟨rfl,m,h2,h3⟩:=h;have h4:=hlt _ _ h2;have h5:=hm y fV;cases l with
  | nil=>simp only[dQ];omega
  | cons z l=>
   have h6:=hm z (List.mem_cons_of_mem _ fV);have h7:z=m:=h3.1;have:=Na hlt h3 (λk b=>hm k (List.mem_cons_of_mem _ b)) (by omega);rw[aL];omega
theorem Nb {ns:List aF}{lv k m:Nat}{x:aF} (hT:eK ns (lv+1) k m) (hx:ns[k]?=some x) (hN:ns.length<=65536):x.kids.length<=65536:=by
 have hk:=(aP.1 hx).1;have b:=λq (hq:q∈x.kids)=>(hT.kid hx hq).2;obtain⟨x',a,d⟩:=hT;rw[hx] at a;injection a with e;subst e;have:=Na (λ_ _=>eK.lt) d b (by omega);omega
def jD (txt:aA) (ns:List aF) (kd:Nat) (l:List Nat):List aA:=if kd=6 then l.map (fY txt ns) else []
theorem aAR (txt:aA) (ns:List aF) (kd:Nat):jD txt ns kd []= []:=by unfold jD;split<;>rfl
def Fd (txt:aA) (ns:List aF) (p:Option Addr) (c:Nat) (lv:Nat):Prop:= ∀(k m:Nat) (lev:Int) (w:World),eK ns lv k m->Hid (lev=33-(lv:Int))->lv<=32->tV w p ns->cG w->
 Calls Tryz.prog 145 #[.agg #[.string (bs txt), .slice p ns.length c], .int .i64 (k:Int), .int .i64 lev] w (oQ (bQ txt ns lv k) w)
theorem tZ {w:World}{X:Nat}{cs:Array Value}{t:TypeId} (h:w.heap[X]?=some (.cells cs t (0,0))) (i:Nat):w.cell? ⟨X,i,none⟩=cs[i]?:=by
 simp[World.cell?,h]
theorem aAS (txt:aA) (ns:List aF) (p:Option Addr) (c:Nat) (hN:ns.length<=65536) (hs:txt.length<=1073741824) (lv:Nat) (IH:Fd txt ns p c lv):Fd txt ns p c (lv+1):=by
 intro k m lev w hT az hlv hn hV;obtain⟨x,M⟩: ∃x,ns[k]?=some x:=by obtain⟨x,M,_⟩:=hT;exact⟨x,M⟩
 have aK:=hid (λq (P:q∈x.kids)=>hT.kid M P);obtain⟨g,hp,kv,pv,n0,n1,n2,n3,n4,n5,n6,n7,n8⟩:=hn k x M;obtain⟨pq,cq,rfl,P⟩:=n7;obtain⟨pz,cz,rfl,_⟩:=n8;have hk:=(aP.1 M).1;have ay:bQ txt ns (lv+1) k= .mk (x.kind:Int) (pM x.kind (gZ txt (x.sf,x.st))) (jD txt ns x.kind x.kids) (x.kids.map (bQ txt ns lv)):=by rw[bQ,M];rfl
 rw[ay];have bu:=hp;subst hp;obtain⟨D,hD⟩:=exQ<|w.heap.size;obtain⟨W1,au⟩:=exQ<|w.alloc (.cells #[.string (bs txt), .slice (some ⟨g,0,none⟩) ns.length c] 174);obtain⟨R,B⟩:=exQ<|W1.heap.size;obtain⟨W2,br⟩:=exQ<|W1.alloc (.cells #[.int .i64 0, .string ⟨#[]⟩, .slice none 0 0, .slice none 0 0] 25);obtain⟨X,hX⟩:=exQ<|W2.heap.size;obtain⟨W3,a7⟩:=exQ<|W2.alloc (.cells #[.int .i64 (x.kind:Int), .int .i64 (x.sf:Int), .int .i64 (x.st:Int), .int .i64 (x.key.1:Int), .int .i64 (x.key.2:Int), .slice pq x.kids.length cq, .slice pz x.pcs.length cz] 215);have bj:Below w.heap.size w W1:=by rw[<-au];exact aH _ _
 have O:Below W1.heap.size W1 W2:=by rw[<-br];exact aH _ _
 have ae:Below W2.heap.size W2 W3:=by rw[<-a7];exact aH _ _
 have Q:=hid (aC bj O);have ao:=hid (aC Q.out ae);have av:W1.heap[D]?=some (.cells #[.string (bs txt), .slice (some ⟨g,0,none⟩) ns.length c] 174):=by rw[<-au,<-hD];exact heap_alloc_new w _
 have aw:=aE av;have ar:Hid (W3.heap[D]?=some (.cells #[.string (bs txt), .slice (some ⟨g,0,none⟩) ns.length c] 174)):=hid ((ae.block D (iI aw O.size)).trans ((O.block D aw).trans av));have ba:W2.heap[R]?=some (.cells #[.int .i64 0, .string (bs []), .slice none 0 0, .slice none 0 0] 25):=by rw[<-br,<-B];exact heap_alloc_new W1 _
 have aS:Hid (W3.heap[R]?=some (.cells #[.int .i64 0, .string (bs []), .slice none 0 0, .slice none 0 0] 25)):=hid ((ae.block R (aE ba)).trans ba);have aQ:Hid (W3.heap[X]?=some (.cells #[.int .i64 (x.kind:Int), .int .i64 (x.sf:Int), .int .i64 (x.st:Int), .int .i64 (x.key.1:Int), .int .i64 (x.key.2:Int), .slice pq x.kids.length cq, .slice pz x.pcs.length cz] 215)):=hid (by rw[<-a7,<-hX];exact heap_alloc_new W2 _);have aM:R<W3.heap.size:=aE aS.out;have HQ:Hid (∀(w':World),Below W3.heap.size W3 w'-> ∀(j q:Nat),x.kids[j]?=some q-> ∃gk,pq=some ⟨gk,0,none⟩/\w'.cell? ⟨gk,j,none⟩=some (.int .i64 (q:Int))):=hid (λw' C j q hj=>by obtain⟨gk,e1,e2⟩:=P j q hj;exact⟨gk,e1,dT (dT e2 ao.out) C⟩);have bg:Hid (∀w',Below W3.heap.size W3 w'->tV w' (some ⟨g,0,none⟩) ns):=hid (λw' C=>(hn.keep ao.out).keep C);have HV:Hid (∀w',Below W3.heap.size W3 w'->cG w'):=hid (λw' C=>(hV.keep ao.out).keep C);have bF:Hid (∀w',Below W3.heap.size W3 w'-> ∀q∈x.kids,Calls Tryz.prog 145 #[.agg #[.string (bs txt), .slice (some ⟨g,0,none⟩) ns.length c], .int .i64 (q:Int), .int .i64 (lev+1)] w' (oQ (bQ txt ns lv q) w')):=hid (λw' C q P=>by obtain⟨⟨m',bD⟩,_⟩:=aK.out q P;exact IH q m' (lev+1) w' bD (hid (by rw[az.out];omega)) (by omega) (bg.out w' C) (HV.out w' C));have bw:Hid (∀w',Below W3.heap.size W3 w'-> ∀q∈x.kids,Calls Tryz.prog 181 #[.agg #[.string (bs txt), .slice (some ⟨g,0,none⟩) ns.length c], .int .i64 (q:Int)] w' λe w2=>e= .returned (.string (bs (fY txt ns q)))/\Below w'.heap.size w' w2):=hid (λw' C q P=>by obtain⟨_,bC⟩:=aK.out q P;exact aAP txt ns _ c q _ w' (bH bC) (bg.out w' C) hN hs (HV.out w' C));obtain⟨sl,a8⟩:=exQ<|gZ txt (x.sf,x.st);have bh:=Ax txt (x.sf,x.st);rw[a8] at bh ⊢;have CS1:Hid (∀w',Calls Tryz.prog 180 #[.agg #[.string (bs txt), .slice (some ⟨g,0,none⟩) ns.length c], .agg #[.int .i64 (x.sf:Int), .int .i64 (x.st:Int)]] w' λe w2=>e= .returned (.string (bs sl))/\Below w'.heap.size w' w2):=hid (λw'=>by have:=Lx (bs txt) (.slice (some ⟨g,0,none⟩) ns.length c) rfl (x.sf:Int) (x.st:Int) w';rw[Mz,a8] at this;exact this);obtain⟨tx,aZ⟩:=exQ<|pM x.kind sl;rw[aZ];have CT:Hid (∀w',Below W3.heap.size W3 w'->Calls Tryz.prog 179 #[.int .i64 (x.kind:Int), .string (bs sl)] w' λe w2=>e= .returned (.string (bs tx))/\Below w'.heap.size w' w2):=hid (λw' C=>by have:=aAQ x.kind sl w' (by omega) (HV.out w' C);rw[aZ] at this;exact this);have hk0:(0:Int)<=(k:Int):=by omega
 have hk1:(k:Int)<(ns.length:Int):=by omega
 have hl0:(-1:Int)<=lev/\lev<=32:=by have:=az.out;omega
 have hl1:decide ((32:Int)<lev)=false:=aJ (by omega);have hl2:IntKind.i64.wrap (lev+1)=lev+1:=IntWalk.i64_in _ (by omega);have hkl:x.kids.length<=65536:=Nb hT M hN;have e0:W2.cell? ⟨g,k*7,none⟩=some (.int .i64 (x.kind:Int)):=dT n0 Q.out;have e1:W2.cell? ⟨g,k*7+1,none⟩=some (.int .i64 (x.sf:Int)):=dT n1 Q.out;have e2:W2.cell? ⟨g,k*7+2,none⟩=some (.int .i64 (x.st:Int)):=dT n2 Q.out;have e3:W2.cell? ⟨g,k*7+3,none⟩=some (.int .i64 (x.key.1:Int)):=dT n3 Q.out;have e4:W2.cell? ⟨g,k*7+4,none⟩=some (.int .i64 (x.key.2:Int)):=dT n4 Q.out;have e5:W2.cell? ⟨g,k*7+5,none⟩=some (.slice pq x.kids.length cq):=dT n5 Q.out;have e6:W2.cell? ⟨g,k*7+6,none⟩=some (.slice pz x.pcs.length cz):=dT n6 Q.out;have c1:W2.cell? ⟨D,1,none⟩=some (.slice (some ⟨g,0,none⟩) ns.length c):=by rw[tZ ((O.block D aw).trans av) 1];rfl
 have hDR:D<R:=by rw[<-B,<-hD,<-au];simp
 obtain⟨kd,bc⟩: ∃kd:Int,(x.kind:Int)=kd:=⟨_,rfl⟩;have bt:x.kind=6↔kd=6:=by omega
 have H6:=hid bt;rw[bc] at aQ a7 CT e0 ⊢;clear hn n0 n1 n2 n3 n4 n5 n6 hV ay M hk hT bj O ae av ba a8 aZ bu P aw bc bt IH;go_enter Tryz.func145,Tryz.ntmps145;go_upto_region 1 with fail;clear au B;go_upto_region 2 with fail;obtain⟨W0,H⟩:=exQ<|W3.drew;have aO:Below W3.heap.size W3 W0:=by rw[<-H];exact(aB _ _).drew
 have aX:=hid aO;have aa:Hid (∀w',Below W3.heap.size W3 w'->(w'.cell? ⟨X,0,none⟩=some (.int .i64 kd)/\w'.cell? ⟨X,1,none⟩=some (.int .i64 (x.sf:Int))/\w'.cell? ⟨X,2,none⟩=some (.int .i64 (x.st:Int))/\w'.cell? ⟨X,5,none⟩=some (.slice pq x.kids.length cq))/\w'.cell? ⟨D,0,none⟩=some (.string (bs txt))/\w'.cell? ⟨D,1,none⟩=some (.slice (some ⟨g,0,none⟩) ns.length c)):=hid (λw' C=>by have M:=(C.block X (aE aQ.out)).trans aQ.out;have hd:=(C.block D (aE ar.out)).trans ar.out;exact⟨⟨by rw[tZ M];rfl,by rw[tZ M];rfl,by rw[tZ M];rfl,by rw[tZ M];rfl⟩,by rw[tZ hd];rfl,by rw[tZ hd];rfl⟩);obtain⟨SA,y⟩: ∃S:World->Prop,(λw'=>((w'.cell? ⟨X,0,none⟩=some (.int .i64 kd)/\w'.cell? ⟨X,1,none⟩=some (.int .i64 (x.sf:Int))/\w'.cell? ⟨X,2,none⟩=some (.int .i64 (x.st:Int))/\w'.cell? ⟨D,0,none⟩=some (.string (bs txt))/\w'.cell? ⟨D,1,none⟩=some (.slice (some ⟨g,0,none⟩) ns.length c))/\W0.heap.size<=w'.heap.size))=S:=⟨_,rfl⟩;have F:Hid (∀w',Below W0.heap.size W0 w'->SA w'):=hid (λw' C=>by rw[<-y];obtain⟨⟨a0,a1,a2,_⟩,a3,a4⟩:=aa.out w' (aC aO C);exact⟨⟨a0,a1,a2,a3,a4⟩,C.size⟩);have bl:Hid (∀w1 w2,SA w1->Below w1.heap.size w1 w2->SA w2):=hid (λw1 w2 h1 C=>by rw[<-y] at h1 ⊢;obtain⟨⟨a0,a1,a2,a3,a4⟩,a5⟩:=h1;exact⟨⟨dT a0 C,dT a1 C,dT a2 C,dT a3 C,dT a4 C⟩,aV a5 C.size⟩);clear e0 e1 e2 e3 e4 e5 e6 c1;have T:Tryz.prog.follows .mixedOrders=true:=by kernel_rfl
 refine Dr T [16,17,18,19,20,21,22,23,24,25,8] [7,8,9,11] 10 (rI W0) 74 rfl (by kernel_rfl) (by kernel_rfl) (by kernel_rfl) (λiz=>match iz with | 0=> .pointer (some ⟨X,0,none⟩) | 1=> .int .i64 kd | 2=> .pointer (some ⟨X,0,none⟩) | 3=> .int .i64 kd | 4=> .agg #[.string (bs txt), .slice (some ⟨g,0,none⟩) ns.length c] | 5=> .pointer (some ⟨X,1,none⟩) | 6=> .agg #[.int .i64 (x.sf:Int), .int .i64 (x.st:Int)] | _=>undef) SA (yE W3 W0 kd sl tx) (by rw[H];exact F.out _ (aB _ _)) (by rw[H];exact aB _ _) ?_ ?_
 ·intro d a w' iq o' ho A b G l R' B;have aq:iq<12:=(dW.1 ho).1;have q3:a.tmps[3]?.getD undef= .pointer (some ⟨D,0,none⟩):=by rw[<-aU];exact G 3 (by decide)
  have q7:a.tmps[7]?.getD undef= .pointer (some ⟨X,0,none⟩):=by rw[<-aU];exact G 7 (by decide)
  clear G;have z:=b;have o:=ho;have ai:iq=0\/iq=1\/iq=2\/iq=3\/iq=4\/iq=5\/iq=6\/iq=7\/iq=8\/iq=9\/iq=10\/iq=11:=by omega
  clear aq;rcases ai with rfl|rfl|rfl|rfl|rfl|rfl|rfl|rfl|rfl|rfl|rfl|rfl<;>simp only[fN,dG,bM,cP] at ho<;>subst ho
  ·go_simp;exact B _ _ (l.pure (by decide) o z rfl (by decide) (by decide) (by decide) rfl)
  ·simp[Region.binds] at b;have c16:a.tmps[16]?.getD undef= .pointer (some ⟨X,0,none⟩):=by rw[<-aU];exact l.cl 0 (by decide) (by decide) (by decide) (by simp[b])
   have s:=l.early (f:=12) (i:=1) (by kernel_rfl) A;rw[<-y] at s;obtain⟨⟨s0,s1,s2,s3,s4⟩,_⟩:=s;go_simp;exact B _ _ (l.pure (by decide) o z rfl (by decide) (by decide) (by decide) rfl)
  ·go_simp;exact B _ _ (l.pure (by decide) o z rfl (by decide) (by decide) (by decide) rfl)
  ·simp[Region.binds] at b;have c18:a.tmps[18]?.getD undef= .pointer (some ⟨X,0,none⟩):=by rw[<-aU];exact l.cl 2 (by decide) (by decide) (by decide) (by simp[b])
   have s:=l.early (f:=12) (i:=3) (by kernel_rfl) A;rw[<-y] at s;obtain⟨⟨s0,s1,s2,s3,s4⟩,_⟩:=s;go_simp;exact B _ _ (l.pure (by decide) o z rfl (by decide) (by decide) (by decide) rfl)
  ·have s:=l.early (f:=12) (i:=4) (by kernel_rfl) A;rw[<-y] at s;obtain⟨⟨s0,s1,s2,s3,s4⟩,_⟩:=s;go_simp;exact B _ _ (l.pure (by decide) o z rfl (by decide) (by decide) (by decide) rfl)
  ·go_simp;exact B _ _ (l.pure (by decide) o z rfl (by decide) (by decide) (by decide) rfl)
  ·simp[Region.binds] at b;have c21:a.tmps[21]?.getD undef= .pointer (some ⟨X,1,none⟩):=by rw[<-aU];exact l.cl 5 (by decide) (by decide) (by decide) (by simp[b])
   have s:=l.early (f:=12) (i:=6) (by kernel_rfl) A;rw[<-y] at s;obtain⟨⟨s0,s1,s2,s3,s4⟩,_⟩:=s;go_simp;exact B _ _ (l.pure (by decide) o z rfl (by decide) (by decide) (by decide) rfl)
  ·simp[Region.binds] at b;have c20:a.tmps[20]?.getD undef= .agg #[.string (bs txt), .slice (some ⟨g,0,none⟩) ns.length c]:=by rw[<-aU];exact l.cl 4 (by decide) (by decide) (by decide) (by simp[b])
   have c22:a.tmps[22]?.getD undef= .agg #[.int .i64 (x.sf:Int), .int .i64 (x.st:Int)]:=by rw[<-aU];exact l.cl 6 (by decide) (by decide) (by decide) (by simp[b])
   have u:=l.at2 (j:=0) rfl A (.inl rfl);have K:Below W0.heap.size W0 w':=u;go_simp;go_at_call 180;refine(CS1.out _).mono ?_;rintro e w5 ⟨rfl,I⟩;have E:=aC K I;exact B _ _ (l.eff2 (by decide) (by decide) 0 o z rfl A (.inl rfl) rfl (by decide) (λ_ x M=>rI.keep M I) (λ_=>F.out _ E) ⟨rfl,E⟩)
  ·simp[Region.binds] at b;have c19:a.tmps[19]?.getD undef= .int .i64 kd:=by rw[<-aU];exact l.cl 3 (by decide) (by decide) (by decide) (by simp[b])
   have t:d 7=true:=by first | first | exact b | exact b.1 | exact b.2 | exact b.2.1 | exact b.2.2 | exact b.2.2.1 | exact b.2.2.2 | (exact z ⟨_,_⟩ (by simp) rfl)
   have u:=l.at2 (j:=1) rfl A (.inr ⟨7,rfl,t⟩);obtain⟨hc,K⟩:=u;have hc:a.tmps.getD 23 undef= .string (bs sl):=hc;have c23:a.tmps[23]?.getD undef= .string (bs sl):=by rw[<-aU];exact hc
   go_simp;go_at_call 179;refine(CT.out _ (aC aX.out K)).mono ?_;rintro e w5 ⟨rfl,I⟩;have E:=aC K I;exact B _ _ (l.eff2 (by decide) (by decide) 1 o z rfl A (.inr ⟨7,rfl,t⟩) rfl (by decide) (λ_ x M=>rI.keep M I) (λ_=>F.out _ E) ⟨rfl,E⟩)
  ·simp[Region.binds] at b;have c17:a.tmps[17]?.getD undef= .int .i64 kd:=by rw[<-aU];exact l.cl 1 (by decide) (by decide) (by decide) (by simp[b])
   have t:d 8=true:=by first | first | exact b | exact b.1 | exact b.2 | exact b.2.1 | exact b.2.2 | exact b.2.2.1 | exact b.2.2.2 | (exact z ⟨_,_⟩ (by simp) rfl)
   have u:=l.at2 (j:=2) rfl A (.inr ⟨8,rfl,t⟩);obtain⟨hc,K⟩:=u;have hc:a.tmps.getD 24 undef= .string (bs tx):=hc;have c24:a.tmps[24]?.getD undef= .string (bs tx):=by rw[<-aU];exact hc
   go_simp;exact B _ _ (l.eff2 (by decide) (by decide) 2 o z rfl A (.inr ⟨8,rfl,t⟩) rfl (by decide) (λ_ x M=>M) (λ_=>F.out _ K) ⟨rfl,K⟩)
  ·have bn:=aH w' (.cells #[.int .i64 0, .string ⟨#[]⟩, .slice none 0 0, .slice none 0 0] 25);have aY:=l.st (l.lastNot (f:=12) (i:=10) (by kernel_rfl) A);rw[<-y] at aY;have bx:=rI.new (W0:=W0) (w':=w') aY.2;clear aY;go_simp;exact B _ _ (l.free (by decide) o z rfl (by decide) rfl (by decide) (by decide) (by decide) (l.lastNot (f:=12) (i:=10) (by kernel_rfl) A) (λhs=>bl.out _ _ hs bn) (λk c hp=>yE.keep hp bn) bx)
  ·simp[Region.binds] at b;have t:d 9=true:=by first | first | exact b | exact b.1 | exact b.2 | exact b.2.1 | exact b.2.2 | exact b.2.2.1 | exact b.2.2.2 | (exact z ⟨_,_⟩ (by simp) rfl)
   have u:=l.at2 (j:=3) rfl A (.inr ⟨9,rfl,t⟩);obtain⟨aD,K⟩:=u;have aD:a.tmps.getD 25 undef= .agg #[.int .i64 kd, .string (bs tx), .slice none 0 0, .slice none 0 0]:=aD;have c25:a.tmps[25]?.getD undef= .agg #[.int .i64 kd, .string (bs tx), .slice none 0 0, .slice none 0 0]:=by rw[<-aU];exact aD
   obtain⟨Y,hY,bE,bb⟩:=l.fb A (by simp[b]);have hY:a.tmps.getD 8 undef= .pointer (some ⟨Y,0,none⟩):=hY;have c8:a.tmps[8]?.getD undef= .pointer (some ⟨Y,0,none⟩):=by rw[<-aU];exact hY
   obtain⟨y0,y1,y2,y3,g0,g1,g2,g3⟩:=cF bb;go_simp;exact B undef _ (l.eff2 (by decide) (by decide) 3 o z rfl A (.inr ⟨9,rfl,t⟩) rfl (by decide) (λh=>absurd rfl h) (λh=>absurd rfl h) ⟨Y,hY,CS.ofStore aX.out K (bS.nil _ _) bE bb⟩)
 intro v wz al U;obtain⟨Y,hY,hC⟩:=U;have hY:v 8= .pointer (some ⟨Y,0,none⟩):=hY;have HC:=hid hC;simp only[cV,fO,eP,fP,hY];clear al hC bl F y H aO aX SA W0 CS1 CT;obtain⟨⟨x0,x1,x2,x5⟩,z0,z1⟩:=aa.out wz HC.out.bel;go_wp2_with fail;clear x0 x1 x2 x5 z0 z1 hY;go_loopw [29,9,10] (λs29 s9 s10 wr=> ∃(i:Nat) (kv ov:Value),s29= .int .i64 (i:Int)/\i<=x.kids.length/\Hid (CS W3 Y kd tx (jD txt ns x.kind (x.kids.take i)) ((x.kids.take i).map (bQ txt ns lv)) kv ov wr)) (λs29 _ _ _=>x.kids.length-(RowKit.intOf s29).toNat)
 case atStart=>exact⟨0, .slice none 0 0, .slice none 0 0,rfl,cH _,by rw[List.take_zero,aAR];first | exact HC | exact hid (HC.out.keep (aB _ _).drew)⟩
 case round=>
  obtain⟨i,kv,ov,rfl,A,HC⟩:=hrel;obtain⟨⟨x0,x1,x2,x5⟩,z0,z1⟩:=aa.out wr HC.out.bel;by_cases hil:i<x.kids.length
  ·obtain⟨q,P⟩: ∃q,x.kids[i]?=some q:=⟨_,bH hil⟩;have aW:=bA P;obtain⟨gk,rfl,kc⟩:=HQ.out wr HC.out.bel i q P;obtain⟨_,hqn⟩:=aK.out q aW;have bG:(i:Int)<(x.kids.length:Int):=(by omega);have dk:decide ((i:Int)<(x.kids.length:Int))=true:=aN bG;have hi0:(0:Int)<=(i:Int):=(by omega);have dq1:decide ((q:Int)<0)=false:=aJ (by omega);have dq2:decide ((ns.length:Int)<=(q:Int))=false:=aJ (by omega);have dq3:decide (ns.length<=q)=false:=aJ (by omega);have bm:=hid (jM P);obtain⟨pa,ca,aj⟩:=HC.out.keys.slice;obtain⟨po,co,ah⟩:=HC.out.its.slice;have bi:((x.kids.take i).map (bQ txt ns lv)).length=i:=by rw[cA,cB];omega
   rw[bi] at ah;obtain⟨nk,ab⟩:=exQ<|(jD txt ns x.kind (x.kids.take i)).length;have bp:nk<=65536:=by
    rw[<-ab];unfold jD;split
    ·rw[cA,cB];omega
    ·exact cH _
   rw[ab] at aj;subst aj ah;have bo:=hid ab;have bk:=hid aW;clear P aW ab bi;go_upto_if 53 with fail;go_cut [54,55,56,57,58,59,60,61] (λs54 s55 s56 s57 s58 s59 s60 s61 wx=> ∃kv',Hid (CS W3 Y kd tx (jD txt ns x.kind (x.kids.take (i+1))) ((x.kids.take i).map (bQ txt ns lv)) kv' (.slice po i co) wx))
   case first=>
    by_cases h6:kd=6;rotate_left
    ·have d6:(kd==6)=false:=aG.2 h6;have V: ¬x.kind=6:=λe=>h6 (H6.out.1 e);have ap:Hid (CS W3 Y kd tx (jD txt ns x.kind (x.kids.take (i+1))) ((x.kids.take i).map (bQ txt ns lv)) (.slice pa nk ca) (.slice po i co) wr):=hid (by have:=HC.out;unfold jD at this ⊢;rw[if_neg V] at this ⊢;exact this);clear h6 V;go_wp2_with fail;go_meet;exact⟨_,by first | exact ap | exact hid (ap.out.keep (aB _ _).drew)⟩
    ·have d6:(kd==6)=true:=by rw[h6];rfl
     have V:x.kind=6:=H6.out.2 h6;obtain⟨W0,H⟩:=exQ<|wr.drew;have N:Below wr.heap.size wr W0:=by rw[<-H];exact(aB _ _).drew
     have r:Hid (CS W3 Y kd tx ((x.kids.take i).map (fY txt ns)) ((x.kids.take i).map (bQ txt ns lv)) (.slice pa nk ca) (.slice po i co) W0):=hid (by have:=HC.out.keep N;unfold jD at this;rw[if_pos V] at this;exact this);have J:((x.kids.take i).map (fY txt ns)++ [fY txt ns q]).length=nk+1:=by
      have:=bo.out;unfold jD at this;rw[if_pos V] at this;rw[aI,this,dQ]
     have am:((x.kids.take i).map (fY txt ns)).length<=4294967295:=by rw[cA,cB];omega
     have bB:=hid V;have ak:=hid (aT J am);clear h6 V J am N;go_upto_region 10 with fail;obtain⟨SA,y⟩: ∃S:World->Prop,(λw'=>(w'.cell? ⟨Y,2,none⟩=some (.slice pa nk ca)/\w'.frozen? ⟨Y,2,none⟩=false)/\w'.cell? ⟨D,0,none⟩=some (.string (bs txt))/\w'.cell? ⟨D,1,none⟩=some (.slice (some ⟨g,0,none⟩) ns.length c))=S:=⟨_,rfl⟩;have F:Hid (∀w',Below W0.heap.size W0 w'->SA w'):=hid (λw' C=>by rw[<-y];obtain⟨_,a3,a4⟩:=aa.out w' (aC r.out.bel C);have q:=(r.out.keep C).cells;exact⟨⟨q.2.2.1,q.2.2.2.2.2.2.1⟩,a3,a4⟩);have ag:Hid (∀w' c',nV W3 W0 Y (fY txt ns q) ((x.kids.take i).map (fY txt ns)) (.slice pa nk ca) 3 c' w'->SA w'):=hid (λw' c' hp=>by rw[<-y];obtain⟨q1,q2,q3,q4,q5⟩:=hp;have af:=r.out.box;have bz:=aE af;have e1:w'.heap[Y]?=W0.heap[Y]?:=q4 Y bz r.out.off;have e2:=e1.trans af;have e3: ∀o',w'.cell? ⟨D,o',none⟩=W0.cell? ⟨D,o',none⟩:=λo'=>q2.cell (p:=⟨D,o',none⟩) (aE ar.out);obtain⟨_,a3,a4⟩:=aa.out W0 r.out.bel;obtain⟨y0,y1,y2,y3,y4,y5,y6,y7⟩:=cF e2;exact⟨⟨y2,y6⟩,by rw[e3];exact a3,by rw[e3];exact a4⟩);clear x0 x1 x2 x5 z0 z1 kc;have T:Tryz.prog.follows .mixedOrders=true:=(by kernel_rfl);refine Dr T [54,55,56,57,58,59,60,61] [4,5,6,8] 1000000 (λ_ _=>True) 74 rfl (by kernel_rfl) (by kernel_rfl) (by kernel_rfl) (λiz=>match iz with | 0=> .pointer (some ⟨Y,2,none⟩) | 1=> .slice pa nk ca | 2=> .agg #[.string (bs txt), .slice (some ⟨g,0,none⟩) ns.length c] | 3=> .int .i64 (q:Int) | 7=> .pointer (some ⟨Y,2,none⟩) | _=>undef) SA (nV W3 W0 Y (fY txt ns q) ((x.kids.take i).map (fY txt ns)) (.slice pa nk ca)) (by rw[H];exact F.out _ (aB _ _)) (by rw[H];exact aB _ _) ?_ ?_
     ·intro d a w' iq o' ho A b G l R' B;have aq:iq<9:=(dW.1 ho).1;have q3:a.tmps[3]?.getD undef= .pointer (some ⟨D,0,none⟩):=by rw[<-aU];exact G 3 (by decide)
      have q8:a.tmps[8]?.getD undef= .pointer (some ⟨Y,0,none⟩):=by rw[<-aU];exact G 8 (by decide)
      have q10:a.tmps[10]?.getD undef= .int .i64 (q:Int):=by rw[<-aU];exact G 10 (by decide)
      clear G;have z:=b;have o:=ho;have ai:iq=0\/iq=1\/iq=2\/iq=3\/iq=4\/iq=5\/iq=6\/iq=7\/iq=8:=(by omega);clear aq;rcases ai with rfl|rfl|rfl|rfl|rfl|rfl|rfl|rfl|rfl<;>simp only[fN,dG,bM,cP] at ho<;>subst ho
      ·go_simp;exact B _ _ (l.pure (by decide) o z rfl (by decide) (by decide) (by decide) rfl)
      ·simp[Region.binds] at b;have c54:a.tmps[54]?.getD undef= .pointer (some ⟨Y,2,none⟩):=by rw[<-aU];exact l.cl 0 (by decide) (by decide) (by decide) (by simp[b])
       have s:=l.early (f:=9) (i:=1) (by kernel_rfl) A;rw[<-y] at s;obtain⟨⟨x3,x3f⟩,s3,s4⟩:=s;go_simp;exact B _ _ (l.pure (by decide) o z rfl (by decide) (by decide) (by decide) rfl)
      ·have s:=l.early (f:=9) (i:=2) (by kernel_rfl) A;rw[<-y] at s;obtain⟨⟨x3,x3f⟩,s3,s4⟩:=s;go_simp;exact B _ _ (l.pure (by decide) o z rfl (by decide) (by decide) (by decide) rfl)
      ·go_simp;exact B _ _ (l.pure (by decide) o z rfl (by decide) (by decide) (by decide) rfl)
      ·simp[Region.binds] at b;have c56:a.tmps[56]?.getD undef= .agg #[.string (bs txt), .slice (some ⟨g,0,none⟩) ns.length c]:=by rw[<-aU];exact l.cl 2 (by decide) (by decide) (by decide) (by simp[b])
       have c57:a.tmps[57]?.getD undef= .int .i64 (q:Int):=by rw[<-aU];exact l.cl 3 (by decide) (by decide) (by decide) (by simp[b])
       have u:=l.at2 (j:=0) rfl A (.inl rfl);have K:Below W0.heap.size W0 w':=u;go_simp;go_at_call 181;refine(bw.out _ (aC r.out.bel K) q bk.out).mono ?_;rintro e w5 ⟨rfl,I⟩;have E:=aC K I;exact B _ _ (l.eff2 (by decide) (by decide) 0 o z rfl A (.inl rfl) rfl (by decide) (λ_ _ _=>trivial) (λ_=>F.out _ E) ⟨rfl,E⟩)
      ·simp[Region.binds] at b;have t:d 4=true:=by first | first | exact b | exact b.1 | exact b.2 | exact b.2.1 | exact b.2.2 | exact b.2.2.1 | exact b.2.2.2 | (exact z ⟨_,_⟩ (by simp) rfl)
       have u:=l.at2 (j:=1) rfl A (.inr ⟨4,rfl,t⟩);obtain⟨hc,K⟩:=u;have hc:a.tmps.getD 58 undef= .string (bs (fY txt ns q)):=hc;have c58:a.tmps[58]?.getD undef= .string (bs (fY txt ns q)):=by rw[<-aU];exact hc
       have E:=λob=>aC K (aH w' ob);go_simp;exact B _ _ (l.eff2 (by decide) (by decide) 1 o z rfl A (.inr ⟨4,rfl,t⟩) rfl (by decide) (λ_ _ _=>trivial) (λ_=>F.out _ (E _)) ⟨w',K,rfl,rfl⟩)
      ·simp[Region.binds] at b;have c55:a.tmps[55]?.getD undef= .slice pa nk ca:=by rw[<-aU];exact l.cl 1 (by decide) (by decide) (by decide) (by simp[b])
       have t:d 5=true:=by first | first | exact b | exact b.1 | exact b.2 | exact b.2.1 | exact b.2.2 | exact b.2.2.1 | exact b.2.2.2 | (exact z ⟨_,_⟩ (by simp) rfl)
       have u:=l.at2 (j:=2) rfl A (.inr ⟨5,rfl,t⟩);have c55':a.tmps.getD 55 undef= .slice pa nk ca:=by rw[aU];exact c55
       exact nV.app (.tmp 55) (.tmp 59) rfl r.out u c55' rfl ak.out.2 (λv' w2 an=>B _ _ (l.eff2 (by decide) (by decide) 2 o z rfl A (.inr ⟨5,rfl,t⟩) rfl (by decide) (λ_ _ _=>trivial) (λ_=>ag.out _ _ an) an))
      ·go_simp;exact B _ _ (l.pure (by decide) o z rfl (by decide) (by decide) (by decide) rfl)
      ·simp[Region.binds] at b;have c61:a.tmps[61]?.getD undef= .pointer (some ⟨Y,2,none⟩):=by rw[<-aU];exact l.cl 7 (by decide) (by decide) (by decide) (by simp[b])
       have t:d 6=true:=by first | first | exact b | exact b.1 | exact b.2 | exact b.2.1 | exact b.2.2 | exact b.2.2.1 | exact b.2.2.2 | (exact z ⟨_,_⟩ (by simp) rfl)
       have u:=l.at2 (j:=3) rfl A (.inr ⟨6,rfl,t⟩);have ad:nV W3 W0 Y (fY txt ns q) ((x.kids.take i).map (fY txt ns)) (.slice pa nk ca) 3 (a.tmps.getD 60 undef) w':=u;have s:=l.st A;rw[<-y] at s;obtain⟨⟨x3,x3f⟩,_⟩:=s;obtain⟨pz2,cz2,hz⟩:=ad.1.slice;rw[ak.out.1] at hz;rw[hz] at ad;have c60:a.tmps[60]?.getD undef= .slice pz2 (nk+1) cz2:=by rw[<-aU];exact hz
       go_simp;exact B undef _ (l.eff2 (by decide) (by decide) 3 o z rfl A (.inr ⟨6,rfl,t⟩) rfl (by decide) (λ_ _ _=>trivial) (λh=>absurd rfl h) ⟨_,_,ad,rfl⟩)
     intro v wz al U;obtain⟨kv2,L⟩:=nV.fin r.out U;have L:Hid (CS W3 Y kd tx (jD txt ns x.kind (x.kids.take (i+1))) ((x.kids.take i).map (bQ txt ns lv)) kv2 (.slice po i co) wz):=hid (by unfold jD;rw[if_pos bB.out,bm.out,qE];exact L);clear al U ag F y r H;simp only[cV,fO,eP,fP];go_wp2_with fail;go_meet;exact⟨_,by first | exact L | exact hid (L.out.keep (aB _ _).drew)⟩
   case rest=>
    obtain⟨kv',ap⟩:=hcut;clear HC bo bp x0 x1 x2 x5 z0 z1 kc;obtain⟨W0,H⟩:=exQ<|wc.drew;have N:Below wc.heap.size wc W0:=by rw[<-H];exact(aB _ _).drew
    have r:=hid (ap.out.keep N);have J:((x.kids.take i).map (bQ txt ns lv)++ [bQ txt ns lv q]).length=i+1:=by rw[aI,cA,cB,dQ];omega
    have am:((x.kids.take i).map (bQ txt ns lv)).length<=4294967295:=by rw[cA,cB];omega
    have ak:=hid (aT J am);clear J am N;go_upto_region 11 with fail;obtain⟨SA,y⟩: ∃S:World->Prop,(λw'=>(w'.cell? ⟨Y,3,none⟩=some (.slice po i co)/\w'.frozen? ⟨Y,3,none⟩=false)/\w'.cell? ⟨D,0,none⟩=some (.string (bs txt))/\w'.cell? ⟨D,1,none⟩=some (.slice (some ⟨g,0,none⟩) ns.length c))=S:=⟨_,rfl⟩;have F:Hid (∀w',Below W0.heap.size W0 w'->SA w'):=hid (λw' C=>by rw[<-y];obtain⟨_,a3,a4⟩:=aa.out w' (aC r.out.bel C);have q:=(r.out.keep C).cells;exact⟨⟨q.2.2.2.1,q.2.2.2.2.2.2.2⟩,a3,a4⟩);have ag:Hid (∀w' c',jB W0 Y kv'.ownBlock (bQ txt ns lv q) ((x.kids.take i).map (bQ txt ns lv)) (.slice po i co) 3 c' w'->SA w'):=hid (λw' c' hp=>by rw[<-y];obtain⟨q1,q2,q3,q4⟩:=hp;have af:=r.out.box;have hn:=r.out.new_;have hD3l:=aE ar.out;have bf:Below (Y+1) W0 w':=q2;have e2:w'.heap[Y]?=_:=(bf.block Y (jY _)).trans af;have e3: ∀o',w'.cell? ⟨D,o',none⟩=W0.cell? ⟨D,o',none⟩:=λo'=>bf.cell (p:=⟨D,o',none⟩) (by show D<Y+1;omega);obtain⟨_,a3,a4⟩:=aa.out W0 r.out.bel;obtain⟨y0,y1,y2,y3,y4,y5,y6,y7⟩:=cF e2;exact⟨⟨y3,y7⟩,by rw[e3];exact a3,by rw[e3];exact a4⟩);have T:Tryz.prog.follows .mixedOrders=true:=(by kernel_rfl);refine Dr T [62,63,64,65,66,67,68,69,70,71] [6,7,8,10] 1000000 (λ_ _=>True) 74 rfl (by kernel_rfl) (by kernel_rfl) (by kernel_rfl) (λiz=>match iz with | 0=> .pointer (some ⟨Y,3,none⟩) | 1=> .slice po i co | 2=> .agg #[.string (bs txt), .slice (some ⟨g,0,none⟩) ns.length c] | 3=> .int .i64 (q:Int) | 4=> .int .i64 lev | 5=> .int .i64 (lev+1) | 9=> .pointer (some ⟨Y,3,none⟩) | _=>undef) SA (jB W0 Y kv'.ownBlock (bQ txt ns lv q) ((x.kids.take i).map (bQ txt ns lv)) (.slice po i co)) (by rw[H];exact F.out _ (aB _ _)) (by rw[H];exact aB _ _) ?_ ?_
    ·intro d a w' iq o' ho A b G l R' B;have aq:iq<11:=(dW.1 ho).1;have q2:a.tmps[2]?.getD undef= .int .i64 lev:=by rw[<-aU];exact G 2 (by decide)
     have q3:a.tmps[3]?.getD undef= .pointer (some ⟨D,0,none⟩):=by rw[<-aU];exact G 3 (by decide)
     have q8:a.tmps[8]?.getD undef= .pointer (some ⟨Y,0,none⟩):=by rw[<-aU];exact G 8 (by decide)
     have q10:a.tmps[10]?.getD undef= .int .i64 (q:Int):=by rw[<-aU];exact G 10 (by decide)
     clear G;have z:=b;have o:=ho;have ai:iq=0\/iq=1\/iq=2\/iq=3\/iq=4\/iq=5\/iq=6\/iq=7\/iq=8\/iq=9\/iq=10:=(by omega);clear aq;rcases ai with rfl|rfl|rfl|rfl|rfl|rfl|rfl|rfl|rfl|rfl|rfl<;>simp only[fN,dG,bM,cP] at ho<;>subst ho
     ·go_simp;exact B _ _ (l.pure (by decide) o z rfl (by decide) (by decide) (by decide) rfl)
     ·simp[Region.binds] at b;have c62:a.tmps[62]?.getD undef= .pointer (some ⟨Y,3,none⟩):=by rw[<-aU];exact l.cl 0 (by decide) (by decide) (by decide) (by simp[b])
      have s:=l.early (f:=11) (i:=1) (by kernel_rfl) A;rw[<-y] at s;obtain⟨⟨x3,x3f⟩,s3,s4⟩:=s;go_simp;exact B _ _ (l.pure (by decide) o z rfl (by decide) (by decide) (by decide) rfl)
     ·have s:=l.early (f:=11) (i:=2) (by kernel_rfl) A;rw[<-y] at s;obtain⟨⟨x3,x3f⟩,s3,s4⟩:=s;go_simp;exact B _ _ (l.pure (by decide) o z rfl (by decide) (by decide) (by decide) rfl)
     ·go_simp;exact B _ _ (l.pure (by decide) o z rfl (by decide) (by decide) (by decide) rfl)
     ·go_simp;exact B _ _ (l.pure (by decide) o z rfl (by decide) (by decide) (by decide) rfl)
     ·simp[Region.binds] at b;have c66:a.tmps[66]?.getD undef= .int .i64 lev:=by rw[<-aU];exact l.cl 4 (by decide) (by decide) (by decide) (by simp[b])
      go_simp;exact B _ _ (l.pure (by decide) o z rfl (by decide) (by decide) (by decide) rfl)
     ·simp[Region.binds] at b;have c64:a.tmps[64]?.getD undef= .agg #[.string (bs txt), .slice (some ⟨g,0,none⟩) ns.length c]:=by rw[<-aU];exact l.cl 2 (by decide) (by decide) (by decide) (by simp[b])
      have c65:a.tmps[65]?.getD undef= .int .i64 (q:Int):=by rw[<-aU];exact l.cl 3 (by decide) (by decide) (by decide) (by simp[b])
      have c67:a.tmps[67]?.getD undef= .int .i64 (lev+1):=by rw[<-aU];exact l.cl 5 (by decide) (by decide) (by decide) (by simp[b])
      have u:=l.at2 (j:=0) rfl A (.inl rfl);have K:Below W0.heap.size W0 w':=u;go_simp;go_at_call 145;refine(bF.out _ (aC r.out.bel K) q bk.out).mono ?_;rintro e w5 ⟨⟨kv5,iv5,rfl,aR⟩,I⟩;have E:=aC K I;exact B _ _ (l.eff2 (by decide) (by decide) 0 o z rfl A (.inl rfl) rfl (by decide) (λ_ _ _=>trivial) (λ_=>F.out _ E) ⟨kv5,iv5,rfl,aR.mono (λq P _=>aV K.size P),E⟩)
     ·simp[Region.binds] at b;have t:d 6=true:=by first | first | exact b | exact b.1 | exact b.2 | exact b.2.1 | exact b.2.2 | exact b.2.2.1 | exact b.2.2.2 | (exact z ⟨_,_⟩ (by simp) rfl)
      have u:=l.at2 (j:=1) rfl A (.inr ⟨6,rfl,t⟩);obtain⟨kv5,iv5,a6,aR,I⟩:=u;have a6:a.tmps.getD 68 undef=vv (bQ txt ns lv q) kv5 iv5:=a6;have c68:a.tmps[68]?.getD undef= .agg #[.int .i64 (bQ txt ns lv q).kind, .string (bs (bQ txt ns lv q).text),kv5,iv5]:=by rw[<-aU];exact a6
      have E:=λob=>aC I (aH w' ob);go_simp;exact B _ _ (l.eff2 (by decide) (by decide) 1 o z rfl A (.inr ⟨6,rfl,t⟩) rfl (by decide) (λ_ _ _=>trivial) (λ_=>F.out _ (E _)) ⟨w',kv5,iv5,aR,I,rfl,rfl⟩)
     ·simp[Region.binds] at b;have c63:a.tmps[63]?.getD undef= .slice po i co:=by rw[<-aU];exact l.cl 1 (by decide) (by decide) (by decide) (by simp[b])
      have t:d 7=true:=by first | first | exact b | exact b.1 | exact b.2 | exact b.2.1 | exact b.2.2 | exact b.2.2.1 | exact b.2.2.2 | (exact z ⟨_,_⟩ (by simp) rfl)
      have u:=l.at2 (j:=2) rfl A (.inr ⟨7,rfl,t⟩);have c63':a.tmps.getD 63 undef= .slice po i co:=by rw[aU];exact c63
      exact jB.app (.tmp 63) (.tmp 69) rfl r.out u c63' rfl ak.out.2 (λv' w2 an=>B _ _ (l.eff2 (by decide) (by decide) 2 o z rfl A (.inr ⟨7,rfl,t⟩) rfl (by decide) (λ_ _ _=>trivial) (λ_=>ag.out _ _ an) an))
     ·go_simp;exact B _ _ (l.pure (by decide) o z rfl (by decide) (by decide) (by decide) rfl)
     ·simp[Region.binds] at b;have c71:a.tmps[71]?.getD undef= .pointer (some ⟨Y,3,none⟩):=by rw[<-aU];exact l.cl 9 (by decide) (by decide) (by decide) (by simp[b])
      have t:d 8=true:=by first | first | exact b | exact b.1 | exact b.2 | exact b.2.1 | exact b.2.2 | exact b.2.2.1 | exact b.2.2.2 | (exact z ⟨_,_⟩ (by simp) rfl)
      have u:=l.at2 (j:=3) rfl A (.inr ⟨8,rfl,t⟩);have ad:jB W0 Y kv'.ownBlock (bQ txt ns lv q) ((x.kids.take i).map (bQ txt ns lv)) (.slice po i co) 3 (a.tmps.getD 70 undef) w':=u;have s:=l.st A;rw[<-y] at s;obtain⟨⟨x3,x3f⟩,_⟩:=s;obtain⟨pz2,cz2,hz⟩:=ad.1.slice;rw[ak.out.1] at hz;rw[hz] at ad;have c70:a.tmps[70]?.getD undef= .slice pz2 (i+1) cz2:=by rw[<-aU];exact hz
      go_simp;exact B undef _ (l.eff2 (by decide) (by decide) 3 o z rfl A (.inr ⟨8,rfl,t⟩) rfl (by decide) (λ_ _ _=>trivial) (λh=>absurd rfl h) ⟨_,_,ad,rfl⟩)
    intro v wz al U;obtain⟨ov2,L⟩:=jB.fin r.out U;have L:Hid (CS W3 Y kd tx (jD txt ns x.kind (x.kids.take (i+1))) ((x.kids.take (i+1)).map (bQ txt ns lv)) kv' ov2 wz):=hid (by
     have e:(x.kids.take (i+1)).map (bQ txt ns lv)=(x.kids.take i).map (bQ txt ns lv)++ [bQ txt ns lv q]:=by rw[bm.out,qE];rfl
     rw[e];exact L)
    clear al U ag F y r H ap;simp only[cV,fO,eP,fP];go_wp2_with fail;go_roundw
    case rel=>exact⟨i+1,kv',ov2,by go_num,by omega,by first | exact L | exact hid (L.out.keep (aB _ _).drew)⟩
    case measure=>simp[RowKit.intOf];omega
  ·have dk:decide ((i:Int)<(x.kids.length:Int))=false:=aJ (by omega);obtain rfl:i=x.kids.length:=(by omega);have a9:=HC.out;rw[List.take_length] at a9;have Z:=hid a9;clear a9 HC;obtain⟨pa,ca,aj⟩:=Z.out.keys.slice;obtain⟨po,co,ah⟩:=Z.out.its.slice;obtain⟨nk,ab⟩:=exQ<|(jD txt ns x.kind x.kids).length;obtain⟨ni,bd⟩:=exQ<|(x.kids.map (bQ txt ns lv)).length;rw[ab] at aj;rw[bd] at ah;subst aj ah;have HP:Hid (oQ (VT.mk kd tx (jD txt ns x.kind x.kids) (x.kids.map (bQ txt ns lv))) w (.returned (.agg #[.int .i64 kd, .string (bs tx), .slice pa nk ca, .slice po ni co])) (bL wr R kd tx (.slice pa nk ca) (.slice po ni co))):=hid (by refine⟨⟨_,_,rfl,?_⟩,yC (aC ao.out Z.out.bel) (by omega)⟩;exact(Z.out.put (R:=R) aM).mono (λq P _=>aV ao.out.size P));have bq:Hid ((bL wr R kd tx (.slice pa nk ca) (.slice po ni co)).heap[R]?=some (.cells #[.int .i64 kd, .string (bs tx), .slice pa nk ca, .slice po ni co] 25)):=hid (yD ((Z.out.bel.block R aM).trans aS.out));obtain⟨r0,r1,r2,r3,f0,f1,f2,f3⟩:=cF ((Z.out.bel.block R aM).trans aS.out);obtain⟨y0,y1,y2,y3,_⟩:=Z.out.cells;clear ab bd;go_wp2_with fail;obtain⟨WF,aL⟩:=exQ<|bL wr R kd tx (.slice pa nk ca) (.slice po ni co);rw[aL] at HP bq;have ax:(((wr.setCell ⟨R,0,none⟩ (.int .i64 kd)).setCell ⟨R,1,none⟩ (.string (bs tx))).setCell ⟨R,2,none⟩ (.slice pa nk ca)).setCell ⟨R,3,none⟩ (.slice po ni co)=WF:=aL;rw[ax];clear aL ax r0 r1 r2 r3 f0 f1 f2 f3 y0 y1 y2 y3;obtain⟨d0,d1,d2,d3,_⟩:=cF bq.out;refine bodyPost_ret (v:= .agg #[.int .i64 kd, .string (bs tx), .slice pa nk ca, .slice po ni co]) ?_ rfl HP.out;simp[results,Tryz.results145,go_sem,d0,d1,d2,d3]
theorem Nc (txt:aA) (ns:List aF) (p:Option Addr) (c:Nat) (hN:ns.length<=65536) (hs:txt.length<=1073741824): ∀lv,Fd txt ns p c lv
 | 0=>λ_ _ _ _ h=>h.elim
 | lv+1=>aAS txt ns p c hN hs lv (Nc txt ns p c hN hs lv)
end Go.Proofs.YtjnooaljcgkfpaaGreatDoor
