import Derived.Test.YtaifnmjjpddikaaGreatDoorRf4
import Derived.Test.YtaifnmjjpddikaaGreatDoorRf6
import Derived.Test.YtaifnmjjpddikaaGreatDoorRf11
import Derived.Test.YtaifnmjjpddikaaGreatDoorRf13
import Derived.Test.YtaifnmjjpddikaaGreatDoorRf9
import Derived.Deep.RegionHeld3
import Derived.Deep.RegionLaw
import Derived.Deep.DeepCutAuto
set_option maxRecDepth 100000
set_option maxHeartbeats 4000000
namespace Go.Proofs.YtaifnmjjpddikaaGreatDoor
set_option linter.unusedSimpArgs false
set_option linter.unusedVariables false
open Go.RowKit Go.Maps Go.WideMaps
open Go.Lib hiding intOf
def cA (w:World):Prop:=mV w/\cO w
theorem cA.keep {w w':World} (h:cA w) (hb:Below w.heap.size w w'):cA w':=⟨h.1.keep hb,h.2.keep hb⟩
theorem cA.tabs {w:World} (h:cA w):cC w:=h.1.1.1
theorem Jj (txt:aA) (a b:Nat):vV (bs txt) (a:Int) (b:Int)=bs (dE txt (a,b)):=by
 unfold vV dE;simp only[];have sl:=aR txt;by_cases h:b<a\/txt.length<b
 ·rw[if_pos h,if_pos (by rcases h with h | h;exact .inr (.inl (by omega));exact .inr (.inr (by omega)))];rfl
 ·rw[if_neg h,if_neg (by omega),fC,fC,kV,aU,List.drop_take]
theorem yH (txt:aA) (s:Sp):(dE txt s).length<=txt.length:=by
 unfold dE;split
 ·exact cN _
 ·rw[aV,cF];omega
theorem Vp (s:aA):(cZ s).1.dig.length<=1000:=by
 by_cases he:(cZ s).2=0
 ·exact By s he
 ·unfold cZ at he ⊢;cases hl:kC s with
  | none=>exact cN _
  | some x=>
   rw[hl] at he;simp only[] at he ⊢;obtain⟨q,hq⟩:=exQ<|pM x;rw[hq] at he ⊢;unfold pM at hq;simp only[] at hq
   (repeat' split at hq)<;>subst hq<;>first | exact cN _ | exact absurd rfl he
abbrev jW (W:World) (D:Nat) (txt:ByteArray) (p:Option Addr) (n c g k:Nat) (k1 k2:Int) (w:World):Prop:=
 (w.cell? ⟨D,0,none⟩=some (.string txt)/\w.cell? ⟨D,1,none⟩=some (.slice p n c)/\w.cell? ⟨g,k*7+3,none⟩=some (.int .i64 k1)/\w.cell? ⟨g,k*7+4,none⟩=some (.int .i64 k2))/\Hid (Below W.heap.size W w)
section
variable {W w w2:World}{D:Nat}{txt:ByteArray}{p:Option Addr}{n c g k:Nat}{k1 k2:Int}
theorem jW.bel (h:jW W D txt p n c g k k1 k2 w):Below W.heap.size W w:=h.2.out
theorem jW.step (h:jW W D txt p n c g k k1 k2 w) (hb:Below w.heap.size w w2):jW W D txt p n c g k k1 k2 w2:=by
 obtain⟨⟨h0,h1,h2,h3⟩,h8⟩:=h;exact⟨⟨bE h0 hb,bE h1 hb,bE h2 hb,bE h3 hb⟩,hid (aC h8.out hb)⟩
theorem jW.drew (h:jW W D txt p n c g k k1 k2 w):jW W D txt p n c g k k1 k2 w.drew:=h.step (aB _ _).drew
end
theorem Vq (txt:aA) (ns:List aD) (p:Option Addr) (c k:Nat) (x:aD) (w:World) (hx:ns[k]?=some x) (hn:sC w p ns) (hN:ns.length<=65536) (hs:txt.length<=1073741824) (hV:cA w):
  Calls Tryz.prog 31 #[.agg #[.string (bs txt), .slice p ns.length c], .int .i64 (k:Int)] w λe w'=>e= .returned (.string (bs (eT txt ns k)))/\Below w.heap.size w w':=by
 obtain⟨g,rfl,kv,pv,n0,n1,n2,n3,n4,n5,n6,_,_⟩:=hn k x hx;have hk:=(aQ.1 hx).1;obtain⟨D,hD⟩:=exQ<|w.heap.size;obtain⟨W1,hW1⟩:=exQ<|w.alloc (.cells #[.string (bs txt), .slice (some ⟨g,0,none⟩) ns.length c] 49);have HB1:Hid (Below w.heap.size w W1):=hid (by rw[<-hW1];exact aH _ _);have HDC:Hid (tZ W1 D (bs txt) (some ⟨g,0,none⟩) ns.length c):=hid (by rw[<-hW1,<-hD];exact tZ.new w _ _ _ _);have m3:=bE n3 HB1.out;have m4:=bE n4 HB1.out;have hkv:eT txt ns k=(fW (dE txt x.key)).1:=by unfold eT;rw[hx]
 rw[hkv];have CS1:Hid (∀w',Calls Tryz.prog 30 #[.agg #[.string (bs txt), .slice (some ⟨g,0,none⟩) ns.length c], .agg #[.int .i64 (x.key.1:Int), .int .i64 (x.key.2:Int)]] w' λe w2=>e= .returned (.string (bs (dE txt x.key)))/\Below w'.heap.size w' w2):=hid (λw'=>by have:=Iq (bs txt) (.slice (some ⟨g,0,none⟩) ns.length c) rfl (x.key.1:Int) (x.key.2:Int) w';rw[Jj] at this;exact this);have hsl:=yH txt x.key;have HV:=hid (hV.keep HB1.out);have CU:Hid (∀w',Below W1.heap.size W1 w'->Calls Tryz.prog 65 #[.string (bs (dE txt x.key))] w' λe w2=>e=lL (fW (dE txt x.key))/\Below w'.heap.size w' w2):=hid (λw' hb=>xE _ w' (by omega) (HV.out.keep hb).2 (HV.out.keep hb).tabs);unfold lL at CU;obtain⟨⟨U,ua,ue⟩,hU⟩:=exQ<|fW (dE txt x.key);rw[hU] at CU;rw[hU];have hk0:(0:Int)<=(k:Int):=by omega
 have hk1:(k:Int)<(ns.length:Int):=by omega
 have c0:W1.cell? ⟨D,0,none⟩=some (.string (bs txt)):=by have:=HDC.out;unfold tZ at this;simp[World.cell?,this]
 have c1:W1.cell? ⟨D,1,none⟩=some (.slice (some ⟨g,0,none⟩) ns.length c):=by have:=HDC.out;unfold tZ at this;simp[World.cell?,this]
 have HS0:jW W1 D (bs txt) (some ⟨g,0,none⟩) ns.length c g k (x.key.1:Int) (x.key.2:Int) W1:=⟨⟨c0,c1,m3,m4⟩,hid (aB _ _)⟩;clear hn n0 n1 n2 n3 n4 n5 n6 hV hU hkv hx hk;go_enter Tryz.func31,Tryz.ntmps31;go_upto_region 1 with fail;clear hW1;go_region_held3 (λw'=>jW W1 D (bs txt) (some ⟨g,0,none⟩) ns.length c g k (x.key.1:Int) (x.key.2:Int) w') ((first | exact jW.drew (by assumption) | exact jW.step (by assumption) (by assumption) | assumption))
  ((first
   | (go_at_call 30;(refine(CS1.out _).mono ?_);rintro e w5 ⟨rfl,hb5⟩)
   | (go_at_call 65;(refine(CU.out _ (jW.bel (by assumption:jW W1 D (bs txt) (some ⟨g,0,none⟩) ns.length c g k (x.key.1:Int) (x.key.2:Int) _))).mono ?_);rintro e w6 ⟨rfl,hb6⟩)))
 all_goals
  have HF:Hid (Below w.heap.size w w6):=hid (aC HB1.out (jW.bel (by assumption:jW W1 D (bs txt) (some ⟨g,0,none⟩) ns.length c g k (x.key.1:Int) (x.key.2:Int) w6)));go_wp2_with fail;go_ret;exact⟨rfl,by first | exact HF.out | (rw[<-hD];exact HF.out)⟩
theorem Vr (kd:Nat) (s:aA) (w:World) (hs:s.length<=1073741824) (hV:cA w):
  Calls Tryz.prog 29 #[.int .i64 (kd:Int), .string (bs s)] w λe w'=>e= .returned (.string (bs (mD kd s)))/\Below w.heap.size w w':=by
 unfold mD;by_cases h2:kd=2
 ·subst h2;rw[if_pos rfl];go_enter Tryz.func29,Tryz.ntmps29;go_wp2_with fail;go_ret;exact⟨rfl,aB _ _⟩
 have d2:((kd:Int)==2)=false:=aG.2 (by omega);rw[if_neg h2];by_cases h3:kd=3
 ·subst h3;rw[if_pos rfl];have CP:=hid (λw=>xT s w (by omega));have hdl:=Vp s;obtain⟨P,hP⟩:=exQ<|cZ s;rw[hP] at CP hdl;rw[hP];obtain⟨n,er⟩:=P;simp only[] at hdl ⊢;have HV:=hid hV;have CT:Hid (∀w',Below w.heap.size w w'->Calls Tryz.prog 64 #[.agg #[.bool n.neg, .string (bs n.dig), .int .i64 n.exp]] w' λe w2=>e= .returned (.string (bs (iV n)))/\Below w'.heap.size w' w2):=hid (λw' hb=>Be n w' (by omega) (HV.out.keep hb).1.1.2);clear hV hP hdl h2;go_enter Tryz.func29,Tryz.ntmps29;go_wp2_with fail;refine(CP.out _).mono ?_;unfold tX fZ;rintro e w1 ⟨rfl,hb1⟩;have hb2:Below w.heap.size w (w1.alloc (.cells #[.bool n.neg, .string (bs n.dig), .int .i64 n.exp] 113)):=aC hb1 (aH _ _);have HB2:=hid hb2;clear hb1 hb2;go_wp2_with fail;refine(CT.out _ HB2.out).mono ?_;rintro e w3 ⟨rfl,hb3⟩;have HB3:=hid (aC HB2.out hb3);clear hb3;go_wp2_with fail;go_ret;exact⟨rfl,HB3.out⟩
 have d3:((kd:Int)==3)=false:=aG.2 (by omega);rw[if_neg h3];by_cases h4:kd=4
 ·subst h4;rw[if_pos rfl];have CU:=hid (xE s w (by omega) hV.2 hV.tabs);unfold lL at CU;obtain⟨⟨U,ua,ue⟩,hU⟩:=exQ<|fW s;rw[hU] at CU;rw[hU];clear hU hV;go_enter Tryz.func29,Tryz.ntmps29;go_wp2_with fail;refine CU.out.mono ?_;rintro e w1 ⟨rfl,hb1⟩;have HB1:=hid hb1;clear hb1;go_wp2_with fail;go_ret;exact⟨rfl,HB1.out⟩
 have d4:((kd:Int)==4)=false:=aG.2 (by omega);rw[if_neg h4];go_enter Tryz.func29,Tryz.ntmps29;go_wp2_with fail;go_ret;exact⟨rfl,aB _ _⟩
def wE (W W0:World) (kd:Int) (sl tx:aA):Nat->Value->World->Prop
 | 0,_,w'=>Below W0.heap.size W0 w'
 | 1,c,w'=>c= .string (bs sl)/\Below W0.heap.size W0 w'
 | 2,c,w'=>c= .string (bs tx)/\Below W0.heap.size W0 w'
 | 3,c,w'=>c= .agg #[.int .i64 kd, .string (bs tx), .slice none 0 0, .slice none 0 0]/\Below W0.heap.size W0 w'
 | _,c,w'=> ∃Y,c= .pointer (some ⟨Y,0,none⟩)/\CS W Y kd tx [] [] (.slice none 0 0) (.slice none 0 0) w'
theorem wE.keep {W W0:World}{kd:Int}{sl tx:aA}{k:Nat}{c:Value}{w' w2:World} (h:wE W W0 kd sl tx k c w') (hb:Below w'.heap.size w' w2):wE W W0 kd sl tx k c w2:=by
 match k,h with
 | 0,h=>exact aC (show Below W0.heap.size W0 w' from h) hb
 | 1,h=>exact⟨h.1,aC h.2 hb⟩
 | 2,h=>exact⟨h.1,aC h.2 hb⟩
 | 3,h=>exact⟨h.1,aC h.2 hb⟩
 | k+4,⟨Y,h1,h2⟩=>exact⟨Y,h1,h2.keep hb⟩
theorem Jk {P:Nat->Nat->Prop} (hlt: ∀k m,P k m->k<m) {hi N:Nat}: ∀ {l:List Nat}{a:Nat},cX P l a hi->(∀k∈l,k<N)->a<=N->a+l.length<=N
 | [],a,_,_,h=>h
 | y::l,a,h,hm,_=>by
  obtain⟨rfl,m,h2,h3⟩:=h;have h4:=hlt _ _ h2;have h5:=hm y iB;cases l with
  | nil=>simp only[eD];omega
  | cons z l=>
   have h6:=hm z (List.mem_cons_of_mem _ iB);have h7:z=m:=h3.1;have:=Jk hlt h3 (λk hk=>hm k (List.mem_cons_of_mem _ hk)) (by omega);rw[aT];omega
theorem Jl {ns:List aD}{lv k m:Nat}{x:aD} (hT:dJ ns (lv+1) k m) (hx:ns[k]?=some x) (hN:ns.length<=65536):x.kids.length<=65536:=by
 have hk:=(aQ.1 hx).1;have hm:=λq (hq:q∈x.kids)=>(hT.kid hx hq).2;obtain⟨x',hx',h2⟩:=hT;rw[hx] at hx';injection hx' with e;subst e;have:=Jk (λ_ _=>dJ.lt) h2 hm (by omega);omega
def iE (txt:aA) (ns:List aD) (kd:Nat) (l:List Nat):List aA:=if kd=6 then l.map (eT txt ns) else []
theorem Vs (txt:aA) (ns:List aD) (kd:Nat):iE txt ns kd []= []:=by unfold iE;split<;>rfl
def Ca (txt:aA) (ns:List aD) (p:Option Addr) (c:Nat) (lv:Nat):Prop:= ∀(k m:Nat) (lev:Int) (w:World),dJ ns lv k m->Hid (lev=33-(lv:Int))->lv<=32->sC w p ns->cA w->
 Calls Tryz.prog 16 #[.agg #[.string (bs txt), .slice p ns.length c], .int .i64 (k:Int), .int .i64 lev] w (jI (bG txt ns lv k) w)
theorem sG {w:World}{X:Nat}{cs:Array Value}{t:TypeId} (h:w.heap[X]?=some (.cells cs t (0,0))) (i:Nat):w.cell? ⟨X,i,none⟩=cs[i]?:=by
 simp[World.cell?,h]
theorem Vt (txt:aA) (ns:List aD) (p:Option Addr) (c:Nat) (hN:ns.length<=65536) (hs:txt.length<=1073741824) (lv:Nat) (IH:Ca txt ns p c lv):Ca txt ns p c (lv+1):=by
 intro k m lev w hT hlev hlv hn hV;obtain⟨x,hx⟩: ∃x,ns[k]?=some x:=by obtain⟨x,hx,_⟩:=hT;exact⟨x,hx⟩
 have HKD:=hid (λq (hq:q∈x.kids)=>hT.kid hx hq);obtain⟨g,hp,kv,pv,n0,n1,n2,n3,n4,n5,n6,n7,n8⟩:=hn k x hx;obtain⟨pq,cq,rfl,hq⟩:=n7;obtain⟨pz,cz,rfl,_⟩:=n8;have hk:=(aQ.1 hx).1;have hval:bG txt ns (lv+1) k= .mk (x.kind:Int) (mD x.kind (dE txt (x.sf,x.st))) (iE txt ns x.kind x.kids) (x.kids.map (bG txt ns lv)):=by rw[bG,hx];rfl
 rw[hval];have hp0:=hp;subst hp;obtain⟨D,hD⟩:=exQ<|w.heap.size;obtain⟨W1,hW1⟩:=exQ<|w.alloc (.cells #[.string (bs txt), .slice (some ⟨g,0,none⟩) ns.length c] 49);obtain⟨R,hR⟩:=exQ<|W1.heap.size;obtain⟨W2,hW2⟩:=exQ<|W1.alloc (.cells #[.int .i64 0, .string ⟨#[]⟩, .slice none 0 0, .slice none 0 0] 26);obtain⟨X,hX⟩:=exQ<|W2.heap.size;obtain⟨W3,hW3⟩:=exQ<|W2.alloc (.cells #[.int .i64 (x.kind:Int), .int .i64 (x.sf:Int), .int .i64 (x.st:Int), .int .i64 (x.key.1:Int), .int .i64 (x.key.2:Int), .slice pq x.kids.length cq, .slice pz x.pcs.length cz] 81);have hB1:Below w.heap.size w W1:=by rw[<-hW1];exact aH _ _
 have hB12:Below W1.heap.size W1 W2:=by rw[<-hW2];exact aH _ _
 have hB23:Below W2.heap.size W2 W3:=by rw[<-hW3];exact aH _ _
 have HB2:=hid (aC hB1 hB12);have HB3:=hid (aC HB2.out hB23);have hd0:W1.heap[D]?=some (.cells #[.string (bs txt), .slice (some ⟨g,0,none⟩) ns.length c] 49):=by rw[<-hW1,<-hD];exact heap_alloc_new w _
 have hdl:=aF hd0;have HD3:Hid (W3.heap[D]?=some (.cells #[.string (bs txt), .slice (some ⟨g,0,none⟩) ns.length c] 49)):=hid ((hB23.block D (iN hdl hB12.size)).trans ((hB12.block D hdl).trans hd0));have hr0:W2.heap[R]?=some (.cells #[.int .i64 0, .string (bs []), .slice none 0 0, .slice none 0 0] 26):=by rw[<-hW2,<-hR];exact heap_alloc_new W1 _
 have HR3:Hid (W3.heap[R]?=some (.cells #[.int .i64 0, .string (bs []), .slice none 0 0, .slice none 0 0] 26)):=hid ((hB23.block R (aF hr0)).trans hr0);have HX3:Hid (W3.heap[X]?=some (.cells #[.int .i64 (x.kind:Int), .int .i64 (x.sf:Int), .int .i64 (x.st:Int), .int .i64 (x.key.1:Int), .int .i64 (x.key.2:Int), .slice pq x.kids.length cq, .slice pz x.pcs.length cz] 81)):=hid (by rw[<-hW3,<-hX];exact heap_alloc_new W2 _);have hR3:R<W3.heap.size:=aF HR3.out;have HQ:Hid (∀(w':World),Below W3.heap.size W3 w'-> ∀(j q:Nat),x.kids[j]?=some q-> ∃gk,pq=some ⟨gk,0,none⟩/\w'.cell? ⟨gk,j,none⟩=some (.int .i64 (q:Int))):=hid (λw' hb j q hj=>by obtain⟨gk,e1,e2⟩:=hq j q hj;exact⟨gk,e1,bE (bE e2 HB3.out) hb⟩);have HNR:Hid (∀w',Below W3.heap.size W3 w'->sC w' (some ⟨g,0,none⟩) ns):=hid (λw' hb=>(hn.keep HB3.out).keep hb);have HV:Hid (∀w',Below W3.heap.size W3 w'->cA w'):=hid (λw' hb=>(hV.keep HB3.out).keep hb);have HND:Hid (∀w',Below W3.heap.size W3 w'-> ∀q∈x.kids,Calls Tryz.prog 16 #[.agg #[.string (bs txt), .slice (some ⟨g,0,none⟩) ns.length c], .int .i64 (q:Int), .int .i64 (lev+1)] w' (jI (bG txt ns lv q) w')):=hid (λw' hb q hq=>by obtain⟨⟨m',hm'⟩,_⟩:=HKD.out q hq;exact IH q m' (lev+1) w' hm' (hid (by rw[hlev.out];omega)) (by omega) (HNR.out w' hb) (HV.out w' hb));have HKY:Hid (∀w',Below W3.heap.size W3 w'-> ∀q∈x.kids,Calls Tryz.prog 31 #[.agg #[.string (bs txt), .slice (some ⟨g,0,none⟩) ns.length c], .int .i64 (q:Int)] w' λe w2=>e= .returned (.string (bs (eT txt ns q)))/\Below w'.heap.size w' w2):=hid (λw' hb q hq=>by obtain⟨_,hql⟩:=HKD.out q hq;exact Vq txt ns _ c q _ w' (bJ hql) (HNR.out w' hb) hN hs (HV.out w' hb));obtain⟨sl,hsl⟩:=exQ<|dE txt (x.sf,x.st);have hsll:=yH txt (x.sf,x.st);rw[hsl] at hsll ⊢;have CS1:Hid (∀w',Calls Tryz.prog 30 #[.agg #[.string (bs txt), .slice (some ⟨g,0,none⟩) ns.length c], .agg #[.int .i64 (x.sf:Int), .int .i64 (x.st:Int)]] w' λe w2=>e= .returned (.string (bs sl))/\Below w'.heap.size w' w2):=hid (λw'=>by have:=Iq (bs txt) (.slice (some ⟨g,0,none⟩) ns.length c) rfl (x.sf:Int) (x.st:Int) w';rw[Jj,hsl] at this;exact this);obtain⟨tx,htx⟩:=exQ<|mD x.kind sl;rw[htx];have CT:Hid (∀w',Below W3.heap.size W3 w'->Calls Tryz.prog 29 #[.int .i64 (x.kind:Int), .string (bs sl)] w' λe w2=>e= .returned (.string (bs tx))/\Below w'.heap.size w' w2):=hid (λw' hb=>by have:=Vr x.kind sl w' (by omega) (HV.out w' hb);rw[htx] at this;exact this);have hk0:(0:Int)<=(k:Int):=by omega
 have hk1:(k:Int)<(ns.length:Int):=by omega
 have hl0:(-1:Int)<=lev/\lev<=32:=by have:=hlev.out;omega
 have hl1:decide ((32:Int)<lev)=false:=aJ (by omega);have hl2:IntKind.i64.wrap (lev+1)=lev+1:=IntWalk.i64_in _ (by omega);have hkl:x.kids.length<=65536:=Jl hT hx hN;have e0:W2.cell? ⟨g,k*7,none⟩=some (.int .i64 (x.kind:Int)):=bE n0 HB2.out;have e1:W2.cell? ⟨g,k*7+1,none⟩=some (.int .i64 (x.sf:Int)):=bE n1 HB2.out;have e2:W2.cell? ⟨g,k*7+2,none⟩=some (.int .i64 (x.st:Int)):=bE n2 HB2.out;have e3:W2.cell? ⟨g,k*7+3,none⟩=some (.int .i64 (x.key.1:Int)):=bE n3 HB2.out;have e4:W2.cell? ⟨g,k*7+4,none⟩=some (.int .i64 (x.key.2:Int)):=bE n4 HB2.out;have e5:W2.cell? ⟨g,k*7+5,none⟩=some (.slice pq x.kids.length cq):=bE n5 HB2.out;have e6:W2.cell? ⟨g,k*7+6,none⟩=some (.slice pz x.pcs.length cz):=bE n6 HB2.out;have c1:W2.cell? ⟨D,1,none⟩=some (.slice (some ⟨g,0,none⟩) ns.length c):=by rw[sG ((hB12.block D hdl).trans hd0) 1];rfl
 have hDR:D<R:=by rw[<-hR,<-hD,<-hW1];simp
 obtain⟨kd,hkd⟩: ∃kd:Int,(x.kind:Int)=kd:=⟨_,rfl⟩;have h6k:x.kind=6↔kd=6:=by omega
 have H6:=hid h6k;rw[hkd] at HX3 hW3 CT e0 ⊢;clear hn n0 n1 n2 n3 n4 n5 n6 hV hval hx hk hT hB1 hB12 hB23 hd0 hr0 hsl htx hp0 hq hdl hkd h6k IH;go_enter Tryz.func16,Tryz.ntmps16;go_upto_region 1 with fail;clear hW1 hR;go_upto_region 2 with fail;obtain⟨W0,hW0⟩:=exQ<|W3.drew;have hbW:Below W3.heap.size W3 W0:=by rw[<-hW0];exact(aB _ _).drew
 have HBW:=hid hbW;have HXC:Hid (∀w',Below W3.heap.size W3 w'->(w'.cell? ⟨X,0,none⟩=some (.int .i64 kd)/\w'.cell? ⟨X,1,none⟩=some (.int .i64 (x.sf:Int))/\w'.cell? ⟨X,2,none⟩=some (.int .i64 (x.st:Int))/\w'.cell? ⟨X,5,none⟩=some (.slice pq x.kids.length cq))/\w'.cell? ⟨D,0,none⟩=some (.string (bs txt))/\w'.cell? ⟨D,1,none⟩=some (.slice (some ⟨g,0,none⟩) ns.length c)):=hid (λw' hb=>by have hx:=(hb.block X (aF HX3.out)).trans HX3.out;have hd:=(hb.block D (aF HD3.out)).trans HD3.out;exact⟨⟨by rw[sG hx];rfl,by rw[sG hx];rfl,by rw[sG hx];rfl,by rw[sG hx];rfl⟩,by rw[sG hd];rfl,by rw[sG hd];rfl⟩);obtain⟨SA,hSA⟩: ∃S:World->Prop,(λw'=>((w'.cell? ⟨X,0,none⟩=some (.int .i64 kd)/\w'.cell? ⟨X,1,none⟩=some (.int .i64 (x.sf:Int))/\w'.cell? ⟨X,2,none⟩=some (.int .i64 (x.st:Int))/\w'.cell? ⟨D,0,none⟩=some (.string (bs txt))/\w'.cell? ⟨D,1,none⟩=some (.slice (some ⟨g,0,none⟩) ns.length c))/\W0.heap.size<=w'.heap.size))=S:=⟨_,rfl⟩;have HSA:Hid (∀w',Below W0.heap.size W0 w'->SA w'):=hid (λw' hb=>by rw[<-hSA];obtain⟨⟨a0,a1,a2,_⟩,a3,a4⟩:=HXC.out w' (aC hbW hb);exact⟨⟨a0,a1,a2,a3,a4⟩,hb.size⟩);have HSK:Hid (∀w1 w2,SA w1->Below w1.heap.size w1 w2->SA w2):=hid (λw1 w2 h1 hb=>by rw[<-hSA] at h1 ⊢;obtain⟨⟨a0,a1,a2,a3,a4⟩,a5⟩:=h1;exact⟨⟨bE a0 hb,bE a1 hb,bE a2 hb,bE a3 hb,bE a4 hb⟩,aW a5 hb.size⟩);clear e0 e1 e2 e3 e4 e5 e6 c1;have hfol:Tryz.prog.follows .mixedOrders=true:=by kernel_rfl
 refine Au hfol [16,17,18,19,20,21,22,23,24,25,8] [7,8,9,11] 10 (qC W0) 74 rfl (by kernel_rfl) (by kernel_rfl) (by kernel_rfl) (λiz=>match iz with | 0=> .pointer (some ⟨X,0,none⟩) | 1=> .int .i64 kd | 2=> .pointer (some ⟨X,0,none⟩) | 3=> .int .i64 kd | 4=> .agg #[.string (bs txt), .slice (some ⟨g,0,none⟩) ns.length c] | 5=> .pointer (some ⟨X,1,none⟩) | 6=> .agg #[.int .i64 (x.sf:Int), .int .i64 (x.st:Int)] | _=>undef) SA (wE W3 W0 kd sl tx) (by rw[hW0];exact HSA.out _ (aB _ _)) (by rw[hW0];exact aB _ _) ?_ ?_
 ·intro d a w' iq o' ho hi hall hfr hF R' hR;have hiN:iq<12:=(cM.1 ho).1;have q3:a.tmps[3]?.getD undef= .pointer (some ⟨D,0,none⟩):=by rw[<-aO];exact hfr 3 (by decide)
  have q7:a.tmps[7]?.getD undef= .pointer (some ⟨X,0,none⟩):=by rw[<-aO];exact hfr 7 (by decide)
  clear hfr;have ha:=hall;have hoo:=ho;have hcs:iq=0\/iq=1\/iq=2\/iq=3\/iq=4\/iq=5\/iq=6\/iq=7\/iq=8\/iq=9\/iq=10\/iq=11:=by omega
  clear hiN;rcases hcs with rfl|rfl|rfl|rfl|rfl|rfl|rfl|rfl|rfl|rfl|rfl|rfl<;>simp only[dW,dA,cD,cS] at ho<;>subst ho
  ·go_simp;exact hR _ _ (hF.pure (by decide) hoo ha rfl (by decide) (by decide) (by decide) rfl)
  ·simp[Region.binds] at hall;have c16:a.tmps[16]?.getD undef= .pointer (some ⟨X,0,none⟩):=by rw[<-aO];exact hF.cl 0 (by decide) (by decide) (by decide) (by simp[hall])
   have hS0:=hF.early (f:=12) (i:=1) (by kernel_rfl) hi;rw[<-hSA] at hS0;obtain⟨⟨s0,s1,s2,s3,s4⟩,_⟩:=hS0;go_simp;exact hR _ _ (hF.pure (by decide) hoo ha rfl (by decide) (by decide) (by decide) rfl)
  ·go_simp;exact hR _ _ (hF.pure (by decide) hoo ha rfl (by decide) (by decide) (by decide) rfl)
  ·simp[Region.binds] at hall;have c18:a.tmps[18]?.getD undef= .pointer (some ⟨X,0,none⟩):=by rw[<-aO];exact hF.cl 2 (by decide) (by decide) (by decide) (by simp[hall])
   have hS0:=hF.early (f:=12) (i:=3) (by kernel_rfl) hi;rw[<-hSA] at hS0;obtain⟨⟨s0,s1,s2,s3,s4⟩,_⟩:=hS0;go_simp;exact hR _ _ (hF.pure (by decide) hoo ha rfl (by decide) (by decide) (by decide) rfl)
  ·have hS0:=hF.early (f:=12) (i:=4) (by kernel_rfl) hi;rw[<-hSA] at hS0;obtain⟨⟨s0,s1,s2,s3,s4⟩,_⟩:=hS0;go_simp;exact hR _ _ (hF.pure (by decide) hoo ha rfl (by decide) (by decide) (by decide) rfl)
  ·go_simp;exact hR _ _ (hF.pure (by decide) hoo ha rfl (by decide) (by decide) (by decide) rfl)
  ·simp[Region.binds] at hall;have c21:a.tmps[21]?.getD undef= .pointer (some ⟨X,1,none⟩):=by rw[<-aO];exact hF.cl 5 (by decide) (by decide) (by decide) (by simp[hall])
   have hS0:=hF.early (f:=12) (i:=6) (by kernel_rfl) hi;rw[<-hSA] at hS0;obtain⟨⟨s0,s1,s2,s3,s4⟩,_⟩:=hS0;go_simp;exact hR _ _ (hF.pure (by decide) hoo ha rfl (by decide) (by decide) (by decide) rfl)
  ·simp[Region.binds] at hall;have c20:a.tmps[20]?.getD undef= .agg #[.string (bs txt), .slice (some ⟨g,0,none⟩) ns.length c]:=by rw[<-aO];exact hF.cl 4 (by decide) (by decide) (by decide) (by simp[hall])
   have c22:a.tmps[22]?.getD undef= .agg #[.int .i64 (x.sf:Int), .int .i64 (x.st:Int)]:=by rw[<-aO];exact hF.cl 6 (by decide) (by decide) (by decide) (by simp[hall])
   have hP0:=hF.at2 (j:=0) rfl hi (.inl rfl);have hA:Below W0.heap.size W0 w':=hP0;go_simp;go_at_call 30;refine(CS1.out _).mono ?_;rintro e w5 ⟨rfl,hb5⟩;have hb6:=aC hA hb5;exact hR _ _ (hF.eff2 (by decide) (by decide) 0 hoo ha rfl hi (.inl rfl) rfl (by decide) (λ_ x hx=>qC.keep hx hb5) (λ_=>HSA.out _ hb6) ⟨rfl,hb6⟩)
  ·simp[Region.binds] at hall;have c19:a.tmps[19]?.getD undef= .int .i64 kd:=by rw[<-aO];exact hF.cl 3 (by decide) (by decide) (by decide) (by simp[hall])
   have hpv:d 7=true:=by first | first | exact hall | exact hall.1 | exact hall.2 | exact hall.2.1 | exact hall.2.2 | exact hall.2.2.1 | exact hall.2.2.2 | (exact ha ⟨_,_⟩ (by simp) rfl)
   have hP0:=hF.at2 (j:=1) rfl hi (.inr ⟨7,rfl,hpv⟩);obtain⟨hc,hA⟩:=hP0;have hc:a.tmps.getD 23 undef= .string (bs sl):=hc;have c23:a.tmps[23]?.getD undef= .string (bs sl):=by rw[<-aO];exact hc
   go_simp;go_at_call 29;refine(CT.out _ (aC HBW.out hA)).mono ?_;rintro e w5 ⟨rfl,hb5⟩;have hb6:=aC hA hb5;exact hR _ _ (hF.eff2 (by decide) (by decide) 1 hoo ha rfl hi (.inr ⟨7,rfl,hpv⟩) rfl (by decide) (λ_ x hx=>qC.keep hx hb5) (λ_=>HSA.out _ hb6) ⟨rfl,hb6⟩)
  ·simp[Region.binds] at hall;have c17:a.tmps[17]?.getD undef= .int .i64 kd:=by rw[<-aO];exact hF.cl 1 (by decide) (by decide) (by decide) (by simp[hall])
   have hpv:d 8=true:=by first | first | exact hall | exact hall.1 | exact hall.2 | exact hall.2.1 | exact hall.2.2 | exact hall.2.2.1 | exact hall.2.2.2 | (exact ha ⟨_,_⟩ (by simp) rfl)
   have hP0:=hF.at2 (j:=2) rfl hi (.inr ⟨8,rfl,hpv⟩);obtain⟨hc,hA⟩:=hP0;have hc:a.tmps.getD 24 undef= .string (bs tx):=hc;have c24:a.tmps[24]?.getD undef= .string (bs tx):=by rw[<-aO];exact hc
   go_simp;exact hR _ _ (hF.eff2 (by decide) (by decide) 2 hoo ha rfl hi (.inr ⟨8,rfl,hpv⟩) rfl (by decide) (λ_ x hx=>hx) (λ_=>HSA.out _ hA) ⟨rfl,hA⟩)
  ·have hA2:=aH w' (.cells #[.int .i64 0, .string ⟨#[]⟩, .slice none 0 0, .slice none 0 0] 26);have hsz:=hF.st (hF.lastNot (f:=12) (i:=10) (by kernel_rfl) hi);rw[<-hSA] at hsz;have hFb:=qC.new (W0:=W0) (w':=w') hsz.2;clear hsz;go_simp;exact hR _ _ (hF.free (by decide) hoo ha rfl (by decide) rfl (by decide) (by decide) (by decide) (hF.lastNot (f:=12) (i:=10) (by kernel_rfl) hi) (λhs=>HSK.out _ _ hs hA2) (λk c hp=>wE.keep hp hA2) hFb)
  ·simp[Region.binds] at hall;have hpv:d 9=true:=by first | first | exact hall | exact hall.1 | exact hall.2 | exact hall.2.1 | exact hall.2.2 | exact hall.2.2.1 | exact hall.2.2.2 | (exact ha ⟨_,_⟩ (by simp) rfl)
   have hP0:=hF.at2 (j:=3) rfl hi (.inr ⟨9,rfl,hpv⟩);obtain⟨h13,hA⟩:=hP0;have h13:a.tmps.getD 25 undef= .agg #[.int .i64 kd, .string (bs tx), .slice none 0 0, .slice none 0 0]:=h13;have c25:a.tmps[25]?.getD undef= .agg #[.int .i64 kd, .string (bs tx), .slice none 0 0, .slice none 0 0]:=by rw[<-aO];exact h13
   obtain⟨Y,hY,hYW,hYb⟩:=hF.fb hi (by simp[hall]);have hY:a.tmps.getD 8 undef= .pointer (some ⟨Y,0,none⟩):=hY;have c8:a.tmps[8]?.getD undef= .pointer (some ⟨Y,0,none⟩):=by rw[<-aO];exact hY
   obtain⟨y0,y1,y2,y3,g0,g1,g2,g3⟩:=bC hYb;go_simp;exact hR undef _ (hF.eff2 (by decide) (by decide) 3 hoo ha rfl hi (.inr ⟨9,rfl,hpv⟩) rfl (by decide) (λh=>absurd rfl h) (λh=>absurd rfl h) ⟨Y,hY,CS.ofStore HBW.out hA (bV.nil _ _) hYW hYb⟩)
 intro v wz hcl hP4;obtain⟨Y,hY,hC⟩:=hP4;have hY:v 8= .pointer (some ⟨Y,0,none⟩):=hY;have HC:=hid hC;simp only[cE,eE,dF,eF,hY];clear hcl hC HSK HSA hSA hW0 hbW HBW SA W0 CS1 CT;obtain⟨⟨x0,x1,x2,x5⟩,z0,z1⟩:=HXC.out wz HC.out.bel;go_wp2_with fail;clear x0 x1 x2 x5 z0 z1 hY;go_loopw [29,9,10] (λs29 s9 s10 wr=> ∃(i:Nat) (kv ov:Value),s29= .int .i64 (i:Int)/\i<=x.kids.length/\Hid (CS W3 Y kd tx (iE txt ns x.kind (x.kids.take i)) ((x.kids.take i).map (bG txt ns lv)) kv ov wr)) (λs29 _ _ _=>x.kids.length-(RowKit.intOf s29).toNat)
 case atStart=>exact⟨0, .slice none 0 0, .slice none 0 0,rfl,cN _,by rw[List.take_zero,Vs];first | exact HC | exact hid (HC.out.keep (aB _ _).drew)⟩
 case round=>
  obtain⟨i,kv,ov,rfl,hi,HC⟩:=hrel;obtain⟨⟨x0,x1,x2,x5⟩,z0,z1⟩:=HXC.out wr HC.out.bel;by_cases hil:i<x.kids.length
  ·obtain⟨q,hq⟩: ∃q,x.kids[i]?=some q:=⟨_,bJ hil⟩;have hqm:=aX hq;obtain⟨gk,rfl,kc⟩:=HQ.out wr HC.out.bel i q hq;obtain⟨_,hqn⟩:=HKD.out q hqm;have hi1:(i:Int)<(x.kids.length:Int):=(by omega);have dk:decide ((i:Int)<(x.kids.length:Int))=true:=aN hi1;have hi0:(0:Int)<=(i:Int):=(by omega);have dq1:decide ((q:Int)<0)=false:=aJ (by omega);have dq2:decide ((ns.length:Int)<=(q:Int))=false:=aJ (by omega);have dq3:decide (ns.length<=q)=false:=aJ (by omega);have HTK:=hid (vD hq);obtain⟨pa,ca,hkv⟩:=HC.out.keys.slice;obtain⟨po,co,hov⟩:=HC.out.its.slice;have hlt:((x.kids.take i).map (bG txt ns lv)).length=i:=by rw[bU,cF];omega
   rw[hlt] at hov;obtain⟨nk,hnk⟩:=exQ<|(iE txt ns x.kind (x.kids.take i)).length;have hnk1:nk<=65536:=by
    rw[<-hnk];unfold iE;split
    ·rw[bU,cF];omega
    ·exact cN _
   rw[hnk] at hkv;subst hkv hov;have HNK:=hid hnk;have HQM:=hid hqm;clear hq hqm hnk hlt;go_upto_if 53 with fail;go_cut [54,55,56,57,58,59,60,61] (λs54 s55 s56 s57 s58 s59 s60 s61 wx=> ∃kv',Hid (CS W3 Y kd tx (iE txt ns x.kind (x.kids.take (i+1))) ((x.kids.take i).map (bG txt ns lv)) kv' (.slice po i co) wx))
   case first=>
    by_cases h6:kd=6;rotate_left
    ·have d6:(kd==6)=false:=aG.2 h6;have hx6: ¬x.kind=6:=λe=>h6 (H6.out.1 e);have HC1:Hid (CS W3 Y kd tx (iE txt ns x.kind (x.kids.take (i+1))) ((x.kids.take i).map (bG txt ns lv)) (.slice pa nk ca) (.slice po i co) wr):=hid (by have:=HC.out;unfold iE at this ⊢;rw[if_neg hx6] at this ⊢;exact this);clear h6 hx6;go_wp2_with fail;go_meet;exact⟨_,by first | exact HC1 | exact hid (HC1.out.keep (aB _ _).drew)⟩
    ·have d6:(kd==6)=true:=by rw[h6];rfl
     have hx6:x.kind=6:=H6.out.2 h6;obtain⟨W0,hW0⟩:=exQ<|wr.drew;have hb0r:Below wr.heap.size wr W0:=by rw[<-hW0];exact(aB _ _).drew
     have HC0':Hid (CS W3 Y kd tx ((x.kids.take i).map (eT txt ns)) ((x.kids.take i).map (bG txt ns lv)) (.slice pa nk ca) (.slice po i co) W0):=hid (by have:=HC.out.keep hb0r;unfold iE at this;rw[if_pos hx6] at this;exact this);have hlen2:((x.kids.take i).map (eT txt ns)++ [eT txt ns q]).length=nk+1:=by
      have:=HNK.out;unfold iE at this;rw[if_pos hx6] at this;rw[aS,this,eD]
     have hlk:((x.kids.take i).map (eT txt ns)).length<=4294967295:=by rw[bU,cF];omega
     have HX6:=hid hx6;have HL2:=hid (aI hlen2 hlk);clear h6 hx6 hlen2 hlk hb0r;go_upto_region 10 with fail;obtain⟨SA,hSA⟩: ∃S:World->Prop,(λw'=>(w'.cell? ⟨Y,2,none⟩=some (.slice pa nk ca)/\w'.frozen? ⟨Y,2,none⟩=false)/\w'.cell? ⟨D,0,none⟩=some (.string (bs txt))/\w'.cell? ⟨D,1,none⟩=some (.slice (some ⟨g,0,none⟩) ns.length c))=S:=⟨_,rfl⟩;have HSA:Hid (∀w',Below W0.heap.size W0 w'->SA w'):=hid (λw' hb=>by rw[<-hSA];obtain⟨_,a3,a4⟩:=HXC.out w' (aC HC0'.out.bel hb);have q:=(HC0'.out.keep hb).cells;exact⟨⟨q.2.2.1,q.2.2.2.2.2.2.1⟩,a3,a4⟩);have HSG:Hid (∀w' c',mF W3 W0 Y (eT txt ns q) ((x.kids.take i).map (eT txt ns)) (.slice pa nk ca) 3 c' w'->SA w'):=hid (λw' c' hp=>by rw[<-hSA];obtain⟨q1,q2,q3,q4,q5⟩:=hp;have hbox:=HC0'.out.box;have hYl:=aF hbox;have e1:w'.heap[Y]?=W0.heap[Y]?:=q4 Y hYl HC0'.out.off;have e2:=e1.trans hbox;have e3: ∀o',w'.cell? ⟨D,o',none⟩=W0.cell? ⟨D,o',none⟩:=λo'=>q2.cell (p:=⟨D,o',none⟩) (aF HD3.out);obtain⟨_,a3,a4⟩:=HXC.out W0 HC0'.out.bel;obtain⟨y0,y1,y2,y3,y4,y5,y6,y7⟩:=bC e2;exact⟨⟨y2,y6⟩,by rw[e3];exact a3,by rw[e3];exact a4⟩);clear x0 x1 x2 x5 z0 z1 kc;have hfol:Tryz.prog.follows .mixedOrders=true:=(by kernel_rfl);refine Au hfol [54,55,56,57,58,59,60,61] [4,5,6,8] 1000000 (λ_ _=>True) 74 rfl (by kernel_rfl) (by kernel_rfl) (by kernel_rfl) (λiz=>match iz with | 0=> .pointer (some ⟨Y,2,none⟩) | 1=> .slice pa nk ca | 2=> .agg #[.string (bs txt), .slice (some ⟨g,0,none⟩) ns.length c] | 3=> .int .i64 (q:Int) | 7=> .pointer (some ⟨Y,2,none⟩) | _=>undef) SA (mF W3 W0 Y (eT txt ns q) ((x.kids.take i).map (eT txt ns)) (.slice pa nk ca)) (by rw[hW0];exact HSA.out _ (aB _ _)) (by rw[hW0];exact aB _ _) ?_ ?_
     ·intro d a w' iq o' ho hi hall hfr hF R' hR;have hiN:iq<9:=(cM.1 ho).1;have q3:a.tmps[3]?.getD undef= .pointer (some ⟨D,0,none⟩):=by rw[<-aO];exact hfr 3 (by decide)
      have q8:a.tmps[8]?.getD undef= .pointer (some ⟨Y,0,none⟩):=by rw[<-aO];exact hfr 8 (by decide)
      have q10:a.tmps[10]?.getD undef= .int .i64 (q:Int):=by rw[<-aO];exact hfr 10 (by decide)
      clear hfr;have ha:=hall;have hoo:=ho;have hcs:iq=0\/iq=1\/iq=2\/iq=3\/iq=4\/iq=5\/iq=6\/iq=7\/iq=8:=(by omega);clear hiN;rcases hcs with rfl|rfl|rfl|rfl|rfl|rfl|rfl|rfl|rfl<;>simp only[dW,dA,cD,cS] at ho<;>subst ho
      ·go_simp;exact hR _ _ (hF.pure (by decide) hoo ha rfl (by decide) (by decide) (by decide) rfl)
      ·simp[Region.binds] at hall;have c54:a.tmps[54]?.getD undef= .pointer (some ⟨Y,2,none⟩):=by rw[<-aO];exact hF.cl 0 (by decide) (by decide) (by decide) (by simp[hall])
       have hS0:=hF.early (f:=9) (i:=1) (by kernel_rfl) hi;rw[<-hSA] at hS0;obtain⟨⟨x3,x3f⟩,s3,s4⟩:=hS0;go_simp;exact hR _ _ (hF.pure (by decide) hoo ha rfl (by decide) (by decide) (by decide) rfl)
      ·have hS0:=hF.early (f:=9) (i:=2) (by kernel_rfl) hi;rw[<-hSA] at hS0;obtain⟨⟨x3,x3f⟩,s3,s4⟩:=hS0;go_simp;exact hR _ _ (hF.pure (by decide) hoo ha rfl (by decide) (by decide) (by decide) rfl)
      ·go_simp;exact hR _ _ (hF.pure (by decide) hoo ha rfl (by decide) (by decide) (by decide) rfl)
      ·simp[Region.binds] at hall;have c56:a.tmps[56]?.getD undef= .agg #[.string (bs txt), .slice (some ⟨g,0,none⟩) ns.length c]:=by rw[<-aO];exact hF.cl 2 (by decide) (by decide) (by decide) (by simp[hall])
       have c57:a.tmps[57]?.getD undef= .int .i64 (q:Int):=by rw[<-aO];exact hF.cl 3 (by decide) (by decide) (by decide) (by simp[hall])
       have hP0:=hF.at2 (j:=0) rfl hi (.inl rfl);have hA:Below W0.heap.size W0 w':=hP0;go_simp;go_at_call 31;refine(HKY.out _ (aC HC0'.out.bel hA) q HQM.out).mono ?_;rintro e w5 ⟨rfl,hb5⟩;have hb6:=aC hA hb5;exact hR _ _ (hF.eff2 (by decide) (by decide) 0 hoo ha rfl hi (.inl rfl) rfl (by decide) (λ_ _ _=>trivial) (λ_=>HSA.out _ hb6) ⟨rfl,hb6⟩)
      ·simp[Region.binds] at hall;have hpv:d 4=true:=by first | first | exact hall | exact hall.1 | exact hall.2 | exact hall.2.1 | exact hall.2.2 | exact hall.2.2.1 | exact hall.2.2.2 | (exact ha ⟨_,_⟩ (by simp) rfl)
       have hP0:=hF.at2 (j:=1) rfl hi (.inr ⟨4,rfl,hpv⟩);obtain⟨hc,hA⟩:=hP0;have hc:a.tmps.getD 58 undef= .string (bs (eT txt ns q)):=hc;have c58:a.tmps[58]?.getD undef= .string (bs (eT txt ns q)):=by rw[<-aO];exact hc
       have hb6:=λob=>aC hA (aH w' ob);go_simp;exact hR _ _ (hF.eff2 (by decide) (by decide) 1 hoo ha rfl hi (.inr ⟨4,rfl,hpv⟩) rfl (by decide) (λ_ _ _=>trivial) (λ_=>HSA.out _ (hb6 _)) ⟨w',hA,rfl,rfl⟩)
      ·simp[Region.binds] at hall;have c55:a.tmps[55]?.getD undef= .slice pa nk ca:=by rw[<-aO];exact hF.cl 1 (by decide) (by decide) (by decide) (by simp[hall])
       have hpv:d 5=true:=by first | first | exact hall | exact hall.1 | exact hall.2 | exact hall.2.1 | exact hall.2.2 | exact hall.2.2.1 | exact hall.2.2.2 | (exact ha ⟨_,_⟩ (by simp) rfl)
       have hP0:=hF.at2 (j:=2) rfl hi (.inr ⟨5,rfl,hpv⟩);have c55':a.tmps.getD 55 undef= .slice pa nk ca:=by rw[aO];exact c55
       exact mF.app (.tmp 55) (.tmp 59) rfl HC0'.out hP0 c55' rfl HL2.out.2 (λv' w2 hp3=>hR _ _ (hF.eff2 (by decide) (by decide) 2 hoo ha rfl hi (.inr ⟨5,rfl,hpv⟩) rfl (by decide) (λ_ _ _=>trivial) (λ_=>HSG.out _ _ hp3) hp3))
      ·go_simp;exact hR _ _ (hF.pure (by decide) hoo ha rfl (by decide) (by decide) (by decide) rfl)
      ·simp[Region.binds] at hall;have c61:a.tmps[61]?.getD undef= .pointer (some ⟨Y,2,none⟩):=by rw[<-aO];exact hF.cl 7 (by decide) (by decide) (by decide) (by simp[hall])
       have hpv:d 6=true:=by first | first | exact hall | exact hall.1 | exact hall.2 | exact hall.2.1 | exact hall.2.2 | exact hall.2.2.1 | exact hall.2.2.2 | (exact ha ⟨_,_⟩ (by simp) rfl)
       have hP0:=hF.at2 (j:=3) rfl hi (.inr ⟨6,rfl,hpv⟩);have hP3:mF W3 W0 Y (eT txt ns q) ((x.kids.take i).map (eT txt ns)) (.slice pa nk ca) 3 (a.tmps.getD 60 undef) w':=hP0;have hS0:=hF.st hi;rw[<-hSA] at hS0;obtain⟨⟨x3,x3f⟩,_⟩:=hS0;obtain⟨pz2,cz2,hz⟩:=hP3.1.slice;rw[HL2.out.1] at hz;rw[hz] at hP3;have c60:a.tmps[60]?.getD undef= .slice pz2 (nk+1) cz2:=by rw[<-aO];exact hz
       go_simp;exact hR undef _ (hF.eff2 (by decide) (by decide) 3 hoo ha rfl hi (.inr ⟨6,rfl,hpv⟩) rfl (by decide) (λ_ _ _=>trivial) (λh=>absurd rfl h) ⟨_,_,hP3,rfl⟩)
     intro v wz hcl hP4;obtain⟨kv2,HC2⟩:=mF.fin HC0'.out hP4;have HC2:Hid (CS W3 Y kd tx (iE txt ns x.kind (x.kids.take (i+1))) ((x.kids.take i).map (bG txt ns lv)) kv2 (.slice po i co) wz):=hid (by unfold iE;rw[if_pos HX6.out,HTK.out,oM];exact HC2);clear hcl hP4 HSG HSA hSA HC0' hW0;simp only[cE,eE,dF,eF];go_wp2_with fail;go_meet;exact⟨_,by first | exact HC2 | exact hid (HC2.out.keep (aB _ _).drew)⟩
   case rest=>
    obtain⟨kv',HC1⟩:=hcut;clear HC HNK hnk1 x0 x1 x2 x5 z0 z1 kc;obtain⟨W0,hW0⟩:=exQ<|wc.drew;have hb0r:Below wc.heap.size wc W0:=by rw[<-hW0];exact(aB _ _).drew
    have HC0':=hid (HC1.out.keep hb0r);have hlen2:((x.kids.take i).map (bG txt ns lv)++ [bG txt ns lv q]).length=i+1:=by rw[aS,bU,cF,eD];omega
    have hlk:((x.kids.take i).map (bG txt ns lv)).length<=4294967295:=by rw[bU,cF];omega
    have HL2:=hid (aI hlen2 hlk);clear hlen2 hlk hb0r;go_upto_region 11 with fail;obtain⟨SA,hSA⟩: ∃S:World->Prop,(λw'=>(w'.cell? ⟨Y,3,none⟩=some (.slice po i co)/\w'.frozen? ⟨Y,3,none⟩=false)/\w'.cell? ⟨D,0,none⟩=some (.string (bs txt))/\w'.cell? ⟨D,1,none⟩=some (.slice (some ⟨g,0,none⟩) ns.length c))=S:=⟨_,rfl⟩;have HSA:Hid (∀w',Below W0.heap.size W0 w'->SA w'):=hid (λw' hb=>by rw[<-hSA];obtain⟨_,a3,a4⟩:=HXC.out w' (aC HC0'.out.bel hb);have q:=(HC0'.out.keep hb).cells;exact⟨⟨q.2.2.2.1,q.2.2.2.2.2.2.2⟩,a3,a4⟩);have HSG:Hid (∀w' c',iD W0 Y kv'.ownBlock (bG txt ns lv q) ((x.kids.take i).map (bG txt ns lv)) (.slice po i co) 3 c' w'->SA w'):=hid (λw' c' hp=>by rw[<-hSA];obtain⟨q1,q2,q3,q4⟩:=hp;have hbox:=HC0'.out.box;have hn:=HC0'.out.new_;have hD3l:=aF HD3.out;have hbY:Below (Y+1) W0 w':=q2;have e2:w'.heap[Y]?=_:=(hbY.block Y (tS _)).trans hbox;have e3: ∀o',w'.cell? ⟨D,o',none⟩=W0.cell? ⟨D,o',none⟩:=λo'=>hbY.cell (p:=⟨D,o',none⟩) (by show D<Y+1;omega);obtain⟨_,a3,a4⟩:=HXC.out W0 HC0'.out.bel;obtain⟨y0,y1,y2,y3,y4,y5,y6,y7⟩:=bC e2;exact⟨⟨y3,y7⟩,by rw[e3];exact a3,by rw[e3];exact a4⟩);have hfol:Tryz.prog.follows .mixedOrders=true:=(by kernel_rfl);refine Au hfol [62,63,64,65,66,67,68,69,70,71] [6,7,8,10] 1000000 (λ_ _=>True) 74 rfl (by kernel_rfl) (by kernel_rfl) (by kernel_rfl) (λiz=>match iz with | 0=> .pointer (some ⟨Y,3,none⟩) | 1=> .slice po i co | 2=> .agg #[.string (bs txt), .slice (some ⟨g,0,none⟩) ns.length c] | 3=> .int .i64 (q:Int) | 4=> .int .i64 lev | 5=> .int .i64 (lev+1) | 9=> .pointer (some ⟨Y,3,none⟩) | _=>undef) SA (iD W0 Y kv'.ownBlock (bG txt ns lv q) ((x.kids.take i).map (bG txt ns lv)) (.slice po i co)) (by rw[hW0];exact HSA.out _ (aB _ _)) (by rw[hW0];exact aB _ _) ?_ ?_
    ·intro d a w' iq o' ho hi hall hfr hF R' hR;have hiN:iq<11:=(cM.1 ho).1;have q2:a.tmps[2]?.getD undef= .int .i64 lev:=by rw[<-aO];exact hfr 2 (by decide)
     have q3:a.tmps[3]?.getD undef= .pointer (some ⟨D,0,none⟩):=by rw[<-aO];exact hfr 3 (by decide)
     have q8:a.tmps[8]?.getD undef= .pointer (some ⟨Y,0,none⟩):=by rw[<-aO];exact hfr 8 (by decide)
     have q10:a.tmps[10]?.getD undef= .int .i64 (q:Int):=by rw[<-aO];exact hfr 10 (by decide)
     clear hfr;have ha:=hall;have hoo:=ho;have hcs:iq=0\/iq=1\/iq=2\/iq=3\/iq=4\/iq=5\/iq=6\/iq=7\/iq=8\/iq=9\/iq=10:=(by omega);clear hiN;rcases hcs with rfl|rfl|rfl|rfl|rfl|rfl|rfl|rfl|rfl|rfl|rfl<;>simp only[dW,dA,cD,cS] at ho<;>subst ho
     ·go_simp;exact hR _ _ (hF.pure (by decide) hoo ha rfl (by decide) (by decide) (by decide) rfl)
     ·simp[Region.binds] at hall;have c62:a.tmps[62]?.getD undef= .pointer (some ⟨Y,3,none⟩):=by rw[<-aO];exact hF.cl 0 (by decide) (by decide) (by decide) (by simp[hall])
      have hS0:=hF.early (f:=11) (i:=1) (by kernel_rfl) hi;rw[<-hSA] at hS0;obtain⟨⟨x3,x3f⟩,s3,s4⟩:=hS0;go_simp;exact hR _ _ (hF.pure (by decide) hoo ha rfl (by decide) (by decide) (by decide) rfl)
     ·have hS0:=hF.early (f:=11) (i:=2) (by kernel_rfl) hi;rw[<-hSA] at hS0;obtain⟨⟨x3,x3f⟩,s3,s4⟩:=hS0;go_simp;exact hR _ _ (hF.pure (by decide) hoo ha rfl (by decide) (by decide) (by decide) rfl)
     ·go_simp;exact hR _ _ (hF.pure (by decide) hoo ha rfl (by decide) (by decide) (by decide) rfl)
     ·go_simp;exact hR _ _ (hF.pure (by decide) hoo ha rfl (by decide) (by decide) (by decide) rfl)
     ·simp[Region.binds] at hall;have c66:a.tmps[66]?.getD undef= .int .i64 lev:=by rw[<-aO];exact hF.cl 4 (by decide) (by decide) (by decide) (by simp[hall])
      go_simp;exact hR _ _ (hF.pure (by decide) hoo ha rfl (by decide) (by decide) (by decide) rfl)
     ·simp[Region.binds] at hall;have c64:a.tmps[64]?.getD undef= .agg #[.string (bs txt), .slice (some ⟨g,0,none⟩) ns.length c]:=by rw[<-aO];exact hF.cl 2 (by decide) (by decide) (by decide) (by simp[hall])
      have c65:a.tmps[65]?.getD undef= .int .i64 (q:Int):=by rw[<-aO];exact hF.cl 3 (by decide) (by decide) (by decide) (by simp[hall])
      have c67:a.tmps[67]?.getD undef= .int .i64 (lev+1):=by rw[<-aO];exact hF.cl 5 (by decide) (by decide) (by decide) (by simp[hall])
      have hP0:=hF.at2 (j:=0) rfl hi (.inl rfl);have hA:Below W0.heap.size W0 w':=hP0;go_simp;go_at_call 16;refine(HND.out _ (aC HC0'.out.bel hA) q HQM.out).mono ?_;rintro e w5 ⟨⟨kv5,iv5,rfl,hv5⟩,hb5⟩;have hb6:=aC hA hb5;exact hR _ _ (hF.eff2 (by decide) (by decide) 0 hoo ha rfl hi (.inl rfl) rfl (by decide) (λ_ _ _=>trivial) (λ_=>HSA.out _ hb6) ⟨kv5,iv5,rfl,hv5.mono (λq hq _=>aW hA.size hq),hb6⟩)
     ·simp[Region.binds] at hall;have hpv:d 6=true:=by first | first | exact hall | exact hall.1 | exact hall.2 | exact hall.2.1 | exact hall.2.2 | exact hall.2.2.1 | exact hall.2.2.2 | (exact ha ⟨_,_⟩ (by simp) rfl)
      have hP0:=hF.at2 (j:=1) rfl hi (.inr ⟨6,rfl,hpv⟩);obtain⟨kv5,iv5,hc5,hv5,hb5⟩:=hP0;have hc5:a.tmps.getD 68 undef=vv (bG txt ns lv q) kv5 iv5:=hc5;have c68:a.tmps[68]?.getD undef= .agg #[.int .i64 (bG txt ns lv q).kind, .string (bs (bG txt ns lv q).text),kv5,iv5]:=by rw[<-aO];exact hc5
      have hb6:=λob=>aC hb5 (aH w' ob);go_simp;exact hR _ _ (hF.eff2 (by decide) (by decide) 1 hoo ha rfl hi (.inr ⟨6,rfl,hpv⟩) rfl (by decide) (λ_ _ _=>trivial) (λ_=>HSA.out _ (hb6 _)) ⟨w',kv5,iv5,hv5,hb5,rfl,rfl⟩)
     ·simp[Region.binds] at hall;have c63:a.tmps[63]?.getD undef= .slice po i co:=by rw[<-aO];exact hF.cl 1 (by decide) (by decide) (by decide) (by simp[hall])
      have hpv:d 7=true:=by first | first | exact hall | exact hall.1 | exact hall.2 | exact hall.2.1 | exact hall.2.2 | exact hall.2.2.1 | exact hall.2.2.2 | (exact ha ⟨_,_⟩ (by simp) rfl)
      have hP0:=hF.at2 (j:=2) rfl hi (.inr ⟨7,rfl,hpv⟩);have c63':a.tmps.getD 63 undef= .slice po i co:=by rw[aO];exact c63
      exact iD.app (.tmp 63) (.tmp 69) rfl HC0'.out hP0 c63' rfl HL2.out.2 (λv' w2 hp3=>hR _ _ (hF.eff2 (by decide) (by decide) 2 hoo ha rfl hi (.inr ⟨7,rfl,hpv⟩) rfl (by decide) (λ_ _ _=>trivial) (λ_=>HSG.out _ _ hp3) hp3))
     ·go_simp;exact hR _ _ (hF.pure (by decide) hoo ha rfl (by decide) (by decide) (by decide) rfl)
     ·simp[Region.binds] at hall;have c71:a.tmps[71]?.getD undef= .pointer (some ⟨Y,3,none⟩):=by rw[<-aO];exact hF.cl 9 (by decide) (by decide) (by decide) (by simp[hall])
      have hpv:d 8=true:=by first | first | exact hall | exact hall.1 | exact hall.2 | exact hall.2.1 | exact hall.2.2 | exact hall.2.2.1 | exact hall.2.2.2 | (exact ha ⟨_,_⟩ (by simp) rfl)
      have hP0:=hF.at2 (j:=3) rfl hi (.inr ⟨8,rfl,hpv⟩);have hP3:iD W0 Y kv'.ownBlock (bG txt ns lv q) ((x.kids.take i).map (bG txt ns lv)) (.slice po i co) 3 (a.tmps.getD 70 undef) w':=hP0;have hS0:=hF.st hi;rw[<-hSA] at hS0;obtain⟨⟨x3,x3f⟩,_⟩:=hS0;obtain⟨pz2,cz2,hz⟩:=hP3.1.slice;rw[HL2.out.1] at hz;rw[hz] at hP3;have c70:a.tmps[70]?.getD undef= .slice pz2 (i+1) cz2:=by rw[<-aO];exact hz
      go_simp;exact hR undef _ (hF.eff2 (by decide) (by decide) 3 hoo ha rfl hi (.inr ⟨8,rfl,hpv⟩) rfl (by decide) (λ_ _ _=>trivial) (λh=>absurd rfl h) ⟨_,_,hP3,rfl⟩)
    intro v wz hcl hP4;obtain⟨ov2,HC2⟩:=iD.fin HC0'.out hP4;have HC2:Hid (CS W3 Y kd tx (iE txt ns x.kind (x.kids.take (i+1))) ((x.kids.take (i+1)).map (bG txt ns lv)) kv' ov2 wz):=hid (by
     have e:(x.kids.take (i+1)).map (bG txt ns lv)=(x.kids.take i).map (bG txt ns lv)++ [bG txt ns lv q]:=by rw[HTK.out,oM];rfl
     rw[e];exact HC2)
    clear hcl hP4 HSG HSA hSA HC0' hW0 HC1;simp only[cE,eE,dF,eF];go_wp2_with fail;go_roundw
    case rel=>exact⟨i+1,kv',ov2,by go_num,by omega,by first | exact HC2 | exact hid (HC2.out.keep (aB _ _).drew)⟩
    case measure=>simp[RowKit.intOf];omega
  ·have dk:decide ((i:Int)<(x.kids.length:Int))=false:=aJ (by omega);obtain rfl:i=x.kids.length:=(by omega);have hc0:=HC.out;rw[List.take_length] at hc0;have HC9:=hid hc0;clear hc0 HC;obtain⟨pa,ca,hkv⟩:=HC9.out.keys.slice;obtain⟨po,co,hov⟩:=HC9.out.its.slice;obtain⟨nk,hnk⟩:=exQ<|(iE txt ns x.kind x.kids).length;obtain⟨ni,hni⟩:=exQ<|(x.kids.map (bG txt ns lv)).length;rw[hnk] at hkv;rw[hni] at hov;subst hkv hov;have HP:Hid (jI (VT.mk kd tx (iE txt ns x.kind x.kids) (x.kids.map (bG txt ns lv))) w (.returned (.agg #[.int .i64 kd, .string (bs tx), .slice pa nk ca, .slice po ni co])) (bF wr R kd tx (.slice pa nk ca) (.slice po ni co))):=hid (by refine⟨⟨_,_,rfl,?_⟩,oL (aC HB3.out HC9.out.bel) (by omega)⟩;exact(HC9.out.put (R:=R) hR3).mono (λq hq _=>aW HB3.out.size hq));have HRf:Hid ((bF wr R kd tx (.slice pa nk ca) (.slice po ni co)).heap[R]?=some (.cells #[.int .i64 kd, .string (bs tx), .slice pa nk ca, .slice po ni co] 26)):=hid (rC ((HC9.out.bel.block R hR3).trans HR3.out));obtain⟨r0,r1,r2,r3,f0,f1,f2,f3⟩:=bC ((HC9.out.bel.block R hR3).trans HR3.out);obtain⟨y0,y1,y2,y3,_⟩:=HC9.out.cells;clear hnk hni;go_wp2_with fail;obtain⟨WF,hWF⟩:=exQ<|bF wr R kd tx (.slice pa nk ca) (.slice po ni co);rw[hWF] at HP HRf;have hWF':(((wr.setCell ⟨R,0,none⟩ (.int .i64 kd)).setCell ⟨R,1,none⟩ (.string (bs tx))).setCell ⟨R,2,none⟩ (.slice pa nk ca)).setCell ⟨R,3,none⟩ (.slice po ni co)=WF:=hWF;rw[hWF'];clear hWF hWF' r0 r1 r2 r3 f0 f1 f2 f3 y0 y1 y2 y3;obtain⟨d0,d1,d2,d3,_⟩:=bC HRf.out;refine bodyPost_ret (v:= .agg #[.int .i64 kd, .string (bs tx), .slice pa nk ca, .slice po ni co]) ?_ rfl HP.out;simp[results,Tryz.results16,go_sem,d0,d1,d2,d3]
theorem Jm (txt:aA) (ns:List aD) (p:Option Addr) (c:Nat) (hN:ns.length<=65536) (hs:txt.length<=1073741824): ∀lv,Ca txt ns p c lv
 | 0=>λ_ _ _ _ h=>h.elim
 | lv+1=>Vt txt ns p c hN hs lv (Jm txt ns p c hN hs lv)
end Go.Proofs.YtaifnmjjpddikaaGreatDoor
