import Derived.Test.YtaifnmjjpddikaaGreatDoorRf31
import Derived.Test.YtaifnmjjpddikaaGreatDoorRf20
import Derived.Test.YtaifnmjjpddikaaGreatDoorRf24
import Derived.Test.YtaifnmjjpddikaaGreatDoorRf25
import Derived.Test.YtaifnmjjpddikaaGreatDoorRf27
import Derived.Test.YtaifnmjjpddikaaGreatDoorRf13
import Derived.Test.YtaifnmjjpddikaaGreatDoorRf9
import Derived.Test.YtaifnmjjpddikaaGreatDoorRf15
import Derived.Deep.RegionHeld3
import Derived.Shelf.Vars
import Derived.Test.YtaifnmjjpddikaaGreatDoorCards
import Derived.Test.YtaifnmjjpddikaaGreatDoorTie
import Derived.Lib.LaidIn
import Derived.Lib.LaidU8T
import Derived.PinnedBridge
import Derived.Lib.TrailingZeros
import Derived.Test.YtaifnmjjpddikaaGreatDoorRows
import Derived.ChangeMaps5
import Derived.ChangeArms
import Derived.ChangeSame
import Derived.ChangeSlices
import Derived.OpenShut
import Derived.Carry
import Derived.Deep.Slices
import Derived.Lib.SmallJoins
import Derived.KernelRfl
set_option maxRecDepth 100000
set_option maxHeartbeats 8000000
namespace Go.Proofs.YtaifnmjjpddikaaGreatDoor
set_option linter.unusedVariables false
set_option linter.unusedSimpArgs false
section
open Go.Lib hiding intOf
structure TQ (txt txt':aA) (t t':aL):Prop where
 kind:t'.kind=t.kind
 key:(txt'.drop t'.sf).take (t'.st-t'.sf)=(txt.drop t.sf).take (t.st-t.sf)
 sl:dE txt' (t'.sf,t'.st)=dE txt (t.sf,t.st)
structure RN (txt txt':aA) (x x':aD):Prop where
 kind:x'.kind=x.kind
 kids:x'.kids=x.kids
 key:dE txt' x'.key=dE txt x.key
 sl:x.kind≠5->x.kind≠6->dE txt' (x'.sf,x'.st)=dE txt (x.sf,x.st)
def KK (a b:List aD):Prop:= ∀(j:Nat) (x:aD),a[j]?=some x-> ∃y,b[j]?=some y/\y.kind=x.kind
theorem KK.refl (a:List aD):KK a a:=λj x h=>⟨x,h,rfl⟩
theorem KK.trans {a b c:List aD} (h:KK a b) (h2:KK b c):KK a c:=λj x hx=>by
 obtain⟨y,hy,e⟩:=h j x hx;obtain⟨z,hz,e2⟩:=h2 j y hy;exact⟨z,hz,e2.trans e⟩
theorem KK.app (a b:List aD):KK a (a++b):=λj x hx=>⟨x,by rw[mE (aQ.1 hx).1];exact hx,rfl⟩
theorem KK.mod {f:aD->aD} (hf: ∀x,(f x).kind=x.kind) (n:Nat) (a:List aD):KK a (iM f n a):=λj x hx=>by
 rw[tL];split
 ·exact⟨f x,by rw[hx];rfl,hf x⟩
 ·exact⟨x,hx,rfl⟩
theorem bW.mod {R:aD->aD->Prop}{f f':aD->aD}: ∀ {n:Nat}{a b:List aD},bW R a b->(∀x x',a[n]?=some x->R x x'->R (f x) (f' x'))->bW R (iM f n a) (iM f' n b)
 | _,[],[],h,_=>by simpa [iM] using h
 | _,[],_::_,h,_=>h.elim
 | _,_::_,[],h,_=>h.elim
 | 0,x::a,y::b,h,hf=>⟨hf x y rfl h.1,h.2⟩
 | n+1,x::a,y::b,h,hf=>⟨h.1,bW.mod h.2 (λz z' hz hr=>hf z z' (by rw[cD];exact hz) hr)⟩
def HV (txt txt':aA) (V V':VF):Prop:= ∀rest last nodes key r l ns,V rest last nodes key= .ok r l ns-> ∀rest' last' nodes' key',bW (TQ txt txt') rest rest'->bW (RN txt txt') nodes nodes'->dE txt' key'=dE txt key->
 ∃r' l' ns',V' rest' last' nodes' key'= .ok r' l' ns'/\bW (TQ txt txt') r r'/\bW (RN txt txt') ns ns'/\KK nodes ns
section
variable {txt txt':aA}{V V':VF}
theorem Ny (a b:aA):dE a (0,0)=dE b (0,0):=by unfold dE;simp
theorem aBP (hV:HV txt txt' V V') {obj:Bool}{had had1:List aA}{rest r:List aL}{last l:Sp}{nodes ns:List aD} (h:gE txt V obj had rest last nodes=(.ok r l ns,had1)) {rest':List aL} (last':Sp) {nodes':List aD} (hT:bW (TQ txt txt') rest rest') (hN:bW (RN txt txt') nodes nodes'):
  ∃r' l' ns',gE txt' V' obj had rest' last' nodes'=(.ok r' l' ns',had1)/\bW (TQ txt txt') r r'/\bW (RN txt txt') ns ns'/\KK nodes ns:=by
 cases obj with
 | false=>
  unfold gE at h ⊢;rw[if_pos rfl] at h ⊢;injection h with h1 h2;subst h2;obtain⟨r',l',ns',e,e2⟩:=hV _ _ _ _ _ _ _ h1 rest' last' nodes' (0,0) hT hN (Ny _ _);exact⟨r',l',ns',by rw[e],e2⟩
 | true=>
  unfold gE at h ⊢;rw[if_neg (by decide)] at h ⊢;cases rest with
  | nil=>injection h with h1 _;cases h1
  | cons t T1=>
   obtain⟨t',T1',rfl,ht,hT1⟩:=hT.cons_l;simp only[] at h ⊢;rw[ht.kind,ht.key];split at h
   ·injection h with h1 _;cases h1
   ·rename_i hk8;rw[if_neg hk8];split at h
    ·injection h with h1 _;cases h1
    ·rename_i hin;rw[if_neg hin];cases T1 with
     | nil=>injection h with h1 _;cases h1
     | cons c T2=>
      obtain⟨c',T2',rfl,hcc,hT2⟩:=hT1.cons_l;simp only[] at h ⊢;rw[hcc.kind];split at h
      ·injection h with h1 _;cases h1
      ·rename_i hk7;rw[if_neg hk7];injection h with h1 h2;subst h2;obtain⟨r',l',ns',e,e2⟩:=hV _ _ _ _ _ _ _ h1 T2' (c'.sf,c'.st) nodes' (t'.sf,t'.st) hT2 hN ht.sl;exact⟨r',l',ns',by rw[e],e2⟩
theorem aBQ {a b:List aD} (h:bW (RN txt txt') a b) (n k:Nat) (p p':Sp):bW (RN txt txt') (dU n k p a) (dU n k p' b):=by
 unfold dU;exact bW.mod h (λx x' _ hr=>⟨hr.kind,by simp only[];rw[hr.kids],hr.key,hr.sl⟩)
theorem Eg (hV:HV txt txt' V V') {closing:Nat}{obj:Bool}{n:Nat}: ∀(f:Nat) {had:List aA}{rest r:List aL}{last l:Sp}{nodes ns:List aD},iA txt V closing obj n f had rest last nodes= .ok r l ns->
  ∀ {rest':List aL} (last':Sp) {nodes':List aD},bW (TQ txt txt') rest rest'->bW (RN txt txt') nodes nodes'->
  ∃r' l' ns',iA txt' V' closing obj n f had rest' last' nodes'= .ok r' l' ns'/\bW (TQ txt txt') r r'/\bW (RN txt txt') ns ns'/\KK nodes ns
 | 0,_,_,_,_,_,_,_,h,_,_,_,_,_=>by cases h
 | f +1,had,rest,r,last,l,nodes,ns,h,rest',last',nodes',hT,hN=>by
  unfold iA at h ⊢;split at h
  ·cases h
  ·rename_i r1 l1 ns1 had1 hk;obtain⟨r1',l1',ns1',e,hT1,hN1,hkk⟩:=aBP hV hk last' hT hN;rw[e];simp only[];split at h
   ·cases h
   ·rename_i t r2;obtain⟨t',r2',rfl,ht,hT2⟩:=hT1.cons_l;simp only[];rw[ht.kind,<-hN.len];have hN2:=aBQ hN1 n nodes.length (last.2,t.sf) (last'.2,t'.sf);have hk2:KK nodes (dU n nodes.length (last.2,t.sf) ns1):=hkk.trans (by unfold dU;exact KK.mod (f:=λx=> { x with kids:=x.kids++ [nodes.length],pcs:=x.pcs++ [(last.2,t.sf)] }) (λx=>rfl) n ns1);split at h
    ·rename_i hc;injection h with e1 e2 e3;subst e1 e3;rw[if_pos hc];exact⟨_,_,_,rfl,hT2,hN2,hk2⟩
    ·rename_i hc;rw[if_neg hc];split at h
     ·rename_i h6;rw[if_pos h6];obtain⟨r',l',ns',e1,e2,e3,e4⟩:=Eg hV f h (t'.sf,t'.st) hT2 hN2;exact⟨r',l',ns',e1,e2,e3,hk2.trans e4⟩
     ·cases h
theorem zJ (hV:HV txt txt' V V') {closing:Nat}{obj:Bool}{n:Nat}{rest r:List aL}{last l:Sp}{nodes ns:List aD} (h:gS txt V closing obj n rest last nodes= .ok r l ns) {rest':List aL} (last':Sp) {nodes':List aD} (hT:bW (TQ txt txt') rest rest') (hN:bW (RN txt txt') nodes nodes'):
  ∃r' l' ns',gS txt' V' closing obj n rest' last' nodes'= .ok r' l' ns'/\bW (TQ txt txt') r r'/\bW (RN txt txt') ns ns'/\KK nodes ns:=by
 have hl:=hT.len;unfold gS at h ⊢;cases rest with
 | nil=>
  rw[hT.nil_l];exact Eg hV 1 h last' trivial hN
 | cons t T=>
  obtain⟨t',T',rfl,ht,hT1⟩:=hT.cons_l;simp only[] at h ⊢;rw[ht.kind];split at h
  ·rename_i hc;injection h with e1 e2 e3;subst e1 e3;rw[if_pos hc];exact⟨_,_,_,rfl,hT1,hN,KK.refl _⟩
  ·rename_i hc;rw[if_neg hc,<-hl];exact Eg hV _ h last' hT hN
theorem Nz {n:Nat}{X X':JR}{r:List aL}{l:Sp}{ns:List aD} (h:mC n X= .ok r l ns) (nodes:List aD) (hX: ∀r l ns,X= .ok r l ns-> ∃r' l' ns',X'= .ok r' l' ns'/\bW (TQ txt txt') r r'/\bW (RN txt txt') ns ns'/\KK nodes ns/\ ∃y,ns[n]?=some y/\(y.kind=5\/y.kind=6)):
  ∃r' l' ns',mC n X'= .ok r' l' ns'/\bW (TQ txt txt') r r'/\bW (RN txt txt') ns ns'/\KK nodes ns:=by
 cases X with
 | bad a e=>cases h
 | ok r0 l0 ns0=>
  obtain⟨r',l',ns',rfl,h2,h3,h4,y,hy,hk⟩:=hX r0 l0 ns0 rfl;unfold mC at h ⊢;injection h with e1 e2 e3;subst e1 e3;refine⟨_,_,_,rfl,h2,?_,h4.trans (by unfold jP;exact KK.mod (f:=λx=> { x with st:=l0.2 }) (λx=>rfl) n ns0)⟩;unfold jP;refine bW.mod h3 (λx x' hx hr=>⟨hr.kind,hr.kids,hr.key,λh5 h6=>?_⟩);rw[hy] at hx;have:=bD hx;subst this;rcases hk with e | e
  ·exact absurd e h5
  ·exact absurd e h6
end
theorem Eh (txt txt':aA): ∀lv,HV txt txt' (bP txt lv) (bP txt' lv)
 | 0=>by
  intro rest last nodes key r l ns h;unfold bP at h;split at h<;>cases h
 | lv +1=>by
  intro rest last nodes key r l ns h rest' last' nodes' key' hT hN hkey;have IH:=Eh txt txt' lv;unfold bP at h ⊢;split at h
  ·cases h
  ·rename_i hk0;split at h
   ·cases h
   ·rename_i h4096;cases rest with
    | nil=>cases h
    | cons t T=>
     obtain⟨t',T',rfl,ht,hT1⟩:=hT.cons_l;have hk0': ¬cJ (eP (t'::T'))=0:=by
      show ¬cJ t'.kind=0;rw[ht.kind];exact hk0
     rw[if_neg hk0',if_neg (by rw[<-hN.len];exact h4096)];simp only[] at h ⊢;rw[ht.kind,<-hN.len];have hNx:bW (RN txt txt') (nodes++ [⟨cJ t.kind,t.sf,t.st,key,[],[]⟩]) (nodes'++ [⟨cJ t.kind,t'.sf,t'.st,key',[],[]⟩]):=hN.app ⟨⟨rfl,rfl,hkey,λ_ _=>ht.sl⟩,trivial⟩;have hat:(nodes++ [(⟨cJ t.kind,t.sf,t.st,key,[],[]⟩:aD)])[nodes.length]?=some ⟨cJ t.kind,t.sf,t.st,key,[],[]⟩:=(by simp);by_cases h4:t.kind=4
     ·rw[if_pos h4] at h ⊢;refine Nz h nodes (λr0 l0 ns0 h0=>?_);obtain⟨r',l',ns',e1,e2,e3,e4⟩:=zJ IH h0 (t'.sf,t'.st) hT1 hNx;obtain⟨y,hy,hyk⟩:=e4 _ _ hat;exact⟨r',l',ns',e1,e2,e3,(KK.app _ _).trans e4,y,hy, .inl (by rw[hyk,h4];rfl)⟩
     ·rw[if_neg h4] at h ⊢;by_cases h2:t.kind=2
      ·rw[if_pos h2] at h ⊢;refine Nz h nodes (λr0 l0 ns0 h0=>?_);obtain⟨r',l',ns',e1,e2,e3,e4⟩:=zJ IH h0 (t'.sf,t'.st) hT1 hNx;obtain⟨y,hy,hyk⟩:=e4 _ _ hat;exact⟨r',l',ns',e1,e2,e3,(KK.app _ _).trans e4,y,hy, .inr (by rw[hyk,h2];rfl)⟩
      ·rw[if_neg h2] at h ⊢;unfold mC at h ⊢;injection h with e1 e2 e3;subst e1 e2;unfold jP at e3 ⊢;rw[uX] at e3;have hl:=hN.len;simp only[];rw[hl,uX];subst e3;exact⟨_,_,_,rfl,hT1,hNx,KK.app _ _⟩
theorem Oa {txt txt':aA}{ns ns':List aD} (h:bW (RN txt txt') ns ns'): ∀(lv k:Nat),bG txt' ns' lv k=bG txt ns lv k
 | 0,_=>rfl
 | lv+1,k=>by
  have hkey: ∀q,eT txt' ns' q=eT txt ns q:=λq=>by
   unfold eT;cases hq:ns[q]? with
   | some x=>
    obtain⟨y,hy,hr⟩:=h.at q x hq;rw[hy];simp only[];rw[hr.key]
   | none=>
    have:ns'[q]?=none:=by
     rw[At] at hq ⊢;rw[<-h.len];exact hq
    rw[this]
  unfold bG;cases hq:ns[k]? with
  | some x=>
   obtain⟨y,hy,hr⟩:=h.at k x hq;rw[hy];simp only[];rw[hr.kind,hr.kids];congr 1
   ·by_cases h5:x.kind=5
    ·unfold mD;rw[h5];rfl
    ·by_cases h6:x.kind=6
     ·unfold mD;rw[h6];rfl
     ·rw[hr.sl h5 h6]
   ·split
    ·exact List.map_congr_left (λq _=>hkey q)
    ·rfl
   ·exact List.map_congr_left (λq _=>Oa h lv q)
  | none=>
   have:ns'[k]?=none:=by
    rw[At] at hq ⊢;rw[<-h.len];exact hq
   rw[this]
theorem aBR (r:Int) (hr:mB r) (h: ∀c∈encodeRune r,tA c=false):32<=r:=by
 by_cases h128:r<128
 ·have h0:=hr.1;obtain⟨c,hc⟩: ∃c:UInt8,r=(c.toNat:Int):=⟨UInt8.ofNat r.toNat,by rw[UInt8.toNat_ofNat'];omega⟩;subst hc;rw[Fe c (by omega)] at h;have:=h c (by simp);unfold tA at this;simp only[Bool.or_eq_false_iff,decide_eq_false_iff_not] at this;omega
 ·omega
theorem Ob: ∀(n:Nat) (s:aA),s.length<=n->validD s=true->(∀c∈s,tA c=false)-> ∀g,s.length<=g->mH true g s 0=s.length
 | 0,s,hn,_,_=>by
  intro g _;cases s with
  | nil=>cases g<;>rfl
  | cons c r=>simp at hn
 | n+1,s,hn,hv,hc=>by
  intro g hg;by_cases hne:s= []
  ·subst hne;cases g<;>rfl
  obtain⟨r,t,hr,rfl,ht,hd⟩:=Ff s hne hv;have h32:=aBR r hr (λc h=>hc c (by simp[h]));have hct: ∀c∈t,tA c=false:=λc h=>hc c (by simp[h]);obtain⟨E,hE⟩:=exQ<|encodeRune r;have hEne:=zV r;have hpl:=(Uv r hr h32 t).2;rw[hE] at hEne;cases E with
  | nil=>exact absurd rfl hEne
  | cons e E'=>
   rw[hE] at hd hn hc hg hpl ⊢;obtain⟨g',rfl⟩: ∃g0,g=g0+1:=⟨g-1,by simp at hg;omega⟩;rw[dH] at hd hpl;have e127:(e==127)=false:=by
    have:=hc e (by simp);unfold tA at this;simp only[Bool.or_eq_false_iff,decide_eq_false_iff_not] at this;rw[aG];rintro rfl;exact this.2 rfl
   have e1:(e::(E'++t)).drop (e::E').length=t:=(by rw[show e::(E'++t)=(e::E')++t from rfl,uW]);have ih:=Ob n t (by simp at hn;omega) ht hct g' (by simp at hg;omega);rw[dH,Ir,hpl,hd,e127,if_neg (by simp),e1];have ho:=It true g' t 0 (e::E').length;rw[Nat.zero_add] at ho;rw[Nat.zero_add,ho,ih];simp only[aT,aS];omega
def uQ (t:aA):Prop:=validD t=true/\ ∀c∈t,tA c=false
theorem uQ.wr {t:aA} (h:uQ t):lC true t=t.length:=Ob t.length t (aE _) h.1 h.2 t.length (aE _)
theorem uQ.no10 {t:aA} (h:uQ t):t.contains 10=false:=by
 cases e:t.contains 10 with
 | false=>rfl
 | true=>
  have:=h.2 10 (by simpa using e);exact absurd this (by decide)
theorem Oc {l:aA} (h:l.head?≠some 32):bQ l=0:=by
 cases l with
 | nil=>rfl
 | cons c r=>rw[vW,if_neg (by intro e;subst e;exact h rfl)]
theorem aBS {t:aA} (h1:t.head?≠some 34) (h2:t.head?≠some 39):dY t=0:=by unfold dY;rw[if_neg h1,if_neg h2]
theorem Od: ∀(A:aA) (k pos:Nat),A.contains 10=false->fK A k pos= [(k,pos+A.length)]
 | [],k,pos,_=>rfl
 | c::A,k,pos,h=>by
  rw[List.contains_cons,Bool.or_eq_false_iff] at h;have hc: ¬c=10:=λe=>by rw[e] at h;simp at h
  unfold fK;rw[if_neg hc,Od A k (pos+1) h.2,aT,show pos+1+A.length=pos+(A.length+1) by omega]
theorem bW.impM {α β:Type}{R S:α->β->Prop}: ∀ {l:List α}{k:List β},bW R l k->(∀x y,R x y->y∈k->S x y)->bW S l k
 | [],[],_,_=>trivial
 | x::l,y::k,h,hi=>⟨hi x y h.1 (iB ..),bW.impM h.2 (λa b h2 hb=>hi a b h2 (List.mem_cons_of_mem _ hb))⟩
 | [],_::_,h,_=>h.elim
 | _::_,[],h,_=>h.elim
theorem Oe {txt:aA}{a b:Nat} (h1:a<=b) (h2:b<=txt.length):dE txt (a,b)=(txt.drop a).take (b-a):=by
 unfold dE;rw[if_neg (by simp only[];omega),List.drop_take]
theorem aBT (p q s:aA) (hp:Bl p) (hq:Bl q) {ns:List aD}{n:Int} (h:eC (p++(s++q))=(ns,n,0)):
  ∃ns',eC s=(ns',(s.length:Int),0)/\bG s ns' 32 0=bG (p++(s++q)) ns 32 0/\ns'.length<=s.length:=by
 obtain⟨hl,U,l,ns0,hU,hv,hr⟩:=uZ (s:=p++(s++q)) (by rw[h]);rw[h] at hr;injection hr with e1 e2;subst e1;obtain⟨b1,b2⟩:=Qy p q s hp hq;rw[hU] at b1 b2;have hT0:=b2.1 rfl;obtain⟨T,hT⟩: ∃T,bS s.length s 0=(T,none):=⟨_,Qz hT0⟩;have hin: ∀t∈eR T,t.sf<=t.st/\t.st<=s.length:=λt ht=>by
  have h1:t∈(bS s.length s 0).1:=by rw[hT];exact(List.mem_filter.1 ht).1
  have:=Ac s.length s 0 t h1;omega
 have htr:=Qp p q s (eR T) hin;rw[hT] at b1;simp only[] at b1;rw[b1] at hv;have hlen:s.length<=(p++(s++q)).length:=by rw[aS,aS];omega
 have hplen:(p++(s++q)).length=p.length+s.length+q.length:=by rw[aS,aS];omega
 have htq:bW (TQ (p++(s++q)) s) ((eR T).map (kF p.length)) (eR T):=htr.impM (λt t' ht hm=>by obtain⟨c1,c2⟩:=hin t' hm;have d1:=ht.sf;have d2:=ht.st;refine⟨ht.kind,ht.key,?_⟩;rw[Oe c1 c2,Oe (by omega) (by omega)];exact ht.key);obtain⟨r',l',ns',g1,g2,g3,_⟩:=Eh (p++(s++q)) s 32 _ _ _ _ _ _ _ hv (eR T) (0,0) [] (0,0) htq trivial (Ny _ _);rw[g2.nil_l] at g1;have hP:=Qs s T (by omega) hT;rw[g1] at hP;exact⟨ns',hP,Oa g3 32 0,(Ra hT g1).2.1⟩
theorem TQ.refl (txt:aA): ∀l:List aL,bW (TQ txt txt) l l
 | []=>trivial
 | t::l=>⟨⟨rfl,rfl,rfl⟩,TQ.refl txt l⟩
theorem RN.refl (txt:aA): ∀l:List aD,bW (RN txt txt) l l
 | []=>trivial
 | t::l=>⟨⟨rfl,rfl,rfl,λ_ _=>rfl⟩,RN.refl txt l⟩
theorem HV.refl (txt:aA) (lv:Nat):HV txt txt (bP txt lv) (bP txt lv):=Eh txt txt lv
theorem aBU {txt:aA}{lv:Nat}{t:aL}{T r:List aL}{last l key:Sp}{ns:List aD} (h:bP txt (lv+1) (t::T) last [] key= .ok r l ns): ∃y,ns[0]?=some y/\y.kind=cJ t.kind:=by
 have hend: ∀X:JR,mC 0 X= .ok r l ns->(∀r l ns,X= .ok r l ns-> ∃y,ns[0]?=some y/\y.kind=cJ t.kind)-> ∃y,ns[0]?=some y/\y.kind=cJ t.kind:=by
  intro X hX hY;cases X with
  | bad a e=>cases hX
  | ok r0 l0 ns0=>
   obtain⟨y,hy,hk⟩:=hY r0 l0 ns0 rfl;unfold mC at hX;injection hX with e1 e2 e3;subst e3;unfold jP;exact⟨{ y with st:=l0.2 },by rw[tL,if_pos rfl,hy];rfl,hk⟩
 unfold bP at h;split at h
 ·cases h
 ·split at h
  ·cases h
  ·simp only[] at h;refine hend _ h (λr0 l0 ns0 h0=>?_);have hat:(([]:List aD)++ [(⟨cJ t.kind,t.sf,t.st,key,[],[]⟩:aD)])[0]?=some ⟨cJ t.kind,t.sf,t.st,key,[],[]⟩:=rfl;split at h0
   ·obtain⟨_,_,_,_,_,_,e4⟩:=zJ (HV.refl txt lv) h0 (t.sf,t.st) (TQ.refl txt _) (RN.refl txt _);exact e4 _ _ hat
   ·split at h0
    ·obtain⟨_,_,_,_,_,_,e4⟩:=zJ (HV.refl txt lv) h0 (t.sf,t.st) (TQ.refl txt _) (RN.refl txt _);exact e4 _ _ hat
    ·injection h0 with e1 e2 e3;subst e3;exact⟨_,hat,rfl⟩
theorem aBV: ∀n:Fin 256,(jG (UInt8.ofNat n.val)=some 0->n.val=123)/\(jG (UInt8.ofNat n.val)=some 2->n.val=91):=by decide+kernel
theorem aBW {c:UInt8}{r:aA} (h:cJ (bB (c::r)).1=5\/cJ (bB (c::r)).1=6):c=91\/c=123:=by
 have h2:(bB (c::r)).1=4\/(bB (c::r)).1=2:=by
  unfold cJ at h;split at h
  ·omega
  ·split at h
   ·omega
   ·split at h
    ·omega
    ·split at h
     ·omega
     ·split at h
      ·exact .inl (by assumption)
      ·split at h
       ·exact .inr (by assumption)
       ·omega
 unfold bB at h2;simp only[] at h2;cases hs:jG c with
 | some k=>
  rw[hs] at h2;simp only[] at h2;have h3:=aBV ⟨c.toNat,c.toNat_lt⟩;simp only[UInt8.ofNat_toNat] at h3;have hk:k=2\/k=0:=by omega
  rcases hk with e | e
  ·left;exact UInt8.toNat_inj.1 (h3.2 (by rw[hs,e]))
  ·right;exact UInt8.toNat_inj.1 (h3.1 (by rw[hs,e]))
 | none=>
  exfalso;rw[hs] at h2;simp only[] at h2;have hw:iT ((c::r).take (bA dS (c::r)))=0\/10<=iT ((c::r).take (bA dS (c::r))):=by
   unfold iT
   repeat' split
   all_goals omega
  split at h2
  ·simp at h2
  ·split at h2
   ·split at h2<;>simp at h2
   ·split at h2
    ·split at h2<;>simp at h2
    ·split at h2
     ·simp at h2
     ·simp only[] at h2;omega
theorem aBX {c:UInt8}{r:aA}{ns:List aD}{n:Int} (h:eC (c::r)=(ns,n,0)) (hb:bR c=false) (hk:(bG (c::r) ns 32 0).kind=5\/(bG (c::r) ns 32 0).kind=6):c=91\/c=123:=by
 obtain⟨hl,T,l,ns0,hT,hv,hr⟩:=uZ (s:=c::r) (by rw[h]);rw[h] at hr;injection hr with e1 e2;subst e1;have hT1:(bS (c::r).length (c::r) 0).1=T:=by rw[hT]
 rw[aT] at hT1;unfold bS at hT1;have h0:(bB (c::r)).2.2=0:=by
  by_cases h0:(bB (c::r)).2.2=0
  ·exact h0
  ·rw[aT] at hT;unfold bS at hT;rw[if_neg h0] at hT;cases hT
 rw[if_pos h0] at hT1;have hk1:(bB (c::r)).1≠1:=by
  intro e;unfold bB at e;simp only[] at e;cases hs:jG c with
  | some k=>rw[hs] at e;simp only[] at e;omega
  | none=>
   rw[hs,hb] at e;simp only[Bool.false_eq_true,if_false] at e;have hw:iT ((c::r).take (bA dS (c::r)))=0\/10<=iT ((c::r).take (bA dS (c::r))):=by
    unfold iT
    repeat' split
    all_goals omega
   split at e
   ·split at e<;>simp at e
   ·split at e
    ·split at e<;>simp at e
    ·split at e
     ·simp at e
     ·simp only[] at e;omega
 obtain⟨t,T2,hTt,htk⟩: ∃t T2,eR T=t::T2/\t.kind=(bB (c::r)).1:=by
  rw[<-hT1];unfold eR;rw[List.filter_cons,if_pos (by simpa using hk1)];exact⟨_,_,rfl,rfl⟩
 rw[hTt] at hv;obtain⟨y,hy,hyk⟩:=aBU hv;have hn:(bG (c::r) ns 32 0).kind=(y.kind:Int):=by
  unfold bG;rw[hy];rfl
 rw[hn,hyk,htk] at hk;exact aBW (r:=r) (by omega)
theorem aBY {U:aA} (h0:U.head?=some 91\/U.head?=some 123) (hH: ∀j,1<=j-> ¬(U[j]?=some 35/\U[j-1]?=some 32)):mS U=some ⟨5,0,0,fE U,none⟩:=by
 have hne:U≠ []:=λe=>by rw[e] at h0;simp at h0
 have n35:U.head?≠some 35:=λe=>by rw[e] at h0;simp at h0
 have n34:U.head?≠some 34:=λe=>by rw[e] at h0;simp at h0
 have n39:U.head?≠some 39:=λe=>by rw[e] at h0;simp at h0
 have n32:U.head?≠some 32:=λe=>by rw[e] at h0;simp at h0
 have hqd:=aBS n34 n39;have hs45:jU U 0 45=false:=by
  cases e:jU U 0 45 with
  | false=>rfl
  | true=>
   have:=(yB e).1;rw[<-List.head?_eq_getElem?] at this;rw[this] at h0;simp at h0
 have hhd:iP U=(5,0):=by
  unfold iP;rw[hs45,if_neg (by simp),if_neg (by rintro(e | e);exact n34 e;exact n39 e),if_pos h0]
 have hbe:cL U 0=0:=by
  unfold cL;rw[List.drop_zero,Oc n32]
 have hno:dX U 0=U.length:=xZ _ _ _ (aE _) (λh=>absurd h (Nat.lt_irrefl _)) (λj h1 h2=>hH j (by omega));unfold mS;rw[if_neg hne,if_neg n35,if_neg (by rintro⟨e | e,_⟩;exact n34 e;exact n39 e),hhd];have hf:gF (5,0)=0:=rfl;rw[hf,hbe,List.drop_zero,hqd,Nat.add_zero,hno];unfold uA;rw[List.take_length,List.drop_zero,if_neg (Nat.lt_irrefl _),Nat.zero_add]
theorem aBZ (n:Nat) {U:aA} (hC:uQ (List.replicate n 32++U)) (h0:U.head?=some 91\/U.head?=some 123) (hH: ∀j,1<=j-> ¬(U[j]?=some 35/\U[j-1]?=some 32)):
  eL (List.replicate n 32++U) 0 ((n+U.length:Nat):Int)=(⟨5,0,((n+U.length:Nat):Int),n,0,0,n,((n+fE U:Nat):Int),0,0⟩,((n+U.length:Nat):Int),0):=by
 have n32:U.head?≠some 32:=λe=>by rw[e] at h0;simp at h0
 have hL:(List.replicate n (32:UInt8)++U).length=n+U.length:=by rw[aS,List.length_replicate]
 have hsp:bQ (List.replicate n (32:UInt8)++U)=n:=by rw[Uz,Oc n32,Nat.add_zero]
 have hdr:(List.replicate n (32:UInt8)++U).drop n=U:=by
  have:=uW (l₁:=List.replicate n (32:UInt8)) (l₂:=U)
  rwa [List.length_replicate] at this
 unfold eL;rw[if_neg (by rw[hL];omega)];have ht:((List.replicate n (32:UInt8)++U).drop (0:Int).toNat).take (((n+U.length:Nat):Int)-0).toNat=List.replicate n (32:UInt8)++U:=by
  rw[show (0:Int).toNat=0 from rfl,List.drop_zero];exact rZ (by rw[hL];omega)
 simp only[];rw[ht,hC.no10,if_neg (by simp),hC.wr,if_neg (Nat.lt_irrefl _),hsp,hdr,aBY h0 hH];simp only[oI];rw[if_neg (by decide),if_neg (by decide)];simp
theorem Of: ∀s:aA,s=List.replicate (bQ s) 32++s.drop (bQ s)
 | []=>rfl
 | c::r=>by
  rw[vW];by_cases hc:c=32
  ·rw[if_pos hc,List.replicate_succ,List.drop_succ_cons,dH,<-Of r,hc]
  ·rw[if_neg hc];rfl
theorem aCa (U:aA):U=U.take (fE U)++List.replicate (U.length-fE U) 32:=by
 have h1:=vZ U;refine List.ext_getElem? (λi=>?_);by_cases hi:i<fE U
 ·rw[mE (by rw[cF];omega),List.getElem?_take,if_pos hi]
 ·have hl:(U.take (fE U)).length=fE U:=by rw[cF];omega
  rw[kX (by omega),hl];by_cases h2:i<U.length
  ·rw[Iv U i (by omega) h2,List.getElem?_replicate,if_pos (by omega)]
  ·rw[List.getElem?_eq_none (by omega),List.getElem?_eq_none (by rw[List.length_replicate];omega)]
theorem Og (n:Nat):Bl (List.replicate n 32):=λc hc=>by rw[(List.mem_replicate.1 hc).2];rfl
theorem aCb {s:aA}{lv k:Nat}{kf kt:Int}{st:YS}{v:VT} (hr:jJ (eH s (aZ st.lines k).rf (aZ st.lines k).rt)=(v,0)) (h0:lv≠0) (ht:st.total<4096) (hd:v.depth<=lv) (hz:st.total+1+v.size-1<=4096):
  iZ s lv k kf kt st= .ok st.nodes.length ⟨st.lines,st.nodes++ [⟨1,(aZ st.lines k).ind,k,k+1,kf,kt,(aZ st.lines k).rf,(aZ st.lines k).rt,[]⟩],st.total+1+v.size-1⟩:=by
 unfold iZ iR;rw[if_neg h0,if_neg (by omega)];simp only[];rw[hr];simp only[];rw[if_neg (by decide),if_neg (by omega),if_neg (by omega)]
theorem aCc {s:aA}{ns:List aD}{a:Int} (hs:s.length<=4096) (hJ:eC s=(ns,a,0)) (hk:(bG s ns 32 0).kind=5\/(bG s ns 32 0).kind=6) (hC: ∀c∈s,32<=c.toNat/\c.toNat≠127) (hH: ∀j,1<=j-> ¬(s[j]?=some 35/\s[j-1]?=some 32)):
  ∃d,gN s=(d,(s.length:Int),0)/\bH s d 32 0=bG s ns 32 0:=by
 have hcm:uQ s:=⟨aBO (by rw[hJ]),λc hc=>by have:=hC c hc;unfold tA;simp only[Bool.or_eq_false_iff,decide_eq_false_iff_not];exact⟨by omega,this.2⟩⟩;obtain⟨n,hn⟩:=exQ<|bQ s;obtain⟨U,hU⟩:=exQ<|s.drop n;have hsU:s=List.replicate n 32++U:=by rw[<-hU,<-hn];exact Of s
 obtain⟨tr,htr⟩:=exQ<|fE U;obtain⟨B,hB⟩:=exQ<|U.take tr;have hUB:U=B++List.replicate (U.length-tr) 32:=by rw[<-hB,<-htr];exact aCa U
 have hJ2:=hJ;rw[hsU,hUB] at hJ2;obtain⟨ns',hJB,hV,hcnt⟩:=aBT _ _ _ (Og _) (Og _) hJ2;rw[<-hUB,<-hsU] at hV;have hBs:B.length<=s.length:=by
  have:=congrArg List.length hsU;have h2:=congrArg List.length hUB;rw[aS,List.length_replicate] at this h2;omega
 cases B with
 | nil=>
  exfalso;have:(eC []).2.2=2:=by decide+kernel
  rw[hJB] at this;cases this
 | cons c r=>
  have hcs:c∈s:=by rw[hsU,hUB];simp
  have hb:bR c=false:=by
   cases e:bR c with
   | false=>rfl
   | true=>
    exfalso;have h1:=hC c hcs;rcases Af e with e | e | e | e
    ·have h2:=vY s;rw[hn] at h2;refine h2 ?_;have:(s.drop n)[0]?=some c:=by rw[hU,hUB];rfl
     rw[iI,Nat.add_zero] at this;rw[this,e]
    ·rw[e] at h1;exact absurd h1.1 (by decide)
    ·rw[e] at h1;exact absurd h1.1 (by decide)
    ·rw[e] at h1;exact absurd h1.1 (by decide)
  have h2:=aBX hJB hb (by rw[hV];exact hk);have h0:U.head?=some 91\/U.head?=some 123:=by
   rw[hUB];rcases h2 with e | e
   ·left;rw[e];rfl
   ·right;rw[e];rfl
  have hHU: ∀j,1<=j-> ¬(U[j]?=some 35/\U[j-1]?=some 32):=λj hj h=>by
   refine hH (n+j) (by omega) ?_;rw[<-hU,iI,iI] at h;rw[show n+j-1=n+(j-1) by omega];exact h
  have hlen:s.length=n+U.length:=by
   have:=congrArg List.length hsU
   rwa [aS,List.length_replicate] at this
  have hline:=aBZ n (by rw[<-hsU];exact hcm) h0 hHU;rw[<-hsU,<-hlen,htr] at hline;have hsp:fT s= [(0,s.length)]:=by
   unfold fT;rw[Od s 0 0 hcm.no10,Nat.zero_add];rfl
  have hsl:eH s (n:Int) ((n+tr:Nat):Int)=c::r:=by
   unfold eH;rw[fC,fC,Nat.add_sub_cancel_left,hU,hB]
  have htl:tr<=U.length:=by rw[<-htr];exact vZ U
  have hby:eZ s (n:Int) ((n+tr:Nat):Int)=c::r:=by
   unfold eZ;rw[if_neg (by omega),hsl]
  have hrd:jJ (c::r)=(bG s ns 32 0,0):=by
   unfold jJ;simp only[];have n34: ¬(c=34\/c=39):=(by rcases h2 with e | e<;>rw[e]<;>decide);rw[if_neg n34,if_pos h2];unfold eX;rw[hJB];simp only[];rw[if_neg (by decide),hV]
  have hsz:=Gw (txt:=c::r) (tP hJB);rw[hV,Nat.sub_zero] at hsz;have hpos:1<=ns'.length:=(tP hJB).lt;refine⟨⟨[⟨5,0,(s.length:Int),n,0,0,n,((n+tr:Nat):Int),0,0⟩],[⟨1,n,0,1,0,0,n,((n+tr:Nat):Int),[]⟩]⟩,?_,?_⟩
  ·rw[Mr (by omega)];unfold kQ;rw[hsp];have hn1:gA s [(0,s.length)] 0 []= .ok 0 [⟨5,0,(s.length:Int),n,0,0,n,((n+tr:Nat):Int),0,0⟩]:=by
    unfold gA mK;simp only[List.drop_zero,List.getElem?_nil,Int.natCast_zero];rw[hline];simp[jL]
   rw[hn1];simp only[eD];rw[if_neg (by omega)];have hb1:nC s [(0,s.length)] 32 0 0 0 ⟨[⟨5,0,(s.length:Int),n,0,0,n,((n+tr:Nat):Int),0,0⟩],[],0⟩= .ok 0 ⟨[⟨5,0,(s.length:Int),n,0,0,n,((n+tr:Nat):Int),0,0⟩],[⟨1,n,0,1,0,0,n,((n+tr:Nat):Int),[]⟩],1+(bG s ns 32 0).size-1⟩:=by
    unfold nC lT;simp only[];rw[if_pos (show (aZ [(⟨5,0,(s.length:Int),n,0,0,n,((n+tr:Nat):Int),0,0⟩:aP)] 0).kind=5 from rfl)];rw[aCb (v:=bG s ns 32 0) (by show jJ (eH s (n:Int) ((n+tr:Nat):Int))=_;rw[hsl,hrd]) (by decide) (show 0<4096 by decide) hsz.2 (show 0+1+(bG s ns 32 0).size-1<=4096 by omega)];simp only[gR,iL,Nat.zero_add];rfl
   rw[hb1];have ht1:fS [(⟨1,n,0,1,0,0,n,((n+tr:Nat):Int),[]⟩:aM)] 0=1:=rfl;simp only[];rw[ht1];have hn2:gA s [(0,s.length)] 1 [⟨5,0,(s.length:Int),n,0,0,n,((n+tr:Nat):Int),0,0⟩]= .ok 1 [⟨5,0,(s.length:Int),n,0,0,n,((n+tr:Nat):Int),0,0⟩]:=rfl;rw[hn2];simp
  ·unfold bH;simp only[dA];rw[if_pos trivial,hby,hrd]
end
section
open Go.RowKit
open Go.Lib hiding intOf
def tF (s:aA) (i:Nat):Prop:= ∃c,s[i]?=some c/\(c.toNat<32\/c.toNat=127\/c.toNat=35/\0<i/\s[i-1]?=some 32)
theorem aCd (sb:ByteArray) (w:World) (hsb:sb.size<=4611686018427387904) (hV:cA w):
  Calls Tryz.prog 3 #[.string sb] w λe w'=>e= .returned (.bool true)/\Below w.heap.size w w':=by
 obtain⟨s,rfl⟩: ∃l,sb=bs l:=⟨sb.data.toList,(uS sb).symm⟩;have sl:=aR s;have HV:=hid hV;have C0:=hid (aBI w hV);have CJ:Hid (∀w',Below w.heap.size w w'->Calls Tryz.prog 6 #[.string (bs s)] w' (mX (eX s).1 (eX s).2.1 (eX s).2.2 w')):=hid (λw' hb=>Jo s w' (by omega) (hV.keep hb));have hslb:(s.length:Int)<=4611686018427387904:=by omega
 clear hV hsb;go_enter Tryz.func3,Tryz.ntmps3;go_wp2_with fail;refine C0.out.mono ?_;rintro e w0 ⟨rfl,hb0⟩;have HB0:=hid hb0;have CJ:=hid (CJ.out w0 hb0);obtain⟨⟨T,a,er⟩,hT⟩:=exQ<|eX s;rw[hT] at CJ;simp only[] at CJ;have HT:=hid hT;clear hb0 hT;go_wp2_with fail;refine CJ.out.mono ?_;rintro e w1 ⟨⟨kv,iv,rfl,hv⟩,hb1⟩;obtain⟨pk,ck,pi,ci,rfl,rfl⟩:=hv.form;have HB1:=hid (aC HB0.out hb1);obtain⟨X,hX⟩:=exQ<|w1.heap.size;have b2:=aH w1 (.cells #[.int .i64 T.kind, .string (bs T.text), .slice pk T.keys.length ck, .slice pi T.items.length ci] 26);have x2:=heap_alloc_new w1 (.cells #[.int .i64 T.kind, .string (bs T.text), .slice pk T.keys.length ck, .slice pi T.items.length ci] 26);obtain⟨w2,hw2⟩:=exQ<|w1.alloc (.cells #[.int .i64 T.kind, .string (bs T.text), .slice pk T.keys.length ck, .slice pi T.items.length ci] 26);rw[hw2] at b2 x2;rw[hX] at x2;have HB2:=hid (aC HB1.out b2);have HV2:=hid (hv.toVD.keep b2);have HX2:=hid x2;obtain⟨b0,b1,b3,b4,_⟩:=bC x2;obtain⟨kd,hkd⟩:=exQ<|T.kind;have HKD:=hid hkd;unfold vv;rw[hkd] at hw2 b0 ⊢;clear hv hb1 b2 x2 hkd;by_cases h0:er=0;rotate_left
 ·have e0:(er !=0)=true:=fH.2 h0;have e1:(er==0)=false:=aG.2 h0;clear h0;go_wp2_with fail;clear hw2 hX;go_ret;exact⟨rfl,by first | exact HB2.out | exact HB2.out.drew⟩
 subst h0;by_cases hl:4096<s.length
 ·have dl:decide ((4096:Int)<(s.length:Int))=true:=aN (by omega);have dl2:decide (4096<s.length)=true:=aN hl;clear hl;go_wp2_with fail;clear hw2 hX;go_ret;exact⟨rfl,by first | exact HB2.out | exact HB2.out.drew⟩
 have dl:decide ((4096:Int)<(s.length:Int))=false:=aJ (by omega);have dl2:decide (4096<s.length)=false:=aJ hl;by_cases hk:kd=5\/kd=6;rotate_left
 ·have e1:(kd !=5)=true:=fH.2 (λe=>hk (.inl e));have e2:(kd !=6)=true:=fH.2 (λe=>hk (.inr e));have e3:(kd==5)=false:=aG.2 (λe=>hk (.inl e));have e4:(kd==6)=false:=aG.2 (λe=>hk (.inr e));clear hk hl;go_wp2_with fail;clear hw2 hX;go_ret;exact⟨rfl,by first | exact HB2.out | exact HB2.out.drew⟩
 have hk1:((kd !=5)&&(kd !=6))=false:=by rcases hk with rfl|rfl<;>rfl
 have HK:=hid hk;have hll:s.length<=4096:=by omega
 have CY:Hid ((∀j,j<s.length-> ¬tF s j)-> ∀w',Below w.heap.size w w'->Calls Tryz.prog 7 #[.string (bs s)] w' (mX T (s.length:Int) 0 w')):=hid (λhn w' hb=>by
  have hr:=HT.out;obtain⟨⟨ns,a',er⟩,hP⟩:=exQ<|eC s;unfold eX at hr;rw[hP] at hr;simp only[] at hr;by_cases he:er=0
  ·subst he;rw[if_neg (by simp)] at hr;injection hr with e1 e2;have hC: ∀c∈s,32<=c.toNat/\c.toNat≠127:=λc hc=>by
    obtain⟨j,hj,e⟩:=List.mem_iff_getElem.1 hc;have:=hn j hj;unfold tF at this;have h1: ¬(c.toNat<32\/c.toNat=127\/c.toNat=35/\0<j/\s[j-1]?=some 32):=λh=>this ⟨c,by rw[bJ hj,e],h⟩;omega
   have hH: ∀j,1<=j-> ¬(s[j]?=some 35/\s[j-1]?=some 32):=λj hj h=>by
    have hjl:=(aQ.1 h.1).1;exact hn j hjl ⟨35,h.1, .inr (.inr ⟨rfl,hj,h.2⟩)⟩
   obtain⟨d,h1,h2⟩:=aCc hll hP (by rw[e1,HKD.out];exact HK.out) hC hH;have:=Dw s w' (HV.out.keep hb);unfold rH at this;rw[h1] at this;simp only[if_true] at this;rw[h2,e1] at this;exact this
  ·rw[if_pos he] at hr;injection hr with _ hr;injection hr with _ hr;exact absurd hr he)
 have hL: ∀n,lV n T:=λn=>by
  have hr:=HT.out;obtain⟨⟨ns,a',er⟩,hP⟩:=exQ<|eC s;unfold eX at hr;have hf:=xY s;rw[hP] at hr hf;simp only[] at hr hf;by_cases he:er=0
  ·subst he;rw[if_neg (by simp)] at hr;injection hr with e1 e2;rw[<-e1];exact Dv hf 32 0 _ n (tP hP)
  ·rw[if_pos he] at hr;injection hr with _ hr;injection hr with _ hr;exact absurd hr he
 have HL:=hid hL;have HXA:=hid (aI HX2.out HB2.out);rcases hk with rfl|rfl
 all_goals
  have HS0:Hid (∀j,j<0-> ¬tF s j):=hid (λj hj=>absurd hj (pU _));clear hk1 hL hl;go_wp2_with fail;clear hw2 hX b0 b1 b3 b4;go_loop [7] (λs7=> ∃i:Nat,s7= .int .i64 (i:Int)/\i<=s.length/\Hid (∀j,j<i-> ¬tF s j)) (λs7=>s.length-(RowKit.intOf s7).toNat)
  case atStart=>exact⟨0,rfl,cN _,HS0⟩
  case round=>
   obtain⟨i,rfl,hi,HN⟩:=hrel;by_cases hlt:i<s.length
   ·have hlt':i<(bs s).size:=(by omega);have hg:=nO s i hlt';obtain⟨c,hc⟩:=exQ<|(bs s)[i]'hlt';rw[hc] at hg;obtain⟨n,hn⟩: ∃n:Int,(c.toNat:Int)=n:=⟨_,rfl⟩;have hge:(((bs s)[i]'hlt').toNat:Int)=n:=(by rw[hc,hn]);have di:decide ((i:Int)<(s.length:Int))=true:=aN (by omega);have HG:=hid (aI hg hn);have hnext: ¬tF s i->Hid (∀j,j<i+1-> ¬tF s j):=λh=>hid (λj hj=>by
     by_cases e:j=i
     ·rw[e];exact h
     ·exact HN.out j (by omega))
    have hno:n≥32->n≠127-> ¬(n=35/\0<i/\s[i-1]?=some 32)-> ¬tF s i:=λh1 h2 h3=>by
     rintro⟨c',e1,e2⟩;rw[HG.out.1] at e1;obtain rfl:=bD e1;have:=HG.out.2;rcases e2 with e2 | e2 | ⟨e2,e3,e4⟩
     ·omega
     ·omega
     ·exact h3 ⟨by omega,e3,e4⟩
    clear hg hc hn;by_cases h32:n<32
    ·have d32:decide (n<32)=true:=aN h32;clear h32 hno hnext;go_wp2_with fail;go_ret;exact⟨rfl,by first | exact HB2.out | exact HB2.out.drew⟩
    have d32:decide (n<32)=false:=aJ h32;by_cases h127:n=127
    ·subst h127;clear h32 hno hnext;go_wp2_with fail;go_ret;exact⟨rfl,by first | exact HB2.out | exact HB2.out.drew⟩
    have t127:(n==127)=false:=aG.2 h127;by_cases h35:n=35;rotate_left
    ·have t35:(n==35)=false:=aG.2 h35;have HX:=hnext (hno (by omega) h127 (λh=>h35 h.1));clear h32 hno hnext h127 h35;go_wp2_with fail;go_round
     case rel=>exact⟨i+1,by go_num,by omega,HX⟩
     case measure=>simp[RowKit.intOf];omega
    by_cases hi0:i=0
    ·have HX:=hnext (hno (by omega) h127 (λh=>by omega));subst hi0 h35;clear h32 hno hnext h127 t127 d32;go_wp2_with fail;go_round
     case rel=>exact⟨1,rfl,by omega,HX⟩
     case measure=>simp[RowKit.intOf];omega
    have g0:decide ((0:Int)<(i:Int))=true:=aN (by omega);have hlp:i-1<(bs s).size:=(by omega);have hgp:=nO s (i-1) hlp;obtain⟨q,hq⟩:=exQ<|(bs s)[i-1]'hlp;rw[hq] at hgp;obtain⟨m,hm⟩: ∃m:Int,(q.toNat:Int)=m:=⟨_,rfl⟩;have hp:(((bs s)[i-1]'hlp).toNat:Int)=m:=(by rw[hq,hm]);have hi1:((i:Int)-1).toNat=i-1:=(by omega);have hi2:0<=(i:Int)-1:=(by omega);have hi3:(i:Int)-1<(s.length:Int):=(by omega);by_cases hm32:m=32
    ·subst hm32 h35;clear h32 hno hnext h127 t127 d32 hgp hq hm;go_wp2_with fail;go_ret;exact⟨rfl,by first | exact HB2.out | exact HB2.out.drew⟩
    ·have tm:(m==32)=false:=aG.2 hm32;have HX:=hnext (hno (by omega) h127 (λh=>by have h2:=h.2.2;rw[hgp] at h2;have h3:=bD h2;rw[h3] at hm;have:((32:UInt8).toNat:Int)=32:=rfl;omega));subst h35;clear h32 hno hnext h127 t127 d32 hgp hq hm hm32;go_wp2_with fail;go_round
     case rel=>exact⟨i+1,by go_num,by omega,HX⟩
     case measure=>simp[RowKit.intOf];omega
   ·have di:decide ((i:Int)<(s.length:Int))=false:=aJ (by omega);obtain rfl:i=s.length:=(by omega);have CYx:=hid (CY.out HN.out w2 HB2.out);clear hlt CY;go_wp2_with fail;refine CYx.out.mono ?_;rintro e w3 ⟨⟨kv,iv,rfl,hv3⟩,hb3⟩;obtain⟨pk3,ck3,pi3,ci3,rfl,rfl⟩:=hv3.form;obtain⟨Z,hZ⟩:=exQ<|w3.heap.size;have b4:=aH w3 (.cells #[.int .i64 T.kind, .string (bs T.text), .slice pk3 T.keys.length ck3, .slice pi3 T.items.length ci3] 26);have x4:=heap_alloc_new w3 (.cells #[.int .i64 T.kind, .string (bs T.text), .slice pk3 T.keys.length ck3, .slice pi3 T.items.length ci3] 26);obtain⟨w4,hw4⟩:=exQ<|w3.alloc (.cells #[.int .i64 T.kind, .string (bs T.text), .slice pk3 T.keys.length ck3, .slice pi3 T.items.length ci3] 26);rw[hw4] at b4 x4;rw[hZ] at x4;have HB24:=hid (aC hb3 b4);have HB4:=hid (aC HB2.out HB24.out);have hv4:=hv3.toVD.keep b4;have hv2:=HV2.out.keep HB24.out;have CE:=hid (Mq T.depth T T _ _ _ _ w4 hv2 hv4 (HL.out _) (HL.out _));unfold vv at CE ⊢;obtain⟨d0,d1,d2,d3,_⟩:=bC ((HB24.out.block X (aF HXA.out.1)).trans HXA.out.1);obtain⟨c0,c1,c2,c3,_⟩:=bC x4;have tl:((s.length:Int)==(s.length:Int))=true:=beq_self_eq_true _;clear hv3 hb3 b4 x4 hv4 hv2;go_wp2_with fail;refine CE.out.mono ?_;rintro e w5 ⟨⟨b,rfl,hb⟩,hb5⟩;obtain rfl:b=true:=hb rfl;have HB5:=hid (aC HB4.out hb5);clear hb hb5 c0 c1 c2 c3 d0 d1 d2 d3;go_wp2_with fail;clear hw4 hZ;go_ret;exact⟨rfl,by first | exact HB5.out | exact HB5.out.drew⟩
end
section
open Go.Shelf Go.RowKit
noncomputable def zK (os:Os):World:=
 let w0:=World.holding Tryz.prog os ⟨#[], #[],[]⟩
 let put (h:Array Obj) (g:Nat) (cs:Array Value):Array Obj:=h.modify g fun
  | .cells _ t frozen=> .cells cs t frozen
  | o=>o
 let h1:=put w0.heap 6 #[.int .u8 0, .int .u8 1, .int .u8 28, .int .u8 2, .int .u8 29, .int .u8 14, .int .u8 24, .int .u8 3, .int .u8 30, .int .u8 22, .int .u8 20, .int .u8 15, .int .u8 25, .int .u8 17, .int .u8 4, .int .u8 8, .int .u8 31, .int .u8 27, .int .u8 13, .int .u8 23, .int .u8 21, .int .u8 19, .int .u8 16, .int .u8 7, .int .u8 26, .int .u8 12, .int .u8 18, .int .u8 6, .int .u8 11, .int .u8 5, .int .u8 10, .int .u8 9]
 let h2:=put h1 7 #[.int .u8 0, .int .u8 1, .int .u8 56, .int .u8 2, .int .u8 57, .int .u8 49, .int .u8 28, .int .u8 3, .int .u8 61, .int .u8 58, .int .u8 42, .int .u8 50, .int .u8 38, .int .u8 29, .int .u8 17, .int .u8 4, .int .u8 62, .int .u8 47, .int .u8 59, .int .u8 36, .int .u8 45, .int .u8 43, .int .u8 51, .int .u8 22, .int .u8 53, .int .u8 39, .int .u8 33, .int .u8 30, .int .u8 24, .int .u8 18, .int .u8 12, .int .u8 5, .int .u8 63, .int .u8 55, .int .u8 48, .int .u8 27, .int .u8 60, .int .u8 41, .int .u8 37, .int .u8 16, .int .u8 46, .int .u8 35, .int .u8 44, .int .u8 21, .int .u8 52, .int .u8 32, .int .u8 23, .int .u8 11, .int .u8 54, .int .u8 26, .int .u8 40, .int .u8 15, .int .u8 34, .int .u8 20, .int .u8 31, .int .u8 10, .int .u8 25, .int .u8 14, .int .u8 19, .int .u8 9, .int .u8 13, .int .u8 8, .int .u8 7, .int .u8 6]
 let h3:=put h2 5 #[.int .u64 1, .int .u64 10, .int .u64 100, .int .u64 1000, .int .u64 10000, .int .u64 100000, .int .u64 1000000, .int .u64 10000000, .int .u64 100000000, .int .u64 1000000000, .int .u64 10000000000, .int .u64 100000000000, .int .u64 1000000000000, .int .u64 10000000000000, .int .u64 100000000000000, .int .u64 1000000000000000, .int .u64 10000000000000000, .int .u64 100000000000000000, .int .u64 1000000000000000000, .int .u64 10000000000000000000]
 let h4:=put h3 2 #[.int .u8 128, .int .u8 191, .int .u8 160, .int .u8 191, .int .u8 128, .int .u8 159, .int .u8 144, .int .u8 191, .int .u8 128, .int .u8 143, .int .u8 0, .int .u8 0, .int .u8 0, .int .u8 0, .int .u8 0, .int .u8 0, .int .u8 0, .int .u8 0, .int .u8 0, .int .u8 0, .int .u8 0, .int .u8 0, .int .u8 0, .int .u8 0, .int .u8 0, .int .u8 0, .int .u8 0, .int .u8 0, .int .u8 0, .int .u8 0, .int .u8 0, .int .u8 0]
 let n5:=h4.size
 let a5:=h4.push (.cells #[.string ⟨#[118,97,108,117,101,32,111,117,116,32,111,102,32,114,97,110,103,101]⟩] 242 (0,0))
 let h5:=put a5 4 #[.iface 240 (.pointer (some ⟨n5,0,none⟩))]
 let n6:=h5.size
 let a6:=h5.push (.cells #[.string ⟨#[105,110,118,97,108,105,100,32,115,121,110,116,97,120]⟩] 242 (0,0))
 let h6:=put a6 3 #[.iface 240 (.pointer (some ⟨n6,0,none⟩))]
 let h7:=put h6 1 (Lib.firstTab.map λz=>Value.int .u8 z).toArray
 { w0 with heap:=h7 }
def rJ:List (String×DataW Unit):= [("math/bits.deBruijn32tab",Rows.laid_math_bits_deBruijn32tab),("math/bits.deBruijn64tab",Rows.laid_math_bits_deBruijn64tab),("internal/strconv.uint64pow10",Rows.laid_internal_strconv_uint64pow10),("unicode/utf8.acceptRanges",Rows.laid_unicode_utf8_acceptRanges),("strconv.ErrRange",Rows.laid_strconv_ErrRange),("strconv.ErrSyntax",Rows.laid_strconv_ErrSyntax),("unicode/utf8.first",Rows.laid_unicode_utf8_first)]
theorem aCe (os:Os) (args:Array Value):laidMet Tryz.prog rJ ((zK os).forCall (λ_ _=>0) ⟨#[],args,[]⟩).memory:=
 (LaidIn.of_run (l:=rJ) (List.range 64) 8 (by kernel_rfl) (by kernel_rfl) (by kernel_rfl) (by kernel_rfl)).met
theorem aCf {W:World} (hL:laidMet Tryz.prog rJ W):sA W:=by
 obtain⟨g,t,cs,fuel,p,hg,hty,hvar,hd⟩:=Lib.laidMet.reads hL (.tail _ (.tail _ (.head _)));obtain rfl:=bD ((show Tryz.prog.globalNamed "internal/strconv.uint64pow10" =some 5 by kernel_rfl).symm.trans hg);obtain rfl:=bD ((show (Tryz.prog.globals[5]?).map (·.type)=some 248 by kernel_rfl).symm.trans hty);rw[show (Rows.laid_internal_strconv_uint64pow10:DataW Unit)=Lib.tabData .u64 Lib.pow10Tab by kernel_rfl] at hd;have h:=Lib.cells_of_tab Tryz.underlying248 Tryz.underlying216 (by kernel_rfl) (by kernel_rfl) hd;show World.var? Tryz.prog W _=_;rw[hvar,<-h]
theorem aCg {H:Type}{enc:TypeId×Value->H}{P:Program}{w:World}{base:Nat}{sp:Nat->Bool}{held:Bool}{fuel:Nat}{t:TypeId}{ms:Array (String×TypeId)}{cs:List Value}{nm:String}{d:DataW H}{p:List MemPlace}
  (ht:P.underlying t=some (.interface ms)) (h:DataW.trod enc P w base sp held fuel t cs=some (.iface nm d,p)): ∃u v,cs= [.iface u v]:=by
 cases fuel with
 | zero=>simp[DataW.trod] at h
 | succ n=>
  unfold DataW.trod at h;simp only[ht] at h;rcases cs with _ | ⟨c,_ | ⟨c2,l⟩⟩
  ·simp at h
  ·cases c<;>simp at h
   exact⟨_,_,rfl⟩
  ·cases c<;>simp at h
theorem aCh {W:World} (hL:laidMet Tryz.prog rJ W):cO W:=by
 obtain⟨g,t,cs,fuel,p,hg,hty,hvar,hd⟩:=Lib.laidMet.reads hL (.tail _ (.tail _ (.tail _ (.tail _ (.tail _ (.head _))))));obtain rfl:=bD ((show Tryz.prog.globalNamed "strconv.ErrSyntax" =some 3 by kernel_rfl).symm.trans hg);obtain rfl:=bD ((show (Tryz.prog.globals[3]?).map (·.type)=some 129 by kernel_rfl).symm.trans hty);obtain⟨u,v,hcs⟩:=aCg Tryz.underlying129 hd;refine⟨u,v,?_⟩;rw[hvar,<-hcs]
theorem aCi {W:World} (hL:laidMet Tryz.prog rJ W):rS W:=by
 obtain⟨g,t,cs,fuel,p,hg,hty,hvar,hd⟩:=Lib.laidMet.reads hL (.tail _ (.head _));obtain rfl:=bD ((show Tryz.prog.globalNamed "math/bits.deBruijn64tab" =some 7 by kernel_rfl).symm.trans hg);obtain rfl:=bD ((show (Tryz.prog.globals[7]?).map (·.type)=some 255 by kernel_rfl).symm.trans hty);rw[show (Rows.laid_math_bits_deBruijn64tab:DataW Unit)=Lib.tabData .u8 (Lib.deBruijn64tab.map (λn:Nat=>(n:Int))) by kernel_rfl] at hd;have h:=Lib.cells_of_tab Tryz.underlying255 Tryz.underlying5 (by kernel_rfl) (by kernel_rfl) hd;unfold rS;rw[World.var?_cell (P:=Tryz.prog) (show Tryz.prog.globalNamed "math/bits.deBruijn64tab" =some 7 by kernel_rfl) hvar 15,<-Array.getElem?_toList,h];rfl
theorem aCj {W:World} (hL:laidMet Tryz.prog rJ W):cC W:=by
 have h1:=Lib.laidMet.reads hL (.tail _ (.tail _ (.tail _ (.head _))));have h2:=Lib.laidMet.reads hL (.tail _ (.tail _ (.tail _ (.tail _ (.tail _ (.tail _ (.head _)))))));rw[show Rows.laid_unicode_utf8_first=Lib.firstData from Pinned.utf8First_eq] at h2;rw[show (Rows.laid_unicode_utf8_acceptRanges:DataW Unit)=Lib.acceptData by kernel_rfl] at h1;exact utf8Tabs_of_readsT (U8Types.of196 Tryz.laysValid) ⟨by kernel_rfl,by kernel_rfl,by kernel_rfl,by kernel_rfl,by kernel_rfl,by kernel_rfl,by kernel_rfl⟩ h2 h1
theorem aCk {W:World} (h:W.ShapedOpen Tryz.prog):lD W:=
 cell_of_shapedOpen_int (P:=Tryz.prog) (g:=0) (t:=3) (zero:= #[.int .i64 0]) h (of_decide_eq_true (by kernel_rfl)) (by kernel_rfl) rfl (by kernel_rfl) (by kernel_rfl) Tryz.underlying3
end
section
open Go.RowKit Go.Joins Go.ChangeShapes Go.WideShapes
section
variable {H:Type}{enc:TypeId×Value->H}{w:World}{base:Nat}{sp:Nat->Bool}{held:Bool}
instance:Inhabited (VT×Value×Value):=⟨(.mk 0 [] [] [], .nilFunc, .nilFunc)⟩
end
end
end Go.Proofs.YtaifnmjjpddikaaGreatDoor
