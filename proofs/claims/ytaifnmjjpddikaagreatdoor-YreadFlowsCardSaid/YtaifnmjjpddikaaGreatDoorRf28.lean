import Derived.Test.YtaifnmjjpddikaaGreatDoorRf27
import Derived.Test.YtaifnmjjpddikaaGreatDoorRf13
import Derived.Test.YtaifnmjjpddikaaGreatDoorShelfE
import Derived.Test.YtaifnmjjpddikaaGreatDoorRf2
set_option maxRecDepth 100000
set_option maxHeartbeats 4000000
namespace Go.Proofs.YtaifnmjjpddikaaGreatDoor
set_option linter.unusedVariables false
set_option linter.unusedSimpArgs false
section
open Go.RowKit
open Go.Lib hiding intOf
theorem eY.nodeAt {B:Nat}{d:dG}{lv:Value}{gn n cn:Nat}{w:World} (h:eY B d lv (.slice (some ⟨gn,0,none⟩) n cn) w) {k:Nat}{x:aM} (hx:d.nodes[k]?=some x):
  n=d.nodes.length/\ ∃pk ck,(∀j u,j<9->(jB (x, .slice pk x.kids.length ck))[j]?=some u->w.cell? ⟨gn,k*9+j,none⟩=some u)/\ ∀(j q:Nat),x.kids[j]?=some q-> ∃gk,pk=some ⟨gk,0,none⟩/\w.cell? ⟨gk,j,none⟩=some (.int .i64 (q:Int)):=by
 obtain⟨z,hz,_,hnd⟩:=h;obtain⟨y,hy⟩: ∃y,z[k]?=some y:=by
  rw[<-hz,cU] at hx;cases hq:z[k]? with
  | none=>rw[hq] at hx;cases hx
  | some q=>exact⟨q,rfl⟩
 have hyx:y.1=x:=by
  rw[<-hz,cU,hy] at hx;exact bD hx
 obtain⟨g2,c2,cur,e,_⟩:=hnd.form (λe=>by rw[e] at hy;cases hy);injection e with e1 e2 e3;injection e1 with e1;injection e1 with e1;subst e1 e2 e3;have hkm:=hnd.kids y (aX hy);obtain⟨pk,ck,hkv⟩: ∃p c,y.2= .slice p y.1.kids.length c:=by
  rcases hkm.2 with⟨h0,h1⟩ | ⟨g,cap,cur,h1,_⟩
  ·exact⟨none,0,by rw[h0,h1]⟩
  ·exact⟨_,cap,h1⟩
 have hzl:z.length=d.nodes.length:=by rw[<-hz,bU]
 refine⟨hzl,pk,ck,λj u hj hu=>?_,λj q hj=>?_⟩
 ·refine(hnd.at_ hy j hj (u:=u) ?_).1;rw[<-hu,<-hyx,<-hkv]
 ·rw[hkv,hyx] at hkm;have hjl:=(aQ.1 hj).1;rcases hkm.2 with⟨h0,h1⟩ | ⟨g,cap,cur,h1,_⟩
  ·omega
  ·injection h1 with e1;subst e1;refine⟨g,rfl,?_⟩;rw[World.ownsRow.cellAt hkm _ (by omega)];unfold dV;rw[cU,hj];rfl
def lW (s:aA) (x:aM):aA×Int:=oO (eZ s x.kf x.kt)
theorem aAo {s:aA}{x:aM} (h:x.kf<0\/x.kt<x.kf\/(s.length:Int)<x.kt):lW s x=([],2):=by
 unfold lW eZ;rw[if_pos h];rfl
theorem aAp (s:aA) (a b:Int) (h1:0<=a) (h2:a<=b) (h3:b<=(s.length:Int)):(bs s).extract a.toNat b.toNat=bs (eZ s a b):=by
 unfold eZ;rw[if_neg (by omega)];unfold eH;rw[kV,aU]
theorem aAq (B:Nat) (s:aA) (d:dG) (lv:Value) (gn n cn k:Nat) (x:aM) (w:World) (h:eY B d lv (.slice (some ⟨gn,0,none⟩) n cn) w) (hx:d.nodes[k]?=some x) (hn2:n<=131072) (hs:s.length<=65536) (hV:cA w):
  Calls Tryz.prog 42 #[.agg #[.string (bs s),lv, .slice (some ⟨gn,0,none⟩) n cn], .int .i64 (k:Int)] w λe w'=>e= .returned (.tuple #[.string (bs (lW s x).1), .bool ((lW s x).2==0)])/\Below w.heap.size w w':=by
 have sl:=aR s;obtain⟨hnn,pk,ck,hcell,_⟩:=h.nodeAt hx;have hkn:k<n:=by rw[hnn];exact(aQ.1 hx).1
 have y4:=hcell 4 _ (by omega) rfl;have y5:=hcell 5 _ (by omega) rfl;obtain⟨kf,hkf⟩:=exQ<|x.kf;obtain⟨kt,hkt⟩:=exQ<|x.kt;rw[hkf] at y4;rw[hkt] at y5;obtain⟨D,hDe⟩:=exQ<|w.heap.size;have b3:=aH w (.cells #[.string (bs s),lv, .slice (some ⟨gn,0,none⟩) n cn] 36);have x3:=heap_alloc_new w (.cells #[.string (bs s),lv, .slice (some ⟨gn,0,none⟩) n cn] 36);obtain⟨w3,hw3⟩:=exQ<|w.alloc (.cells #[.string (bs s),lv, .slice (some ⟨gn,0,none⟩) n cn] 36);rw[hw3] at b3 x3;rw[hDe] at x3;have y4:=bE y4 b3;have y5:=bE y5 b3;have HB3:=hid b3;have HX3:=hid x3;obtain⟨K,hK⟩:=exQ<|lW s x;have hKn:(kf<0\/kt<kf\/(s.length:Int)<kt)->K=([],2):=λh=>by rw[<-hK];exact aAo (by rw[hkf,hkt];exact h)
 have CK:Hid (∀w',Below w.heap.size w w'->Calls Tryz.prog 52 #[.string (bs (eZ s kf kt))] w' λe w2=>e=mT K/\Below w'.heap.size w' w2):=hid (λw' hb=>by
  have hl:(eZ s kf kt).length<=s.length:=by
   unfold eZ;split
   ·exact cN _
   ·unfold eH;rw[cF,aV];omega
  have:=Cb (eZ s kf kt) w' (by omega) (hV.keep hb);rw[<-hK];unfold lW;rw[hkf,hkt];exact this)
 rw[hK];have hcut:=aAp s kf kt;have k1:decide ((k:Int)<0)=false:=aJ (by omega);have k2:decide ((n:Int)<=(k:Int))=false:=aJ (by omega);have k2b:decide (n<=k)=false:=aJ (by omega);have k3:(0:Int)<=(k:Int):=by omega
 have k4:(k:Int)<(n:Int):=by omega
 obtain⟨c0,c1,c2,_⟩:=gQ x3;clear hK b3 x3 h hx hcell hnn hkf hkt hV;go_enter Tryz.func42,Tryz.ntmps42;go_upto_region 3 with fail;clear hw3 hDe;obtain⟨X,hXe⟩:=exQ<|w3.heap.size;have b4:=aH w3 (.cells #[.int .i64 kf, .int .i64 kt] 59);have x4:=heap_alloc_new w3 (.cells #[.int .i64 kf, .int .i64 kt] 59);obtain⟨w4,hw4⟩:=exQ<|w3.alloc (.cells #[.int .i64 kf, .int .i64 kt] 59);rw[hw4] at b4 x4;rw[hXe] at x4;have HB4:=hid (aC HB3.out b4);have z0:=bE c0 b4;have s0:w4.cell? ⟨X,0,none⟩=some (.int .i64 kf):=by simp[World.cell?,x4]
 have s1:w4.cell? ⟨X,1,none⟩=some (.int .i64 kt):=by simp[World.cell?,x4]
 clear b4 x4;by_cases h1:kf<0
 ·have e1:decide (kf<0)=true:=aN h1;have hK:=hKn (.inl h1);subst hK;clear h1 hKn hcut CK;go_wp2_with fail;clear hw4 hXe;go_ret2;exact⟨rfl,by first | exact HB4.out | exact HB4.out.drew⟩
 have e1:decide (kf<0)=false:=aJ h1;by_cases h2:kt<kf
 ·have e2:decide (kt<kf)=true:=aN h2;have hK:=hKn (.inr (.inl h2));subst hK;clear h1 h2 hKn hcut CK;go_wp2_with fail;clear hw4 hXe;go_ret2;exact⟨rfl,by first | exact HB4.out | exact HB4.out.drew⟩
 have e2:decide (kt<kf)=false:=aJ h2;by_cases h3:(s.length:Int)<kt
 ·have e3:decide ((s.length:Int)<kt)=true:=aN h3;have hK:=hKn (.inr (.inr h3));subst hK;clear h1 h2 h3 hKn hcut CK;go_wp2_with fail;clear hw4 hXe;go_ret2;exact⟨rfl,by first | exact HB4.out | exact HB4.out.drew⟩
 have e3:decide ((s.length:Int)<kt)=false:=aJ h3;have hc:=hcut (by omega) (by omega) (by omega);have o1:0<=kf:=by omega
 have o2:kf<=kt:=by omega
 have o3:kt<=(s.length:Int):=by omega
 obtain⟨⟨K1,K2⟩,hKK⟩:=exQ K;subst hKK;unfold mT at CK;simp only[] at CK ⊢;clear h1 h2 h3 hKn hcut;go_wp2_with fail;refine(CK.out _ (by first | exact HB4.out | exact HB4.out.drew)).mono ?_;rintro e w5 ⟨rfl,hb⟩;have HB5:Hid (Below w.heap.size w w5):=hid (by first | exact aC HB4.out hb | exact aC HB4.out.drew hb);clear hb;go_wp2_with fail;clear hw4 hXe;go_ret2;exact⟨rfl,by first | exact HB5.out | exact HB5.out.drew⟩
end
section
open Go.RowKit Go.Maps Go.WideMaps
open Go.Lib hiding intOf
def wX (X:Nat):Value:= .func (.func 81) #[] #[.pointer (some ⟨X,0,none⟩)]
def nI (F:FuncId):Value:= .func (.func F) #[] #[]
def uM (F:FuncId) (q:VT->Bool) (H:VT->Prop) (n:Nat):Prop:= ∀(t:VT) (kv iv:Value) (w:World),VD w n t kv iv->t.bulk<=1073741824->jV w->H t->
 Calls Tryz.prog 44 #[vv t kv iv,nI F] w λe w'=>e= .returned (.bool (dO q t))/\Below w.heap.size w w'
structure Dx (F:FuncId) (q:VT->Bool) (H:VT->Prop):Prop where
 ent: ∀(args:Array Value) (w:World),(callFunc F args).run Tryz.prog w= .ok (.enter F args) w
 call: ∀(n:Nat) (t:VT) (kv iv:Value) (w:World),VD w n t kv iv->t.bulk<=1073741824->jV w->H t->Calls Tryz.prog F #[vv t kv iv] w λe w'=>e= .returned (.bool (q t))/\Below w.heap.size w w'
 sub: ∀t,H t-> ∀x∈t.items,H x
theorem aAr {F:FuncId}{q:VT->Bool}{H:VT->Prop} (n:Nat) (IH:uM F q H n) (t:VT) (kv iv:Value) (X:Nat) (w:World) (h:VD w n t kv iv) (hbk:t.bulk<=1073741824) (hV:jV w) (hH:H t) (hX:w.cell? ⟨X,0,none⟩=some (nI F)):
  Calls Tryz.prog 81 #[vv t kv iv, .pointer (some ⟨X,0,none⟩)] w λe w'=>e= .returned (.bool (!dO q t))/\Below w.heap.size w w':=by
 obtain⟨pk,ck,p,c,rfl,rfl⟩:=h.form;obtain⟨R,hR⟩:=exQ<|dO q t;rw[hR];obtain⟨W1,hW1⟩:=exQ<|w.alloc (.cells #[.int .i64 t.kind, .string (bs t.text), .slice pk t.keys.length ck, .slice p t.items.length c] 26);obtain⟨B,hB⟩:=exQ<|w.heap.size;have HB1:Hid (Below w.heap.size w W1):=hid (by rw[<-hW1];exact aH _ _);have HXB:Hid (cR W1 B t (.slice pk t.keys.length ck) (.slice p t.items.length c)):=hid (by rw[<-hW1,<-hB];exact cR.new w t _ _);have hx1:W1.cell? ⟨X,0,none⟩=some (nI F):=by rw[HB1.out.cell (p:=⟨X,0,none⟩) (rK hX)];exact hX
 have HC:=hid (IH t _ _ W1 (h.keep HB1.out) hbk (hV.keep HB1.out) hH);unfold vv at HC ⊢;unfold nI at HC hx1;rw[hR] at HC;clear h hbk hV hX hR IH hH;go_enter Tryz.func81,Tryz.ntmps81;go_upto_region 1 with fail;clear hW1;obtain⟨b0,b1,b2,b3⟩:=HXB.out.cells;go_wp2_with fail;refine HC.out.mono ?_;rintro e w2 ⟨rfl,hb2⟩;have HB2:=hid (aC HB1.out hb2);clear hb2 b0 b1 b2 b3 hx1;go_wp2_with fail;go_ret;exact⟨rfl,by first | exact HB2.out | (rw[<-hB];exact HB2.out)⟩
def tC (q:VT->Bool) (l:List VT):Int:=if l.all (dO q) then -1 else((l.findIdx (λx=>!dO q x):Nat):Int)
theorem aAs {q:VT->Bool}{l:List VT}{i:Nat}{x:VT} (hx:l[i]?=some x) (hq:dO q x=false) (hn: ∀(j:Nat) (y:VT),j<i->l[j]?=some y->dO q y=true):tC q l=(i:Int):=by
 obtain⟨hi,he⟩:=aQ.1 hx;have hf:l.findIdx (λx=>!dO q x)=i:=by
  rw[List.findIdx_eq hi];refine⟨by rw[he,hq];rfl,λj hj=>?_⟩;rw[hn j _ hj (bJ (by omega))];rfl
 unfold tC;rw[if_neg,hf];intro h;have:=fG.1 h x (aX hx);rw[hq] at this;cases this
theorem aAt {q:VT->Bool}{l:List VT} (hn: ∀(j:Nat) (y:VT),l[j]?=some y->dO q y=true):tC q l= -1:=by
 unfold tC;rw[if_pos];rw[fG];intro x hx;obtain⟨j,hj⟩:=List.getElem?_of_mem hx;exact hn j x hj
theorem aAu {F:FuncId}{q:VT->Bool}{H:VT->Prop} (n:Nat) (IH:uM F q H n) (X:Nat) (p:Option Addr) (c:Nat) (l:List VT) (w:World) (hit:tO w n p l) (hbk:eK l<=1073741824) (hV:jV w) (hH: ∀x∈l,H x) (hX:w.cell? ⟨X,0,none⟩=some (nI F)):
  Calls Tryz.prog 115 #[.slice p l.length c,wX X] w λe w'=>e= .returned (.int .i64 (tC q l))/\Below w.heap.size w w':=by
 have HIT:=hid hit;have HV:=hid hV;have HX:=hid hX;have HHid:=hid hH;have hlen:=aW (rR l) hbk;obtain⟨R,hR⟩:=exQ<|tC q l;rw[hR];have HR:=hid hR;clear hit hV hX hR hH;unfold wX;go_enter Tryz.func115,Tryz.ntmps115;go_wp2_with fail;go_loopw [8] (λs8 wr=> ∃i:Nat,s8= .int .i64 i/\i<=l.length/\Hid (∀j y,j<i->l[j]?=some y->dO q y=true)/\Hid (Below w.heap.size w wr)) (λs8 _=>l.length-(RowKit.intOf s8).toNat)
 case atStart=>exact⟨0,rfl,by omega,hid (λj y hj=>by omega),hid (aB _ _)⟩
 case round=>
  obtain⟨i,rfl,hi,HN,HB⟩:=hrel;by_cases hlt:i<l.length
  ·have hiz:(i:Int)<(l.length:Int):=(by omega);obtain⟨x,hx⟩: ∃x,l[i]?=some x:=⟨_,bJ hlt⟩;obtain⟨g,o,kv',iv',rfl,hg,n0,n1,n2,n3,hvd⟩:=HIT.out.keep HB.out i x hx;obtain⟨pk2,ck2,px,cx,rfl,rfl⟩:=hvd.form;have hx2:wr.cell? ⟨X,0,none⟩=some (nI F):=by rw[HB.out.cell (p:=⟨X,0,none⟩) (rK HX.out)];exact HX.out
   have C:=aAr n IH x _ _ X wr hvd (aW (tN (aX hx)) hbk) (HV.out.keep HB.out) (HHid.out x (aX hx)) hx2;obtain⟨b,hb⟩:=exQ<|dO q x;rw[hb] at C;unfold vv at C;have HC:=hid C;clear C hx2 hvd;cases b with
   | false=>
    have HF:=hid (HR.out.symm.trans (aAs hx hb HN.out));clear hx hb;go_wp2_with fail;refine HC.out.mono ?_;rintro e w1 ⟨rfl,hb1⟩;have HB1:=hid (aC HB.out hb1);clear hb1;go_wp2_with fail;go_ret;exact⟨by rw[HF.out]<;>rfl,HB1.out⟩
   | true=>
    have HN2:Hid (∀j y,j<i+1->l[j]?=some y->dO q y=true):=hid (λj y hj hy=>by
     by_cases hji:j<i
     ·exact HN.out j y hji hy
     ·obtain rfl:j=i:=(by omega);rw[hx] at hy;obtain rfl:=bD hy;exact hb)
    clear hx hb;go_wp2_with fail;refine HC.out.mono ?_;rintro e w1 ⟨rfl,hb1⟩;have HB1:=hid (aC HB.out hb1);clear hb1;go_wp2_with fail;go_roundw
    case rel=>exact⟨i+1,by go_num,by omega,HN2,HB1⟩
    case measure=>simp[RowKit.intOf];omega
  ·have hiz: ¬(i:Int)<(l.length:Int):=(by omega);have HF:=hid (HR.out.symm.trans (aAt (λj y hy=>HN.out j y (by have:=(aQ.1 hy).1;omega) hy)));go_wp2_with fail;go_ret;exact⟨by rw[HF.out]<;>rfl,HB.out⟩
theorem aAv {F:FuncId}{q:VT->Bool}{H:VT->Prop} (n:Nat) (IH:uM F q H n) (X:Nat) (p:Option Addr) (c:Nat) (l:List VT) (w:World) (hit:tO w n p l) (hbk:eK l<=1073741824) (hV:jV w) (hH: ∀x∈l,H x) (hX:w.cell? ⟨X,0,none⟩=some (nI F)):
  Calls Tryz.prog 80 #[.slice p l.length c,wX X] w λe w'=>e= .returned (.bool (!pQ q l))/\Below w.heap.size w w':=by
 have C:=aAu n IH X p c l w hit hbk hV hH hX;have hlen:=aW (rR l) hbk;rw[Gn];unfold tC at C;obtain⟨b,hb⟩:=exQ<|l.all (dO q);obtain⟨F,hF⟩:=exQ<|l.findIdx (λx=>!dO q x);rw[hb,hF] at C;rw[hb];have HC:=hid C;clear C hb hF hit hV hX hH;unfold wX at HC ⊢;cases b with
 | true=>
  go_enter Tryz.func80,Tryz.ntmps80;go_wp2_with fail;refine HC.out.mono ?_;rintro e w1 ⟨rfl,hb1⟩;have HB1:=hid hb1;clear hb1;go_wp2_with fail;go_ret;exact⟨rfl,HB1.out⟩
 | false=>
  have hF0:decide ((0:Int)<=(F:Int))=true:=aN (by omega);go_enter Tryz.func80,Tryz.ntmps80;go_wp2_with fail;refine HC.out.mono ?_;rintro e w1 ⟨rfl,hb1⟩;have HB1:=hid hb1;clear hb1;go_wp2_with fail;go_ret;exact⟨rfl,HB1.out⟩
theorem aAw {F:FuncId}{q:VT->Bool}{H:VT->Prop} (hF:Dx F q H) (m:Nat) (IH:uM F q H m):uM F q H (m+1):=by
 intro t kv iv w h hbk hV hH;have HS:=hid (hF.sub t hH);have hent:=hF.ent;have hmf: ∀(fn:Fn) (first cap:Array Value) (w:World),(Instr.makeFunc fn first cap).run Tryz.prog w= .ok (.func fn first cap) w:=λ_ _ _ _=>rfl;obtain⟨m',hm,⟨pk,ck,rfl,hck,hlies⟩,p,c,rfl,hlc,hit⟩:=h.parts;obtain rfl:m=m':=by omega
 obtain⟨R,hR⟩:=exQ<|dO q t;rw[hR];have hR2:(q t&&pQ q t.items)=R:=by rw[<-hR];cases t;rw[dO];rfl
 have hbl:eK t.items<=1073741824:=by cases t;rw[VT.bulk] at hbk;simp only[VT.items];omega
 obtain⟨B,hB⟩:=exQ<|w.heap.size;obtain⟨W1,hW1⟩:=exQ<|(w.alloc (.cells #[.int .i64 t.kind, .string (bs t.text), .slice pk t.keys.length ck, .slice p t.items.length c] 26)).alloc (.cells #[.func (.func F) #[] #[]] 64);have b1:=aH w (.cells #[.int .i64 t.kind, .string (bs t.text), .slice pk t.keys.length ck, .slice p t.items.length c] 26);have b2:=aH (w.alloc (.cells #[.int .i64 t.kind, .string (bs t.text), .slice pk t.keys.length ck, .slice p t.items.length c] 26)) (.cells #[.func (.func F) #[] #[]] 64);have HB1:Hid (Below w.heap.size w W1):=hid (by rw[<-hW1];exact aC b1 b2);have HXB:Hid (cR W1 B t (.slice pk t.keys.length ck) (.slice p t.items.length c)):=hid (by rw[<-hW1,<-hB];exact(cR.new w t _ _).keep b2);have hh:W1.heap[B+1]?=some (.cells #[.func (.func F) #[] #[]] 64 (0,0)):=by
  rw[<-hW1,<-hB];have hh:=heap_alloc_new (w.alloc (.cells #[.int .i64 t.kind, .string (bs t.text), .slice pk t.keys.length ck, .slice p t.items.length c] 26)) (.cells #[.func (.func F) #[] #[]] 64);simp only[kK] at hh;exact hh
 have HXF:Hid (W1.cell? ⟨B+1,0,none⟩=some (.func (.func F) #[] #[])/\B+1<W1.heap.size):=hid ⟨by simp[World.cell?,hh],aF hh⟩;clear hh;have HIT:=hid (hit.keep HB1.out);have HV:=hid (hV.keep HB1.out);have HC1:=hid (hF.call _ t _ _ W1 (h.keep HB1.out) hbk HV.out hH);unfold vv at HC1 ⊢;unfold nI;obtain⟨y,hy⟩:=exQ<|q t;rw[hy] at HC1 hR2;have HR:=hid hR2;clear b1 b2 hit hlies hV h hR hR2 hy hH;go_enter Tryz.func44,Tryz.ntmps44;go_upto_region 1 with fail;clear hW1;obtain⟨b0,b1,b2,b3⟩:=HXB.out.cells;obtain⟨x0,_⟩:=HXF.out;go_wp2_with fail;refine HC1.out.mono ?_;rintro e w2 ⟨rfl,hb2⟩;have HB2:=hid hb2;have hx2:w2.cell? ⟨B+1,0,none⟩=some (nI F):=by unfold nI;rw[hb2.cell (p:=⟨B+1,0,none⟩) HXF.out.2];exact HXF.out.1
 clear hb2 b0 b1 b2 b3 x0;obtain⟨b0,b1,b2,b3⟩:=(HXB.out.keep HB2.out).cells;cases y with
 | false=>
  go_wp2_with fail;go_ret;exact⟨by rw[<-HR.out];rfl,by first | exact aC HB1.out HB2.out | (rw[<-hB];exact aC HB1.out HB2.out)⟩
 | true=>
  have HC2:=hid (aAv m IH (B+1) p c t.items w2 (HIT.out.keep HB2.out) hbl (HV.out.keep HB2.out) HS.out hx2);obtain⟨z,hz⟩:=exQ<|pQ q t.items;have hr:=HR.out;rw[hz] at HC2 hr;unfold wX at HC2;rw[Bool.true_and] at hr;subst hr;clear hz HR hx2;go_wp2_with fail;refine HC2.out.mono ?_;rintro e w3 ⟨rfl,hb3⟩;have HB3:=hid (aC HB2.out hb3);clear hb3 b0 b1 b2 b3;cases z
  all_goals
   go_wp2_with fail;go_ret;exact⟨rfl,by first | exact aC HB1.out HB3.out | (rw[<-hB];exact aC HB1.out HB3.out)⟩
theorem Mx {F:FuncId}{q:VT->Bool}{H:VT->Prop} (hF:Dx F q H): ∀n,uM F q H n
 | 0=>λt kv iv w h=>h.elim
 | n+1=>aAw hF n (Mx hF n)
def mM (t:VT):Prop:=dO (λt=>decide (t.kind≠7)) t=true
theorem mM.kind {t:VT} (h:mM t):t.kind≠7:=by
 cases t with
 | mk k s ks l=>
  unfold mM at h;rw[dO,fB] at h;simpa using h.1
theorem mM.sub {t:VT} (h:mM t): ∀x∈t.items,mM x:=by
 cases t with
 | mk k s ks l=>
  unfold mM at h;rw[dO,fB,Gn,fG] at h;exact h.2
theorem aAx {P:Program}{f:FuncId}{fn:Func} (hf:P.funcs[f]?=some fn) (h1: ¬fn.name= "runtime.NumGoroutine") (h2:fn.body.isNone=false) (args:Array Value) (w:World):(callFunc f args).run P w= .ok (.enter f args) w:=wS hf h1 h2 args w
theorem aAy:Dx 45 oJ mM where
 ent:=aAx Tryz.func45 (of_decide_eq_false (by kernel_rfl)) (by kernel_rfl)
 call:=λn t kv iv w h hbk hV hH=>by
  obtain⟨m',hm,⟨pk,ck,rfl,hck,hlies⟩,p,c,rfl,hlc,hit⟩:=h.parts;exact Vi t _ p c w ⟨pk,ck,rfl,hck,hlies⟩ hbk hH.kind hV
 sub:=λt h=>h.sub
def qM (t:VT):Bool:=(decide (t.size<=4096)&&decide (t.depth<=32))&&dO oJ t
theorem My (n:Nat) (t:VT) (kv iv:Value) (w:World) (h:VD w n t kv iv) (hbk:t.bulk<=1073741824) (hV:jV w) (hH:mM t):
  Calls Tryz.prog 21 #[vv t kv iv] w λe w'=>e= .returned (.bool (qM t))/\Below w.heap.size w w':=by
 obtain⟨pk,ck,p,c,rfl,rfl⟩:=h.form;obtain⟨R,hR⟩:=exQ<|qM t;rw[hR];unfold qM at hR;obtain⟨B,hB⟩:=exQ<|w.heap.size;obtain⟨W1,hW1⟩:=exQ<|w.alloc (.cells #[.int .i64 t.kind, .string (bs t.text), .slice pk t.keys.length ck, .slice p t.items.length c] 26);have HB1:Hid (Below w.heap.size w W1):=hid (by rw[<-hW1];exact aH _ _);have HXB:Hid (cR W1 B t (.slice pk t.keys.length ck) (.slice p t.items.length c)):=hid (by rw[<-hW1,<-hB];exact cR.new w t _ _);have HVd:=hid (h.keep HB1.out);have HV:=hid (hV.keep HB1.out);have HC1:=hid (Vj n t _ _ W1 HVd.out hbk);unfold vv at HC1 ⊢;obtain⟨y,hy⟩:=exQ (decide (t.size<=4096)&&decide (t.depth<=32));rw[hy] at HC1 hR;have HR:=hid hR;have HH:=hid hH;clear h hV hR hy hH;go_enter Tryz.func21,Tryz.ntmps21;go_upto_region 1 with fail;clear hW1;obtain⟨b0,b1,b2,b3⟩:=HXB.out.cells;go_wp2_with fail;refine HC1.out.mono ?_;rintro e w2 ⟨rfl,hb2⟩;have HB2:=hid hb2;clear hb2 b0 b1 b2 b3;obtain⟨b0,b1,b2,b3⟩:=(HXB.out.keep HB2.out).cells;cases y with
 | false=>
  go_wp2_with fail;go_ret;exact⟨by rw[<-HR.out];rfl,by first | exact aC HB1.out HB2.out | (rw[<-hB];exact aC HB1.out HB2.out)⟩
 | true=>
  have HC2:=hid (Mx aAy n t _ _ w2 (HVd.out.keep HB2.out) hbk (HV.out.keep HB2.out) HH.out);unfold vv nI at HC2;have hr:=HR.out;rw[Bool.true_and] at hr;rw[hr] at HC2;clear hr HR;go_wp2_with fail;refine HC2.out.mono ?_;rintro e w3 ⟨rfl,hb3⟩;have HB3:=hid (aC HB2.out hb3);clear hb3 b0 b1 b2 b3;go_wp2_with fail;go_ret;exact⟨rfl,by first | exact aC HB1.out HB3.out | (rw[<-hB];exact aC HB1.out HB3.out)⟩
end
section
open Go.RowKit
open Go.Lib hiding intOf
def nJ (p:List aA):Bool:=decide (p.length<=64)&&p.all validD
def fI {α:Type} (q:α->Bool) (l:List α):Int:=if l.any q=true then((l.findIdx q:Nat):Int) else -1
theorem aAz {α:Type}{q:α->Bool}{l:List α}{i:Nat}{x:α} (hx:l[i]?=some x) (hq:q x=true) (hn: ∀j y,j<i->l[j]?=some y->q y=false):fI q l=i:=by
 obtain⟨hi,rfl⟩:=aQ.1 hx;unfold fI;rw[if_pos (List.any_eq_true.2 ⟨_,List.getElem_mem hi,hq⟩)];congr 1;rw[List.findIdx_eq hi];exact⟨hq,λj hj=>hn j _ hj (bJ (by omega))⟩
theorem aAA {α:Type}{q:α->Bool}{l:List α} (hn: ∀j y,j<l.length->l[j]?=some y->q y=false):fI q l= -1:=by
 unfold fI;rw[if_neg];intro h;obtain⟨x,hx,hq⟩:=List.any_eq_true.1 h;obtain⟨j,hj,rfl⟩:=List.getElem_of_mem hx;have:=hn j _ hj (bJ hj);rw[this] at hq;cases hq
theorem aAB {α:Type} (q:α->Bool) (l:List α):(fI q l≥0↔l.any q=true)/\(fI q l<0↔l.any q=false)/\ -1<=fI q l:=by
 unfold fI;cases l.any q with
 | true=>simp
 | false=>simp
theorem aAC (s:ByteArray):(jN s).2=validD s.data.toList:=by
 rw[zL];unfold jN;cases tH s<;>rfl
theorem aAD (l:aA) (hs:l.length<=1073741824):
  ∃N,∀w,cC w->Calls Tryz.prog 75 #[.string (bs l)] w λe w'=>e= .returned (.tuple #[.int .i64 N, .bool (validD l)])/\Below w.heap.size w w':=
 ⟨(jN (bs l)).1,λw hT=>by have C:=Bt (bs l) w (by rw[aR];omega) hT;rw[aAC,aU] at C;exact C⟩
theorem aAE (l:aA) (w:World) (hs:l.length<=1073741824) (hT:cC w):
  Calls Tryz.prog 40 #[.string (bs l)] w λe w'=>e= .returned (.bool (validD l))/\Below w.heap.size w w':=by
 obtain⟨N,C⟩:=aAD l hs;obtain⟨b,hb⟩:=exQ<|validD l;rw[hb] at C ⊢;have HC:=hid (C w hT);clear C hb hT;go_enter Tryz.func40,Tryz.ntmps40;go_wp2_with fail;refine HC.out.mono ?_;rintro e w1 ⟨rfl,hb1⟩;go_wp2_with fail;go_ret;exact⟨rfl,hb1⟩
theorem aAF (l:aA) (w:World) (hs:l.length<=1073741824) (hT:cC w):
  Calls Tryz.prog 39 #[.string (bs l)] w λe w'=>e= .returned (.bool (!validD l))/\Below w.heap.size w w':=by
 have C:=aAE l w hs hT;obtain⟨b,hb⟩:=exQ<|validD l;rw[hb] at C ⊢;have HC:=hid C;clear C hb hT;go_enter Tryz.func39,Tryz.ntmps39;go_wp2_with fail;refine HC.out.mono ?_;rintro e w1 ⟨rfl,hb1⟩;go_wp2_with fail;go_ret;exact⟨rfl,hb1⟩
theorem aAG (v:Value) (l:List aA) (w:World) (hv:SV w v l) (hl:l.length<=1073741824) (hs: ∀x∈l,x.length<=1073741824) (hT:cC w):
  Calls Tryz.prog 74 #[v, .func (.func 39) #[] #[]] w λe w'=>e= .returned (.int .i64 (fI (λx=>!validD x) l))/\Below w.heap.size w w':=by
 obtain⟨p,c,rfl,hc,hp⟩:=hv;have HP:=hid hp;have HT:=hid hT;have HS:=hid hs;clear hp hT hs;obtain⟨R,hR⟩:=exQ<|fI (λx=>!validD x) l;rw[hR];have HR:=hid hR;clear hR;go_enter Tryz.func74,Tryz.ntmps74;go_wp2_with fail;go_loopw [8] (λs8 wr=> ∃i:Nat,s8= .int .i64 i/\i<=l.length/\Hid (∀j y,j<i->l[j]?=some y->(!validD y)=false)/\Hid (Below w.heap.size w wr)) (λs8 _=>l.length-(RowKit.intOf s8).toNat)
 case atStart=>exact⟨0,rfl,by omega,hid (λj y hj=>by omega),hid (aB _ _)⟩
 case round=>
  obtain⟨i,rfl,hi,HN,HB⟩:=hrel;by_cases hlt:i<l.length
  ·have hiz:(i:Int)<(l.length:Int):=(by omega);obtain⟨x,hx⟩: ∃x,l[i]?=some x:=⟨_,bJ hlt⟩;obtain⟨gx,ox,rfl,cx⟩:=(HP.out.keep HB.out).at_ hx;obtain⟨b,hb⟩:=exQ (!validD x);have C:=aAF x _ (HS.out x (aX hx)) (HT.out.keep HB.out);rw[hb] at C;have HC:=hid C;clear C;cases b with
   | true=>
    have HF:=hid (HR.out.symm.trans (aAz (q:=λx=>!validD x) hx hb HN.out));clear hx hb;go_wp2_with fail;refine HC.out.mono ?_;rintro e w1 ⟨rfl,hb1⟩;have HB1:=hid (aC HB.out hb1);clear hb1;go_wp2_with fail;go_ret;exact⟨by rw[HF.out]<;>rfl,HB1.out⟩
   | false=>
    have HN2:Hid (∀j y,j<i+1->l[j]?=some y->(!validD y)=false):=hid (λj y hj hy=>by
     by_cases hji:j<i
     ·exact HN.out j y hji hy
     ·obtain rfl:j=i:=(by omega);rw[hx] at hy;obtain rfl:=bD hy;exact hb)
    clear hx hb;go_wp2_with fail;refine HC.out.mono ?_;rintro e w1 ⟨rfl,hb1⟩;have HB1:=hid (aC HB.out hb1);clear hb1;go_wp2_with fail;go_roundw
    case rel=>exact⟨i+1,by go_num,by omega,HN2,HB1⟩
    case measure=>simp[RowKit.intOf];omega
  ·have hiz: ¬(i:Int)<(l.length:Int):=(by omega);have HF:=hid (HR.out.symm.trans (aAA (q:=λx=>!validD x) (λj y hj hy=>HN.out j y (by omega) hy)));go_wp2_with fail;go_ret;exact⟨by rw[HF.out]<;>rfl,HB.out⟩
theorem aAH (l:List aA):nJ l=(decide (l.length<=64)&&!(l.any λx=>!validD x)):=by
 unfold nJ;rw[List.all_eq_not_any_not]
theorem aAI (v:Value) (l:List aA) (w:World) (hv:SV w v l) (hl:l.length<=1073741824) (hs: ∀x∈l,x.length<=1073741824) (hT:cC w):
  Calls Tryz.prog 38 #[v, .func (.func 39) #[] #[]] w λe w'=>e= .returned (.bool (l.any λx=>!validD x))/\Below w.heap.size w w':=by
 have C:=aAG v l w hv hl hs hT;have hg:=aAB (λx=>!validD x) l;obtain⟨k,hk⟩:=exQ<|fI (λx=>!validD x) l;obtain⟨b,hb⟩:=exQ (l.any λx=>!validD x);rw[hk,hb] at hg;rw[hk] at C;rw[hb];have HC:=hid C;have d1:decide (k≥0)=b:=by
  cases b with
  | true=>exact aN (hg.1.2 rfl)
  | false=>exact aJ (by have:=hg.2.1.2 rfl;omega)
 have d2:decide (0<=k)=b:=d1;clear C hk hb hg hv hs hT;go_enter Tryz.func38,Tryz.ntmps38;go_wp2_with fail;refine HC.out.mono ?_;rintro e w1 ⟨rfl,hb1⟩;go_wp2_with fail;go_ret;exact⟨by first | exact xA d1 | rfl,hb1⟩
theorem Mz (v:Value) (l:List aA) (w:World) (hv:SV w v l) (hl:l.length<=1073741824) (hs: ∀x∈l,x.length<=1073741824) (hT:cC w):
  Calls Tryz.prog 19 #[v] w λe w'=>e= .returned (.bool (nJ l))/\Below w.heap.size w w':=by
 have C:=aAI v l w hv hl hs hT;have hr:=aAH l;obtain⟨b,hb⟩:=exQ (l.any λx=>!validD x);rw[hb] at hr C;rw[hr];have HC:=hid C;obtain⟨p,c,rfl,hc,hp⟩:=hv;clear C hr hb hs hT hp;by_cases h64:l.length<=64
 ·have d1:decide ((l.length:Int)<=64)=true:=aN (by omega);have d2:decide (l.length<=64)=true:=aN h64;clear h64;go_enter Tryz.func19,Tryz.ntmps19;go_wp2_with fail;refine HC.out.mono ?_;rintro e w1 ⟨rfl,hb1⟩;go_wp2_with fail;go_ret;exact⟨by rw[d2];first | rfl | simp,hb1⟩
 ·have d1:decide ((l.length:Int)<=64)=false:=aJ (by omega);have d2:decide (l.length<=64)=false:=aJ h64;clear h64 HC;go_enter Tryz.func19,Tryz.ntmps19;go_wp2_with fail;go_ret;exact⟨by rw[d2];first | rfl | simp,aB _ _⟩
def iS (s:aA):Int×Bool:=
 if s≠ []/\s.length<=9/\(s= [48]\/s.head?≠some 48) then(match Lib.atoi s with | some n=>if Lib.containsAny s [43,45,95] then(0,false) else(n,true) | none=>(0,false)) else(0,false)
def Dy (s:aA) (w:World):Prop:= ∀w',Below w.heap.size w w'->Calls Tryz.prog 76 #[.string (bs s), .string ⟨#[43,45,95]⟩] w' λe w2=>(∃b:Bool,e= .returned (.bool b)/\((Lib.atoi s).isSome=true->b=Lib.containsAny s [43,45,95]))/\Below w'.heap.size w' w2
theorem aAJ (s:aA) (w:World) (hs:s.length<=9) (hS:cO w):Calls Tryz.prog 77 #[.string (bs s)] w λe w'=>((∃n:Int,Lib.atoi s=some n/\e= .returned (.tuple #[.int .i64 n, .nilIface]))\/(Lib.atoi s=none/\ ∃a b,e= .returned (.tuple #[.int .i64 0, .iface a b])))/\Below w.heap.size w w':=by
 have sl:=aR s;cases h:Lib.atoi s with
 | some n=>
  refine(Tryz.strconv_Atoi (bs s) n (by omega) (by rw[aU];exact h) w).mono λe w' hh=>⟨.inl ⟨n,rfl,hh.1⟩,?_⟩;obtain⟨t,ht⟩:=hh.2;rw[ht];exact Lib.bytesWorld_below _ _ _
 | none=>
  obtain⟨tp,p,hv⟩:=hS;refine(Tryz.strconv_Atoi_err_var (bs s) (by omega) (by rw[aU];exact h) tp p w hv).mono λe w' hh=>?_;obtain⟨N,h1,_,_,h2⟩:=hh;exact⟨.inr ⟨rfl,_,_,h1⟩,h2⟩
theorem aAK (s:aA) (w:World) (hS:cO w) (CA:s≠ []->s.length<=9->Dy s w):
    Calls Tryz.prog 41 #[.string (bs s)] w λe w'=>e= .returned (.tuple #[.int .i64 (iS s).1, .bool (iS s).2])/\Below w.heap.size w w':=by
  have sl:=aR s;obtain⟨R,hR⟩:=exQ<|iS s;rw[hR];unfold iS at hR;have e0:=mU s;have e0b:=mI s;cases s with
  | nil=>
    rw[if_neg (by simp)] at hR;subst hR;go_enter Tryz.func41,Tryz.ntmps41;go_wp2_with fail;go_ret2;exact⟨rfl,by first | exact aB _ _ | exact(aB _ _).drew⟩
  | cons c r=>
    have hne:c::r≠ []:=List.cons_ne_nil _ _;have hpos:0<(c::r).length:=(by simp);have e48:((bs (c::r)).toList== [48])=decide (c::r= [48]):=by
      rw[Lib.toList_data,aU];by_cases h:c::r= [48]
      · rw[aN h,h];rfl
      · rw[aJ h];simpa using h
    have c48:((c.toNat:Int)==48)=decide (c=48):=by
      by_cases h:c=48
      · rw[aN h,h];rfl
      · rw[aJ h];exact aG.2 (λe=>h (UInt8.toNat_inj.1 (by have:c.toNat=48:=(by omega);rw[this];rfl)))
    have hcond:(c::r≠ []/\(c::r).length<=9/\(c::r= [48]\/(c::r).head?≠some 48))↔((c::r).length<=9/\(c::r= [48]\/c≠48)):=(by simp);have hCA:=CA hne;obtain⟨t,ht⟩:=exQ<|c::r;have hpt:0<t.length:=by rw[<-ht];simp
    have hc0:(bs t)[0]'(by rw[aR];exact hpt)=c:=by subst ht;rfl
    rw[ht] at hcond hR hCA hne hpos e48 sl e0 e0b;have e0:((bs t).toList== [])=false:=by rw[mU];cases t<;>simp at hne ⊢
    have e0b:(bs t).toList.isEmpty=false:=by rw[mI];cases t<;>simp at hne ⊢
    rw[ht];have e0c:t.isEmpty=false:=(by cases t<;>simp at hne ⊢);clear ht CA;by_cases h9:9<t.length
    · have d9:decide ((9:Int)<(t.length:Int))=true:=aN (by omega);rw[if_neg (by rw[hcond];omega)] at hR;subst hR;go_enter Tryz.func41,Tryz.ntmps41;go_wp2_with fail;go_ret2;exact⟨rfl,by first | exact aB _ _ | exact(aB _ _).drew⟩
    have d9:decide ((9:Int)<(t.length:Int))=false:=aJ (by omega);have HCA:=hid (hCA (by omega));clear hCA;have hS2:=hS;have hgo : ∀ (b:Bool),decide (t= [48])=b->(b=true\/c≠48)->Calls Tryz.prog 41 #[.string (bs t)] w λe w'=>e= .returned (.tuple #[.int .i64 R.1, .bool R.2])/\Below w.heap.size w w':=by
      intro b hb hbc;rw[hb] at e48;have h48:t= [48]\/c≠48:=by
        rcases hbc with e | e
        · left;rw[e] at hb;exact of_decide_eq_true hb
        · exact .inr e
      rw[if_pos (by rw[hcond];exact⟨by omega,h48⟩)] at hR;have HR:=hid hR;have q48:(!b&&decide (c=48))=false:=by
        rcases hbc with e | e
        · rw[e];rfl
        · rw[aJ e,Bool.and_false]
      obtain⟨dc,hdc⟩:=exQ<|decide (c=48);rw[hdc] at c48 q48;have h9':t.length<=9:=(by omega);clear hR hbc hb h48 hcond hdc h9;go_enter Tryz.func41,Tryz.ntmps41;cases b
      all_goals
        cases dc
        all_goals
          first
          | (exfalso;simp at q48;done)
          | (go_wp2_with fail
             refine(HCA.out _ (by first | exact aB _ _ | exact(aB _ _).drew)).mono ?_;rintro e w2 ⟨⟨y,rfl,hy⟩,hb2⟩;have HB2:Hid (Below w.heap.size w w2):=hid (by first | exact hb2 | exact aC (aB _ _).drew hb2);have HY:=hid hy;clear hb2 hy;have HRt:Hid (y=true->R=(0,false)):=hid (λe=>by
               rw[<-HR.out];cases ha:Lib.atoi t with
               | none=>rfl
               | some n=>
                 simp only[];rw[<-HY.out (by rw[ha];rfl),e];rfl)
             cases y with
             | true=>
               have hR:=HRt.out rfl;subst hR;go_wp2_with fail;go_ret2;exact⟨rfl,by first | exact HB2.out | exact HB2.out.drew⟩
             | false=>
               have HT:=hid (aAJ t w2 h9' (hS2.keep HB2.out));have HRs:Hid (∀n,Lib.atoi t=some n->R=(n,true)):=hid (λn hn=>by rw[<-HR.out,hn];simp only[];rw[<-HY.out (by rw[hn];rfl)];rfl);have HRn:Hid (Lib.atoi t=none->R=(0,false)):=hid (λhn=>by rw[<-HR.out,hn]);go_wp2_with fail;refine HT.out.mono ?_;rintro e w3 ⟨h3,hb3⟩;have HB3:Hid (Below w.heap.size w w3):=hid (by first | exact aC HB2.out hb3 | exact aC HB2.out.drew hb3);clear hb3;rcases h3 with⟨n,hn,rfl⟩ | ⟨hn,a,b,rfl⟩
               · have hR:=HRs.out n hn;subst hR;clear hn;go_wp2_with fail;go_ret2;exact⟨rfl,by first | exact HB3.out | exact HB3.out.drew⟩
               · have hR:=HRn.out hn;subst hR;clear hn;go_wp2_with fail;go_ret2;exact⟨rfl,by first | exact HB3.out | exact HB3.out.drew⟩)
    by_cases h48:t= [48]
    · exact hgo true (aN h48) (.inl rfl)
    · by_cases hc:c=48
      · have d48:decide (t= [48])=false:=aJ h48;rw[d48] at e48;have q48:=c48;rw[aN hc] at q48;rw[if_neg (by rw[hcond];rintro⟨_,e | e⟩;exact h48 e;exact e hc)] at hR;subst hR;clear hgo c48;go_enter Tryz.func41,Tryz.ntmps41;go_wp2_with fail;go_ret2;exact⟨rfl,by first | exact aB _ _ | exact(aB _ _).drew⟩
      · exact hgo false (aJ h48) (.inr hc)
theorem Na (w:World):(zeroValue 168).run Tryz.prog w= .ok (.agg (Array.replicate 256 (.bool false))) w:=by
 kernel_rfl
theorem Nb: ∀(l:aA) (a n:Nat),Lib.decFrom a l=some n-> ∀b∈l,b.toNat<128
 | [],_,_,_,b,hb=>by cases hb
 | c::r,a,n,h,b,hb=>by
  unfold Lib.decFrom at h;cases hd:Lib.digitVal c with
  | none=>rw[hd] at h;cases h
  | some d=>
   rw[hd] at h;rcases dN.1 hb with e | e
   ·rw[e];unfold Lib.digitVal at hd;split at hd
    ·omega
    ·cases hd
   ·exact Nb r _ n h b e
theorem aAL {s:aA} (h:(Lib.atoi s).isSome=true): ∀b∈s,b.toNat<128:=by
 have hn: ∀l:aA,(Lib.decNat l).isSome=true-> ∀b∈l,b.toNat<128:=λl hl=>by
  unfold Lib.decNat at hl;split at hl
  ·cases hl
  ·cases hd:Lib.decFrom 0 l with
   | none=>rw[hd] at hl;cases hl
   | some n=>exact Nb l 0 n hd
 cases s with
 | nil=>intro b hb;cases hb
 | cons c r=>
  unfold Lib.atoi at h;simp only[] at h;split at h
  ·rename_i hc;rw[Option.isSome_map] at h;intro b hb;rcases dN.1 hb with e | e
   ·rw[e];have:c=45:=(by simpa using hc);rw[this];decide
   ·exact hn r h b e
  ·split at h
   ·rename_i hc;rw[Option.isSome_map] at h;intro b hb;rcases dN.1 hb with e | e
    ·rw[e];have:c=43:=(by simpa using hc);rw[this];decide
    ·exact hn r h b e
   ·rw[Option.isSome_map] at h;exact hn _ h
theorem aAM (s:aA) (w:World) (h8:s.length<=8):Dy s w:=by
 intro w' hb;by_cases ha: ∀b∈s,b.toNat<128
 ·have C:=Tryz.strings_ContainsAny Na (bs s) ⟨#[43,45,95]⟩ w' (by rw[aR];omega) (by decide) (λj b hj=>by rw[aU] at hj;exact ha b (aX hj)) (λj b hj=>by have:b∈([43,45,95]:aA):=aX hj;simp at this;rcases this with e | e | e<;>rw[e]<;>decide);rw[aU] at C;exact C.mono λe w2 h=>⟨⟨_,h.1,λ_=>rfl⟩,h.2⟩
 ·refine(Et (bs s) w' (by rw[aR];exact h8)).mono λe w2 h=>⟨?_,h.2⟩;obtain⟨B,hB,_⟩:=h.1;exact⟨B,hB,λhs=>absurd (aAL hs) ha⟩
theorem aAN (s:aA) (w:World) (h8:8<s.length) (hs:s.length<=1073741824):Dy s w:=by
 intro w' hb;have sl:=aR s;have C:=Any.strings_IndexAny_long Tryz.lays153 Na (by kernel_rfl) (bs s) ⟨#[43,45,95]⟩ w' (by decide) (by omega) (by omega) (by decide) (λj b hj=>by have:b∈([43,45,95]:aA):=aX hj;simp at this;rcases this with e | e | e<;>rw[e]<;>decide);rw[aU] at C;have hca:Lib.containsAny s [43,45,95]=decide (0<=Lib.indexAny s [43,45,95]):=rfl;rw[hca];have C2:Hid (Calls Tryz.prog 112 #[.string (bs s), .string ⟨#[43,45,95]⟩] w' λe w2=>e= .returned (.int .i64 (Lib.indexAny s [43,45,95]))/\Below w'.heap.size w' w2):=hid (C.mono λe w2 h=>⟨h.1,by rw[h.2];exact((aB _ _).alloc (aE _) _).alloc (by simp) _⟩);obtain⟨k,hk⟩:=exQ<|Lib.indexAny s [43,45,95];rw[hk] at C2 ⊢;obtain⟨b,hbk⟩:=exQ<|decide (0<=k);rw[hbk];clear C hca hk;go_enter Tryz.func76,Tryz.ntmps76;go_wp2_with fail;refine C2.out.mono ?_;rintro e w1 ⟨rfl,hb1⟩;go_wp2_with fail;go_ret;exact⟨⟨b,rfl,λ_=>rfl⟩,by first | exact hb1 | exact hb1.drew⟩
theorem Nc (s:aA) (w:World) (hS:cO w):Calls Tryz.prog 41 #[.string (bs s)] w λe w'=>e= .returned (.tuple #[.int .i64 (iS s).1, .bool (iS s).2])/\Below w.heap.size w w':=
 aAK s w hS (λ_ h9=>by
  by_cases h8:s.length<=8
  ·exact aAM s w h8
  ·exact aAN s w (by omega) (by omega))
def kT (t:VT) (s:aA):Int:=
 if t.kind=6 then Lib.idxOfS (t.keys.map bs) (bs s) else if t.kind=5 then(if(iS s).2=true/\(iS s).1<(t.items.length:Int) then(iS s).1 else -1) else -1
theorem aAO (v:Value) (l:List aA) (s:aA) (w:World) (h:SV w v l) (hl:l.length<=1073741824):
  Calls Tryz.prog 117 #[v, .string (bs s)] w λe w'=>e= .returned (.int .i64 (Lib.idxOfS (l.map bs) (bs s)))/\Below w.heap.size w w':=by
 obtain⟨p,c,rfl,hc,hp⟩:=h;cases l with
 | nil=>
  exact(Tryz.slices_Index_string_empty p c (bs s) w).mono λe w' h=>⟨h.1,by rw[h.2];exact aB _ _⟩
 | cons x r=>
  obtain⟨g,o,rfl,_⟩:=hp.at_ (j:=0) (x:=x) rfl;have:=Tryz.slices_Index_string g o (x::r).length c ((x::r).map bs) (bs s) w (by rw[bU];exact aE _) (by omega) (λj hj=>by rw[bU] at hj;obtain⟨g',o',e,hcell⟩:=hp.at_ (j:=j) (bJ hj);injection e with e;injection e with e1 e2;subst e1 e2;rw[hcell,List.getD_eq_getElem?_getD,cU,bJ hj];rfl);rw[rZ (by rw[bU];exact aE _)] at this;exact this.mono λe w' h=>⟨h.1,by rw[h.2];exact aB _ _⟩
theorem aAP (n:Nat) (t:VT) (kv iv:Value) (s:aA) (w:World) (h:VD w n t kv iv) (hk:t.keys.length<=1073741824) (hi:t.items.length<=1073741824) (hS:cO w):
  Calls Tryz.prog 87 #[vv t kv iv, .string (bs s)] w λe w'=>e= .returned (.int .i64 (kT t s))/\Below w.heap.size w w':=by
 obtain⟨m',hm,hks,p,c,rfl,hlc,hit⟩:=h.parts;obtain⟨pk,ck,rfl,hck,hlies⟩:=hks;obtain⟨X,hX⟩:=exQ<|w.heap.size;obtain⟨W1,hW1⟩:=exQ<|w.alloc (.cells #[.int .i64 t.kind, .string (bs t.text), .slice pk t.keys.length ck, .slice p t.items.length c] 26);have HB1:Hid (Below w.heap.size w W1):=hid (by rw[<-hW1];exact aH _ _);have HXB:Hid (cR W1 X t (.slice pk t.keys.length ck) (.slice p t.items.length c)):=hid (by rw[<-hW1,<-hX];exact cR.new w t _ _);have CI:Hid (∀w',Below W1.heap.size W1 w'->Calls Tryz.prog 41 #[.string (bs s)] w' λe w2=>e= .returned (.tuple #[.int .i64 (iS s).1, .bool (iS s).2])/\Below w'.heap.size w' w2):=hid (λw' hb=>Nc s w' ((hS.keep HB1.out).keep hb));have CX:Hid (∀w',Below W1.heap.size W1 w'->Calls Tryz.prog 117 #[.slice pk t.keys.length ck, .string (bs s)] w' λe w2=>e= .returned (.int .i64 (Lib.idxOfS (t.keys.map bs) (bs s)))/\Below w'.heap.size w' w2):=hid (λw' hb=>aAO _ t.keys s w' ⟨pk,ck,rfl,hck,(hlies.keep HB1.out).keep hb⟩ hk);obtain⟨R,hR⟩:=exQ<|kT t s;rw[hR];unfold kT at hR;obtain⟨K,hK⟩:=exQ<|t.kind;obtain⟨⟨a,y⟩,hay⟩:=exQ<|iS s;obtain⟨ni,hni⟩:=exQ<|t.items.length;obtain⟨nk,hnk⟩:=exQ<|t.keys.length;obtain⟨q,hq⟩:=exQ<|Lib.idxOfS (t.keys.map bs) (bs s);unfold cR at HXB;unfold vv;rw[hK,hay,hni,hq] at hR;rw[hK,hnk,hni] at HXB hW1 ⊢;rw[hay] at CI;rw[hnk,hq] at CX;simp only[] at hR CI;clear h hlies hit hS hay hq hm hck hlc hnk;go_enter Tryz.func87,Tryz.ntmps87;go_upto_region 1 with fail;clear hW1 hX;obtain⟨b0,b1,b2,b3,_⟩:=bC HXB.out;by_cases h6:K=6
 ·rw[if_pos h6] at hR;have e6:(K==6)=true:=by simpa using h6
  have e6b:((6:Int)==K)=true:=by rw[h6];rfl
  subst hR;clear h6;go_wp2_with fail;refine(CX.out _ (by first | exact aB _ _ | exact(aB _ _).drew)).mono ?_;rintro e w2 ⟨rfl,hb⟩;have HB2:Hid (Below w.heap.size w w2):=hid (by first | exact aC HB1.out hb | exact aC HB1.out.drew hb | exact aC HB1.out (aC (aB _ _).drew hb));clear hb b0 b1 b2 b3;go_wp2_with fail;go_ret;exact⟨rfl,by first | exact HB2.out | exact HB2.out.drew⟩
 rw[if_neg h6] at hR;have e6:(K==6)=false:=aG.2 h6;by_cases h5:K=5;rotate_left
 ·rw[if_neg h5] at hR;have e5:(K==5)=false:=aG.2 h5;subst hR;clear h5 h6;go_wp2_with fail;go_ret;exact⟨rfl,by first | exact HB1.out | exact HB1.out.drew⟩
 rw[if_pos h5] at hR;have e5:(K==5)=true:=by simpa using h5
 clear h5 h6;go_wp2_with fail;refine(CI.out _ (by first | exact aB _ _ | exact(aB _ _).drew)).mono ?_;rintro e w2 ⟨rfl,hb⟩;have HB12:Hid (Below W1.heap.size W1 w2):=hid (by first | exact hb | exact aC (aB _ _).drew hb);have HB2:Hid (Below w.heap.size w w2):=hid (aC HB1.out HB12.out);clear hb b0 b1 b2 b3;have HX2:=hid ((HB12.out.block X (aF HXB.out)).trans HXB.out);obtain⟨b0,b1,b2,b3,_⟩:=bC HX2.out;cases y with
 | false=>
  rw[if_neg (by simp)] at hR;subst hR;go_wp2_with fail;go_ret;exact⟨rfl,by first | exact HB2.out | exact HB2.out.drew⟩
 | true=>
  by_cases hlt:a<(ni:Int)
  ·have el:decide (a<(ni:Int))=true:=aN hlt;rw[if_pos ⟨rfl,hlt⟩] at hR;subst hR;go_wp2_with fail;go_ret;exact⟨rfl,by first | exact HB2.out | exact HB2.out.drew⟩
  ·have el:decide (a<(ni:Int))=false:=aJ hlt;rw[if_neg (by rintro⟨_,h⟩;exact hlt h)] at hR;subst hR;go_wp2_with fail;go_ret;exact⟨rfl,by first | exact HB2.out | exact HB2.out.drew⟩
end
section
open Go.Lib hiding intOf
theorem Nd (s:aA):0<=(iS s).1:=by
 unfold iS;split
 ·cases ha:Lib.atoi s with
  | none=>exact Int.le_refl _
  | some n=>
   simp only[];split
   ·exact Int.le_refl _
   ·rename_i hc;simp only[];cases s with
    | nil=>cases ha
    | cons c r=>
     unfold Lib.atoi at ha;simp only[] at ha;split at ha
     ·rename_i h45;exfalso;apply hc;have:c=45:=(by simpa using h45);unfold Lib.containsAny Lib.indexAny;rw[this,if_pos (by decide)];rfl
     ·split at ha
      ·cases hd:Lib.decNat r with
       | none=>rw[hd] at ha;cases ha
       | some m=>
        rw[hd] at ha;have:=bD ha;rw[<-this];exact Int.natCast_nonneg m
      ·cases hd:Lib.decNat (c::r) with
       | none=>rw[hd] at ha;cases ha
       | some m=>
        rw[hd] at ha;have:=bD ha;rw[<-this];exact Int.natCast_nonneg m
 ·exact Int.le_refl _
def Dz (s:aA) (ns:List aM) (st:aA) (q:Nat):Bool:=match ns[q]? with
 | some y=>decide ((lW s y).2=0/\(lW s y).1=st)
 | none=>false
def qN (s:aA) (ns:List aM) (x:aM) (st:aA):Option Nat:=
 if x.kind=2 then(if(iS st).2=true/\(iS st).1<(x.kids.length:Int) then x.kids[(iS st).1.toNat]? else none)
 else x.kids.find? (Dz s ns st)
end
section
open Go.RowKit
open Go.Lib hiding intOf
def aAQ (o:Option Nat):Ending:=match o with
 | some q=> .returned (.tuple #[.int .i64 (q:Int), .bool true])
 | none=> .returned (.tuple #[.int .i64 0, .bool false])
theorem aAR (B:Nat) (s:aA) (d:dG) (lv:Value) (gn n cn k:Nat) (x:aM) (st:aA) (w:World) (h:eY B d lv (.slice (some ⟨gn,0,none⟩) n cn) w) (hx:d.nodes[k]?=some x) (hq: ∀q∈x.kids,q<d.nodes.length) (hm:x.kids.length<=131072) (hn2:n<=131072) (hs:s.length<=65536) (hV:cA w):
  Calls Tryz.prog 20 #[.agg #[.string (bs s),lv, .slice (some ⟨gn,0,none⟩) n cn], .int .i64 (k:Int), .string (bs st)] w λe w'=>e=aAQ (qN s d.nodes x st)/\Below w.heap.size w w':=by
 obtain⟨hnn,pk,ck,hcell,hkid⟩:=h.nodeAt hx;have hkn:k<n:=by rw[hnn];exact(aQ.1 hx).1
 obtain⟨m,hme⟩:=exQ<|x.kids.length;rw[hme] at hcell hm;have y0:=hcell 0 _ (by omega) rfl;have y1:=hcell 1 _ (by omega) rfl;have y2:=hcell 2 _ (by omega) rfl;have y3:=hcell 3 _ (by omega) rfl;have y4:=hcell 4 _ (by omega) rfl;have y5:=hcell 5 _ (by omega) rfl;have y6:=hcell 6 _ (by omega) rfl;have y7:=hcell 7 _ (by omega) rfl;have y8:=hcell 8 _ (by omega) rfl;simp only[Nat.add_zero] at y0;obtain⟨D,hDe⟩:=exQ<|w.heap.size;have b3:=aH w (.cells #[.string (bs s),lv, .slice (some ⟨gn,0,none⟩) n cn] 36);have x3:=heap_alloc_new w (.cells #[.string (bs s),lv, .slice (some ⟨gn,0,none⟩) n cn] 36);obtain⟨w3,hw3⟩:=exQ<|w.alloc (.cells #[.string (bs s),lv, .slice (some ⟨gn,0,none⟩) n cn] 36);rw[hw3] at b3 x3;rw[hDe] at x3;have y0:=bE y0 b3;have y1:=bE y1 b3;have y2:=bE y2 b3;have y3:=bE y3 b3;have y4:=bE y4 b3;have y5:=bE y5 b3;have y6:=bE y6 b3;have y7:=bE y7 b3;have y8:=bE y8 b3;have HB3:=hid b3;have HX3:=hid x3;have k3:(0:Int)<=(k:Int):=by omega
 have k4:(k:Int)<(n:Int):=by omega
 obtain⟨c0,c1,c2,_⟩:=gQ x3;have HDoc:=hid h;have HHx:=hid hx;have HK:=hid (aI hkid hq);have HM:=hid hme;have HV:=hid hV;clear b3 x3 h hx hcell hnn hV hkid hq hme;obtain⟨R,hR⟩:=exQ<|qN s d.nodes x st;rw[hR];have HRr:=hid hR;clear hR;go_enter Tryz.func20,Tryz.ntmps20;go_upto_region 1 with fail;clear hw3 hDe;obtain⟨X,hXe⟩:=exQ<|w3.heap.size;have b4:=aH w3 (.cells #[.int .i64 (x.kind:Int), .int .i64 x.ind, .int .i64 (x.fr:Int), .int .i64 (x.til:Int), .int .i64 x.kf, .int .i64 x.kt, .int .i64 x.rf, .int .i64 x.rt, .slice pk m ck] 62);have x4:=heap_alloc_new w3 (.cells #[.int .i64 (x.kind:Int), .int .i64 x.ind, .int .i64 (x.fr:Int), .int .i64 (x.til:Int), .int .i64 x.kf, .int .i64 x.kt, .int .i64 x.rf, .int .i64 x.rt, .slice pk m ck] 62);obtain⟨w4,hw4⟩:=exQ<|w3.alloc (.cells #[.int .i64 (x.kind:Int), .int .i64 x.ind, .int .i64 (x.fr:Int), .int .i64 (x.til:Int), .int .i64 x.kf, .int .i64 x.kt, .int .i64 x.rf, .int .i64 x.rt, .slice pk m ck] 62);rw[hw4] at b4 x4;rw[hXe] at x4;have HB4:=hid (aC HB3.out b4);have HX4:=hid x4;have z0:w4.cell? ⟨X,0,none⟩=some (.int .i64 (x.kind:Int)):=by simp[World.cell?,x4]
 have z8:w4.cell? ⟨X,8,none⟩=some (.slice pk m ck):=by simp[World.cell?,x4]
 clear b4 x4;by_cases h2:x.kind=2
 ·have g2:((x.kind:Int)==2)=true:=by rw[h2];rfl
  have CI:=hid (Nc st w4 ((HV.out.keep HB4.out).2));have hge:=Nd st;have hR:=HRr.out;unfold qN at hR;rw[if_pos h2,HM.out] at hR;obtain⟨⟨a,y⟩,hay⟩:=exQ<|iS st;rw[hay] at CI hR hge;simp only[] at hR CI hge;have HR:=hid hR;clear hR hay h2;go_wp2_with fail;refine CI.out.mono ?_;rintro e w5 ⟨rfl,hb⟩;have HB5:=hid (aC HB4.out hb);have z8:=bE z8 hb;have HB45:=hid hb;clear hb;cases y with
  | false=>
   have hR:=HR.out;rw[if_neg (by simp)] at hR;subst hR;go_wp2_with fail;clear hw4 hXe;go_ret2;exact⟨rfl,by first | exact HB5.out | exact HB5.out.drew⟩
  | true=>
   by_cases hlt:a<(m:Int)
   ·have el:decide ((m:Int)<=a)=false:=aJ (by omega);have hR:=HR.out;rw[if_pos ⟨rfl,hlt⟩] at hR;obtain⟨j,rfl⟩: ∃j:Nat,a=(j:Int):=⟨a.toNat,by omega⟩;rw[fC] at hR;obtain⟨q,hqj⟩: ∃q,x.kids[j]?=some q:=⟨_,bJ (by rw[HM.out];omega)⟩;rw[hqj] at hR;subst hR;obtain⟨gk,rfl,kc⟩:=HK.out.1 j q hqj;have kc:=bE kc (show Below w.heap.size w w5 from HB5.out);clear hqj;go_wp2_with fail;clear hw4 hXe;go_ret2;exact⟨rfl,by first | exact HB5.out | exact HB5.out.drew⟩
   ·have el:decide ((m:Int)<=a)=true:=aN (by omega);have hR:=HR.out;rw[if_neg (by rintro⟨_,h⟩;exact hlt h)] at hR;subst hR;go_wp2_with fail;clear hw4 hXe;go_ret2;exact⟨rfl,by first | exact HB5.out | exact HB5.out.drew⟩
 ·have g2:((x.kind:Int)==2)=false:=aG.2 (by omega);have hR:=HRr.out;unfold qN at hR;rw[if_neg h2] at hR;obtain⟨Pq,hPq⟩:=exQ<|Dz s d.nodes st;rw[hPq] at hR;have HPq:=hid hPq;have HR0:Hid ((x.kids.drop 0).find? Pq=R/\Below w4.heap.size w4 w4):=hid ⟨by rw[List.drop_zero];exact hR,aB _ _⟩;have CK:Hid (∀(q:Nat) (y:aM),d.nodes[q]?=some y-> ∀w',Below w4.heap.size w4 w'->Calls Tryz.prog 42 #[.agg #[.string (bs s),lv, .slice (some ⟨gn,0,none⟩) n cn], .int .i64 (q:Int)] w' λe w2=>e= .returned (.tuple #[.string (bs (lW s y).1), .bool ((lW s y).2==0)])/\Below w'.heap.size w' w2):=hid (λq y hy w' hb=>aAq B s d lv gn n cn q y w' ((HDoc.out.keep HB4.out).keep hb) hy hn2 hs ((HV.out.keep HB4.out).keep hb));have HD:Hid (∀w',Below w4.heap.size w4 w'->w'.cell? ⟨D,0,none⟩=some (.string (bs s))/\w'.cell? ⟨D,1,none⟩=some lv/\w'.cell? ⟨D,2,none⟩=some (.slice (some ⟨gn,0,none⟩) n cn)):=hid (λw' hb=>by have hb3:Below w3.heap.size w3 w':=aC (by rw[<-hw4];exact aH _ _) hb;exact⟨bE c0 hb3,bE c1 hb3,bE c2 hb3⟩);clear hR hPq h2;go_wp2_with fail;clear hw4 hXe z0 z8 c0 c1 c2 y0 y1 y2 y3 y4 y5 y6 y7 y8 k3 k4;go_loopw [45] (λs45 wr=> ∃i:Nat,s45= .int .i64 (i:Int)/\i<=m/\Hid ((x.kids.drop i).find? Pq=R/\Below w4.heap.size w4 wr)) (λs45 _=>m-(RowKit.intOf s45).toNat)
  case atStart=>exact⟨0,rfl,cN _,by first | exact HR0 | exact hid ⟨HR0.out.1,(aB _ _).drew⟩⟩
  case round=>
   obtain⟨i,rfl,hi,HI⟩:=hrel;obtain⟨c0,c1,c2⟩:=HD.out wr HI.out.2;by_cases hil:i<m
   ·obtain⟨q,hqj⟩: ∃q,x.kids[i]?=some q:=⟨_,bJ (by have:=HM.out;omega)⟩;obtain⟨gk,rfl,kc⟩:=HK.out.1 i q hqj;have kc:=bE (bE kc HB4.out) HI.out.2;obtain⟨y,hy⟩: ∃y,d.nodes[q]?=some y:=⟨_,bJ (HK.out.2 q (aX hqj))⟩;have hfd:(x.kids.drop i).find? Pq=if Pq q=true then some q else(x.kids.drop (i+1)).find? Pq:=by
     obtain⟨hlt,he⟩:=aQ.1 hqj;rw[iK hlt,List.find?_cons,he];cases Pq q<;>rfl
    have hPy:Pq q=decide ((lW s y).2=0/\(lW s y).1=st):=by
     rw[<-HPq.out];unfold Dz;rw[hy]
    have CKq:=hid (CK.out q y hy wr HI.out.2);obtain⟨⟨K1,K2⟩,hKK⟩:=exQ<|lW s y;rw[hKK] at CKq hPy;simp only[] at CKq hPy;have HR2:=HI.out.1;rw[hfd,hPy] at HR2;have di:decide ((i:Int)<(m:Int))=true:=aN (by omega);have i0:(0:Int)<=(i:Int):=(by omega);have i1:(i:Int)<(m:Int):=(by omega);clear hqj hy hfd hPy hKK;by_cases h0:K2=0
    ·subst h0;by_cases hst:K1=st
     ·subst hst;rw[if_pos (by simp)] at HR2;subst HR2;have e2:((bs K1).toList==(bs K1).toList)=true:=beq_self_eq_true _;have e1:((0:Int)==0)=true:=rfl;go_wp2_with fail;refine CKq.out.mono ?_;rintro e w5 ⟨rfl,hb⟩;have HB5:=hid (aC HB4.out (aC HI.out.2 hb));clear hb kc c0 c1 c2;go_wp2_with fail;go_ret2;exact⟨rfl,by first | exact HB5.out | exact HB5.out.drew⟩
     ·rw[if_neg (by simp[hst])] at HR2;have hne: ¬bs K1=bs st:=λh=>hst (zN h);have e2:((bs K1).toList==(bs st).toList)=false:=(bytes_beq_false_iff _ _).2 hne;have e1:((0:Int)==0)=true:=rfl;have HR2:=hid HR2;clear hne;go_wp2_with fail;refine CKq.out.mono ?_;rintro e w5 ⟨rfl,hb⟩;have HB5:=hid (aC HI.out.2 hb);clear hb kc c0 c1 c2;go_wp2_with fail;go_roundw
      case rel=>exact⟨i+1,by go_num,by omega,hid ⟨HR2.out,by first | exact HB5.out | exact HB5.out.drew⟩⟩
      case measure=>simp[RowKit.intOf];omega
    ·rw[if_neg (by simp[h0])] at HR2;have e1:(K2==0)=false:=aG.2 h0;have HR2:=hid HR2;clear h0;go_wp2_with fail;refine CKq.out.mono ?_;rintro e w5 ⟨rfl,hb⟩;have HB5:=hid (aC HI.out.2 hb);clear hb kc c0 c1 c2;go_wp2_with fail;go_roundw
     case rel=>exact⟨i+1,by go_num,by omega,hid ⟨HR2.out,by first | exact HB5.out | exact HB5.out.drew⟩⟩
     case measure=>simp[RowKit.intOf];omega
   ·have di:decide ((i:Int)<(m:Int))=false:=aJ (by omega);have HR2:=HI.out.1;rw[List.drop_eq_nil_of_le (by have:=HM.out;omega)] at HR2;have HR2:none=R:=HR2;subst HR2;have HB5:=hid (aC HB4.out HI.out.2);clear c0 c1 c2;go_wp2_with fail;go_ret2;exact⟨rfl,by first | exact HB5.out | exact HB5.out.drew⟩
end
end Go.Proofs.YtaifnmjjpddikaaGreatDoor
