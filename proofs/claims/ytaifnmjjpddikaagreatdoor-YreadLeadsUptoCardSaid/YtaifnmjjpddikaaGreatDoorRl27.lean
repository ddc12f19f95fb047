import Derived.Test.YtaifnmjjpddikaaGreatDoorRl26
import Derived.Test.YtaifnmjjpddikaaGreatDoorRl12
import Derived.Test.YtaifnmjjpddikaaGreatDoorShelfE
import Derived.Test.YtaifnmjjpddikaaGreatDoorRl2
set_option maxRecDepth 100000
set_option maxHeartbeats 4000000
namespace Go.Proofs.YtaifnmjjpddikaaGreatDoor
set_option linter.unusedVariables false
set_option linter.unusedSimpArgs false
section
open Go.RowKit
open Go.Lib hiding intOf
theorem fE.nodeAt {B:Nat}{d:cF}{lv:Value}{gn n cn:Nat}{w:World} (h:fE B d lv (.slice (some ⟨gn,0,none⟩) n cn) w) {k:Nat}{x:aG} (hx:d.nodes[k]?=some x):
  n=d.nodes.length/\ ∃pk ck,(∀j u,j<9->(jC (x, .slice pk x.kids.length ck))[j]?=some u->w.cell? ⟨gn,k*9+j,none⟩=some u)/\ ∀(j q:Nat),x.kids[j]?=some q-> ∃gk,pk=some ⟨gk,0,none⟩/\w.cell? ⟨gk,j,none⟩=some (.int .i64 (q:Int)):=by
 obtain⟨z,r,_,b⟩:=h;obtain⟨y,i⟩: ∃y,z[k]?=some y:=by
  rw[<-r,cW] at hx;cases hq:z[k]? with
  | none=>rw[hq] at hx;cases hx
  | some q=>exact⟨q,rfl⟩
 have m:y.1=x:=by
  rw[<-r,cW,i] at hx;exact bD hx
 obtain⟨g2,c2,cur,e,_⟩:=b.form (λe=>by rw[e] at i;cases i);injection e with e1 e2 e3;injection e1 with e1;injection e1 with e1;subst e1 e2 e3;have a:=b.kids y (aX i);obtain⟨pk,ck,l⟩: ∃p c,y.2= .slice p y.1.kids.length c:=by
  rcases a.2 with⟨t,f⟩ | ⟨g,cap,cur,f,_⟩
  ·exact⟨none,0,by rw[t,f]⟩
  ·exact⟨_,cap,f⟩
 have s:z.length=d.nodes.length:=by rw[<-r,bK]
 refine⟨s,pk,ck,λj u o v=>?_,λj q o=>?_⟩
 ·refine(b.at_ i j o (u:=u) ?_).1;rw[<-v,<-m,<-l]
 ·rw[l,m] at a;have hjl:=(aR.1 o).1;rcases a.2 with⟨t,f⟩ | ⟨g,cap,cur,f,_⟩
  ·omega
  ·injection f with e1;subst e1;refine⟨g,rfl,?_⟩;rw[World.ownsRow.cellAt a _ (by omega)];unfold eI;rw[cW,o];rfl
def lT (s:aA) (x:aG):aA×Int:=jO (dY s x.kf x.kt)
theorem aAN {s:aA}{x:aG} (h:x.kf<0\/x.kt<x.kf\/(s.length:Int)<x.kt):lT s x=([],2):=by
 unfold lT dY;rw[if_pos h];rfl
theorem aAO (s:aA) (a b:Int) (h1:0<=a) (h2:a<=b) (h3:b<=(s.length:Int)):(bs s).extract a.toNat b.toNat=bs (dY s a b):=by
 unfold dY;rw[if_neg (by omega)];unfold dG;rw[lG,aZ]
theorem aAP (B:Nat) (s:aA) (d:cF) (lv:Value) (gn n cn k:Nat) (x:aG) (w:World) (h:fE B d lv (.slice (some ⟨gn,0,none⟩) n cn) w) (hx:d.nodes[k]?=some x) (hn2:n<=131072) (hs:s.length<=65536) (hV:bU w):
  Calls Tryz.prog 42 #[.agg #[.string (bs s),lv, .slice (some ⟨gn,0,none⟩) n cn], .int .i64 (k:Int)] w λe w'=>e= .returned (.tuple #[.string (bs (lT s x).1), .bool ((lT s x).2==0)])/\Below w.heap.size w w':=by
 have sl:=aT s;obtain⟨o,pk,ck,c,_⟩:=h.nodeAt hx;have hkn:k<n:=by rw[o];exact(aR.1 hx).1
 have y4:=c 4 _ (by omega) rfl;have y5:=c 5 _ (by omega) rfl;obtain⟨kf,j⟩:=exQ<|x.kf;obtain⟨kt,l⟩:=exQ<|x.kt;rw[j] at y4;rw[l] at y5;obtain⟨D,p⟩:=exQ<|w.heap.size;have b3:=aI w (.cells #[.string (bs s),lv, .slice (some ⟨gn,0,none⟩) n cn] 36);have x3:=heap_alloc_new w (.cells #[.string (bs s),lv, .slice (some ⟨gn,0,none⟩) n cn] 36);obtain⟨w3,m⟩:=exQ<|w.alloc (.cells #[.string (bs s),lv, .slice (some ⟨gn,0,none⟩) n cn] 36);rw[m] at b3 x3;rw[p] at x3;have y4:=bH y4 b3;have y5:=bH y5 b3;have u:=hid b3;have HX3:=hid x3;obtain⟨K,i⟩:=exQ<|lT s x;have b:(kf<0\/kt<kf\/(s.length:Int)<kt)->K=([],2):=λh=>by rw[<-i];exact aAN (by rw[j,l];exact h)
 have CK:Hid (∀w',Below w.heap.size w w'->Calls Tryz.prog 52 #[.string (bs (dY s kf kt))] w' λe w2=>e=nW K/\Below w'.heap.size w' w2):=hid (λw' q=>by
  have hl:(dY s kf kt).length<=s.length:=by
   unfold dY;split
   ·exact bM _
   ·unfold dG;rw[cD,bB];omega
  have:=Ct (dY s kf kt) w' (by omega) (hV.keep q);rw[<-i];unfold lT;rw[j,l];exact this)
 rw[i];have hcut:=aAO s kf kt;have k1:decide ((k:Int)<0)=false:=aH (by omega);have k2:decide ((n:Int)<=(k:Int))=false:=aH (by omega);have k2b:decide (n<=k)=false:=aH (by omega);have k3:(0:Int)<=(k:Int):=by omega
 have k4:(k:Int)<(n:Int):=by omega
 obtain⟨c0,c1,c2,_⟩:=gJ x3;clear i b3 x3 h hx c o j l hV;go_enter Tryz.func42,Tryz.ntmps42;go_upto_region 3 with fail;clear m p;obtain⟨X,g⟩:=exQ<|w3.heap.size;have b4:=aI w3 (.cells #[.int .i64 kf, .int .i64 kt] 59);have x4:=heap_alloc_new w3 (.cells #[.int .i64 kf, .int .i64 kt] 59);obtain⟨w4,f⟩:=exQ<|w3.alloc (.cells #[.int .i64 kf, .int .i64 kt] 59);rw[f] at b4 x4;rw[g] at x4;have a:=hid (aC u.out b4);have z0:=bH c0 b4;have s0:w4.cell? ⟨X,0,none⟩=some (.int .i64 kf):=by simp[World.cell?,x4]
 have s1:w4.cell? ⟨X,1,none⟩=some (.int .i64 kt):=by simp[World.cell?,x4]
 clear b4 x4;by_cases h1:kf<0
 ·have e1:decide (kf<0)=true:=aM h1;have i:=b (.inl h1);subst i;clear h1 b hcut CK;go_wp2_with fail;clear f g;go_ret2;exact⟨rfl,by first | exact a.out | exact a.out.drew⟩
 have e1:decide (kf<0)=false:=aH h1;by_cases h2:kt<kf
 ·have e2:decide (kt<kf)=true:=aM h2;have i:=b (.inr (.inl h2));subst i;clear h1 h2 b hcut CK;go_wp2_with fail;clear f g;go_ret2;exact⟨rfl,by first | exact a.out | exact a.out.drew⟩
 have e2:decide (kt<kf)=false:=aH h2;by_cases h3:(s.length:Int)<kt
 ·have e3:decide ((s.length:Int)<kt)=true:=aM h3;have i:=b (.inr (.inr h3));subst i;clear h1 h2 h3 b hcut CK;go_wp2_with fail;clear f g;go_ret2;exact⟨rfl,by first | exact a.out | exact a.out.drew⟩
 have e3:decide ((s.length:Int)<kt)=false:=aH h3;have hc:=hcut (by omega) (by omega) (by omega);have o1:0<=kf:=by omega
 have o2:kf<=kt:=by omega
 have o3:kt<=(s.length:Int):=by omega
 obtain⟨⟨K1,K2⟩,t⟩:=exQ K;subst t;unfold nW at CK;simp only[] at CK ⊢;clear h1 h2 h3 b hcut;go_wp2_with fail;refine(CK.out _ (by first | exact a.out | exact a.out.drew)).mono ?_;rintro e w5 ⟨rfl,q⟩;have r:Hid (Below w.heap.size w w5):=hid (by first | exact aC a.out q | exact aC a.out.drew q);clear q;go_wp2_with fail;clear f g;go_ret2;exact⟨rfl,by first | exact r.out | exact r.out.drew⟩
end
section
open Go.RowKit Go.Maps Go.WideMaps
open Go.Lib hiding intOf
def xJ (X:Nat):Value:= .func (.func 81) #[] #[.pointer (some ⟨X,0,none⟩)]
def oK (F:FuncId):Value:= .func (.func F) #[] #[]
def vD (F:FuncId) (q:VT->Bool) (H:VT->Prop) (n:Nat):Prop:= ∀(t:VT) (kv iv:Value) (w:World),VD w n t kv iv->t.bulk<=1073741824->kE w->H t->
 Calls Tryz.prog 44 #[vv t kv iv,oK F] w λe w'=>e= .returned (.bool (cB q t))/\Below w.heap.size w w'
structure Es (F:FuncId) (q:VT->Bool) (H:VT->Prop):Prop where
 ent: ∀(args:Array Value) (w:World),(callFunc F args).run Tryz.prog w= .ok (.enter F args) w
 call: ∀(n:Nat) (t:VT) (kv iv:Value) (w:World),VD w n t kv iv->t.bulk<=1073741824->kE w->H t->Calls Tryz.prog F #[vv t kv iv] w λe w'=>e= .returned (.bool (q t))/\Below w.heap.size w w'
 sub: ∀t,H t-> ∀x∈t.items,H x
theorem aAQ {F:FuncId}{q:VT->Bool}{H:VT->Prop} (n:Nat) (IH:vD F q H n) (t:VT) (kv iv:Value) (X:Nat) (w:World) (h:VD w n t kv iv) (hbk:t.bulk<=1073741824) (hV:kE w) (hH:H t) (hX:w.cell? ⟨X,0,none⟩=some (oK F)):
  Calls Tryz.prog 81 #[vv t kv iv, .pointer (some ⟨X,0,none⟩)] w λe w'=>e= .returned (.bool (!cB q t))/\Below w.heap.size w w':=by
 obtain⟨pk,ck,p,c,rfl,rfl⟩:=h.form;obtain⟨R,k⟩:=exQ<|cB q t;rw[k];obtain⟨W1,b⟩:=exQ<|w.alloc (.cells #[.int .i64 t.kind, .string (bs t.text), .slice pk t.keys.length ck, .slice p t.items.length c] 26);obtain⟨B,l⟩:=exQ<|w.heap.size;have a:Hid (Below w.heap.size w W1):=hid (by rw[<-b];exact aI _ _);have j:Hid (cV W1 B t (.slice pk t.keys.length ck) (.slice p t.items.length c)):=hid (by rw[<-b,<-l];exact cV.new w t _ _);have d:W1.cell? ⟨X,0,none⟩=some (oK F):=by rw[a.out.cell (p:=⟨X,0,none⟩) (rA hX)];exact hX
 have i:=hid (IH t _ _ W1 (h.keep a.out) hbk (hV.keep a.out) hH);unfold vv at i ⊢;unfold oK at i d;rw[k] at i;clear h hbk hV hX k IH hH;go_enter Tryz.func81,Tryz.ntmps81;go_upto_region 1 with fail;clear b;obtain⟨b0,b1,b2,b3⟩:=j.out.cells;go_wp2_with fail;refine i.out.mono ?_;rintro e w2 ⟨rfl,g⟩;have f:=hid (aC a.out g);clear g b0 b1 b2 b3 d;go_wp2_with fail;go_ret;exact⟨rfl,by first | exact f.out | (rw[<-l];exact f.out)⟩
def tL (q:VT->Bool) (l:List VT):Int:=if l.all (cB q) then -1 else((l.findIdx (λx=>!cB q x):Nat):Int)
theorem aAR {q:VT->Bool}{l:List VT}{i:Nat}{x:VT} (hx:l[i]?=some x) (hq:cB q x=false) (hn: ∀(j:Nat) (y:VT),j<i->l[j]?=some y->cB q y=true):tL q l=(i:Int):=by
 obtain⟨a,c⟩:=aR.1 hx;have b:l.findIdx (λx=>!cB q x)=i:=by
  rw[List.findIdx_eq a];refine⟨by rw[c,hq];rfl,λj d=>?_⟩;rw[hn j _ d (bE (by omega))];rfl
 unfold tL;rw[if_neg,b];intro h;have:=fH.1 h x (aX hx);rw[hq] at this;cases this
theorem aAS {q:VT->Bool}{l:List VT} (hn: ∀(j:Nat) (y:VT),l[j]?=some y->cB q y=true):tL q l= -1:=by
 unfold tL;rw[if_pos];rw[fH];intro x a;obtain⟨j,b⟩:=List.getElem?_of_mem a;exact hn j x b
theorem aAT {F:FuncId}{q:VT->Bool}{H:VT->Prop} (n:Nat) (IH:vD F q H n) (X:Nat) (p:Option Addr) (c:Nat) (l:List VT) (w:World) (hit:uC w n p l) (hbk:dS l<=1073741824) (hV:kE w) (hH: ∀x∈l,H x) (hX:w.cell? ⟨X,0,none⟩=some (oK F)):
  Calls Tryz.prog 115 #[.slice p l.length c,xJ X] w λe w'=>e= .returned (.int .i64 (tL q l))/\Below w.heap.size w w':=by
 have v:=hid hit;have K:=hid hV;have E:=hid hX;have r:=hid hH;have hlen:=aY (rE l) hbk;obtain⟨R,D⟩:=exQ<|tL q l;rw[D];have G:=hid D;clear hit hV hX D hH;unfold xJ;go_enter Tryz.func115,Tryz.ntmps115;go_wp2_with fail;go_loopw [8] (λs8 wr=> ∃i:Nat,s8= .int .i64 i/\i<=l.length/\Hid (∀j y,j<i->l[j]?=some y->cB q y=true)/\Hid (Below w.heap.size w wr)) (λs8 _=>l.length-(RowKit.intOf s8).toNat)
 case atStart=>exact⟨0,rfl,by omega,hid (λj y J=>by omega),hid (aB _ _)⟩
 case round=>
  obtain⟨i,rfl,hi,B,k⟩:=hrel;by_cases hlt:i<l.length
  ·have z:(i:Int)<(l.length:Int):=(by omega);obtain⟨x,f⟩: ∃x,l[i]?=some x:=⟨_,bE hlt⟩;obtain⟨g,o,kv',iv',rfl,hg,n0,n1,n2,n3,d⟩:=v.out.keep k.out i x f;obtain⟨pk2,ck2,px,cx,rfl,rfl⟩:=d.form;have t:wr.cell? ⟨X,0,none⟩=some (oK F):=by rw[k.out.cell (p:=⟨X,0,none⟩) (rA E.out)];exact E.out
   have C:=aAQ n IH x _ _ X wr d (aY (uB (aX f)) hbk) (K.out.keep k.out) (r.out x (aX f)) t;obtain⟨b,s⟩:=exQ<|cB q x;rw[s] at C;unfold vv at C;have I:=hid C;clear C t d;cases b with
   | false=>
    have A:=hid (G.out.symm.trans (aAR f s B.out));clear f s;go_wp2_with fail;refine I.out.mono ?_;rintro e w1 ⟨rfl,a⟩;have h:=hid (aC k.out a);clear a;go_wp2_with fail;go_ret;exact⟨by rw[A.out]<;>rfl,h.out⟩
   | true=>
    have u:Hid (∀j y,j<i+1->l[j]?=some y->cB q y=true):=hid (λj y J m=>by
     by_cases hji:j<i
     ·exact B.out j y hji m
     ·obtain rfl:j=i:=(by omega);rw[f] at m;obtain rfl:=bD m;exact s)
    clear f s;go_wp2_with fail;refine I.out.mono ?_;rintro e w1 ⟨rfl,a⟩;have h:=hid (aC k.out a);clear a;go_wp2_with fail;go_roundw
    case rel=>exact⟨i+1,by go_num,by omega,u,h⟩
    case measure=>simp[RowKit.intOf];omega
  ·have z: ¬(i:Int)<(l.length:Int):=(by omega);have A:=hid (G.out.symm.trans (aAS (λj y m=>B.out j y (by have:=(aR.1 m).1;omega) m)));go_wp2_with fail;go_ret;exact⟨by rw[A.out]<;>rfl,k.out⟩
theorem aAU {F:FuncId}{q:VT->Bool}{H:VT->Prop} (n:Nat) (IH:vD F q H n) (X:Nat) (p:Option Addr) (c:Nat) (l:List VT) (w:World) (hit:uC w n p l) (hbk:dS l<=1073741824) (hV:kE w) (hH: ∀x∈l,H x) (hX:w.cell? ⟨X,0,none⟩=some (oK F)):
  Calls Tryz.prog 80 #[.slice p l.length c,xJ X] w λe w'=>e= .returned (.bool (!jY q l))/\Below w.heap.size w w':=by
 have C:=aAT n IH X p c l w hit hbk hV hH hX;have hlen:=aY (rE l) hbk;rw[Hs];unfold tL at C;obtain⟨b,f⟩:=exQ<|l.all (cB q);obtain⟨F,h⟩:=exQ<|l.findIdx (λx=>!cB q x);rw[f,h] at C;rw[f];have g:=hid C;clear C f h hit hV hX hH;unfold xJ at g ⊢;cases b with
 | true=>
  go_enter Tryz.func80,Tryz.ntmps80;go_wp2_with fail;refine g.out.mono ?_;rintro e w1 ⟨rfl,a⟩;have d:=hid a;clear a;go_wp2_with fail;go_ret;exact⟨rfl,d.out⟩
 | false=>
  have hF0:decide ((0:Int)<=(F:Int))=true:=aM (by omega);go_enter Tryz.func80,Tryz.ntmps80;go_wp2_with fail;refine g.out.mono ?_;rintro e w1 ⟨rfl,a⟩;have d:=hid a;clear a;go_wp2_with fail;go_ret;exact⟨rfl,d.out⟩
theorem aAV {F:FuncId}{q:VT->Bool}{H:VT->Prop} (hF:Es F q H) (m:Nat) (IH:vD F q H m):vD F q H (m+1):=by
 intro t kv iv w h x L C;have O:=hid (hF.sub t C);have hent:=hF.ent;have hmf: ∀(fn:Fn) (first cap:Array Value) (w:World),(Instr.makeFunc fn first cap).run Tryz.prog w= .ok (.func fn first cap) w:=λ_ _ _ _=>rfl;obtain⟨m',hm,⟨pk,ck,rfl,hck,k⟩,p,c,rfl,hlc,o⟩:=h.parts;obtain rfl:m=m':=by omega
 obtain⟨R,J⟩:=exQ<|cB q t;rw[J];have f:(q t&&jY q t.items)=R:=by rw[<-J];cases t;rw[cB];rfl
 have G:dS t.items<=1073741824:=by cases t;rw[VT.bulk] at x;simp only[VT.items];omega
 obtain⟨B,A⟩:=exQ<|w.heap.size;obtain⟨W1,d⟩:=exQ<|(w.alloc (.cells #[.int .i64 t.kind, .string (bs t.text), .slice pk t.keys.length ck, .slice p t.items.length c] 26)).alloc (.cells #[.func (.func F) #[] #[]] 64);have b1:=aI w (.cells #[.int .i64 t.kind, .string (bs t.text), .slice pk t.keys.length ck, .slice p t.items.length c] 26);have b2:=aI (w.alloc (.cells #[.int .i64 t.kind, .string (bs t.text), .slice pk t.keys.length ck, .slice p t.items.length c] 26)) (.cells #[.func (.func F) #[] #[]] 64);have a:Hid (Below w.heap.size w W1):=hid (by rw[<-d];exact aC b1 b2);have s:Hid (cV W1 B t (.slice pk t.keys.length ck) (.slice p t.items.length c)):=hid (by rw[<-d,<-A];exact(cV.new w t _ _).keep b2);have n:W1.heap[B+1]?=some (.cells #[.func (.func F) #[] #[]] 64 (0,0)):=by
  rw[<-d,<-A];have n:=heap_alloc_new (w.alloc (.cells #[.int .i64 t.kind, .string (bs t.text), .slice pk t.keys.length ck, .slice p t.items.length c] 26)) (.cells #[.func (.func F) #[] #[]] 64);simp only[kT] at n;exact n
 have j:Hid (W1.cell? ⟨B+1,0,none⟩=some (.func (.func F) #[] #[])/\B+1<W1.heap.size):=hid ⟨by simp[World.cell?,n],aF n⟩;clear n;have D:=hid (o.keep a.out);have N:=hid (L.keep a.out);have i:=hid (hF.call _ t _ _ W1 (h.keep a.out) x N.out C);unfold vv at i ⊢;unfold oK;obtain⟨y,K⟩:=exQ<|q t;rw[K] at i f;have E:=hid f;clear b1 b2 o k L h J f K C;go_enter Tryz.func44,Tryz.ntmps44;go_upto_region 1 with fail;clear d;obtain⟨b0,b1,b2,b3⟩:=s.out.cells;obtain⟨x0,_⟩:=j.out;go_wp2_with fail;refine i.out.mono ?_;rintro e w2 ⟨rfl,g⟩;have b:=hid g;have v:w2.cell? ⟨B+1,0,none⟩=some (oK F):=by unfold oK;rw[g.cell (p:=⟨B+1,0,none⟩) j.out.2];exact j.out.1
 clear g b0 b1 b2 b3 x0;obtain⟨b0,b1,b2,b3⟩:=(s.out.keep b.out).cells;cases y with
 | false=>
  go_wp2_with fail;go_ret;exact⟨by rw[<-E.out];rfl,by first | exact aC a.out b.out | (rw[<-A];exact aC a.out b.out)⟩
 | true=>
  have l:=hid (aAU m IH (B+1) p c t.items w2 (D.out.keep b.out) G (N.out.keep b.out) O.out v);obtain⟨z,M⟩:=exQ<|jY q t.items;have I:=E.out;rw[M] at l I;unfold xJ at l;rw[Bool.true_and] at I;subst I;clear M E v;go_wp2_with fail;refine l.out.mono ?_;rintro e w3 ⟨rfl,r⟩;have u:=hid (aC b.out r);clear r b0 b1 b2 b3;cases z
  all_goals
   go_wp2_with fail;go_ret;exact⟨rfl,by first | exact aC a.out u.out | (rw[<-A];exact aC a.out u.out)⟩
theorem Nr {F:FuncId}{q:VT->Bool}{H:VT->Prop} (hF:Es F q H): ∀n,vD F q H n
 | 0=>λt kv iv w h=>h.elim
 | n+1=>aAV hF n (Nr hF n)
def nF (t:VT):Prop:=cB (λt=>decide (t.kind≠7)) t=true
theorem nF.kind {t:VT} (h:nF t):t.kind≠7:=by
 cases t with
 | mk k s ks l=>
  unfold nF at h;rw[cB,cT] at h;simpa using h.1
theorem nF.sub {t:VT} (h:nF t): ∀x∈t.items,nF x:=by
 cases t with
 | mk k s ks l=>
  unfold nF at h;rw[cB,cT,Hs,fH] at h;exact h.2
theorem aAW {P:Program}{f:FuncId}{fn:Func} (hf:P.funcs[f]?=some fn) (h1: ¬fn.name= "runtime.NumGoroutine") (h2:fn.body.isNone=false) (args:Array Value) (w:World):(callFunc f args).run P w= .ok (.enter f args) w:=xF hf h1 h2 args w
theorem aAX:Es 45 kZ nF where
 ent:=aAW Tryz.func45 (of_decide_eq_false (by kernel_rfl)) (by kernel_rfl)
 call:=λn t kv iv w h d f e=>by
  obtain⟨m',hm,⟨pk,ck,rfl,b,a⟩,p,c,rfl,hlc,hit⟩:=h.parts;exact Wm t _ p c w ⟨pk,ck,rfl,b,a⟩ d e.kind f
 sub:=λt h=>h.sub
def pW (t:VT):Bool:=(decide (t.size<=4096)&&decide (t.depth<=32))&&cB kZ t
theorem Ns (n:Nat) (t:VT) (kv iv:Value) (w:World) (h:VD w n t kv iv) (hbk:t.bulk<=1073741824) (hV:kE w) (hH:nF t):
  Calls Tryz.prog 21 #[vv t kv iv] w λe w'=>e= .returned (.bool (pW t))/\Below w.heap.size w w':=by
 obtain⟨pk,ck,p,c,rfl,rfl⟩:=h.form;obtain⟨R,o⟩:=exQ<|pW t;rw[o];unfold pW at o;obtain⟨B,q⟩:=exQ<|w.heap.size;obtain⟨W1,d⟩:=exQ<|w.alloc (.cells #[.int .i64 t.kind, .string (bs t.text), .slice pk t.keys.length ck, .slice p t.items.length c] 26);have b:Hid (Below w.heap.size w W1):=hid (by rw[<-d];exact aI _ _);have j:Hid (cV W1 B t (.slice pk t.keys.length ck) (.slice p t.items.length c)):=hid (by rw[<-d,<-q];exact cV.new w t _ _);have m:=hid (h.keep b.out);have v:=hid (hV.keep b.out);have f:=hid (Wn n t _ _ W1 m.out hbk);unfold vv at f ⊢;obtain⟨y,u⟩:=exQ (decide (t.size<=4096)&&decide (t.depth<=32));rw[u] at f o;have r:=hid o;have x:=hid hH;clear h hV o u hH;go_enter Tryz.func21,Tryz.ntmps21;go_upto_region 1 with fail;clear d;obtain⟨b0,b1,b2,b3⟩:=j.out.cells;go_wp2_with fail;refine f.out.mono ?_;rintro e w2 ⟨rfl,k⟩;have a:=hid k;clear k b0 b1 b2 b3;obtain⟨b0,b1,b2,b3⟩:=(j.out.keep a.out).cells;cases y with
 | false=>
  go_wp2_with fail;go_ret;exact⟨by rw[<-r.out];rfl,by first | exact aC b.out a.out | (rw[<-q];exact aC b.out a.out)⟩
 | true=>
  have g:=hid (Nr aAX n t _ _ w2 (m.out.keep a.out) hbk (v.out.keep a.out) x.out);unfold vv oK at g;have s:=r.out;rw[Bool.true_and] at s;rw[s] at g;clear s r;go_wp2_with fail;refine g.out.mono ?_;rintro e w3 ⟨rfl,i⟩;have l:=hid (aC a.out i);clear i b0 b1 b2 b3;go_wp2_with fail;go_ret;exact⟨rfl,by first | exact aC b.out l.out | (rw[<-q];exact aC b.out l.out)⟩
end
section
open Go.RowKit
open Go.Lib hiding intOf
def nG (p:List aA):Bool:=decide (p.length<=64)&&p.all validD
def fI {α:Type} (q:α->Bool) (l:List α):Int:=if l.any q=true then((l.findIdx q:Nat):Int) else -1
theorem aAY {α:Type}{q:α->Bool}{l:List α}{i:Nat}{x:α} (hx:l[i]?=some x) (hq:q x=true) (hn: ∀j y,j<i->l[j]?=some y->q y=false):fI q l=i:=by
 obtain⟨a,rfl⟩:=aR.1 hx;unfold fI;rw[if_pos (List.any_eq_true.2 ⟨_,List.getElem_mem a,hq⟩)];congr 1;rw[List.findIdx_eq a];exact⟨hq,λj b=>hn j _ b (bE (by omega))⟩
theorem aAZ {α:Type}{q:α->Bool}{l:List α} (hn: ∀j y,j<l.length->l[j]?=some y->q y=false):fI q l= -1:=by
 unfold fI;rw[if_neg];intro h;obtain⟨x,c,a⟩:=List.any_eq_true.1 h;obtain⟨j,b,rfl⟩:=List.getElem_of_mem c;have:=hn j _ b (bE b);rw[this] at a;cases a
theorem aBa {α:Type} (q:α->Bool) (l:List α):(fI q l≥0↔l.any q=true)/\(fI q l<0↔l.any q=false)/\ -1<=fI q l:=by
 unfold fI;cases l.any q with
 | true=>simp
 | false=>simp
theorem aBb (s:ByteArray):(jU s).2=validD s.data.toList:=by
 rw[Ai];unfold jU;cases tU s<;>rfl
theorem aBc (l:aA) (hs:l.length<=1073741824):
  ∃N,∀w,bZ w->Calls Tryz.prog 75 #[.string (bs l)] w λe w'=>e= .returned (.tuple #[.int .i64 N, .bool (validD l)])/\Below w.heap.size w w':=
 ⟨(jU (bs l)).1,λw a=>by have C:=Co (bs l) w (by rw[aT];omega) a;rw[aBb,aZ] at C;exact C⟩
theorem aBd (l:aA) (w:World) (hs:l.length<=1073741824) (hT:bZ w):
  Calls Tryz.prog 40 #[.string (bs l)] w λe w'=>e= .returned (.bool (validD l))/\Below w.heap.size w w':=by
 obtain⟨N,C⟩:=aBc l hs;obtain⟨b,c⟩:=exQ<|validD l;rw[c] at C ⊢;have d:=hid (C w hT);clear C c hT;go_enter Tryz.func40,Tryz.ntmps40;go_wp2_with fail;refine d.out.mono ?_;rintro e w1 ⟨rfl,a⟩;go_wp2_with fail;go_ret;exact⟨rfl,a⟩
theorem aBe (l:aA) (w:World) (hs:l.length<=1073741824) (hT:bZ w):
  Calls Tryz.prog 39 #[.string (bs l)] w λe w'=>e= .returned (.bool (!validD l))/\Below w.heap.size w w':=by
 have C:=aBd l w hs hT;obtain⟨b,c⟩:=exQ<|validD l;rw[c] at C ⊢;have d:=hid C;clear C c hT;go_enter Tryz.func39,Tryz.ntmps39;go_wp2_with fail;refine d.out.mono ?_;rintro e w1 ⟨rfl,a⟩;go_wp2_with fail;go_ret;exact⟨rfl,a⟩
theorem aBf (v:Value) (l:List aA) (w:World) (hv:SV w v l) (hl:l.length<=1073741824) (hs: ∀x∈l,x.length<=1073741824) (hT:bZ w):
  Calls Tryz.prog 74 #[v, .func (.func 39) #[] #[]] w λe w'=>e= .returned (.int .i64 (fI (λx=>!validD x) l))/\Below w.heap.size w w':=by
 obtain⟨p,c,rfl,hc,t⟩:=hv;have B:=hid t;have D:=hid hT;have E:=hid hs;clear t hT hs;obtain⟨R,s⟩:=exQ<|fI (λx=>!validD x) l;rw[s];have z:=hid s;clear s;go_enter Tryz.func74,Tryz.ntmps74;go_wp2_with fail;go_loopw [8] (λs8 wr=> ∃i:Nat,s8= .int .i64 i/\i<=l.length/\Hid (∀j y,j<i->l[j]?=some y->(!validD y)=false)/\Hid (Below w.heap.size w wr)) (λs8 _=>l.length-(RowKit.intOf s8).toNat)
 case atStart=>exact⟨0,rfl,by omega,hid (λj y u=>by omega),hid (aB _ _)⟩
 case round=>
  obtain⟨i,rfl,hi,r,g⟩:=hrel;by_cases hlt:i<l.length
  ·have n:(i:Int)<(l.length:Int):=(by omega);obtain⟨x,f⟩: ∃x,l[i]?=some x:=⟨_,bE hlt⟩;obtain⟨gx,ox,rfl,cx⟩:=(B.out.keep g.out).at_ f;obtain⟨b,k⟩:=exQ (!validD x);have C:=aBe x _ (E.out x (aX f)) (D.out.keep g.out);rw[k] at C;have A:=hid C;clear C;cases b with
   | true=>
    have o:=hid (z.out.symm.trans (aAY (q:=λx=>!validD x) f k r.out));clear f k;go_wp2_with fail;refine A.out.mono ?_;rintro e w1 ⟨rfl,a⟩;have d:=hid (aC g.out a);clear a;go_wp2_with fail;go_ret;exact⟨by rw[o.out]<;>rfl,d.out⟩
   | false=>
    have m:Hid (∀j y,j<i+1->l[j]?=some y->(!validD y)=false):=hid (λj y u h=>by
     by_cases hji:j<i
     ·exact r.out j y hji h
     ·obtain rfl:j=i:=(by omega);rw[f] at h;obtain rfl:=bD h;exact k)
    clear f k;go_wp2_with fail;refine A.out.mono ?_;rintro e w1 ⟨rfl,a⟩;have d:=hid (aC g.out a);clear a;go_wp2_with fail;go_roundw
    case rel=>exact⟨i+1,by go_num,by omega,m,d⟩
    case measure=>simp[RowKit.intOf];omega
  ·have n: ¬(i:Int)<(l.length:Int):=(by omega);have o:=hid (z.out.symm.trans (aAZ (q:=λx=>!validD x) (λj y u h=>r.out j y (by omega) h)));go_wp2_with fail;go_ret;exact⟨by rw[o.out]<;>rfl,g.out⟩
theorem aBg (l:List aA):nG l=(decide (l.length<=64)&&!(l.any λx=>!validD x)):=by
 unfold nG;rw[List.all_eq_not_any_not]
theorem aBh (v:Value) (l:List aA) (w:World) (hv:SV w v l) (hl:l.length<=1073741824) (hs: ∀x∈l,x.length<=1073741824) (hT:bZ w):
  Calls Tryz.prog 38 #[v, .func (.func 39) #[] #[]] w λe w'=>e= .returned (.bool (l.any λx=>!validD x))/\Below w.heap.size w w':=by
 have C:=aBf v l w hv hl hs hT;have a:=aBa (λx=>!validD x) l;obtain⟨k,c⟩:=exQ<|fI (λx=>!validD x) l;obtain⟨b,d⟩:=exQ (l.any λx=>!validD x);rw[c,d] at a;rw[c] at C;rw[d];have g:=hid C;have d1:decide (k≥0)=b:=by
  cases b with
  | true=>exact aM (a.1.2 rfl)
  | false=>exact aH (by have:=a.2.1.2 rfl;omega)
 have d2:decide (0<=k)=b:=d1;clear C c d a hv hs hT;go_enter Tryz.func38,Tryz.ntmps38;go_wp2_with fail;refine g.out.mono ?_;rintro e w1 ⟨rfl,f⟩;go_wp2_with fail;go_ret;exact⟨by first | exact xQ d1 | rfl,f⟩
theorem Nt (v:Value) (l:List aA) (w:World) (hv:SV w v l) (hl:l.length<=1073741824) (hs: ∀x∈l,x.length<=1073741824) (hT:bZ w):
  Calls Tryz.prog 19 #[v] w λe w'=>e= .returned (.bool (nG l))/\Below w.heap.size w w':=by
 have C:=aBh v l w hv hl hs hT;have a:=aBg l;obtain⟨b,f⟩:=exQ (l.any λx=>!validD x);rw[f] at a C;rw[a];have g:=hid C;obtain⟨p,c,rfl,hc,h⟩:=hv;clear C a f hs hT h;by_cases h64:l.length<=64
 ·have d1:decide ((l.length:Int)<=64)=true:=aM (by omega);have d2:decide (l.length<=64)=true:=aM h64;clear h64;go_enter Tryz.func19,Tryz.ntmps19;go_wp2_with fail;refine g.out.mono ?_;rintro e w1 ⟨rfl,d⟩;go_wp2_with fail;go_ret;exact⟨by rw[d2];first | rfl | simp,d⟩
 ·have d1:decide ((l.length:Int)<=64)=false:=aH (by omega);have d2:decide (l.length<=64)=false:=aH h64;clear h64 g;go_enter Tryz.func19,Tryz.ntmps19;go_wp2_with fail;go_ret;exact⟨by rw[d2];first | rfl | simp,aB _ _⟩
def fF (s:aA):Int×Bool:=
 if s≠ []/\s.length<=9/\(s= [48]\/s.head?≠some 48) then(match Lib.atoi s with | some n=>if Lib.containsAny s [43,45,95] then(0,false) else(n,true) | none=>(0,false)) else(0,false)
def Et (s:aA) (w:World):Prop:= ∀w',Below w.heap.size w w'->Calls Tryz.prog 76 #[.string (bs s), .string ⟨#[43,45,95]⟩] w' λe w2=>(∃b:Bool,e= .returned (.bool b)/\((Lib.atoi s).isSome=true->b=Lib.containsAny s [43,45,95]))/\Below w'.heap.size w' w2
theorem aBi (s:aA) (w:World) (hs:s.length<=9) (hS:cM w):Calls Tryz.prog 77 #[.string (bs s)] w λe w'=>((∃n:Int,Lib.atoi s=some n/\e= .returned (.tuple #[.int .i64 n, .nilIface]))\/(Lib.atoi s=none/\ ∃a b,e= .returned (.tuple #[.int .i64 0, .iface a b])))/\Below w.heap.size w w':=by
 have sl:=aT s;cases h:Lib.atoi s with
 | some n=>
  refine(Tryz.strconv_Atoi (bs s) n (by omega) (by rw[aZ];exact h) w).mono λe w' c=>⟨.inl ⟨n,rfl,c.1⟩,?_⟩;obtain⟨t,i⟩:=c.2;rw[i];exact Lib.bytesWorld_below _ _ _
 | none=>
  obtain⟨tp,p,d⟩:=hS;refine(Tryz.strconv_Atoi_err_var (bs s) (by omega) (by rw[aZ];exact h) tp p w d).mono λe w' c=>?_;obtain⟨N,f,_,_,g⟩:=c;exact⟨.inr ⟨rfl,_,_,f⟩,g⟩
theorem aBj (s:aA) (w:World) (hS:cM w) (CA:s≠ []->s.length<=9->Et s w):
    Calls Tryz.prog 41 #[.string (bs s)] w λe w'=>e= .returned (.tuple #[.int .i64 (fF s).1, .bool (fF s).2])/\Below w.heap.size w w':=by
  have sl:=aT s;obtain⟨R,f⟩:=exQ<|fF s;rw[f];unfold fF at f;have e0:=nX s;have e0b:=mY s;cases s with
  | nil=>
    rw[if_neg (by simp)] at f;subst f;go_enter Tryz.func41,Tryz.ntmps41;go_wp2_with fail;go_ret2;exact⟨rfl,by first | exact aB _ _ | exact(aB _ _).drew⟩
  | cons c r=>
    have j:c::r≠ []:=List.cons_ne_nil _ _;have z:0<(c::r).length:=(by simp);have e48:((bs (c::r)).toList== [48])=decide (c::r= [48]):=by
      rw[Lib.toList_data,aZ];by_cases h:c::r= [48]
      · rw[aM h,h];rfl
      · rw[aH h];simpa using h
    have c48:((c.toNat:Int)==48)=decide (c=48):=by
      by_cases h:c=48
      · rw[aM h,h];rfl
      · rw[aH h];exact aK.2 (λe=>h (UInt8.toNat_inj.1 (by have:c.toNat=48:=(by omega);rw[this];rfl)))
    have d:(c::r≠ []/\(c::r).length<=9/\(c::r= [48]\/(c::r).head?≠some 48))↔((c::r).length<=9/\(c::r= [48]\/c≠48)):=(by simp);have u:=CA j;obtain⟨t,x⟩:=exQ<|c::r;have G:0<t.length:=by rw[<-x];simp
    have hc0:(bs t)[0]'(by rw[aT];exact G)=c:=by subst x;rfl
    rw[x] at d f u j z e48 sl e0 e0b;have e0:((bs t).toList== [])=false:=by rw[nX];cases t<;>simp at j ⊢
    have e0b:(bs t).toList.isEmpty=false:=by rw[mY];cases t<;>simp at j ⊢
    rw[x];have e0c:t.isEmpty=false:=(by cases t<;>simp at j ⊢);clear x CA;by_cases h9:9<t.length
    · have d9:decide ((9:Int)<(t.length:Int))=true:=aM (by omega);rw[if_neg (by rw[d];omega)] at f;subst f;go_enter Tryz.func41,Tryz.ntmps41;go_wp2_with fail;go_ret2;exact⟨rfl,by first | exact aB _ _ | exact(aB _ _).drew⟩
    have d9:decide ((9:Int)<(t.length:Int))=false:=aH (by omega);have H:=hid (u (by omega));clear u;have B:=hS;have p : ∀ (b:Bool),decide (t= [48])=b->(b=true\/c≠48)->Calls Tryz.prog 41 #[.string (bs t)] w λe w'=>e= .returned (.tuple #[.int .i64 R.1, .bool R.2])/\Below w.heap.size w w':=by
      intro b A o;rw[A] at e48;have g:t= [48]\/c≠48:=by
        rcases o with e | e
        · left;rw[e] at A;exact of_decide_eq_true A
        · exact .inr e
      rw[if_pos (by rw[d];exact⟨by omega,g⟩)] at f;have C:=hid f;have q48:(!b&&decide (c=48))=false:=by
        rcases o with e | e
        · rw[e];rfl
        · rw[aH e,Bool.and_false]
      obtain⟨dc,v⟩:=exQ<|decide (c=48);rw[v] at c48 q48;have F:t.length<=9:=(by omega);clear f o A g d v h9;go_enter Tryz.func41,Tryz.ntmps41;cases b
      all_goals
        cases dc
        all_goals
          first
          | (exfalso;simp at q48;done)
          | (go_wp2_with fail
             refine(H.out _ (by first | exact aB _ _ | exact(aB _ _).drew)).mono ?_;rintro e w2 ⟨⟨y,rfl,J⟩,q⟩;have i:Hid (Below w.heap.size w w2):=hid (by first | exact q | exact aC (aB _ _).drew q);have K:=hid J;clear q J;have I:Hid (y=true->R=(0,false)):=hid (λe=>by
               rw[<-C.out];cases ha:Lib.atoi t with
               | none=>rfl
               | some n=>
                 simp only[];rw[<-K.out (by rw[ha];rfl),e];rfl)
             cases y with
             | true=>
               have f:=I.out rfl;subst f;go_wp2_with fail;go_ret2;exact⟨rfl,by first | exact i.out | exact i.out.drew⟩
             | false=>
               have L:=hid (aBi t w2 F (B.keep i.out));have D:Hid (∀n,Lib.atoi t=some n->R=(n,true)):=hid (λn k=>by rw[<-C.out,k];simp only[];rw[<-K.out (by rw[k];rfl)];rfl);have E:Hid (Lib.atoi t=none->R=(0,false)):=hid (λk=>by rw[<-C.out,k]);go_wp2_with fail;refine L.out.mono ?_;rintro e w3 ⟨M,m⟩;have l:Hid (Below w.heap.size w w3):=hid (by first | exact aC i.out m | exact aC i.out.drew m);clear m;rcases M with⟨n,k,rfl⟩ | ⟨k,a,b,rfl⟩
               · have f:=D.out n k;subst f;clear k;go_wp2_with fail;go_ret2;exact⟨rfl,by first | exact l.out | exact l.out.drew⟩
               · have f:=E.out k;subst f;clear k;go_wp2_with fail;go_ret2;exact⟨rfl,by first | exact l.out | exact l.out.drew⟩)
    by_cases g:t= [48]
    · exact p true (aM g) (.inl rfl)
    · by_cases hc:c=48
      · have d48:decide (t= [48])=false:=aH g;rw[d48] at e48;have q48:=c48;rw[aM hc] at q48;rw[if_neg (by rw[d];rintro⟨_,e | e⟩;exact g e;exact e hc)] at f;subst f;clear p c48;go_enter Tryz.func41,Tryz.ntmps41;go_wp2_with fail;go_ret2;exact⟨rfl,by first | exact aB _ _ | exact(aB _ _).drew⟩
      · exact p false (aH g) (.inr hc)
theorem Nu (w:World):(zeroValue 168).run Tryz.prog w= .ok (.agg (Array.replicate 256 (.bool false))) w:=by
 kernel_rfl
theorem Nv: ∀(l:aA) (a n:Nat),Lib.decFrom a l=some n-> ∀b∈l,b.toNat<128
 | [],_,_,_,b,hb=>by cases hb
 | c::r,a,n,h,b,hb=>by
  unfold Lib.decFrom at h;cases hd:Lib.digitVal c with
  | none=>rw[hd] at h;cases h
  | some d=>
   rw[hd] at h;rcases dC.1 hb with e | e
   ·rw[e];unfold Lib.digitVal at hd;split at hd
    ·omega
    ·cases hd
   ·exact Nv r _ n h b e
theorem aBk {s:aA} (h:(Lib.atoi s).isSome=true): ∀b∈s,b.toNat<128:=by
 have g: ∀l:aA,(Lib.decNat l).isSome=true-> ∀b∈l,b.toNat<128:=λl d=>by
  unfold Lib.decNat at d;split at d
  ·cases d
  ·cases hd:Lib.decFrom 0 l with
   | none=>rw[hd] at d;cases d
   | some n=>exact Nv l 0 n hd
 cases s with
 | nil=>intro b a;cases a
 | cons c r=>
  unfold Lib.atoi at h;simp only[] at h;split at h
  ·rename_i f;rw[Option.isSome_map] at h;intro b a;rcases dC.1 a with e | e
   ·rw[e];have:c=45:=(by simpa using f);rw[this];decide
   ·exact g r h b e
  ·split at h
   ·rename_i f;rw[Option.isSome_map] at h;intro b a;rcases dC.1 a with e | e
    ·rw[e];have:c=43:=(by simpa using f);rw[this];decide
    ·exact g r h b e
   ·rw[Option.isSome_map] at h;exact g _ h
theorem aBl (s:aA) (w:World) (h8:s.length<=8):Et s w:=by
 intro w' hb;by_cases ha: ∀b∈s,b.toNat<128
 ·have C:=Tryz.strings_ContainsAny Nu (bs s) ⟨#[43,45,95]⟩ w' (by rw[aT];omega) (by decide) (λj b a=>by rw[aZ] at a;exact ha b (aX a)) (λj b a=>by have:b∈([43,45,95]:aA):=aX a;simp at this;rcases this with e | e | e<;>rw[e]<;>decide);rw[aZ] at C;exact C.mono λe w2 h=>⟨⟨_,h.1,λ_=>rfl⟩,h.2⟩
 ·refine(Gh (bs s) w' (by rw[aT];exact h8)).mono λe w2 h=>⟨?_,h.2⟩;obtain⟨B,c,_⟩:=h.1;exact⟨B,c,λd=>absurd (aBk d) ha⟩
theorem aBm (s:aA) (w:World) (h8:8<s.length) (hs:s.length<=1073741824):Et s w:=by
 intro w' hb;have sl:=aT s;have C:=Any.strings_IndexAny_long Tryz.lays153 Nu (by kernel_rfl) (bs s) ⟨#[43,45,95]⟩ w' (by decide) (by omega) (by omega) (by decide) (λj b g=>by have:b∈([43,45,95]:aA):=aX g;simp at this;rcases this with e | e | e<;>rw[e]<;>decide);rw[aZ] at C;have a:Lib.containsAny s [43,45,95]=decide (0<=Lib.indexAny s [43,45,95]):=rfl;rw[a];have C2:Hid (Calls Tryz.prog 112 #[.string (bs s), .string ⟨#[43,45,95]⟩] w' λe w2=>e= .returned (.int .i64 (Lib.indexAny s [43,45,95]))/\Below w'.heap.size w' w2):=hid (C.mono λe w2 h=>⟨h.1,by rw[h.2];exact((aB _ _).alloc (aE _) _).alloc (by simp) _⟩);obtain⟨k,f⟩:=exQ<|Lib.indexAny s [43,45,95];rw[f] at C2 ⊢;obtain⟨b,d⟩:=exQ<|decide (0<=k);rw[d];clear C a f;go_enter Tryz.func76,Tryz.ntmps76;go_wp2_with fail;refine C2.out.mono ?_;rintro e w1 ⟨rfl,c⟩;go_wp2_with fail;go_ret;exact⟨⟨b,rfl,λ_=>rfl⟩,by first | exact c | exact c.drew⟩
theorem Nw (s:aA) (w:World) (hS:cM w):Calls Tryz.prog 41 #[.string (bs s)] w λe w'=>e= .returned (.tuple #[.int .i64 (fF s).1, .bool (fF s).2])/\Below w.heap.size w w':=
 aBj s w hS (λ_ h9=>by
  by_cases h8:s.length<=8
  ·exact aBl s w h8
  ·exact aBm s w (by omega) (by omega))
def jR (t:VT) (s:aA):Int:=
 if t.kind=6 then Lib.idxOfS (t.keys.map bs) (bs s) else if t.kind=5 then(if(fF s).2=true/\(fF s).1<(t.items.length:Int) then(fF s).1 else -1) else -1
theorem aBn (v:Value) (l:List aA) (s:aA) (w:World) (h:SV w v l) (hl:l.length<=1073741824):
  Calls Tryz.prog 117 #[v, .string (bs s)] w λe w'=>e= .returned (.int .i64 (Lib.idxOfS (l.map bs) (bs s)))/\Below w.heap.size w w':=by
 obtain⟨p,c,rfl,hc,d⟩:=h;cases l with
 | nil=>
  exact(Tryz.slices_Index_string_empty p c (bs s) w).mono λe w' h=>⟨h.1,by rw[h.2];exact aB _ _⟩
 | cons x r=>
  obtain⟨g,o,rfl,_⟩:=d.at_ (j:=0) (x:=x) rfl;have:=Tryz.slices_Index_string g o (x::r).length c ((x::r).map bs) (bs s) w (by rw[bK];exact aE _) (by omega) (λj b=>by rw[bK] at b;obtain⟨g',o',e,a⟩:=d.at_ (j:=j) (bE b);injection e with e;injection e with e1 e2;subst e1 e2;rw[a,List.getD_eq_getElem?_getD,cW,bE b];rfl);rw[uL (by rw[bK];exact aE _)] at this;exact this.mono λe w' h=>⟨h.1,by rw[h.2];exact aB _ _⟩
theorem aBo (n:Nat) (t:VT) (kv iv:Value) (s:aA) (w:World) (h:VD w n t kv iv) (hk:t.keys.length<=1073741824) (hi:t.items.length<=1073741824) (hS:cM w):
  Calls Tryz.prog 87 #[vv t kv iv, .string (bs s)] w λe w'=>e= .returned (.int .i64 (jR t s))/\Below w.heap.size w w':=by
 obtain⟨m',E,z,p,c,rfl,B,v⟩:=h.parts;obtain⟨pk,ck,rfl,r,j⟩:=z;obtain⟨X,C⟩:=exQ<|w.heap.size;obtain⟨W1,k⟩:=exQ<|w.alloc (.cells #[.int .i64 t.kind, .string (bs t.text), .slice pk t.keys.length ck, .slice p t.items.length c] 26);have d:Hid (Below w.heap.size w W1):=hid (by rw[<-k];exact aI _ _);have i:Hid (cV W1 X t (.slice pk t.keys.length ck) (.slice p t.items.length c)):=hid (by rw[<-k,<-C];exact cV.new w t _ _);have CI:Hid (∀w',Below W1.heap.size W1 w'->Calls Tryz.prog 41 #[.string (bs s)] w' λe w2=>e= .returned (.tuple #[.int .i64 (fF s).1, .bool (fF s).2])/\Below w'.heap.size w' w2):=hid (λw' g=>Nw s w' ((hS.keep d.out).keep g));have CX:Hid (∀w',Below W1.heap.size W1 w'->Calls Tryz.prog 117 #[.slice pk t.keys.length ck, .string (bs s)] w' λe w2=>e= .returned (.int .i64 (Lib.idxOfS (t.keys.map bs) (bs s)))/\Below w'.heap.size w' w2):=hid (λw' g=>aBn _ t.keys s w' ⟨pk,ck,rfl,r,(j.keep d.out).keep g⟩ hk);obtain⟨R,f⟩:=exQ<|jR t s;rw[f];unfold jR at f;obtain⟨K,D⟩:=exQ<|t.kind;obtain⟨⟨a,y⟩,o⟩:=exQ<|fF s;obtain⟨ni,u⟩:=exQ<|t.items.length;obtain⟨nk,m⟩:=exQ<|t.keys.length;obtain⟨q,A⟩:=exQ<|Lib.idxOfS (t.keys.map bs) (bs s);unfold cV at i;unfold vv;rw[D,o,u,A] at f;rw[D,m,u] at i k ⊢;rw[o] at CI;rw[m,A] at CX;simp only[] at f CI;clear h j v hS o A E r B m;go_enter Tryz.func87,Tryz.ntmps87;go_upto_region 1 with fail;clear k C;obtain⟨b0,b1,b2,b3,_⟩:=bC i.out;by_cases h6:K=6
 ·rw[if_pos h6] at f;have e6:(K==6)=true:=by simpa using h6
  have e6b:((6:Int)==K)=true:=by rw[h6];rfl
  subst f;clear h6;go_wp2_with fail;refine(CX.out _ (by first | exact aB _ _ | exact(aB _ _).drew)).mono ?_;rintro e w2 ⟨rfl,g⟩;have b:Hid (Below w.heap.size w w2):=hid (by first | exact aC d.out g | exact aC d.out.drew g | exact aC d.out (aC (aB _ _).drew g));clear g b0 b1 b2 b3;go_wp2_with fail;go_ret;exact⟨rfl,by first | exact b.out | exact b.out.drew⟩
 rw[if_neg h6] at f;have e6:(K==6)=false:=aK.2 h6;by_cases h5:K=5;rotate_left
 ·rw[if_neg h5] at f;have e5:(K==5)=false:=aK.2 h5;subst f;clear h5 h6;go_wp2_with fail;go_ret;exact⟨rfl,by first | exact d.out | exact d.out.drew⟩
 rw[if_pos h5] at f;have e5:(K==5)=true:=by simpa using h5
 clear h5 h6;go_wp2_with fail;refine(CI.out _ (by first | exact aB _ _ | exact(aB _ _).drew)).mono ?_;rintro e w2 ⟨rfl,g⟩;have l:Hid (Below W1.heap.size W1 w2):=hid (by first | exact g | exact aC (aB _ _).drew g);have b:Hid (Below w.heap.size w w2):=hid (aC d.out l.out);clear g b0 b1 b2 b3;have x:=hid ((l.out.block X (aF i.out)).trans i.out);obtain⟨b0,b1,b2,b3,_⟩:=bC x.out;cases y with
 | false=>
  rw[if_neg (by simp)] at f;subst f;go_wp2_with fail;go_ret;exact⟨rfl,by first | exact b.out | exact b.out.drew⟩
 | true=>
  by_cases hlt:a<(ni:Int)
  ·have el:decide (a<(ni:Int))=true:=aM hlt;rw[if_pos ⟨rfl,hlt⟩] at f;subst f;go_wp2_with fail;go_ret;exact⟨rfl,by first | exact b.out | exact b.out.drew⟩
  ·have el:decide (a<(ni:Int))=false:=aH hlt;rw[if_neg (by rintro⟨_,h⟩;exact hlt h)] at f;subst f;go_wp2_with fail;go_ret;exact⟨rfl,by first | exact b.out | exact b.out.drew⟩
end
section
open Go.Lib hiding intOf
theorem Eu (s:aA):0<=(fF s).1:=by
 unfold fF;split
 ·cases ha:Lib.atoi s with
  | none=>exact Int.le_refl _
  | some n=>
   simp only[];split
   ·exact Int.le_refl _
   ·rename_i b;simp only[];cases s with
    | nil=>cases ha
    | cons c r=>
     unfold Lib.atoi at ha;simp only[] at ha;split at ha
     ·rename_i a;exfalso;apply b;have:c=45:=(by simpa using a);unfold Lib.containsAny Lib.indexAny;rw[this,if_pos (by decide)];rfl
     ·split at ha
      ·cases hd:Lib.decNat r with
       | none=>rw[hd] at ha;cases ha
       | some m=>
        rw[hd] at ha;have:=bD ha;rw[<-this];exact Int.natCast_nonneg m
      ·cases hd:Lib.decNat (c::r) with
       | none=>rw[hd] at ha;cases ha
       | some m=>
        rw[hd] at ha;have:=bD ha;rw[<-this];exact Int.natCast_nonneg m
 ·exact Int.le_refl _
def xK (s:aA) (ns:List aG) (st:aA) (q:Nat):Bool:=match ns[q]? with
 | some y=>decide ((lT s y).2=0/\(lT s y).1=st)
 | none=>false
def lU (s:aA) (ns:List aG) (x:aG) (st:aA):Option Nat:=
 if x.kind=2 then(if(fF st).2=true/\(fF st).1<(x.kids.length:Int) then x.kids[(fF st).1.toNat]? else none)
 else x.kids.find? (xK s ns st)
end
section
open Go.RowKit
open Go.Lib hiding intOf
def aBp (o:Option Nat):Ending:=match o with
 | some q=> .returned (.tuple #[.int .i64 (q:Int), .bool true])
 | none=> .returned (.tuple #[.int .i64 0, .bool false])
theorem aBq (B:Nat) (s:aA) (d:cF) (lv:Value) (gn n cn k:Nat) (x:aG) (st:aA) (w:World) (h:fE B d lv (.slice (some ⟨gn,0,none⟩) n cn) w) (hx:d.nodes[k]?=some x) (hq: ∀q∈x.kids,q<d.nodes.length) (hm:x.kids.length<=131072) (hn2:n<=131072) (hs:s.length<=65536) (hV:bU w):
  Calls Tryz.prog 20 #[.agg #[.string (bs s),lv, .slice (some ⟨gn,0,none⟩) n cn], .int .i64 (k:Int), .string (bs st)] w λe w'=>e=aBp (lU s d.nodes x st)/\Below w.heap.size w w':=by
 obtain⟨N,pk,ck,b,A⟩:=h.nodeAt hx;have hkn:k<n:=by rw[N];exact(aR.1 hx).1
 obtain⟨m,E⟩:=exQ<|x.kids.length;rw[E] at b hm;have y0:=b 0 _ (by omega) rfl;have y1:=b 1 _ (by omega) rfl;have y2:=b 2 _ (by omega) rfl;have y3:=b 3 _ (by omega) rfl;have y4:=b 4 _ (by omega) rfl;have y5:=b 5 _ (by omega) rfl;have y6:=b 6 _ (by omega) rfl;have y7:=b 7 _ (by omega) rfl;have y8:=b 8 _ (by omega) rfl;simp only[Nat.add_zero] at y0;obtain⟨D,O⟩:=exQ<|w.heap.size;have b3:=aI w (.cells #[.string (bs s),lv, .slice (some ⟨gn,0,none⟩) n cn] 36);have x3:=heap_alloc_new w (.cells #[.string (bs s),lv, .slice (some ⟨gn,0,none⟩) n cn] 36);obtain⟨w3,H⟩:=exQ<|w.alloc (.cells #[.string (bs s),lv, .slice (some ⟨gn,0,none⟩) n cn] 36);rw[H] at b3 x3;rw[O] at x3;have y0:=bH y0 b3;have y1:=bH y1 b3;have y2:=bH y2 b3;have y3:=bH y3 b3;have y4:=bH y4 b3;have y5:=bH y5 b3;have y6:=bH y6 b3;have y7:=bH y7 b3;have y8:=bH y8 b3;have Y:=hid b3;have HX3:=hid x3;have k3:(0:Int)<=(k:Int):=by omega
 have k4:(k:Int)<(n:Int):=by omega
 obtain⟨c0,c1,c2,_⟩:=gJ x3;have P:=hid h;have HHx:=hid hx;have V:=hid (aJ A hq);have T:=hid E;have Z:=hid hV;clear b3 x3 h hx b N hV A hq E;obtain⟨R,g⟩:=exQ<|lU s d.nodes x st;rw[g];have K:=hid g;clear g;go_enter Tryz.func20,Tryz.ntmps20;go_upto_region 1 with fail;clear H O;obtain⟨X,t⟩:=exQ<|w3.heap.size;have b4:=aI w3 (.cells #[.int .i64 (x.kind:Int), .int .i64 x.ind, .int .i64 (x.fr:Int), .int .i64 (x.til:Int), .int .i64 x.kf, .int .i64 x.kt, .int .i64 x.rf, .int .i64 x.rt, .slice pk m ck] 62);have x4:=heap_alloc_new w3 (.cells #[.int .i64 (x.kind:Int), .int .i64 x.ind, .int .i64 (x.fr:Int), .int .i64 (x.til:Int), .int .i64 x.kf, .int .i64 x.kt, .int .i64 x.rf, .int .i64 x.rt, .slice pk m ck] 62);obtain⟨w4,r⟩:=exQ<|w3.alloc (.cells #[.int .i64 (x.kind:Int), .int .i64 x.ind, .int .i64 (x.fr:Int), .int .i64 (x.til:Int), .int .i64 x.kf, .int .i64 x.kt, .int .i64 x.rf, .int .i64 x.rt, .slice pk m ck] 62);rw[r] at b4 x4;rw[t] at x4;have p:=hid (aC Y.out b4);have HX4:=hid x4;have z0:w4.cell? ⟨X,0,none⟩=some (.int .i64 (x.kind:Int)):=by simp[World.cell?,x4]
 have z8:w4.cell? ⟨X,8,none⟩=some (.slice pk m ck):=by simp[World.cell?,x4]
 clear b4 x4;by_cases h2:x.kind=2
 ·have g2:((x.kind:Int)==2)=true:=by rw[h2];rfl
  have CI:=hid (Nw st w4 ((Z.out.keep p.out).2));have M:=Eu st;have g:=K.out;unfold lU at g;rw[if_pos h2,T.out] at g;obtain⟨⟨a,y⟩,Q⟩:=exQ<|fF st;rw[Q] at CI g M;simp only[] at g CI M;have U:=hid g;clear g Q h2;go_wp2_with fail;refine CI.out.mono ?_;rintro e w5 ⟨rfl,l⟩;have c:=hid (aC p.out l);have z8:=bH z8 l;have HB45:=hid l;clear l;cases y with
  | false=>
   have g:=U.out;rw[if_neg (by simp)] at g;subst g;go_wp2_with fail;clear r t;go_ret2;exact⟨rfl,by first | exact c.out | exact c.out.drew⟩
  | true=>
   by_cases z:a<(m:Int)
   ·have el:decide ((m:Int)<=a)=false:=aH (by omega);have g:=U.out;rw[if_pos ⟨rfl,z⟩] at g;obtain⟨j,rfl⟩: ∃j:Nat,a=(j:Int):=⟨a.toNat,by omega⟩;rw[fT] at g;obtain⟨q,o⟩: ∃q,x.kids[j]?=some q:=⟨_,bE (by rw[T.out];omega)⟩;rw[o] at g;subst g;obtain⟨gk,rfl,kc⟩:=V.out.1 j q o;have kc:=bH kc (show Below w.heap.size w w5 from c.out);clear o;go_wp2_with fail;clear r t;go_ret2;exact⟨rfl,by first | exact c.out | exact c.out.drew⟩
   ·have el:decide ((m:Int)<=a)=true:=aM (by omega);have g:=U.out;rw[if_neg (by rintro⟨_,h⟩;exact z h)] at g;subst g;go_wp2_with fail;clear r t;go_ret2;exact⟨rfl,by first | exact c.out | exact c.out.drew⟩
 ·have g2:((x.kind:Int)==2)=false:=aK.2 (by omega);have g:=K.out;unfold lU at g;rw[if_neg h2] at g;obtain⟨Pq,F⟩:=exQ<|xK s d.nodes st;rw[F] at g;have W:=hid F;have S:Hid ((x.kids.drop 0).find? Pq=R/\Below w4.heap.size w4 w4):=hid ⟨by rw[List.drop_zero];exact g,aB _ _⟩;have CK:Hid (∀(q:Nat) (y:aG),d.nodes[q]?=some y-> ∀w',Below w4.heap.size w4 w'->Calls Tryz.prog 42 #[.agg #[.string (bs s),lv, .slice (some ⟨gn,0,none⟩) n cn], .int .i64 (q:Int)] w' λe w2=>e= .returned (.tuple #[.string (bs (lT s y).1), .bool ((lT s y).2==0)])/\Below w'.heap.size w' w2):=hid (λq y G w' l=>aAP B s d lv gn n cn q y w' ((P.out.keep p.out).keep l) G hn2 hs ((Z.out.keep p.out).keep l));have HD:Hid (∀w',Below w4.heap.size w4 w'->w'.cell? ⟨D,0,none⟩=some (.string (bs s))/\w'.cell? ⟨D,1,none⟩=some lv/\w'.cell? ⟨D,2,none⟩=some (.slice (some ⟨gn,0,none⟩) n cn)):=hid (λw' l=>by have C:Below w3.heap.size w3 w':=aC (by rw[<-r];exact aI _ _) l;exact⟨bH c0 C,bH c1 C,bH c2 C⟩);clear g F h2;go_wp2_with fail;clear r t z0 z8 c0 c1 c2 y0 y1 y2 y3 y4 y5 y6 y7 y8 k3 k4;go_loopw [45] (λs45 wr=> ∃i:Nat,s45= .int .i64 (i:Int)/\i<=m/\Hid ((x.kids.drop i).find? Pq=R/\Below w4.heap.size w4 wr)) (λs45 _=>m-(RowKit.intOf s45).toNat)
  case atStart=>exact⟨0,rfl,bM _,by first | exact S | exact hid ⟨S.out.1,(aB _ _).drew⟩⟩
  case round=>
   obtain⟨i,rfl,hi,v⟩:=hrel;obtain⟨c0,c1,c2⟩:=HD.out wr v.out.2;by_cases hil:i<m
   ·obtain⟨q,o⟩: ∃q,x.kids[i]?=some q:=⟨_,bE (by have:=T.out;omega)⟩;obtain⟨gk,rfl,kc⟩:=V.out.1 i q o;have kc:=bH (bH kc p.out) v.out.2;obtain⟨y,G⟩: ∃y,d.nodes[q]?=some y:=⟨_,bE (V.out.2 q (aX o))⟩;have L:(x.kids.drop i).find? Pq=if Pq q=true then some q else(x.kids.drop (i+1)).find? Pq:=by
     obtain⟨z,he⟩:=aR.1 o;rw[iH z,List.find?_cons,he];cases Pq q<;>rfl
    have u:Pq q=decide ((lT s y).2=0/\(lT s y).1=st):=by
     rw[<-W.out];unfold xK;rw[G]
    have CKq:=hid (CK.out q y G wr v.out.2);obtain⟨⟨K1,K2⟩,J⟩:=exQ<|lT s y;rw[J] at CKq u;simp only[] at CKq u;have f:=v.out.1;rw[L,u] at f;have di:decide ((i:Int)<(m:Int))=true:=aM (by omega);have i0:(0:Int)<=(i:Int):=(by omega);have i1:(i:Int)<(m:Int):=(by omega);clear o G L u J;by_cases h0:K2=0
    ·subst h0;by_cases hst:K1=st
     ·subst hst;rw[if_pos (by simp)] at f;subst f;have e2:((bs K1).toList==(bs K1).toList)=true:=beq_self_eq_true _;have e1:((0:Int)==0)=true:=rfl;go_wp2_with fail;refine CKq.out.mono ?_;rintro e w5 ⟨rfl,l⟩;have c:=hid (aC p.out (aC v.out.2 l));clear l kc c0 c1 c2;go_wp2_with fail;go_ret2;exact⟨rfl,by first | exact c.out | exact c.out.drew⟩
     ·rw[if_neg (by simp[hst])] at f;have I: ¬bs K1=bs st:=λh=>hst (xR h);have e2:((bs K1).toList==(bs st).toList)=false:=(bytes_beq_false_iff _ _).2 I;have e1:((0:Int)==0)=true:=rfl;have f:=hid f;clear I;go_wp2_with fail;refine CKq.out.mono ?_;rintro e w5 ⟨rfl,l⟩;have c:=hid (aC v.out.2 l);clear l kc c0 c1 c2;go_wp2_with fail;go_roundw
      case rel=>exact⟨i+1,by go_num,by omega,hid ⟨f.out,by first | exact c.out | exact c.out.drew⟩⟩
      case measure=>simp[RowKit.intOf];omega
    ·rw[if_neg (by simp[h0])] at f;have e1:(K2==0)=false:=aK.2 h0;have f:=hid f;clear h0;go_wp2_with fail;refine CKq.out.mono ?_;rintro e w5 ⟨rfl,l⟩;have c:=hid (aC v.out.2 l);clear l kc c0 c1 c2;go_wp2_with fail;go_roundw
     case rel=>exact⟨i+1,by go_num,by omega,hid ⟨f.out,by first | exact c.out | exact c.out.drew⟩⟩
     case measure=>simp[RowKit.intOf];omega
   ·have di:decide ((i:Int)<(m:Int))=false:=aH (by omega);have f:=v.out.1;rw[List.drop_eq_nil_of_le (by have:=T.out;omega)] at f;have f:none=R:=f;subst f;have c:=hid (aC p.out v.out.2);clear c0 c1 c2;go_wp2_with fail;go_ret2;exact⟨rfl,by first | exact c.out | exact c.out.drew⟩
end
end Go.Proofs.YtaifnmjjpddikaaGreatDoor
