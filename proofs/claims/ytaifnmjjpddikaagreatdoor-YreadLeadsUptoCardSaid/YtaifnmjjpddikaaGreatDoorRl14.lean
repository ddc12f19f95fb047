import Derived.Test.YtaifnmjjpddikaaGreatDoorRl13
import Derived.Test.YtaifnmjjpddikaaGreatDoorRl12
import Derived.Test.YtaifnmjjpddikaaGreatDoorRl11
set_option maxRecDepth 100000
set_option maxHeartbeats 4000000
namespace Go.Proofs.YtaifnmjjpddikaaGreatDoor
set_option linter.unusedSimpArgs false
set_option linter.unusedVariables false
open Go.RowKit
open Go.Lib hiding intOf
def dP:VT:= .mk 0 [] [] []
def kH (s:aA):VT:= .mk 4 s [] []
def kI (s:aA):VT:= .mk (pJ s).1 (pJ s).2 [] []
def fK (s:aA):VT×Int×Int:=if(fN s).2.2≠0 then(dP,(fN s).2.1,(fN s).2.2) else(bN s (fN s).1 32 0,(fN s).2.1,0)
def uV (t:aA):aA×Int:=if(kD t 0).2.2≠0\/(kD t 0).2.1≠(t.length:Int) then([],2) else((kD t 0).1,0)
def nA (t:aA):aA×Int:=if t.head?=some 39 then uV t else((dM t).1,(dM t).2.2)
def fP (t:aA):VT×Int:=match t with
 | []=>(kI [],0)
 | c::r=>if c=34\/c=39 then(if(nA (c::r)).2≠0 then(dP,(nA (c::r)).2) else(kH (nA (c::r)).1,0))
  else if c=91\/c=123 then((fK (c::r)).1,(fK (c::r)).2.2)
  else if rP (c::r) then(kI (c::r),0) else(dP,2)
def jO (t:aA):aA×Int:=match t with
 | []=>([],2)
 | c::r=>if c=34\/c=39 then nA (c::r) else if rP (c::r) then(c::r,0) else([],2)
theorem Wz (t:aA) (w:World) (hs:t.length<=1073741824) (hT:bZ w):
  Calls Tryz.prog 118 #[.string (bs t)] w λe w'=>e=nW (uV t)/\Below w.heap.size w w':=by
 have sl:=aT t;have C1:=hid (Kf t 0 w hs hT);unfold lZ at C1;unfold nW uV;obtain⟨⟨S,k,er⟩,c⟩:=exQ<|kD t 0;rw[c] at C1;rw[c];clear c hT;simp only[];by_cases he:er=0
 ·subst he;by_cases hk:k=(t.length:Int)
  ·have dk:(k !=(t.length:Int))=false:=(by simp[hk]);rw[if_neg (by simp[hk])];go_enter Tryz.func118,Tryz.ntmps118;go_wp2_with fail;refine C1.out.mono ?_;rintro e w1 ⟨rfl,a⟩;have b:=hid a;clear a;go_wp2_with fail;go_ret2;exact⟨rfl,b.out⟩
  ·have dk:(k !=(t.length:Int))=true:=(by simp[hk]);rw[if_pos (.inr hk)];go_enter Tryz.func118,Tryz.ntmps118;go_wp2_with fail;refine C1.out.mono ?_;rintro e w1 ⟨rfl,a⟩;have b:=hid a;clear a hk;go_wp2_with fail;go_ret2;exact⟨rfl,b.out⟩
 ·have de:(er !=0)=true:=by simp[he]
  rw[if_pos (.inl he)];go_enter Tryz.func118,Tryz.ntmps118;go_wp2_with fail;refine C1.out.mono ?_;rintro e w1 ⟨rfl,a⟩;have b:=hid a;clear a he;go_wp2_with fail;go_ret2;exact⟨rfl,b.out⟩
theorem Kq (t:aA) (c:UInt8) (r:aA) (ht:c::r=t) (w:World) (hs:t.length<=1073741824) (hV:bU w):
  Calls Tryz.prog 91 #[.string (bs t)] w λe w'=>e=nW (nA t)/\Below w.heap.size w w':=by
 have sl:=aT t;have g:0<t.length:=by rw[<-ht];simp
 have hc0:(bs t)[0]'(by rw[aT];exact g)=c:=by
  subst ht;rfl
 have f:t.head?=some c:=by rw[<-ht];rfl
 have C1:=hid (Wz t w hs hV.tabs);have C2:=hid (xV t w hs hV.2 hV.tabs);unfold lZ at C2;unfold nA;rw[f];clear hV f ht;by_cases h39:c=39
 ·have d39:((c.toNat:Int)==39)=true:=by rw[h39];rfl
  rw[if_pos (by rw[h39])];unfold nW at C1 ⊢;obtain⟨⟨S,er⟩,b⟩:=exQ<|uV t;rw[b] at C1;rw[b];clear b h39;go_enter Tryz.func91,Tryz.ntmps91;go_wp2_with fail;refine C1.out.mono ?_;rintro e w1 ⟨rfl,a⟩;have d:=hid a;clear a;go_wp2_with fail;go_ret2;exact⟨rfl,d.out⟩
 ·have d39:((c.toNat:Int)==39)=false:=aK.2 (λe=>h39 (UInt8.toNat_inj.1 (by exact_mod_cast e)));rw[if_neg (by simpa using h39)];unfold nW;obtain⟨⟨S,k,er⟩,b⟩:=exQ<|dM t;rw[b] at C2;rw[b];clear b h39;go_enter Tryz.func91,Tryz.ntmps91;go_wp2_with fail;refine C2.out.mono ?_;rintro e w1 ⟨rfl,a⟩;have d:=hid a;clear a;go_wp2_with fail;go_ret2;exact⟨rfl,d.out⟩
theorem uW (c d:UInt8):((c.toNat:Int)==(d.toNat:Int))=(c==d):=by
 by_cases h:c=d
 ·subst h;simp
 ·rw[aK.2 h];exact aK.2 (λe=>h (UInt8.toNat_inj.1 (by exact_mod_cast e)))
theorem Ct (t:aA) (w:World) (hs:t.length<=1073741824) (hV:bU w):
  Calls Tryz.prog 52 #[.string (bs t)] w λe w'=>e=nW (jO t)/\Below w.heap.size w w':=by
 have sl:=aT t;cases t with
 | nil=>
  have e0:((bs ([]:aA)).toList== [])=true:=nX [];have e0b:(bs ([]:aA)).toList.isEmpty=true:=mY [];unfold jO nW;go_enter Tryz.func52,Tryz.ntmps52;go_wp2_with fail;go_ret2;exact⟨rfl,aB _ _⟩
 | cons c r=>
  have C1:=hid (Kq (c::r) c r rfl w hs hV);have C2:=hid (Kk (c::r) w hs hV.1);have q34:=uW c 34;have q39:=uW c 39;unfold jO nW at *;simp only[];obtain⟨t,f⟩:=exQ<|c::r;have g:0<t.length:=by rw[<-f];simp
  have hc0:(bs t)[0]'(by rw[aT];exact g)=c:=by
   subst f;rfl
  have d:t≠ []:=by rw[<-f];simp
  have e0:((bs t).toList== [])=false:=by rw[nX];cases t<;>simp at d ⊢
  have e0b:(bs t).toList.isEmpty=false:=by rw[mY];cases t<;>simp at d ⊢
  rw[f] at hs sl C1 C2 ⊢;obtain⟨⟨S,er⟩,i⟩:=exQ<|nA t;rw[i] at C1;rw[i];obtain⟨B,h⟩:=exQ<|rP t;rw[h] at C2;rw[h];clear i f hV h d;by_cases h34:c=34
  ·have d34:((c.toNat:Int)==34)=true:=by rw[h34];rfl
   rw[if_pos (.inl h34)];clear h34 q34 q39;go_enter Tryz.func52,Tryz.ntmps52;go_wp2_with fail;refine C1.out.mono ?_;rintro e w1 ⟨rfl,a⟩;have b:=hid a;clear a;go_wp2_with fail;go_ret2;exact⟨rfl,b.out⟩
  have d34:((c.toNat:Int)==34)=false:=aK.2 (λe=>h34 (UInt8.toNat_inj.1 (by exact_mod_cast e)));by_cases h39:c=39
  ·have d39:((c.toNat:Int)==39)=true:=by rw[h39];rfl
   rw[if_pos (.inr h39)];clear h34 h39 q34 q39;go_enter Tryz.func52,Tryz.ntmps52;go_wp2_with fail;refine C1.out.mono ?_;rintro e w1 ⟨rfl,a⟩;have b:=hid a;clear a;go_wp2_with fail;go_ret2;exact⟨rfl,b.out⟩
  have d39:((c.toNat:Int)==39)=false:=aK.2 (λe=>h39 (UInt8.toNat_inj.1 (by exact_mod_cast e)));rw[if_neg (by simp[h34,h39])];clear h34 h39 q34 q39;cases B with
  | true=>
   rw[if_pos rfl];go_enter Tryz.func52,Tryz.ntmps52;go_wp2_with fail;refine C2.out.mono ?_;rintro e w1 ⟨rfl,a⟩;have b:=hid a;clear a;go_wp2_with fail;go_ret2;exact⟨rfl,b.out⟩
  | false=>
   rw[if_neg (by simp)];go_enter Tryz.func52,Tryz.ntmps52;go_wp2_with fail;refine C2.out.mono ?_;rintro e w1 ⟨rfl,a⟩;have b:=hid a;clear a;go_wp2_with fail;go_ret2;exact⟨rfl,b.out⟩
def qN (t:VT) (a er:Int) (w:World) (e:Ending) (w':World):Prop:=(∃kv iv,e= .returned (.tuple #[vv t kv iv, .int .i64 a, .int .i64 er])/\eZ w.heap.size w' t.depth t kv iv)/\Below w.heap.size w w'
def yX (t:VT) (er:Int) (w:World) (e:Ending) (w':World):Prop:=(∃kv iv,e= .returned (.tuple #[vv t kv iv, .int .i64 er])/\eZ w.heap.size w' t.depth t kv iv)/\Below w.heap.size w w'
theorem pL (B:Nat) (w:World) (k:Int) (s:aA):eZ B w (VT.mk k s [] []).depth (VT.mk k s [] []) (.slice none 0 0) (.slice none 0 0):=by
 rw[VT.depth];exact⟨⟨none,0,rfl,aE _, .inl rfl⟩,none,0,rfl,aE _, .inl rfl⟩
theorem iT {w W w':World}{R:Nat}{t:VT}{k0:Int}{t0:aA}{a b kv iv:Value} (hb:Below w.heap.size w W) (hR:w.heap.size<=R) (hRW:R<W.heap.size) (hv:eZ W.heap.size w' t.depth t kv iv) (hb2:Below W.heap.size W w') (hc:W.heap[R]?=some (.cells #[.int .i64 k0, .string (bs t0),a,b] 26)):
  eZ w.heap.size (bG w' R t.kind t.text kv iv) t.depth t kv iv/\Below w.heap.size w (bG w' R t.kind t.text kv iv)/\(bG w' R t.kind t.text kv iv).heap[R]?=some (.cells #[.int .i64 t.kind, .string (bs t.text),kv,iv] 26):=
 ⟨hv.agree (λq c _=>⟨qL (by omega),aY hb.size c⟩),pK (aC hb hb2) hR,rQ ((hb2.block R hRW).trans hc)⟩
theorem Xa {s:aA}{ns:List aD}{a:Int} (h:fN s=(ns,a,0)):s.length<=65536:=by
 unfold fN eR at h;by_cases hl:65536<s.length
 ·simp[hl] at h
 ·omega
theorem Xb (s:aA) (w:World) (hs0:s.length<=4611686018427387904) (hV:bU w):
  Calls Tryz.prog 6 #[.string (bs s)] w (qN (fK s).1 (fK s).2.1 (fK s).2.2 w):=by
 obtain⟨R,E⟩:=exQ<|w.heap.size;obtain⟨W1,j⟩:=exQ<|w.alloc (.cells #[.int .i64 0, .string ⟨#[]⟩, .slice none 0 0, .slice none 0 0] 26);have r:Hid (Below w.heap.size w W1):=hid (by rw[<-j];exact aI _ _);have i:Hid (W1.heap[R]?=some (.cells #[.int .i64 0, .string (bs []), .slice none 0 0, .slice none 0 0] 26)):=hid (by rw[<-j,<-E];exact heap_alloc_new w _);have k:=hid (aF i.out);have C:=hid (hV.keep r.out);have CP:=hid (Vu s _ rfl W1 (by omega) C.out.2 C.out.tabs);have b:(fN s).2.2=0->(fN s).1.length<=65536:=λ_=>Ch s;unfold fK;obtain⟨⟨ns,at_,er⟩,hP⟩:=exQ<|fN s;rw[hP] at CP b;rw[hP];simp only[] at b ⊢;have A:=hid hP;unfold Jt at CP;simp only[] at CP;clear hV hP;by_cases he:er=0
 ·subst he;rw[if_neg (by simp)];simp only[];have J:s.length<=1073741824:=by have:=Xa A.out;omega
  have F:=hid (vV A.out);have u:wI s ns=s:=by
   have:=F.out.lt;cases ns with
   | nil=>simp at this
   | cons _ _=>rfl
  rw[u] at CP;have G:=b rfl;have I:=hid G;clear b u G;go_enter Tryz.func6,Tryz.ntmps6;go_upto_region 1 with fail;clear j;go_wp2_with fail;refine CP.out.mono ?_;rintro e w1 ⟨p,c,rfl,l,g⟩;have o:=aI w1 (.cells #[.string (bs s), .slice p ns.length c] 49);have m:=aC g o;have y:=hid m;have x:=hid (Ko s ns p c I.out J 32 0 ns.length 1 _ F.out (hid rfl) (aE _) (l.keep o) (C.out.keep m));clear l g o m CP;go_wp2_with fail;refine x.out.mono ?_;rintro e w4 ⟨⟨kv,iv,rfl,n⟩,z⟩;obtain⟨pk,ck,px,cx,rfl,rfl⟩:=n.form;have h:=hid (aC y.out z);have B:=hid (n.mono (ok':=λq=>W1.heap.size<=q) (λq H _=>aY y.out.size H));have a:=hid (iT r.out (by rw[E];exact aE _) k.out B.out h.out i.out);obtain⟨r0,r1,r2,r3,f0,f1,f2,f3⟩:=bC ((h.out.block R k.out).trans i.out);unfold vv;clear n z x;go_wp2_with fail;obtain⟨WF,f⟩:=exQ<|bG w4 R (bN s ns 32 0).kind (bN s ns 32 0).text (.slice pk (bN s ns 32 0).keys.length ck) (.slice px (bN s ns 32 0).items.length cx);rw[f] at a;have d:(((w4.setCell ⟨R,0,none⟩ (.int .i64 (bN s ns 32 0).kind)).setCell ⟨R,1,none⟩ (.string (bs (bN s ns 32 0).text))).setCell ⟨R,2,none⟩ (.slice pk (bN s ns 32 0).keys.length ck)).setCell ⟨R,3,none⟩ (.slice px (bN s ns 32 0).items.length cx)=WF:=f;rw[d];clear f d r0 r1 r2 r3 f0 f1 f2 f3;obtain⟨d0,d1,d2,d3,_⟩:=bC a.out.2.2;refine bodyPost_ret (v:= .tuple #[vv (bN s ns 32 0) (.slice pk (bN s ns 32 0).keys.length ck) (.slice px (bN s ns 32 0).items.length cx), .int .i64 at_, .int .i64 0]) ?_ rfl ⟨⟨_,_,rfl,a.out.1⟩,a.out.2.1⟩;simp[results,Tryz.results6,go_sem,d0,d1,d2,d3,vv]
 ·rw[if_pos he];simp only[];have de:(er !=0)=true:=by simp[he]
  clear b A;go_enter Tryz.func6,Tryz.ntmps6;go_upto_region 1 with fail;clear j;go_wp2_with fail;refine CP.out.mono ?_;rintro e w1 ⟨p,c,rfl,l,g⟩;have HB1':=hid g;obtain⟨w4,D⟩:=exQ<|w1.alloc (.cells #[.string (bs (wI s ns)), .slice p ns.length c] 49);have h:Hid (Below W1.heap.size W1 w4):=hid (aC g (by rw[<-D];exact aI _ _));have a:=hid (iT (t:=dP) r.out (by rw[E];exact aE _) k.out (pL _ _ _ _) h.out i.out);obtain⟨r0,r1,r2,r3,f0,f1,f2,f3⟩:=bC ((h.out.block R k.out).trans i.out);clear l g CP;go_wp2_with fail;obtain⟨WF,f⟩:=exQ<|bG w4 R dP.kind dP.text (.slice none 0 0) (.slice none 0 0);rw[f] at a;have d:(((w4.setCell ⟨R,0,none⟩ (.int .i64 0)).setCell ⟨R,1,none⟩ (.string ⟨#[]⟩)).setCell ⟨R,2,none⟩ (.slice none 0 0)).setCell ⟨R,3,none⟩ (.slice none 0 0)=WF:=f;rw[d];clear f d r0 r1 r2 r3 f0 f1 f2 f3;obtain⟨d0,d1,d2,d3,_⟩:=bC a.out.2.2;refine bodyPost_ret (v:= .tuple #[vv dP (.slice none 0 0) (.slice none 0 0), .int .i64 at_, .int .i64 er]) ?_ rfl ⟨⟨_,_,rfl,a.out.1⟩,a.out.2.1⟩;simp[results,Tryz.results6,go_sem,d0,d1,d2,d3,vv]
theorem Kr (s:aA) (w:World) (hs:s.length<=1073741824) (hV:bU w):
  Calls Tryz.prog 6 #[.string (bs s)] w (qN (fK s).1 (fK s).2.1 (fK s).2.2 w):=Xb s w (by omega) hV
theorem Ks (t:aA) (w:World) (hs:t.length<=1073741824) (hV:bU w):
    Calls Tryz.prog 48 #[.string (bs t)] w (yX (fP t).1 (fP t).2 w):=by
  have sl:=aT t;obtain⟨R,D⟩:=exQ<|w.heap.size;obtain⟨W1,n⟩:=exQ<|w.alloc (.cells #[.int .i64 0, .string ⟨#[]⟩, .slice none 0 0, .slice none 0 0] 26);have p:Hid (Below w.heap.size w W1):=hid (by rw[<-n];exact aI _ _);have m:Hid (W1.heap[R]?=some (.cells #[.int .i64 0, .string (bs []), .slice none 0 0, .slice none 0 0] 26)):=hid (by rw[<-n,<-D];exact heap_alloc_new w _);have l:=hid (aF m.out);have u:Hid (w.heap.size<=R):=hid (by rw[D];exact aE _);have J:=hid (hV.keep p.out);have CRes:Hid (∀(s:aA) w',s.length<=1073741824->Below W1.heap.size W1 w'->Calls Tryz.prog 90 #[.string (bs s)] w' λe w2=>e=yW s/\Below w'.heap.size w' w2):=hid (λs w' h z=>Wt s w' h (J.out.keep z).1);have COf:Hid (∀(s:aA) w',Calls Tryz.prog 51 #[.string (bs s)] w' λe w2=>e= .returned (.agg #[.int .i64 4, .string (bs s), .slice none 0 0, .slice none 0 0])/\Below w'.heap.size w' w2):=hid (λs w'=>Cr s w');unfold yW at CRes;cases t with
  | nil=>
    have e0:((bs ([]:aA)).toList== [])=true:=nX [];have e0b:(bs ([]:aA)).toList.isEmpty=true:=mY [];show Calls _ _ _ _ (yX (kI []) 0 w);have CR:=hid (λw' z=>CRes.out [] w' (by decide) z);obtain⟨⟨rk,rs⟩,q⟩:=exQ<|pJ [];have x:kI []= .mk rk rs [] []:=by unfold kI;rw[q]
    rw[q] at CR;rw[x];clear q x CRes;clear hV;go_enter Tryz.func48,Tryz.ntmps48;go_upto_region 1 with fail;clear n D;go_wp2_with fail;refine(CR.out _ (aB _ _)).mono ?_;rintro e w2 ⟨rfl,g⟩;have k:=hid g;clear g;have i:=hid (iT (t:=VT.mk rk rs [] []) p.out u.out l.out (pL _ _ _ _) k.out m.out);obtain⟨r0,r1,r2,r3,f0,f1,f2,f3⟩:=bC ((k.out.block R l.out).trans m.out);go_wp2_with fail;obtain⟨WF,b⟩:=exQ<|bG w2 R rk rs (.slice none 0 0) (.slice none 0 0);have f:eZ w.heap.size (bG w2 R rk rs (.slice none 0 0) (.slice none 0 0)) (VT.mk rk rs [] []).depth (VT.mk rk rs [] []) (.slice none 0 0) (.slice none 0 0)/\Below w.heap.size w (bG w2 R rk rs (.slice none 0 0) (.slice none 0 0))/\(bG w2 R rk rs (.slice none 0 0) (.slice none 0 0)).heap[R]?=some (.cells #[.int .i64 rk, .string (bs rs),(.slice none 0 0),(.slice none 0 0)] 26):=i.out;rw[b] at f;have a:=hid f;have d:(((w2.setCell ⟨R,0,none⟩ (.int .i64 rk)).setCell ⟨R,1,none⟩ (.string (bs rs))).setCell ⟨R,2,none⟩ (.slice none 0 0)).setCell ⟨R,3,none⟩ (.slice none 0 0)=WF:=b
    first
      | rw[d]
      | (have j:(((w2.setCell ⟨R,0,none⟩ (.int .i64 rk)).setCell ⟨R,1,none⟩ (.string ⟨#[]⟩)).setCell ⟨R,2,none⟩ (.slice none 0 0)).setCell ⟨R,3,none⟩ (.slice none 0 0)=WF:=b
         rw[j])
    clear b d f r0 r1 r2 r3 f0 f1 f2 f3 i;obtain⟨d0,d1,d2,d3,_⟩:=bC a.out.2.2;refine bodyPost_ret (v:= .tuple #[.agg #[.int .i64 rk, .string (bs rs),(.slice none 0 0),(.slice none 0 0)], .int .i64 0]) ?_ rfl ⟨⟨_,_,rfl,a.out.1⟩,a.out.2.1⟩;simp[results,Tryz.results48,go_sem,d0,d1,d2,d3]
  | cons c r=>
    have CT:=hid (λw' (z:Below W1.heap.size W1 w')=>Kq (c::r) c r rfl w' hs (J.out.keep z));have CB:=hid (λw' (z:Below W1.heap.size W1 w')=>Kk (c::r) w' hs (J.out.keep z).1);have CJ:=hid (λw' (z:Below W1.heap.size W1 w')=>Kr (c::r) w' hs (J.out.keep z));unfold fP;simp only[];obtain⟨t,H⟩:=exQ<|c::r;have I:0<t.length:=by rw[<-H];simp
    have hc0:(bs t)[0]'(by rw[aT];exact I)=c:=by
      subst H;rfl
    have E:t≠ []:=by rw[<-H];simp
    have e0:((bs t).toList== [])=false:=by rw[nX];cases t<;>simp at E ⊢
    have e0b:(bs t).toList.isEmpty=false:=by rw[mY];cases t<;>simp at E ⊢
    rw[H] at hs sl CT CB CJ ⊢;have q34:=uW c 34;have q39:=uW c 39;have q91:=uW c 91;have q123:=uW c 123;clear H E hV;by_cases hq:c=34\/c=39
    · rw[if_pos hq];obtain⟨⟨S,er⟩,K⟩:=exQ<|nA t;unfold nW at CT;rw[K] at CT;rw[K];simp only[];clear K CB CJ q91 q123;have A:((c.toNat:Int)==34)=true\/(((c.toNat:Int)==34)=false/\((c.toNat:Int)==39)=true):=by
        rcases hq with rfl|rfl
        · exact .inl rfl
        · exact .inr ⟨rfl,rfl⟩
      clear hq q34 q39;by_cases he:er=0
      · subst he;rw[if_neg (by simp)];have CO:=hid (COf.out S);rcases A with d34 | ⟨d34,d39⟩
        all_goals
          go_enter Tryz.func48,Tryz.ntmps48;go_upto_region 1 with fail;clear n D;go_wp2_with fail;refine(CT.out _ (aB _ _)).mono ?_;rintro e w2 ⟨rfl,g⟩;have k:=hid g;clear g;go_wp2_with fail;refine(CO.out _).mono ?_;rintro e w3 ⟨rfl,y⟩;have o:=hid (aC k.out y);clear y;have i:=hid (iT (t:=kH S) p.out u.out l.out (pL _ _ _ _) o.out m.out);obtain⟨r0,r1,r2,r3,f0,f1,f2,f3⟩:=bC ((o.out.block R l.out).trans m.out);go_wp2_with fail;obtain⟨WF,b⟩:=exQ<|bG w3 R 4 S (.slice none 0 0) (.slice none 0 0);have f:eZ w.heap.size (bG w3 R 4 S (.slice none 0 0) (.slice none 0 0)) (kH S).depth (kH S) (.slice none 0 0) (.slice none 0 0)/\Below w.heap.size w (bG w3 R 4 S (.slice none 0 0) (.slice none 0 0))/\(bG w3 R 4 S (.slice none 0 0) (.slice none 0 0)).heap[R]?=some (.cells #[.int .i64 4, .string (bs S),(.slice none 0 0),(.slice none 0 0)] 26):=i.out;rw[b] at f;have a:=hid f;have d:(((w3.setCell ⟨R,0,none⟩ (.int .i64 4)).setCell ⟨R,1,none⟩ (.string (bs S))).setCell ⟨R,2,none⟩ (.slice none 0 0)).setCell ⟨R,3,none⟩ (.slice none 0 0)=WF:=b
          first
            | rw[d]
            | (have j:(((w3.setCell ⟨R,0,none⟩ (.int .i64 4)).setCell ⟨R,1,none⟩ (.string ⟨#[]⟩)).setCell ⟨R,2,none⟩ (.slice none 0 0)).setCell ⟨R,3,none⟩ (.slice none 0 0)=WF:=b
               rw[j])
          clear b d f r0 r1 r2 r3 f0 f1 f2 f3 i;obtain⟨d0,d1,d2,d3,_⟩:=bC a.out.2.2;refine bodyPost_ret (v:= .tuple #[.agg #[.int .i64 4, .string (bs S),(.slice none 0 0),(.slice none 0 0)], .int .i64 0]) ?_ rfl ⟨⟨_,_,rfl,a.out.1⟩,a.out.2.1⟩;simp[results,Tryz.results48,go_sem,d0,d1,d2,d3]
      · have de:(er !=0)=true:=(by simp[he]);rw[if_pos he];rcases A with d34 | ⟨d34,d39⟩
        all_goals
          go_enter Tryz.func48,Tryz.ntmps48;go_upto_region 1 with fail;clear n D;go_wp2_with fail;refine(CT.out _ (aB _ _)).mono ?_;rintro e w2 ⟨rfl,g⟩;have k:=hid g;clear g;have i:=hid (iT (t:=dP) p.out u.out l.out (pL _ _ _ _) k.out m.out);obtain⟨r0,r1,r2,r3,f0,f1,f2,f3⟩:=bC ((k.out.block R l.out).trans m.out);go_wp2_with fail;obtain⟨WF,b⟩:=exQ<|bG w2 R 0 ([]:aA) (.slice none 0 0) (.slice none 0 0);have f:eZ w.heap.size (bG w2 R 0 ([]:aA) (.slice none 0 0) (.slice none 0 0)) (dP).depth (dP) (.slice none 0 0) (.slice none 0 0)/\Below w.heap.size w (bG w2 R 0 ([]:aA) (.slice none 0 0) (.slice none 0 0))/\(bG w2 R 0 ([]:aA) (.slice none 0 0) (.slice none 0 0)).heap[R]?=some (.cells #[.int .i64 0, .string (bs ([]:aA)),(.slice none 0 0),(.slice none 0 0)] 26):=i.out;rw[b] at f;have a:=hid f;have d:(((w2.setCell ⟨R,0,none⟩ (.int .i64 0)).setCell ⟨R,1,none⟩ (.string (bs ([]:aA)))).setCell ⟨R,2,none⟩ (.slice none 0 0)).setCell ⟨R,3,none⟩ (.slice none 0 0)=WF:=b
          first
            | rw[d]
            | (have j:(((w2.setCell ⟨R,0,none⟩ (.int .i64 0)).setCell ⟨R,1,none⟩ (.string ⟨#[]⟩)).setCell ⟨R,2,none⟩ (.slice none 0 0)).setCell ⟨R,3,none⟩ (.slice none 0 0)=WF:=b
               rw[j])
          clear b d f r0 r1 r2 r3 f0 f1 f2 f3 i;obtain⟨d0,d1,d2,d3,_⟩:=bC a.out.2.2;refine bodyPost_ret (v:= .tuple #[.agg #[.int .i64 0, .string (bs ([]:aA)),(.slice none 0 0),(.slice none 0 0)], .int .i64 er]) ?_ rfl ⟨⟨_,_,rfl,a.out.1⟩,a.out.2.1⟩;simp[results,Tryz.results48,go_sem,d0,d1,d2,d3]
    rw[if_neg hq];have d34:((c.toNat:Int)==34)=false:=by rw[show (34:Int)=((34:UInt8).toNat:Int) from rfl,q34];exact aK.2 (λe=>hq (.inl e))
    have d39:((c.toNat:Int)==39)=false:=by rw[show (39:Int)=((39:UInt8).toNat:Int) from rfl,q39];exact aK.2 (λe=>hq (.inr e))
    clear hq q34 q39 CT COf;by_cases hq:c=91\/c=123
    · rw[if_pos hq];have A:((c.toNat:Int)==91)=true\/(((c.toNat:Int)==91)=false/\((c.toNat:Int)==123)=true):=by
        rcases hq with rfl|rfl
        · exact .inl rfl
        · exact .inr ⟨rfl,rfl⟩
      clear hq q91 q123 CB CRes;obtain⟨⟨T,at_,er⟩,N⟩:=exQ<|fK t;rw[N] at CJ;rw[N];simp only[] at CJ ⊢;clear N;rcases A with d91 | ⟨d91,d123⟩
      all_goals
        go_enter Tryz.func48,Tryz.ntmps48;go_upto_region 1 with fail;clear n D;go_wp2_with fail;refine(CJ.out _ (aB _ _)).mono ?_;rintro e w2 ⟨⟨kv,iv,rfl,F⟩,g⟩;obtain⟨pk,ck,px,cx,rfl,rfl⟩:=F.form;have C:=aI w2 (.cells #[.int .i64 T.kind, .string (bs T.text), .slice pk T.keys.length ck, .slice px T.items.length cx] 26);obtain⟨w3,G⟩:=exQ<|w2.alloc (.cells #[.int .i64 T.kind, .string (bs T.text), .slice pk T.keys.length ck, .slice px T.items.length cx] 26);have O:w3.heap[w2.heap.size]?=some (.cells #[.int .i64 T.kind, .string (bs T.text), .slice pk T.keys.length ck, .slice px T.items.length cx] 26):=by rw[<-G];exact heap_alloc_new w2 _
        rw[G] at C;have o:=hid (aC g C);have L:=hid (F.keep C);obtain⟨z0,z1,z2,z3,_⟩:=bC O;have hRZ:R<w2.heap.size:=fV l.out g.size;have hRZ2:R≠w2.heap.size:=(by omega);unfold vv;clear F g C O;have i:=hid (iT (t:=T) p.out u.out l.out L.out o.out m.out);obtain⟨r0,r1,r2,r3,f0,f1,f2,f3⟩:=bC ((o.out.block R l.out).trans m.out);go_wp2_with fail;obtain⟨WF,b⟩:=exQ<|bG w3 R T.kind T.text (.slice pk T.keys.length ck) (.slice px T.items.length cx);have f:eZ w.heap.size (bG w3 R T.kind T.text (.slice pk T.keys.length ck) (.slice px T.items.length cx)) (T).depth (T) (.slice pk T.keys.length ck) (.slice px T.items.length cx)/\Below w.heap.size w (bG w3 R T.kind T.text (.slice pk T.keys.length ck) (.slice px T.items.length cx))/\(bG w3 R T.kind T.text (.slice pk T.keys.length ck) (.slice px T.items.length cx)).heap[R]?=some (.cells #[.int .i64 T.kind, .string (bs T.text),(.slice pk T.keys.length ck),(.slice px T.items.length cx)] 26):=i.out;rw[b] at f;have a:=hid f;have d:(((w3.setCell ⟨R,0,none⟩ (.int .i64 T.kind)).setCell ⟨R,1,none⟩ (.string (bs T.text))).setCell ⟨R,2,none⟩ (.slice pk T.keys.length ck)).setCell ⟨R,3,none⟩ (.slice px T.items.length cx)=WF:=b
        first
          | rw[d]
          | (have j:(((w3.setCell ⟨R,0,none⟩ (.int .i64 T.kind)).setCell ⟨R,1,none⟩ (.string ⟨#[]⟩)).setCell ⟨R,2,none⟩ (.slice pk T.keys.length ck)).setCell ⟨R,3,none⟩ (.slice px T.items.length cx)=WF:=b
             rw[j])
        clear b d f r0 r1 r2 r3 f0 f1 f2 f3 i;obtain⟨d0,d1,d2,d3,_⟩:=bC a.out.2.2;refine bodyPost_ret (v:= .tuple #[.agg #[.int .i64 T.kind, .string (bs T.text),(.slice pk T.keys.length ck),(.slice px T.items.length cx)], .int .i64 er]) ?_ rfl ⟨⟨_,_,rfl,a.out.1⟩,a.out.2.1⟩;simp[results,Tryz.results48,go_sem,d0,d1,d2,d3]
    rw[if_neg hq];have d91:((c.toNat:Int)==91)=false:=by rw[show (91:Int)=((91:UInt8).toNat:Int) from rfl,q91];exact aK.2 (λe=>hq (.inl e))
    have d123:((c.toNat:Int)==123)=false:=by rw[show (123:Int)=((123:UInt8).toNat:Int) from rfl,q123];exact aK.2 (λe=>hq (.inr e))
    clear hq q91 q123 CJ;obtain⟨B,M⟩:=exQ<|rP t;rw[M] at CB;rw[M];clear M;cases B with
    | false=>
      rw[if_neg (by simp)];go_enter Tryz.func48,Tryz.ntmps48;go_upto_region 1 with fail;clear n D;go_wp2_with fail;refine(CB.out _ (aB _ _)).mono ?_;rintro e w2 ⟨rfl,g⟩;have k:=hid g;clear g;have i:=hid (iT (t:=dP) p.out u.out l.out (pL _ _ _ _) k.out m.out);obtain⟨r0,r1,r2,r3,f0,f1,f2,f3⟩:=bC ((k.out.block R l.out).trans m.out);go_wp2_with fail;obtain⟨WF,b⟩:=exQ<|bG w2 R 0 ([]:aA) (.slice none 0 0) (.slice none 0 0);have f:eZ w.heap.size (bG w2 R 0 ([]:aA) (.slice none 0 0) (.slice none 0 0)) (dP).depth (dP) (.slice none 0 0) (.slice none 0 0)/\Below w.heap.size w (bG w2 R 0 ([]:aA) (.slice none 0 0) (.slice none 0 0))/\(bG w2 R 0 ([]:aA) (.slice none 0 0) (.slice none 0 0)).heap[R]?=some (.cells #[.int .i64 0, .string (bs ([]:aA)),(.slice none 0 0),(.slice none 0 0)] 26):=i.out;rw[b] at f;have a:=hid f;have d:(((w2.setCell ⟨R,0,none⟩ (.int .i64 0)).setCell ⟨R,1,none⟩ (.string (bs ([]:aA)))).setCell ⟨R,2,none⟩ (.slice none 0 0)).setCell ⟨R,3,none⟩ (.slice none 0 0)=WF:=b
      first
        | rw[d]
        | (have j:(((w2.setCell ⟨R,0,none⟩ (.int .i64 0)).setCell ⟨R,1,none⟩ (.string ⟨#[]⟩)).setCell ⟨R,2,none⟩ (.slice none 0 0)).setCell ⟨R,3,none⟩ (.slice none 0 0)=WF:=b
           rw[j])
      clear b d f r0 r1 r2 r3 f0 f1 f2 f3 i;obtain⟨d0,d1,d2,d3,_⟩:=bC a.out.2.2;refine bodyPost_ret (v:= .tuple #[.agg #[.int .i64 0, .string (bs ([]:aA)),(.slice none 0 0),(.slice none 0 0)], .int .i64 2]) ?_ rfl ⟨⟨_,_,rfl,a.out.1⟩,a.out.2.1⟩;simp[results,Tryz.results48,go_sem,d0,d1,d2,d3]
    | true =>
      rw[if_pos rfl];have CR:=hid (λw' z=>CRes.out t w' (by omega) z);obtain⟨⟨rk,rs⟩,q⟩:=exQ<|pJ t;have x:kI t= .mk rk rs [] []:=by unfold kI;rw[q]
      rw[q] at CR;rw[x];clear q x CRes;go_enter Tryz.func48,Tryz.ntmps48;go_upto_region 1 with fail;clear n D;go_wp2_with fail;refine(CB.out _ (aB _ _)).mono ?_;rintro e w2 ⟨rfl,g⟩;have k:=hid g;clear g;go_wp2_with fail;refine(CR.out _ k.out).mono ?_;rintro e w3 ⟨rfl,y⟩;have o:=hid (aC k.out y);clear y;have i:=hid (iT (t:=VT.mk rk rs [] []) p.out u.out l.out (pL _ _ _ _) o.out m.out);obtain⟨r0,r1,r2,r3,f0,f1,f2,f3⟩:=bC ((o.out.block R l.out).trans m.out);go_wp2_with fail;obtain⟨WF,b⟩:=exQ<|bG w3 R rk rs (.slice none 0 0) (.slice none 0 0);have f:eZ w.heap.size (bG w3 R rk rs (.slice none 0 0) (.slice none 0 0)) (VT.mk rk rs [] []).depth (VT.mk rk rs [] []) (.slice none 0 0) (.slice none 0 0)/\Below w.heap.size w (bG w3 R rk rs (.slice none 0 0) (.slice none 0 0))/\(bG w3 R rk rs (.slice none 0 0) (.slice none 0 0)).heap[R]?=some (.cells #[.int .i64 rk, .string (bs rs),(.slice none 0 0),(.slice none 0 0)] 26):=i.out;rw[b] at f;have a:=hid f;have d:(((w3.setCell ⟨R,0,none⟩ (.int .i64 rk)).setCell ⟨R,1,none⟩ (.string (bs rs))).setCell ⟨R,2,none⟩ (.slice none 0 0)).setCell ⟨R,3,none⟩ (.slice none 0 0)=WF:=b
      first
        | rw[d]
        | (have j:(((w3.setCell ⟨R,0,none⟩ (.int .i64 rk)).setCell ⟨R,1,none⟩ (.string ⟨#[]⟩)).setCell ⟨R,2,none⟩ (.slice none 0 0)).setCell ⟨R,3,none⟩ (.slice none 0 0)=WF:=b
           rw[j])
      clear b d f r0 r1 r2 r3 f0 f1 f2 f3 i;obtain⟨d0,d1,d2,d3,_⟩:=bC a.out.2.2;refine bodyPost_ret (v:= .tuple #[.agg #[.int .i64 rk, .string (bs rs),(.slice none 0 0),(.slice none 0 0)], .int .i64 0]) ?_ rfl ⟨⟨_,_,rfl,a.out.1⟩,a.out.2.1⟩;simp[results,Tryz.results48,go_sem,d0,d1,d2,d3]
end Go.Proofs.YtaifnmjjpddikaaGreatDoor
