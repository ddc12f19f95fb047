import Derived.Test.YtaifnmjjpddikaaGreatDoorRf14
import Derived.Test.YtaifnmjjpddikaaGreatDoorRf13
import Derived.Test.YtaifnmjjpddikaaGreatDoorRf12
set_option maxRecDepth 100000
set_option maxHeartbeats 4000000
namespace Go.Proofs.YtaifnmjjpddikaaGreatDoor
set_option linter.unusedSimpArgs false
set_option linter.unusedVariables false
open Go.RowKit
open Go.Lib hiding intOf
def dL:VT:= .mk 0 [] [] []
def kN (s:aA):VT:= .mk 4 s [] []
def mW (s:aA):VT:= .mk (rB s).1 (rB s).2 [] []
def eX (s:aA):VT×Int×Int:=if(eC s).2.2≠0 then(dL,(eC s).2.1,(eC s).2.2) else(bG s (eC s).1 32 0,(eC s).2.1,0)
def wF (t:aA):aA×Int:=if(lB t 0).2.2≠0\/(lB t 0).2.1≠(t.length:Int) then([],2) else((lB t 0).1,0)
def oN (t:aA):aA×Int:=if t.head?=some 39 then wF t else((fW t).1,(fW t).2.2)
def jJ (t:aA):VT×Int:=match t with
 | []=>(mW [],0)
 | c::r=>if c=34\/c=39 then(if(oN (c::r)).2≠0 then(dL,(oN (c::r)).2) else(kN (oN (c::r)).1,0))
  else if c=91\/c=123 then((eX (c::r)).1,(eX (c::r)).2.2)
  else if uF (c::r) then(mW (c::r),0) else(dL,2)
def oO (t:aA):aA×Int:=match t with
 | []=>([],2)
 | c::r=>if c=34\/c=39 then oN (c::r) else if uF (c::r) then(c::r,0) else([],2)
theorem Vu (t:aA) (w:World) (hs:t.length<=1073741824) (hT:cC w):
  Calls Tryz.prog 118 #[.string (bs t)] w λe w'=>e=mT (wF t)/\Below w.heap.size w w':=by
 have sl:=aR t;have C1:=hid (Jd t 0 w hs hT);unfold lL at C1;unfold mT wF;obtain⟨⟨S,k,er⟩,hS⟩:=exQ<|lB t 0;rw[hS] at C1;rw[hS];clear hS hT;simp only[];by_cases he:er=0
 ·subst he;by_cases hk:k=(t.length:Int)
  ·have dk:(k !=(t.length:Int))=false:=(by simp[hk]);rw[if_neg (by simp[hk])];go_enter Tryz.func118,Tryz.ntmps118;go_wp2_with fail;refine C1.out.mono ?_;rintro e w1 ⟨rfl,hb1⟩;have HB1:=hid hb1;clear hb1;go_wp2_with fail;go_ret2;exact⟨rfl,HB1.out⟩
  ·have dk:(k !=(t.length:Int))=true:=(by simp[hk]);rw[if_pos (.inr hk)];go_enter Tryz.func118,Tryz.ntmps118;go_wp2_with fail;refine C1.out.mono ?_;rintro e w1 ⟨rfl,hb1⟩;have HB1:=hid hb1;clear hb1 hk;go_wp2_with fail;go_ret2;exact⟨rfl,HB1.out⟩
 ·have de:(er !=0)=true:=by simp[he]
  rw[if_pos (.inl he)];go_enter Tryz.func118,Tryz.ntmps118;go_wp2_with fail;refine C1.out.mono ?_;rintro e w1 ⟨rfl,hb1⟩;have HB1:=hid hb1;clear hb1 he;go_wp2_with fail;go_ret2;exact⟨rfl,HB1.out⟩
theorem Jn (t:aA) (c:UInt8) (r:aA) (ht:c::r=t) (w:World) (hs:t.length<=1073741824) (hV:cA w):
  Calls Tryz.prog 91 #[.string (bs t)] w λe w'=>e=mT (oN t)/\Below w.heap.size w w':=by
 have sl:=aR t;have hlen:0<t.length:=by rw[<-ht];simp
 have hc0:(bs t)[0]'(by rw[aR];exact hlen)=c:=by
  subst ht;rfl
 have hhd:t.head?=some c:=by rw[<-ht];rfl
 have C1:=hid (Vu t w hs hV.tabs);have C2:=hid (xE t w hs hV.2 hV.tabs);unfold lL at C2;unfold oN;rw[hhd];clear hV hhd ht;by_cases h39:c=39
 ·have d39:((c.toNat:Int)==39)=true:=by rw[h39];rfl
  rw[if_pos (by rw[h39])];unfold mT at C1 ⊢;obtain⟨⟨S,er⟩,hS⟩:=exQ<|wF t;rw[hS] at C1;rw[hS];clear hS h39;go_enter Tryz.func91,Tryz.ntmps91;go_wp2_with fail;refine C1.out.mono ?_;rintro e w1 ⟨rfl,hb1⟩;have HB1:=hid hb1;clear hb1;go_wp2_with fail;go_ret2;exact⟨rfl,HB1.out⟩
 ·have d39:((c.toNat:Int)==39)=false:=aG.2 (λe=>h39 (UInt8.toNat_inj.1 (by exact_mod_cast e)));rw[if_neg (by simpa using h39)];unfold mT;obtain⟨⟨S,k,er⟩,hS⟩:=exQ<|fW t;rw[hS] at C2;rw[hS];clear hS h39;go_enter Tryz.func91,Tryz.ntmps91;go_wp2_with fail;refine C2.out.mono ?_;rintro e w1 ⟨rfl,hb1⟩;have HB1:=hid hb1;clear hb1;go_wp2_with fail;go_ret2;exact⟨rfl,HB1.out⟩
theorem uH (c d:UInt8):((c.toNat:Int)==(d.toNat:Int))=(c==d):=by
 by_cases h:c=d
 ·subst h;simp
 ·rw[aG.2 h];exact aG.2 (λe=>h (UInt8.toNat_inj.1 (by exact_mod_cast e)))
theorem Cb (t:aA) (w:World) (hs:t.length<=1073741824) (hV:cA w):
  Calls Tryz.prog 52 #[.string (bs t)] w λe w'=>e=mT (oO t)/\Below w.heap.size w w':=by
 have sl:=aR t;cases t with
 | nil=>
  have e0:((bs ([]:aA)).toList== [])=true:=mU [];have e0b:(bs ([]:aA)).toList.isEmpty=true:=mI [];unfold oO mT;go_enter Tryz.func52,Tryz.ntmps52;go_wp2_with fail;go_ret2;exact⟨rfl,aB _ _⟩
 | cons c r=>
  have C1:=hid (Jn (c::r) c r rfl w hs hV);have C2:=hid (Ji (c::r) w hs hV.1);have q34:=uH c 34;have q39:=uH c 39;unfold oO mT at *;simp only[];obtain⟨t,ht⟩:=exQ<|c::r;have hlen:0<t.length:=by rw[<-ht];simp
  have hc0:(bs t)[0]'(by rw[aR];exact hlen)=c:=by
   subst ht;rfl
  have hne:t≠ []:=by rw[<-ht];simp
  have e0:((bs t).toList== [])=false:=by rw[mU];cases t<;>simp at hne ⊢
  have e0b:(bs t).toList.isEmpty=false:=by rw[mI];cases t<;>simp at hne ⊢
  rw[ht] at hs sl C1 C2 ⊢;obtain⟨⟨S,er⟩,hS⟩:=exQ<|oN t;rw[hS] at C1;rw[hS];obtain⟨B,hB⟩:=exQ<|uF t;rw[hB] at C2;rw[hB];clear hS ht hV hB hne;by_cases h34:c=34
  ·have d34:((c.toNat:Int)==34)=true:=by rw[h34];rfl
   rw[if_pos (.inl h34)];clear h34 q34 q39;go_enter Tryz.func52,Tryz.ntmps52;go_wp2_with fail;refine C1.out.mono ?_;rintro e w1 ⟨rfl,hb1⟩;have HB1:=hid hb1;clear hb1;go_wp2_with fail;go_ret2;exact⟨rfl,HB1.out⟩
  have d34:((c.toNat:Int)==34)=false:=aG.2 (λe=>h34 (UInt8.toNat_inj.1 (by exact_mod_cast e)));by_cases h39:c=39
  ·have d39:((c.toNat:Int)==39)=true:=by rw[h39];rfl
   rw[if_pos (.inr h39)];clear h34 h39 q34 q39;go_enter Tryz.func52,Tryz.ntmps52;go_wp2_with fail;refine C1.out.mono ?_;rintro e w1 ⟨rfl,hb1⟩;have HB1:=hid hb1;clear hb1;go_wp2_with fail;go_ret2;exact⟨rfl,HB1.out⟩
  have d39:((c.toNat:Int)==39)=false:=aG.2 (λe=>h39 (UInt8.toNat_inj.1 (by exact_mod_cast e)));rw[if_neg (by simp[h34,h39])];clear h34 h39 q34 q39;cases B with
  | true=>
   rw[if_pos rfl];go_enter Tryz.func52,Tryz.ntmps52;go_wp2_with fail;refine C2.out.mono ?_;rintro e w1 ⟨rfl,hb1⟩;have HB1:=hid hb1;clear hb1;go_wp2_with fail;go_ret2;exact⟨rfl,HB1.out⟩
  | false=>
   rw[if_neg (by simp)];go_enter Tryz.func52,Tryz.ntmps52;go_wp2_with fail;refine C2.out.mono ?_;rintro e w1 ⟨rfl,hb1⟩;have HB1:=hid hb1;clear hb1;go_wp2_with fail;go_ret2;exact⟨rfl,HB1.out⟩
def mX (t:VT) (a er:Int) (w:World) (e:Ending) (w':World):Prop:=(∃kv iv,e= .returned (.tuple #[vv t kv iv, .int .i64 a, .int .i64 er])/\eU w.heap.size w' t.depth t kv iv)/\Below w.heap.size w w'
def yI (t:VT) (er:Int) (w:World) (e:Ending) (w':World):Prop:=(∃kv iv,e= .returned (.tuple #[vv t kv iv, .int .i64 er])/\eU w.heap.size w' t.depth t kv iv)/\Below w.heap.size w w'
theorem oQ (B:Nat) (w:World) (k:Int) (s:aA):eU B w (VT.mk k s [] []).depth (VT.mk k s [] []) (.slice none 0 0) (.slice none 0 0):=by
 rw[VT.depth];exact⟨⟨none,0,rfl,aE _, .inl rfl⟩,none,0,rfl,aE _, .inl rfl⟩
theorem iQ {w W w':World}{R:Nat}{t:VT}{k0:Int}{t0:aA}{a b kv iv:Value} (hb:Below w.heap.size w W) (hR:w.heap.size<=R) (hRW:R<W.heap.size) (hv:eU W.heap.size w' t.depth t kv iv) (hb2:Below W.heap.size W w') (hc:W.heap[R]?=some (.cells #[.int .i64 k0, .string (bs t0),a,b] 26)):
  eU w.heap.size (bF w' R t.kind t.text kv iv) t.depth t kv iv/\Below w.heap.size w (bF w' R t.kind t.text kv iv)/\(bF w' R t.kind t.text kv iv).heap[R]?=some (.cells #[.int .i64 t.kind, .string (bs t.text),kv,iv] 26):=
 ⟨hv.agree (λq hq _=>⟨qB (by omega),aW hb.size hq⟩),oL (aC hb hb2) hR,rC ((hb2.block R hRW).trans hc)⟩
theorem Vv {s:aA}{ns:List aD}{a:Int} (h:eC s=(ns,a,0)):s.length<=65536:=by
 unfold eC dT at h;by_cases hl:65536<s.length
 ·simp[hl] at h
 ·omega
theorem Jo (s:aA) (w:World) (hs0:s.length<=4611686018427387904) (hV:cA w):
  Calls Tryz.prog 6 #[.string (bs s)] w (mX (eX s).1 (eX s).2.1 (eX s).2.2 w):=by
 obtain⟨R,hR⟩:=exQ<|w.heap.size;obtain⟨W1,hW1⟩:=exQ<|w.alloc (.cells #[.int .i64 0, .string ⟨#[]⟩, .slice none 0 0, .slice none 0 0] 26);have HB1:Hid (Below w.heap.size w W1):=hid (by rw[<-hW1];exact aH _ _);have HR1:Hid (W1.heap[R]?=some (.cells #[.int .i64 0, .string (bs []), .slice none 0 0, .slice none 0 0] 26)):=hid (by rw[<-hW1,<-hR];exact heap_alloc_new w _);have HRl:=hid (aF HR1.out);have HV:=hid (hV.keep HB1.out);have CP:=hid (Ut s _ rfl W1 (by omega) HV.out.2 HV.out.tabs);have hbig:(eC s).2.2=0->(eC s).1.length<=65536:=λ_=>xY s;unfold eX;obtain⟨⟨ns,at_,er⟩,hP⟩:=exQ<|eC s;rw[hP] at CP hbig;rw[hP];simp only[] at hbig ⊢;have HP:=hid hP;unfold Ip at CP;simp only[] at CP;clear hV hP;by_cases he:er=0
 ·subst he;rw[if_neg (by simp)];simp only[];have hs:s.length<=1073741824:=by have:=Vv HP.out;omega
  have HT:=hid (tP HP.out);have hdt:vR s ns=s:=by
   have:=HT.out.lt;cases ns with
   | nil=>simp at this
   | cons _ _=>rfl
  rw[hdt] at CP;have hN:=hbig rfl;have HN:=hid hN;clear hbig hdt hN;go_enter Tryz.func6,Tryz.ntmps6;go_upto_region 1 with fail;clear hW1;go_wp2_with fail;refine CP.out.mono ?_;rintro e w1 ⟨p,c,rfl,hn1,hb1⟩;have hb2:=aH w1 (.cells #[.string (bs s), .slice p ns.length c] 49);have hb3:=aC hb1 hb2;have HB3:=hid hb3;have HND:=hid (Jm s ns p c HN.out hs 32 0 ns.length 1 _ HT.out (hid rfl) (aE _) (hn1.keep hb2) (HV.out.keep hb3));clear hn1 hb1 hb2 hb3 CP;go_wp2_with fail;refine HND.out.mono ?_;rintro e w4 ⟨⟨kv,iv,rfl,hv4⟩,hb4⟩;obtain⟨pk,ck,px,cx,rfl,rfl⟩:=hv4.form;have HB4:=hid (aC HB3.out hb4);have HV4:=hid (hv4.mono (ok':=λq=>W1.heap.size<=q) (λq hq _=>aW HB3.out.size hq));have HPN:=hid (iQ HB1.out (by rw[hR];exact aE _) HRl.out HV4.out HB4.out HR1.out);obtain⟨r0,r1,r2,r3,f0,f1,f2,f3⟩:=bC ((HB4.out.block R HRl.out).trans HR1.out);unfold vv;clear hv4 hb4 HND;go_wp2_with fail;obtain⟨WF,hWF⟩:=exQ<|bF w4 R (bG s ns 32 0).kind (bG s ns 32 0).text (.slice pk (bG s ns 32 0).keys.length ck) (.slice px (bG s ns 32 0).items.length cx);rw[hWF] at HPN;have hWF':(((w4.setCell ⟨R,0,none⟩ (.int .i64 (bG s ns 32 0).kind)).setCell ⟨R,1,none⟩ (.string (bs (bG s ns 32 0).text))).setCell ⟨R,2,none⟩ (.slice pk (bG s ns 32 0).keys.length ck)).setCell ⟨R,3,none⟩ (.slice px (bG s ns 32 0).items.length cx)=WF:=hWF;rw[hWF'];clear hWF hWF' r0 r1 r2 r3 f0 f1 f2 f3;obtain⟨d0,d1,d2,d3,_⟩:=bC HPN.out.2.2;refine bodyPost_ret (v:= .tuple #[vv (bG s ns 32 0) (.slice pk (bG s ns 32 0).keys.length ck) (.slice px (bG s ns 32 0).items.length cx), .int .i64 at_, .int .i64 0]) ?_ rfl ⟨⟨_,_,rfl,HPN.out.1⟩,HPN.out.2.1⟩;simp[results,Tryz.results6,go_sem,d0,d1,d2,d3,vv]
 ·rw[if_pos he];simp only[];have de:(er !=0)=true:=by simp[he]
  clear hbig HP;go_enter Tryz.func6,Tryz.ntmps6;go_upto_region 1 with fail;clear hW1;go_wp2_with fail;refine CP.out.mono ?_;rintro e w1 ⟨p,c,rfl,hn1,hb1⟩;have HB1':=hid hb1;obtain⟨w4,hw4⟩:=exQ<|w1.alloc (.cells #[.string (bs (vR s ns)), .slice p ns.length c] 49);have HB4:Hid (Below W1.heap.size W1 w4):=hid (aC hb1 (by rw[<-hw4];exact aH _ _));have HPN:=hid (iQ (t:=dL) HB1.out (by rw[hR];exact aE _) HRl.out (oQ _ _ _ _) HB4.out HR1.out);obtain⟨r0,r1,r2,r3,f0,f1,f2,f3⟩:=bC ((HB4.out.block R HRl.out).trans HR1.out);clear hn1 hb1 CP;go_wp2_with fail;obtain⟨WF,hWF⟩:=exQ<|bF w4 R dL.kind dL.text (.slice none 0 0) (.slice none 0 0);rw[hWF] at HPN;have hWF':(((w4.setCell ⟨R,0,none⟩ (.int .i64 0)).setCell ⟨R,1,none⟩ (.string ⟨#[]⟩)).setCell ⟨R,2,none⟩ (.slice none 0 0)).setCell ⟨R,3,none⟩ (.slice none 0 0)=WF:=hWF;rw[hWF'];clear hWF hWF' r0 r1 r2 r3 f0 f1 f2 f3;obtain⟨d0,d1,d2,d3,_⟩:=bC HPN.out.2.2;refine bodyPost_ret (v:= .tuple #[vv dL (.slice none 0 0) (.slice none 0 0), .int .i64 at_, .int .i64 er]) ?_ rfl ⟨⟨_,_,rfl,HPN.out.1⟩,HPN.out.2.1⟩;simp[results,Tryz.results6,go_sem,d0,d1,d2,d3,vv]
theorem Jp (s:aA) (w:World) (hs:s.length<=1073741824) (hV:cA w):
  Calls Tryz.prog 6 #[.string (bs s)] w (mX (eX s).1 (eX s).2.1 (eX s).2.2 w):=Jo s w (by omega) hV
theorem Jq (t:aA) (w:World) (hs:t.length<=1073741824) (hV:cA w):
    Calls Tryz.prog 48 #[.string (bs t)] w (yI (jJ t).1 (jJ t).2 w):=by
  have sl:=aR t;obtain⟨R,hR⟩:=exQ<|w.heap.size;obtain⟨W1,hW1⟩:=exQ<|w.alloc (.cells #[.int .i64 0, .string ⟨#[]⟩, .slice none 0 0, .slice none 0 0] 26);have HB1:Hid (Below w.heap.size w W1):=hid (by rw[<-hW1];exact aH _ _);have HR1:Hid (W1.heap[R]?=some (.cells #[.int .i64 0, .string (bs []), .slice none 0 0, .slice none 0 0] 26)):=hid (by rw[<-hW1,<-hR];exact heap_alloc_new w _);have HRl:=hid (aF HR1.out);have HRw:Hid (w.heap.size<=R):=hid (by rw[hR];exact aE _);have HV:=hid (hV.keep HB1.out);have CRes:Hid (∀(s:aA) w',s.length<=1073741824->Below W1.heap.size W1 w'->Calls Tryz.prog 90 #[.string (bs s)] w' λe w2=>e=yG s/\Below w'.heap.size w' w2):=hid (λs w' h hb=>Vo s w' h (HV.out.keep hb).1);have COf:Hid (∀(s:aA) w',Calls Tryz.prog 51 #[.string (bs s)] w' λe w2=>e= .returned (.agg #[.int .i64 4, .string (bs s), .slice none 0 0, .slice none 0 0])/\Below w'.heap.size w' w2):=hid (λs w'=>Bz s w');unfold yG at CRes;cases t with
  | nil=>
    have e0:((bs ([]:aA)).toList== [])=true:=mU [];have e0b:(bs ([]:aA)).toList.isEmpty=true:=mI [];show Calls _ _ _ _ (yI (mW []) 0 w);have CR:=hid (λw' hb=>CRes.out [] w' (by decide) hb);obtain⟨⟨rk,rs⟩,hrs⟩:=exQ<|rB [];have hrt:mW []= .mk rk rs [] []:=by unfold mW;rw[hrs]
    rw[hrs] at CR;rw[hrt];clear hrs hrt CRes;clear hV;go_enter Tryz.func48,Tryz.ntmps48;go_upto_region 1 with fail;clear hW1 hR;go_wp2_with fail;refine(CR.out _ (aB _ _)).mono ?_;rintro e w2 ⟨rfl,hb2⟩;have HB2:=hid hb2;clear hb2;have HPN:=hid (iQ (t:=VT.mk rk rs [] []) HB1.out HRw.out HRl.out (oQ _ _ _ _) HB2.out HR1.out);obtain⟨r0,r1,r2,r3,f0,f1,f2,f3⟩:=bC ((HB2.out.block R HRl.out).trans HR1.out);go_wp2_with fail;obtain⟨WF,hWF⟩:=exQ<|bF w2 R rk rs (.slice none 0 0) (.slice none 0 0);have hPN:eU w.heap.size (bF w2 R rk rs (.slice none 0 0) (.slice none 0 0)) (VT.mk rk rs [] []).depth (VT.mk rk rs [] []) (.slice none 0 0) (.slice none 0 0)/\Below w.heap.size w (bF w2 R rk rs (.slice none 0 0) (.slice none 0 0))/\(bF w2 R rk rs (.slice none 0 0) (.slice none 0 0)).heap[R]?=some (.cells #[.int .i64 rk, .string (bs rs),(.slice none 0 0),(.slice none 0 0)] 26):=HPN.out;rw[hWF] at hPN;have HPN2:=hid hPN;have hWF':(((w2.setCell ⟨R,0,none⟩ (.int .i64 rk)).setCell ⟨R,1,none⟩ (.string (bs rs))).setCell ⟨R,2,none⟩ (.slice none 0 0)).setCell ⟨R,3,none⟩ (.slice none 0 0)=WF:=hWF
    first
      | rw[hWF']
      | (have hWF2:(((w2.setCell ⟨R,0,none⟩ (.int .i64 rk)).setCell ⟨R,1,none⟩ (.string ⟨#[]⟩)).setCell ⟨R,2,none⟩ (.slice none 0 0)).setCell ⟨R,3,none⟩ (.slice none 0 0)=WF:=hWF
         rw[hWF2])
    clear hWF hWF' hPN r0 r1 r2 r3 f0 f1 f2 f3 HPN;obtain⟨d0,d1,d2,d3,_⟩:=bC HPN2.out.2.2;refine bodyPost_ret (v:= .tuple #[.agg #[.int .i64 rk, .string (bs rs),(.slice none 0 0),(.slice none 0 0)], .int .i64 0]) ?_ rfl ⟨⟨_,_,rfl,HPN2.out.1⟩,HPN2.out.2.1⟩;simp[results,Tryz.results48,go_sem,d0,d1,d2,d3]
  | cons c r=>
    have CT:=hid (λw' (hb:Below W1.heap.size W1 w')=>Jn (c::r) c r rfl w' hs (HV.out.keep hb));have CB:=hid (λw' (hb:Below W1.heap.size W1 w')=>Ji (c::r) w' hs (HV.out.keep hb).1);have CJ:=hid (λw' (hb:Below W1.heap.size W1 w')=>Jp (c::r) w' hs (HV.out.keep hb));unfold jJ;simp only[];obtain⟨t,ht⟩:=exQ<|c::r;have hlen:0<t.length:=by rw[<-ht];simp
    have hc0:(bs t)[0]'(by rw[aR];exact hlen)=c:=by
      subst ht;rfl
    have hne:t≠ []:=by rw[<-ht];simp
    have e0:((bs t).toList== [])=false:=by rw[mU];cases t<;>simp at hne ⊢
    have e0b:(bs t).toList.isEmpty=false:=by rw[mI];cases t<;>simp at hne ⊢
    rw[ht] at hs sl CT CB CJ ⊢;have q34:=uH c 34;have q39:=uH c 39;have q91:=uH c 91;have q123:=uH c 123;clear ht hne hV;by_cases hq:c=34\/c=39
    · rw[if_pos hq];obtain⟨⟨S,er⟩,hS⟩:=exQ<|oN t;unfold mT at CT;rw[hS] at CT;rw[hS];simp only[];clear hS CB CJ q91 q123;have hcc:((c.toNat:Int)==34)=true\/(((c.toNat:Int)==34)=false/\((c.toNat:Int)==39)=true):=by
        rcases hq with rfl|rfl
        · exact .inl rfl
        · exact .inr ⟨rfl,rfl⟩
      clear hq q34 q39;by_cases he:er=0
      · subst he;rw[if_neg (by simp)];have CO:=hid (COf.out S);rcases hcc with d34 | ⟨d34,d39⟩
        all_goals
          go_enter Tryz.func48,Tryz.ntmps48;go_upto_region 1 with fail;clear hW1 hR;go_wp2_with fail;refine(CT.out _ (aB _ _)).mono ?_;rintro e w2 ⟨rfl,hb2⟩;have HB2:=hid hb2;clear hb2;go_wp2_with fail;refine(CO.out _).mono ?_;rintro e w3 ⟨rfl,hb3⟩;have HB3:=hid (aC HB2.out hb3);clear hb3;have HPN:=hid (iQ (t:=kN S) HB1.out HRw.out HRl.out (oQ _ _ _ _) HB3.out HR1.out);obtain⟨r0,r1,r2,r3,f0,f1,f2,f3⟩:=bC ((HB3.out.block R HRl.out).trans HR1.out);go_wp2_with fail;obtain⟨WF,hWF⟩:=exQ<|bF w3 R 4 S (.slice none 0 0) (.slice none 0 0);have hPN:eU w.heap.size (bF w3 R 4 S (.slice none 0 0) (.slice none 0 0)) (kN S).depth (kN S) (.slice none 0 0) (.slice none 0 0)/\Below w.heap.size w (bF w3 R 4 S (.slice none 0 0) (.slice none 0 0))/\(bF w3 R 4 S (.slice none 0 0) (.slice none 0 0)).heap[R]?=some (.cells #[.int .i64 4, .string (bs S),(.slice none 0 0),(.slice none 0 0)] 26):=HPN.out;rw[hWF] at hPN;have HPN2:=hid hPN;have hWF':(((w3.setCell ⟨R,0,none⟩ (.int .i64 4)).setCell ⟨R,1,none⟩ (.string (bs S))).setCell ⟨R,2,none⟩ (.slice none 0 0)).setCell ⟨R,3,none⟩ (.slice none 0 0)=WF:=hWF
          first
            | rw[hWF']
            | (have hWF2:(((w3.setCell ⟨R,0,none⟩ (.int .i64 4)).setCell ⟨R,1,none⟩ (.string ⟨#[]⟩)).setCell ⟨R,2,none⟩ (.slice none 0 0)).setCell ⟨R,3,none⟩ (.slice none 0 0)=WF:=hWF
               rw[hWF2])
          clear hWF hWF' hPN r0 r1 r2 r3 f0 f1 f2 f3 HPN;obtain⟨d0,d1,d2,d3,_⟩:=bC HPN2.out.2.2;refine bodyPost_ret (v:= .tuple #[.agg #[.int .i64 4, .string (bs S),(.slice none 0 0),(.slice none 0 0)], .int .i64 0]) ?_ rfl ⟨⟨_,_,rfl,HPN2.out.1⟩,HPN2.out.2.1⟩;simp[results,Tryz.results48,go_sem,d0,d1,d2,d3]
      · have de:(er !=0)=true:=(by simp[he]);rw[if_pos he];rcases hcc with d34 | ⟨d34,d39⟩
        all_goals
          go_enter Tryz.func48,Tryz.ntmps48;go_upto_region 1 with fail;clear hW1 hR;go_wp2_with fail;refine(CT.out _ (aB _ _)).mono ?_;rintro e w2 ⟨rfl,hb2⟩;have HB2:=hid hb2;clear hb2;have HPN:=hid (iQ (t:=dL) HB1.out HRw.out HRl.out (oQ _ _ _ _) HB2.out HR1.out);obtain⟨r0,r1,r2,r3,f0,f1,f2,f3⟩:=bC ((HB2.out.block R HRl.out).trans HR1.out);go_wp2_with fail;obtain⟨WF,hWF⟩:=exQ<|bF w2 R 0 ([]:aA) (.slice none 0 0) (.slice none 0 0);have hPN:eU w.heap.size (bF w2 R 0 ([]:aA) (.slice none 0 0) (.slice none 0 0)) (dL).depth (dL) (.slice none 0 0) (.slice none 0 0)/\Below w.heap.size w (bF w2 R 0 ([]:aA) (.slice none 0 0) (.slice none 0 0))/\(bF w2 R 0 ([]:aA) (.slice none 0 0) (.slice none 0 0)).heap[R]?=some (.cells #[.int .i64 0, .string (bs ([]:aA)),(.slice none 0 0),(.slice none 0 0)] 26):=HPN.out;rw[hWF] at hPN;have HPN2:=hid hPN;have hWF':(((w2.setCell ⟨R,0,none⟩ (.int .i64 0)).setCell ⟨R,1,none⟩ (.string (bs ([]:aA)))).setCell ⟨R,2,none⟩ (.slice none 0 0)).setCell ⟨R,3,none⟩ (.slice none 0 0)=WF:=hWF
          first
            | rw[hWF']
            | (have hWF2:(((w2.setCell ⟨R,0,none⟩ (.int .i64 0)).setCell ⟨R,1,none⟩ (.string ⟨#[]⟩)).setCell ⟨R,2,none⟩ (.slice none 0 0)).setCell ⟨R,3,none⟩ (.slice none 0 0)=WF:=hWF
               rw[hWF2])
          clear hWF hWF' hPN r0 r1 r2 r3 f0 f1 f2 f3 HPN;obtain⟨d0,d1,d2,d3,_⟩:=bC HPN2.out.2.2;refine bodyPost_ret (v:= .tuple #[.agg #[.int .i64 0, .string (bs ([]:aA)),(.slice none 0 0),(.slice none 0 0)], .int .i64 er]) ?_ rfl ⟨⟨_,_,rfl,HPN2.out.1⟩,HPN2.out.2.1⟩;simp[results,Tryz.results48,go_sem,d0,d1,d2,d3]
    rw[if_neg hq];have d34:((c.toNat:Int)==34)=false:=by rw[show (34:Int)=((34:UInt8).toNat:Int) from rfl,q34];exact aG.2 (λe=>hq (.inl e))
    have d39:((c.toNat:Int)==39)=false:=by rw[show (39:Int)=((39:UInt8).toNat:Int) from rfl,q39];exact aG.2 (λe=>hq (.inr e))
    clear hq q34 q39 CT COf;by_cases hq:c=91\/c=123
    · rw[if_pos hq];have hcc:((c.toNat:Int)==91)=true\/(((c.toNat:Int)==91)=false/\((c.toNat:Int)==123)=true):=by
        rcases hq with rfl|rfl
        · exact .inl rfl
        · exact .inr ⟨rfl,rfl⟩
      clear hq q91 q123 CB CRes;obtain⟨⟨T,at_,er⟩,hT⟩:=exQ<|eX t;rw[hT] at CJ;rw[hT];simp only[] at CJ ⊢;clear hT;rcases hcc with d91 | ⟨d91,d123⟩
      all_goals
        go_enter Tryz.func48,Tryz.ntmps48;go_upto_region 1 with fail;clear hW1 hR;go_wp2_with fail;refine(CJ.out _ (aB _ _)).mono ?_;rintro e w2 ⟨⟨kv,iv,rfl,hv2⟩,hb2⟩;obtain⟨pk,ck,px,cx,rfl,rfl⟩:=hv2.form;have hba:=aH w2 (.cells #[.int .i64 T.kind, .string (bs T.text), .slice pk T.keys.length ck, .slice px T.items.length cx] 26);obtain⟨w3,hw3⟩:=exQ<|w2.alloc (.cells #[.int .i64 T.kind, .string (bs T.text), .slice pk T.keys.length ck, .slice px T.items.length cx] 26);have hz:w3.heap[w2.heap.size]?=some (.cells #[.int .i64 T.kind, .string (bs T.text), .slice pk T.keys.length ck, .slice px T.items.length cx] 26):=by rw[<-hw3];exact heap_alloc_new w2 _
        rw[hw3] at hba;have HB3:=hid (aC hb2 hba);have HV3:=hid (hv2.keep hba);obtain⟨z0,z1,z2,z3,_⟩:=bC hz;have hRZ:R<w2.heap.size:=iN HRl.out hb2.size;have hRZ2:R≠w2.heap.size:=(by omega);unfold vv;clear hv2 hb2 hba hz;have HPN:=hid (iQ (t:=T) HB1.out HRw.out HRl.out HV3.out HB3.out HR1.out);obtain⟨r0,r1,r2,r3,f0,f1,f2,f3⟩:=bC ((HB3.out.block R HRl.out).trans HR1.out);go_wp2_with fail;obtain⟨WF,hWF⟩:=exQ<|bF w3 R T.kind T.text (.slice pk T.keys.length ck) (.slice px T.items.length cx);have hPN:eU w.heap.size (bF w3 R T.kind T.text (.slice pk T.keys.length ck) (.slice px T.items.length cx)) (T).depth (T) (.slice pk T.keys.length ck) (.slice px T.items.length cx)/\Below w.heap.size w (bF w3 R T.kind T.text (.slice pk T.keys.length ck) (.slice px T.items.length cx))/\(bF w3 R T.kind T.text (.slice pk T.keys.length ck) (.slice px T.items.length cx)).heap[R]?=some (.cells #[.int .i64 T.kind, .string (bs T.text),(.slice pk T.keys.length ck),(.slice px T.items.length cx)] 26):=HPN.out;rw[hWF] at hPN;have HPN2:=hid hPN;have hWF':(((w3.setCell ⟨R,0,none⟩ (.int .i64 T.kind)).setCell ⟨R,1,none⟩ (.string (bs T.text))).setCell ⟨R,2,none⟩ (.slice pk T.keys.length ck)).setCell ⟨R,3,none⟩ (.slice px T.items.length cx)=WF:=hWF
        first
          | rw[hWF']
          | (have hWF2:(((w3.setCell ⟨R,0,none⟩ (.int .i64 T.kind)).setCell ⟨R,1,none⟩ (.string ⟨#[]⟩)).setCell ⟨R,2,none⟩ (.slice pk T.keys.length ck)).setCell ⟨R,3,none⟩ (.slice px T.items.length cx)=WF:=hWF
             rw[hWF2])
        clear hWF hWF' hPN r0 r1 r2 r3 f0 f1 f2 f3 HPN;obtain⟨d0,d1,d2,d3,_⟩:=bC HPN2.out.2.2;refine bodyPost_ret (v:= .tuple #[.agg #[.int .i64 T.kind, .string (bs T.text),(.slice pk T.keys.length ck),(.slice px T.items.length cx)], .int .i64 er]) ?_ rfl ⟨⟨_,_,rfl,HPN2.out.1⟩,HPN2.out.2.1⟩;simp[results,Tryz.results48,go_sem,d0,d1,d2,d3]
    rw[if_neg hq];have d91:((c.toNat:Int)==91)=false:=by rw[show (91:Int)=((91:UInt8).toNat:Int) from rfl,q91];exact aG.2 (λe=>hq (.inl e))
    have d123:((c.toNat:Int)==123)=false:=by rw[show (123:Int)=((123:UInt8).toNat:Int) from rfl,q123];exact aG.2 (λe=>hq (.inr e))
    clear hq q91 q123 CJ;obtain⟨B,hB⟩:=exQ<|uF t;rw[hB] at CB;rw[hB];clear hB;cases B with
    | false=>
      rw[if_neg (by simp)];go_enter Tryz.func48,Tryz.ntmps48;go_upto_region 1 with fail;clear hW1 hR;go_wp2_with fail;refine(CB.out _ (aB _ _)).mono ?_;rintro e w2 ⟨rfl,hb2⟩;have HB2:=hid hb2;clear hb2;have HPN:=hid (iQ (t:=dL) HB1.out HRw.out HRl.out (oQ _ _ _ _) HB2.out HR1.out);obtain⟨r0,r1,r2,r3,f0,f1,f2,f3⟩:=bC ((HB2.out.block R HRl.out).trans HR1.out);go_wp2_with fail;obtain⟨WF,hWF⟩:=exQ<|bF w2 R 0 ([]:aA) (.slice none 0 0) (.slice none 0 0);have hPN:eU w.heap.size (bF w2 R 0 ([]:aA) (.slice none 0 0) (.slice none 0 0)) (dL).depth (dL) (.slice none 0 0) (.slice none 0 0)/\Below w.heap.size w (bF w2 R 0 ([]:aA) (.slice none 0 0) (.slice none 0 0))/\(bF w2 R 0 ([]:aA) (.slice none 0 0) (.slice none 0 0)).heap[R]?=some (.cells #[.int .i64 0, .string (bs ([]:aA)),(.slice none 0 0),(.slice none 0 0)] 26):=HPN.out;rw[hWF] at hPN;have HPN2:=hid hPN;have hWF':(((w2.setCell ⟨R,0,none⟩ (.int .i64 0)).setCell ⟨R,1,none⟩ (.string (bs ([]:aA)))).setCell ⟨R,2,none⟩ (.slice none 0 0)).setCell ⟨R,3,none⟩ (.slice none 0 0)=WF:=hWF
      first
        | rw[hWF']
        | (have hWF2:(((w2.setCell ⟨R,0,none⟩ (.int .i64 0)).setCell ⟨R,1,none⟩ (.string ⟨#[]⟩)).setCell ⟨R,2,none⟩ (.slice none 0 0)).setCell ⟨R,3,none⟩ (.slice none 0 0)=WF:=hWF
           rw[hWF2])
      clear hWF hWF' hPN r0 r1 r2 r3 f0 f1 f2 f3 HPN;obtain⟨d0,d1,d2,d3,_⟩:=bC HPN2.out.2.2;refine bodyPost_ret (v:= .tuple #[.agg #[.int .i64 0, .string (bs ([]:aA)),(.slice none 0 0),(.slice none 0 0)], .int .i64 2]) ?_ rfl ⟨⟨_,_,rfl,HPN2.out.1⟩,HPN2.out.2.1⟩;simp[results,Tryz.results48,go_sem,d0,d1,d2,d3]
    | true =>
      rw[if_pos rfl];have CR:=hid (λw' hb=>CRes.out t w' (by omega) hb);obtain⟨⟨rk,rs⟩,hrs⟩:=exQ<|rB t;have hrt:mW t= .mk rk rs [] []:=by unfold mW;rw[hrs]
      rw[hrs] at CR;rw[hrt];clear hrs hrt CRes;go_enter Tryz.func48,Tryz.ntmps48;go_upto_region 1 with fail;clear hW1 hR;go_wp2_with fail;refine(CB.out _ (aB _ _)).mono ?_;rintro e w2 ⟨rfl,hb2⟩;have HB2:=hid hb2;clear hb2;go_wp2_with fail;refine(CR.out _ HB2.out).mono ?_;rintro e w3 ⟨rfl,hb3⟩;have HB3:=hid (aC HB2.out hb3);clear hb3;have HPN:=hid (iQ (t:=VT.mk rk rs [] []) HB1.out HRw.out HRl.out (oQ _ _ _ _) HB3.out HR1.out);obtain⟨r0,r1,r2,r3,f0,f1,f2,f3⟩:=bC ((HB3.out.block R HRl.out).trans HR1.out);go_wp2_with fail;obtain⟨WF,hWF⟩:=exQ<|bF w3 R rk rs (.slice none 0 0) (.slice none 0 0);have hPN:eU w.heap.size (bF w3 R rk rs (.slice none 0 0) (.slice none 0 0)) (VT.mk rk rs [] []).depth (VT.mk rk rs [] []) (.slice none 0 0) (.slice none 0 0)/\Below w.heap.size w (bF w3 R rk rs (.slice none 0 0) (.slice none 0 0))/\(bF w3 R rk rs (.slice none 0 0) (.slice none 0 0)).heap[R]?=some (.cells #[.int .i64 rk, .string (bs rs),(.slice none 0 0),(.slice none 0 0)] 26):=HPN.out;rw[hWF] at hPN;have HPN2:=hid hPN;have hWF':(((w3.setCell ⟨R,0,none⟩ (.int .i64 rk)).setCell ⟨R,1,none⟩ (.string (bs rs))).setCell ⟨R,2,none⟩ (.slice none 0 0)).setCell ⟨R,3,none⟩ (.slice none 0 0)=WF:=hWF
      first
        | rw[hWF']
        | (have hWF2:(((w3.setCell ⟨R,0,none⟩ (.int .i64 rk)).setCell ⟨R,1,none⟩ (.string ⟨#[]⟩)).setCell ⟨R,2,none⟩ (.slice none 0 0)).setCell ⟨R,3,none⟩ (.slice none 0 0)=WF:=hWF
           rw[hWF2])
      clear hWF hWF' hPN r0 r1 r2 r3 f0 f1 f2 f3 HPN;obtain⟨d0,d1,d2,d3,_⟩:=bC HPN2.out.2.2;refine bodyPost_ret (v:= .tuple #[.agg #[.int .i64 rk, .string (bs rs),(.slice none 0 0),(.slice none 0 0)], .int .i64 0]) ?_ rfl ⟨⟨_,_,rfl,HPN2.out.1⟩,HPN2.out.2.1⟩;simp[results,Tryz.results48,go_sem,d0,d1,d2,d3]
end Go.Proofs.YtaifnmjjpddikaaGreatDoor
