import Derived.Test.YtjnooaljcgkfpaaGreatDoorBk14
import Derived.Test.YtjnooaljcgkfpaaGreatDoorBk13
import Derived.Test.YtjnooaljcgkfpaaGreatDoorBk11
set_option maxRecDepth 100000
set_option maxHeartbeats 4000000
namespace Go.Proofs.YtjnooaljcgkfpaaGreatDoor
set_option linter.unusedSimpArgs false
set_option linter.unusedVariables false
open Go.RowKit
open Go.Lib hiding intOf
def gQ:VT:= .mk 0 [] [] []
def lF (s:aA):VT:= .mk 4 s [] []
def lG (s:aA):VT:= .mk (lX s).1 (lX s).2 [] []
def nH (s:aA):VT×Int×Int:=if(gY s).2.2≠0 then(gQ,(gY s).2.1,(gY s).2.2) else(bQ s (gY s).1 32 0,(gY s).2.1,0)
def vW (t:aA):aA×Int:=if(iP t 0).2.2≠0\/(iP t 0).2.1≠(t.length:Int) then([],2) else((iP t 0).1,0)
def lH (t:aA):aA×Int:=if t.head?=some 39 then vW t else((fW t).1,(fW t).2.2)
def iU (t:aA):VT×Int:=match t with
 | []=>(lG [],0)
 | c::r=>if c=34\/c=39 then(if(lH (c::r)).2≠0 then(gQ,(lH (c::r)).2) else(lF (lH (c::r)).1,0))
  else if c=91\/c=123 then((nH (c::r)).1,(nH (c::r)).2.2)
  else if fH (c::r) then(lG (c::r),0) else(gQ,2)
def mJ (t:aA):aA×Int:=match t with
 | []=>([],2)
 | c::r=>if c=34\/c=39 then lH (c::r) else if fH (c::r) then(c::r,0) else([],2)
theorem aAT (t:aA) (w:World) (hs:t.length<=1073741824) (hT:cD w):
  Calls Tryz.prog 142 #[.string (bs t)] w λe w'=>e=eC (vW t)/\Below w.heap.size w w':=by
 have sl:=aQ t;have C1:=hid (Ew t 0 w hs hT);unfold lR at C1;unfold eC vW;obtain⟨⟨S,k,er⟩,c⟩:=exQ<|iP t 0;rw[c] at C1;rw[c];clear c hT;simp only[];by_cases he:er=0
 ·subst he;by_cases hk:k=(t.length:Int)
  ·have dk:(k !=(t.length:Int))=false:=(by simp[hk]);rw[if_neg (by simp[hk])];go_enter Tryz.func142,Tryz.ntmps142;go_wp2_with fail;refine C1.out.mono ?_;rintro e w1 ⟨rfl,a⟩;have b:=hid a;clear a;go_wp2_with fail;go_ret2;exact⟨rfl,b.out⟩
  ·have dk:(k !=(t.length:Int))=true:=(by simp[hk]);rw[if_pos (.inr hk)];go_enter Tryz.func142,Tryz.ntmps142;go_wp2_with fail;refine C1.out.mono ?_;rintro e w1 ⟨rfl,a⟩;have b:=hid a;clear a hk;go_wp2_with fail;go_ret2;exact⟨rfl,b.out⟩
 ·have de:(er !=0)=true:=by simp[he]
  rw[if_pos (.inl he)];go_enter Tryz.func142,Tryz.ntmps142;go_wp2_with fail;refine C1.out.mono ?_;rintro e w1 ⟨rfl,a⟩;have b:=hid a;clear a he;go_wp2_with fail;go_ret2;exact⟨rfl,b.out⟩
theorem Nd (t:aA) (c:UInt8) (r:aA) (ht:c::r=t) (w:World) (hs:t.length<=1073741824) (hV:cG w):
  Calls Tryz.prog 114 #[.string (bs t)] w λe w'=>e=eC (lH t)/\Below w.heap.size w w':=by
 have sl:=aQ t;have f:0<t.length:=by rw[<-ht];simp
 have hc0:(bs t)[0]'(by rw[aQ];exact f)=c:=by
  subst ht;rfl
 have g:t.head?=some c:=by rw[<-ht];rfl
 have C1:=hid (aAT t w hs hV.tabs);have C2:=hid (zP t w hs hV.2 hV.tabs);unfold lR at C2;unfold lH;rw[g];clear hV g ht;by_cases h39:c=39
 ·have d39:((c.toNat:Int)==39)=true:=by rw[h39];rfl
  rw[if_pos (by rw[h39])];unfold eC at C1 ⊢;obtain⟨⟨S,er⟩,b⟩:=exQ<|vW t;rw[b] at C1;rw[b];clear b h39;go_enter Tryz.func114,Tryz.ntmps114;go_wp2_with fail;refine C1.out.mono ?_;rintro e w1 ⟨rfl,a⟩;have d:=hid a;clear a;go_wp2_with fail;go_ret2;exact⟨rfl,d.out⟩
 ·have d39:((c.toNat:Int)==39)=false:=aG.2 (λe=>h39 (UInt8.toNat_inj.1 (by exact_mod_cast e)));rw[if_neg (by simpa using h39)];unfold eC;obtain⟨⟨S,k,er⟩,b⟩:=exQ<|fW t;rw[b] at C2;rw[b];clear b h39;go_enter Tryz.func114,Tryz.ntmps114;go_wp2_with fail;refine C2.out.mono ?_;rintro e w1 ⟨rfl,a⟩;have d:=hid a;clear a;go_wp2_with fail;go_ret2;exact⟨rfl,d.out⟩
theorem vX (c d:UInt8):((c.toNat:Int)==(d.toNat:Int))=(c==d):=by
 by_cases h:c=d
 ·subst h;simp
 ·rw[aG.2 h];exact aG.2 (λe=>h (UInt8.toNat_inj.1 (by exact_mod_cast e)))
theorem Nf (t:aA) (w:World) (hs:t.length<=1073741824) (hV:cG w):
  Calls Tryz.prog 72 #[.string (bs t)] w λe w'=>e=eC (mJ t)/\Below w.heap.size w w':=by
 have sl:=aQ t;cases t with
 | nil=>
  have e0:((bs ([]:aA)).toList== [])=true:=rH [];have e0b:(bs ([]:aA)).toList.isEmpty=true:=pZ [];unfold mJ eC;go_enter Tryz.func72,Tryz.ntmps72;go_wp2_with fail;go_ret2;exact⟨rfl,aB _ _⟩
 | cons c r=>
  have C1:=hid (Nd (c::r) c r rfl w hs hV);have C2:=hid (Aw (c::r) w hs hV.1);have q34:=vX c 34;have q39:=vX c 39;unfold mJ eC at *;simp only[];obtain⟨t,g⟩:=exQ<|c::r;have f:0<t.length:=by rw[<-g];simp
  have hc0:(bs t)[0]'(by rw[aQ];exact f)=c:=by
   subst g;rfl
  have d:t≠ []:=by rw[<-g];simp
  have e0:((bs t).toList== [])=false:=by rw[rH];cases t<;>simp at d ⊢
  have e0b:(bs t).toList.isEmpty=false:=by rw[pZ];cases t<;>simp at d ⊢
  rw[g] at hs sl C1 C2 ⊢;obtain⟨⟨S,er⟩,i⟩:=exQ<|lH t;rw[i] at C1;rw[i];obtain⟨B,h⟩:=exQ<|fH t;rw[h] at C2;rw[h];clear i g hV h d;by_cases h34:c=34
  ·have d34:((c.toNat:Int)==34)=true:=by rw[h34];rfl
   rw[if_pos (.inl h34)];clear h34 q34 q39;go_enter Tryz.func72,Tryz.ntmps72;go_wp2_with fail;refine C1.out.mono ?_;rintro e w1 ⟨rfl,a⟩;have b:=hid a;clear a;go_wp2_with fail;go_ret2;exact⟨rfl,b.out⟩
  have d34:((c.toNat:Int)==34)=false:=aG.2 (λe=>h34 (UInt8.toNat_inj.1 (by exact_mod_cast e)));by_cases h39:c=39
  ·have d39:((c.toNat:Int)==39)=true:=by rw[h39];rfl
   rw[if_pos (.inr h39)];clear h34 h39 q34 q39;go_enter Tryz.func72,Tryz.ntmps72;go_wp2_with fail;refine C1.out.mono ?_;rintro e w1 ⟨rfl,a⟩;have b:=hid a;clear a;go_wp2_with fail;go_ret2;exact⟨rfl,b.out⟩
  have d39:((c.toNat:Int)==39)=false:=aG.2 (λe=>h39 (UInt8.toNat_inj.1 (by exact_mod_cast e)));rw[if_neg (by simp[h34,h39])];clear h34 h39 q34 q39;cases B with
  | true=>
   rw[if_pos rfl];go_enter Tryz.func72,Tryz.ntmps72;go_wp2_with fail;refine C2.out.mono ?_;rintro e w1 ⟨rfl,a⟩;have b:=hid a;clear a;go_wp2_with fail;go_ret2;exact⟨rfl,b.out⟩
  | false=>
   rw[if_neg (by simp)];go_enter Tryz.func72,Tryz.ntmps72;go_wp2_with fail;refine C2.out.mono ?_;rintro e w1 ⟨rfl,a⟩;have b:=hid a;clear a;go_wp2_with fail;go_ret2;exact⟨rfl,b.out⟩
def Fe (t:VT) (a er:Int) (w:World) (e:Ending) (w':World):Prop:=(∃kv iv,e= .returned (.tuple #[vv t kv iv, .int .i64 a, .int .i64 er])/\jP w.heap.size w' t.depth t kv iv)/\Below w.heap.size w w'
def Ay (t:VT) (er:Int) (w:World) (e:Ending) (w':World):Prop:=(∃kv iv,e= .returned (.tuple #[vv t kv iv, .int .i64 er])/\jP w.heap.size w' t.depth t kv iv)/\Below w.heap.size w w'
theorem sV (B:Nat) (w:World) (k:Int) (s:aA):jP B w (VT.mk k s [] []).depth (VT.mk k s [] []) (.slice none 0 0) (.slice none 0 0):=by
 rw[VT.depth];exact⟨⟨none,0,rfl,aD _, .inl rfl⟩,none,0,rfl,aD _, .inl rfl⟩
theorem mK {w W w':World}{R:Nat}{t:VT}{k0:Int}{t0:aA}{a b kv iv:Value} (hb:Below w.heap.size w W) (hR:w.heap.size<=R) (hRW:R<W.heap.size) (hv:jP W.heap.size w' t.depth t kv iv) (hb2:Below W.heap.size W w') (hc:W.heap[R]?=some (.cells #[.int .i64 k0, .string (bs t0),a,b] 25)):
  jP w.heap.size (bL w' R t.kind t.text kv iv) t.depth t kv iv/\Below w.heap.size w (bL w' R t.kind t.text kv iv)/\(bL w' R t.kind t.text kv iv).heap[R]?=some (.cells #[.int .i64 t.kind, .string (bs t.text),kv,iv] 25):=
 ⟨hv.agree (λq c _=>⟨Fc (by omega),aV hb.size c⟩),yC (aC hb hb2) hR,yD ((hb2.block R hRW).trans hc)⟩
theorem aAU {s:aA}{ns:List aF}{a:Int} (h:gY s=(ns,a,0)):s.length<=65536:=by
 unfold gY eW at h;by_cases hl:65536<s.length
 ·simp[hl] at h
 ·omega
theorem aAV (s:aA) (w:World) (hs0:s.length<=4611686018427387904) (hV:cG w):
  Calls Tryz.prog 115 #[.string (bs s)] w (Fe (nH s).1 (nH s).2.1 (nH s).2.2 w):=by
 obtain⟨R,E⟩:=exQ<|w.heap.size;obtain⟨W1,l⟩:=exQ<|w.alloc (.cells #[.int .i64 0, .string ⟨#[]⟩, .slice none 0 0, .slice none 0 0] 25);have r:Hid (Below w.heap.size w W1):=hid (by rw[<-l];exact aH _ _);have i:Hid (W1.heap[R]?=some (.cells #[.int .i64 0, .string (bs []), .slice none 0 0, .slice none 0 0] 25)):=hid (by rw[<-l,<-E];exact heap_alloc_new w _);have k:=hid (aE i.out);have C:=hid (hV.keep r.out);have CP:=hid (Zz s _ rfl W1 (by omega) C.out.2 C.out.tabs);have b:(gY s).2.2=0->(gY s).1.length<=65536:=λ_=>Em s;unfold nH;obtain⟨⟨ns,at_,er⟩,hP⟩:=exQ<|gY s;rw[hP] at CP b;rw[hP];simp only[] at b ⊢;have D:=hid hP;unfold Lw at CP;simp only[] at CP;clear hV hP;by_cases he:er=0
 ·subst he;rw[if_neg (by simp)];simp only[];have J:s.length<=1073741824:=by have:=aAU D.out;omega
  have G:=hid (Di D.out);have u:xM s ns=s:=by
   have:=G.out.lt;cases ns with
   | nil=>simp at this
   | cons _ _=>rfl
  rw[u] at CP;have F:=b rfl;have I:=hid F;clear b u F;go_enter Tryz.func115,Tryz.ntmps115;go_upto_region 1 with fail;clear l;go_wp2_with fail;refine CP.out.mono ?_;rintro e w1 ⟨p,c,rfl,j,g⟩;have o:=aH w1 (.cells #[.string (bs s), .slice p ns.length c] 174);have n:=aC g o;have z:=hid n;have y:=hid (Nc s ns p c I.out J 32 0 ns.length 1 _ G.out (hid rfl) (aD _) (j.keep o) (C.out.keep n));clear j g o n CP;go_wp2_with fail;refine y.out.mono ?_;rintro e w4 ⟨⟨kv,iv,rfl,m⟩,x⟩;obtain⟨pk,ck,px,cx,rfl,rfl⟩:=m.form;have h:=hid (aC z.out x);have B:=hid (m.mono (ok':=λq=>W1.heap.size<=q) (λq H _=>aV z.out.size H));have a:=hid (mK r.out (by rw[E];exact aD _) k.out B.out h.out i.out);obtain⟨r0,r1,r2,r3,f0,f1,f2,f3⟩:=cF ((h.out.block R k.out).trans i.out);unfold vv;clear m x y;go_wp2_with fail;obtain⟨WF,f⟩:=exQ<|bL w4 R (bQ s ns 32 0).kind (bQ s ns 32 0).text (.slice pk (bQ s ns 32 0).keys.length ck) (.slice px (bQ s ns 32 0).items.length cx);rw[f] at a;have d:(((w4.setCell ⟨R,0,none⟩ (.int .i64 (bQ s ns 32 0).kind)).setCell ⟨R,1,none⟩ (.string (bs (bQ s ns 32 0).text))).setCell ⟨R,2,none⟩ (.slice pk (bQ s ns 32 0).keys.length ck)).setCell ⟨R,3,none⟩ (.slice px (bQ s ns 32 0).items.length cx)=WF:=f;rw[d];clear f d r0 r1 r2 r3 f0 f1 f2 f3;obtain⟨d0,d1,d2,d3,_⟩:=cF a.out.2.2;refine bodyPost_ret (v:= .tuple #[vv (bQ s ns 32 0) (.slice pk (bQ s ns 32 0).keys.length ck) (.slice px (bQ s ns 32 0).items.length cx), .int .i64 at_, .int .i64 0]) ?_ rfl ⟨⟨_,_,rfl,a.out.1⟩,a.out.2.1⟩;simp[results,Tryz.results115,go_sem,d0,d1,d2,d3,vv]
 ·rw[if_pos he];simp only[];have de:(er !=0)=true:=by simp[he]
  clear b D;go_enter Tryz.func115,Tryz.ntmps115;go_upto_region 1 with fail;clear l;go_wp2_with fail;refine CP.out.mono ?_;rintro e w1 ⟨p,c,rfl,j,g⟩;have HB1':=hid g;obtain⟨w4,A⟩:=exQ<|w1.alloc (.cells #[.string (bs (xM s ns)), .slice p ns.length c] 174);have h:Hid (Below W1.heap.size W1 w4):=hid (aC g (by rw[<-A];exact aH _ _));have a:=hid (mK (t:=gQ) r.out (by rw[E];exact aD _) k.out (sV _ _ _ _) h.out i.out);obtain⟨r0,r1,r2,r3,f0,f1,f2,f3⟩:=cF ((h.out.block R k.out).trans i.out);clear j g CP;go_wp2_with fail;obtain⟨WF,f⟩:=exQ<|bL w4 R gQ.kind gQ.text (.slice none 0 0) (.slice none 0 0);rw[f] at a;have d:(((w4.setCell ⟨R,0,none⟩ (.int .i64 0)).setCell ⟨R,1,none⟩ (.string ⟨#[]⟩)).setCell ⟨R,2,none⟩ (.slice none 0 0)).setCell ⟨R,3,none⟩ (.slice none 0 0)=WF:=f;rw[d];clear f d r0 r1 r2 r3 f0 f1 f2 f3;obtain⟨d0,d1,d2,d3,_⟩:=cF a.out.2.2;refine bodyPost_ret (v:= .tuple #[vv gQ (.slice none 0 0) (.slice none 0 0), .int .i64 at_, .int .i64 er]) ?_ rfl ⟨⟨_,_,rfl,a.out.1⟩,a.out.2.1⟩;simp[results,Tryz.results115,go_sem,d0,d1,d2,d3,vv]
theorem aAW (s:aA) (w:World) (hs:s.length<=1073741824) (hV:cG w):
  Calls Tryz.prog 115 #[.string (bs s)] w (Fe (nH s).1 (nH s).2.1 (nH s).2.2 w):=aAV s w (by omega) hV
theorem Ng (t:aA) (w:World) (hs:t.length<=1073741824) (hV:cG w):
    Calls Tryz.prog 69 #[.string (bs t)] w (Ay (iU t).1 (iU t).2 w):=by
  have sl:=aQ t;obtain⟨R,D⟩:=exQ<|w.heap.size;obtain⟨W1,o⟩:=exQ<|w.alloc (.cells #[.int .i64 0, .string ⟨#[]⟩, .slice none 0 0, .slice none 0 0] 25);have q:Hid (Below w.heap.size w W1):=hid (by rw[<-o];exact aH _ _);have m:Hid (W1.heap[R]?=some (.cells #[.int .i64 0, .string (bs []), .slice none 0 0, .slice none 0 0] 25)):=hid (by rw[<-o,<-D];exact heap_alloc_new w _);have k:=hid (aE m.out);have u:Hid (w.heap.size<=R):=hid (by rw[D];exact aD _);have J:=hid (hV.keep q.out);have CRes:Hid (∀(s:aA) w',s.length<=1073741824->Below W1.heap.size W1 w'->Calls Tryz.prog 33 #[.string (bs s)] w' λe w2=>e=vU s/\Below w'.heap.size w' w2):=hid (λs w' h z=>My s w' h (J.out.keep z).1);have COf:Hid (∀(s:aA) w',Calls Tryz.prog 13 #[.string (bs s)] w' λe w2=>e= .returned (.agg #[.int .i64 4, .string (bs s), .slice none 0 0, .slice none 0 0])/\Below w'.heap.size w' w2):=hid (λs w'=>yB s w');unfold vU at CRes;cases t with
  | nil=>
    have e0:((bs ([]:aA)).toList== [])=true:=rH [];have e0b:(bs ([]:aA)).toList.isEmpty=true:=pZ [];show Calls _ _ _ _ (Ay (lG []) 0 w);have CR:=hid (λw' z=>CRes.out [] w' (by decide) z);obtain⟨⟨rk,rs⟩,p⟩:=exQ<|lX [];have x:lG []= .mk rk rs [] []:=by unfold lG;rw[p]
    rw[p] at CR;rw[x];clear p x CRes;clear hV;go_enter Tryz.func69,Tryz.ntmps69;go_upto_region 1 with fail;clear o D;go_wp2_with fail;refine(CR.out _ (aB _ _)).mono ?_;rintro e w2 ⟨rfl,g⟩;have l:=hid g;clear g;have i:=hid (mK (t:=VT.mk rk rs [] []) q.out u.out k.out (sV _ _ _ _) l.out m.out);obtain⟨r0,r1,r2,r3,f0,f1,f2,f3⟩:=cF ((l.out.block R k.out).trans m.out);go_wp2_with fail;obtain⟨WF,b⟩:=exQ<|bL w2 R rk rs (.slice none 0 0) (.slice none 0 0);have f:jP w.heap.size (bL w2 R rk rs (.slice none 0 0) (.slice none 0 0)) (VT.mk rk rs [] []).depth (VT.mk rk rs [] []) (.slice none 0 0) (.slice none 0 0)/\Below w.heap.size w (bL w2 R rk rs (.slice none 0 0) (.slice none 0 0))/\(bL w2 R rk rs (.slice none 0 0) (.slice none 0 0)).heap[R]?=some (.cells #[.int .i64 rk, .string (bs rs),(.slice none 0 0),(.slice none 0 0)] 25):=i.out;rw[b] at f;have a:=hid f;have d:(((w2.setCell ⟨R,0,none⟩ (.int .i64 rk)).setCell ⟨R,1,none⟩ (.string (bs rs))).setCell ⟨R,2,none⟩ (.slice none 0 0)).setCell ⟨R,3,none⟩ (.slice none 0 0)=WF:=b
    first
      | rw[d]
      | (have j:(((w2.setCell ⟨R,0,none⟩ (.int .i64 rk)).setCell ⟨R,1,none⟩ (.string ⟨#[]⟩)).setCell ⟨R,2,none⟩ (.slice none 0 0)).setCell ⟨R,3,none⟩ (.slice none 0 0)=WF:=b
         rw[j])
    clear b d f r0 r1 r2 r3 f0 f1 f2 f3 i;obtain⟨d0,d1,d2,d3,_⟩:=cF a.out.2.2;refine bodyPost_ret (v:= .tuple #[.agg #[.int .i64 rk, .string (bs rs),(.slice none 0 0),(.slice none 0 0)], .int .i64 0]) ?_ rfl ⟨⟨_,_,rfl,a.out.1⟩,a.out.2.1⟩;simp[results,Tryz.results69,go_sem,d0,d1,d2,d3]
  | cons c r=>
    have CT:=hid (λw' (z:Below W1.heap.size W1 w')=>Nd (c::r) c r rfl w' hs (J.out.keep z));have CB:=hid (λw' (z:Below W1.heap.size W1 w')=>Aw (c::r) w' hs (J.out.keep z).1);have CJ:=hid (λw' (z:Below W1.heap.size W1 w')=>aAW (c::r) w' hs (J.out.keep z));unfold iU;simp only[];obtain⟨t,I⟩:=exQ<|c::r;have G:0<t.length:=by rw[<-I];simp
    have hc0:(bs t)[0]'(by rw[aQ];exact G)=c:=by
      subst I;rfl
    have F:t≠ []:=by rw[<-I];simp
    have e0:((bs t).toList== [])=false:=by rw[rH];cases t<;>simp at F ⊢
    have e0b:(bs t).toList.isEmpty=false:=by rw[pZ];cases t<;>simp at F ⊢
    rw[I] at hs sl CT CB CJ ⊢;have q34:=vX c 34;have q39:=vX c 39;have q91:=vX c 91;have q123:=vX c 123;clear I F hV;by_cases hq:c=34\/c=39
    · rw[if_pos hq];obtain⟨⟨S,er⟩,K⟩:=exQ<|lH t;unfold eC at CT;rw[K] at CT;rw[K];simp only[];clear K CB CJ q91 q123;have A:((c.toNat:Int)==34)=true\/(((c.toNat:Int)==34)=false/\((c.toNat:Int)==39)=true):=by
        rcases hq with rfl|rfl
        · exact .inl rfl
        · exact .inr ⟨rfl,rfl⟩
      clear hq q34 q39;by_cases he:er=0
      · subst he;rw[if_neg (by simp)];have CO:=hid (COf.out S);rcases A with d34 | ⟨d34,d39⟩
        all_goals
          go_enter Tryz.func69,Tryz.ntmps69;go_upto_region 1 with fail;clear o D;go_wp2_with fail;refine(CT.out _ (aB _ _)).mono ?_;rintro e w2 ⟨rfl,g⟩;have l:=hid g;clear g;go_wp2_with fail;refine(CO.out _).mono ?_;rintro e w3 ⟨rfl,y⟩;have n:=hid (aC l.out y);clear y;have i:=hid (mK (t:=lF S) q.out u.out k.out (sV _ _ _ _) n.out m.out);obtain⟨r0,r1,r2,r3,f0,f1,f2,f3⟩:=cF ((n.out.block R k.out).trans m.out);go_wp2_with fail;obtain⟨WF,b⟩:=exQ<|bL w3 R 4 S (.slice none 0 0) (.slice none 0 0);have f:jP w.heap.size (bL w3 R 4 S (.slice none 0 0) (.slice none 0 0)) (lF S).depth (lF S) (.slice none 0 0) (.slice none 0 0)/\Below w.heap.size w (bL w3 R 4 S (.slice none 0 0) (.slice none 0 0))/\(bL w3 R 4 S (.slice none 0 0) (.slice none 0 0)).heap[R]?=some (.cells #[.int .i64 4, .string (bs S),(.slice none 0 0),(.slice none 0 0)] 25):=i.out;rw[b] at f;have a:=hid f;have d:(((w3.setCell ⟨R,0,none⟩ (.int .i64 4)).setCell ⟨R,1,none⟩ (.string (bs S))).setCell ⟨R,2,none⟩ (.slice none 0 0)).setCell ⟨R,3,none⟩ (.slice none 0 0)=WF:=b
          first
            | rw[d]
            | (have j:(((w3.setCell ⟨R,0,none⟩ (.int .i64 4)).setCell ⟨R,1,none⟩ (.string ⟨#[]⟩)).setCell ⟨R,2,none⟩ (.slice none 0 0)).setCell ⟨R,3,none⟩ (.slice none 0 0)=WF:=b
               rw[j])
          clear b d f r0 r1 r2 r3 f0 f1 f2 f3 i;obtain⟨d0,d1,d2,d3,_⟩:=cF a.out.2.2;refine bodyPost_ret (v:= .tuple #[.agg #[.int .i64 4, .string (bs S),(.slice none 0 0),(.slice none 0 0)], .int .i64 0]) ?_ rfl ⟨⟨_,_,rfl,a.out.1⟩,a.out.2.1⟩;simp[results,Tryz.results69,go_sem,d0,d1,d2,d3]
      · have de:(er !=0)=true:=(by simp[he]);rw[if_pos he];rcases A with d34 | ⟨d34,d39⟩
        all_goals
          go_enter Tryz.func69,Tryz.ntmps69;go_upto_region 1 with fail;clear o D;go_wp2_with fail;refine(CT.out _ (aB _ _)).mono ?_;rintro e w2 ⟨rfl,g⟩;have l:=hid g;clear g;have i:=hid (mK (t:=gQ) q.out u.out k.out (sV _ _ _ _) l.out m.out);obtain⟨r0,r1,r2,r3,f0,f1,f2,f3⟩:=cF ((l.out.block R k.out).trans m.out);go_wp2_with fail;obtain⟨WF,b⟩:=exQ<|bL w2 R 0 ([]:aA) (.slice none 0 0) (.slice none 0 0);have f:jP w.heap.size (bL w2 R 0 ([]:aA) (.slice none 0 0) (.slice none 0 0)) (gQ).depth (gQ) (.slice none 0 0) (.slice none 0 0)/\Below w.heap.size w (bL w2 R 0 ([]:aA) (.slice none 0 0) (.slice none 0 0))/\(bL w2 R 0 ([]:aA) (.slice none 0 0) (.slice none 0 0)).heap[R]?=some (.cells #[.int .i64 0, .string (bs ([]:aA)),(.slice none 0 0),(.slice none 0 0)] 25):=i.out;rw[b] at f;have a:=hid f;have d:(((w2.setCell ⟨R,0,none⟩ (.int .i64 0)).setCell ⟨R,1,none⟩ (.string (bs ([]:aA)))).setCell ⟨R,2,none⟩ (.slice none 0 0)).setCell ⟨R,3,none⟩ (.slice none 0 0)=WF:=b
          first
            | rw[d]
            | (have j:(((w2.setCell ⟨R,0,none⟩ (.int .i64 0)).setCell ⟨R,1,none⟩ (.string ⟨#[]⟩)).setCell ⟨R,2,none⟩ (.slice none 0 0)).setCell ⟨R,3,none⟩ (.slice none 0 0)=WF:=b
               rw[j])
          clear b d f r0 r1 r2 r3 f0 f1 f2 f3 i;obtain⟨d0,d1,d2,d3,_⟩:=cF a.out.2.2;refine bodyPost_ret (v:= .tuple #[.agg #[.int .i64 0, .string (bs ([]:aA)),(.slice none 0 0),(.slice none 0 0)], .int .i64 er]) ?_ rfl ⟨⟨_,_,rfl,a.out.1⟩,a.out.2.1⟩;simp[results,Tryz.results69,go_sem,d0,d1,d2,d3]
    rw[if_neg hq];have d34:((c.toNat:Int)==34)=false:=by rw[show (34:Int)=((34:UInt8).toNat:Int) from rfl,q34];exact aG.2 (λe=>hq (.inl e))
    have d39:((c.toNat:Int)==39)=false:=by rw[show (39:Int)=((39:UInt8).toNat:Int) from rfl,q39];exact aG.2 (λe=>hq (.inr e))
    clear hq q34 q39 CT COf;by_cases hq:c=91\/c=123
    · rw[if_pos hq];have A:((c.toNat:Int)==91)=true\/(((c.toNat:Int)==91)=false/\((c.toNat:Int)==123)=true):=by
        rcases hq with rfl|rfl
        · exact .inl rfl
        · exact .inr ⟨rfl,rfl⟩
      clear hq q91 q123 CB CRes;obtain⟨⟨T,at_,er⟩,N⟩:=exQ<|nH t;rw[N] at CJ;rw[N];simp only[] at CJ ⊢;clear N;rcases A with d91 | ⟨d91,d123⟩
      all_goals
        go_enter Tryz.func69,Tryz.ntmps69;go_upto_region 1 with fail;clear o D;go_wp2_with fail;refine(CJ.out _ (aB _ _)).mono ?_;rintro e w2 ⟨⟨kv,iv,rfl,E⟩,g⟩;obtain⟨pk,ck,px,cx,rfl,rfl⟩:=E.form;have C:=aH w2 (.cells #[.int .i64 T.kind, .string (bs T.text), .slice pk T.keys.length ck, .slice px T.items.length cx] 25);obtain⟨w3,H⟩:=exQ<|w2.alloc (.cells #[.int .i64 T.kind, .string (bs T.text), .slice pk T.keys.length ck, .slice px T.items.length cx] 25);have O:w3.heap[w2.heap.size]?=some (.cells #[.int .i64 T.kind, .string (bs T.text), .slice pk T.keys.length ck, .slice px T.items.length cx] 25):=by rw[<-H];exact heap_alloc_new w2 _
        rw[H] at C;have n:=hid (aC g C);have M:=hid (E.keep C);obtain⟨z0,z1,z2,z3,_⟩:=cF O;have hRZ:R<w2.heap.size:=iI k.out g.size;have hRZ2:R≠w2.heap.size:=(by omega);unfold vv;clear E g C O;have i:=hid (mK (t:=T) q.out u.out k.out M.out n.out m.out);obtain⟨r0,r1,r2,r3,f0,f1,f2,f3⟩:=cF ((n.out.block R k.out).trans m.out);go_wp2_with fail;obtain⟨WF,b⟩:=exQ<|bL w3 R T.kind T.text (.slice pk T.keys.length ck) (.slice px T.items.length cx);have f:jP w.heap.size (bL w3 R T.kind T.text (.slice pk T.keys.length ck) (.slice px T.items.length cx)) (T).depth (T) (.slice pk T.keys.length ck) (.slice px T.items.length cx)/\Below w.heap.size w (bL w3 R T.kind T.text (.slice pk T.keys.length ck) (.slice px T.items.length cx))/\(bL w3 R T.kind T.text (.slice pk T.keys.length ck) (.slice px T.items.length cx)).heap[R]?=some (.cells #[.int .i64 T.kind, .string (bs T.text),(.slice pk T.keys.length ck),(.slice px T.items.length cx)] 25):=i.out;rw[b] at f;have a:=hid f;have d:(((w3.setCell ⟨R,0,none⟩ (.int .i64 T.kind)).setCell ⟨R,1,none⟩ (.string (bs T.text))).setCell ⟨R,2,none⟩ (.slice pk T.keys.length ck)).setCell ⟨R,3,none⟩ (.slice px T.items.length cx)=WF:=b
        first
          | rw[d]
          | (have j:(((w3.setCell ⟨R,0,none⟩ (.int .i64 T.kind)).setCell ⟨R,1,none⟩ (.string ⟨#[]⟩)).setCell ⟨R,2,none⟩ (.slice pk T.keys.length ck)).setCell ⟨R,3,none⟩ (.slice px T.items.length cx)=WF:=b
             rw[j])
        clear b d f r0 r1 r2 r3 f0 f1 f2 f3 i;obtain⟨d0,d1,d2,d3,_⟩:=cF a.out.2.2;refine bodyPost_ret (v:= .tuple #[.agg #[.int .i64 T.kind, .string (bs T.text),(.slice pk T.keys.length ck),(.slice px T.items.length cx)], .int .i64 er]) ?_ rfl ⟨⟨_,_,rfl,a.out.1⟩,a.out.2.1⟩;simp[results,Tryz.results69,go_sem,d0,d1,d2,d3]
    rw[if_neg hq];have d91:((c.toNat:Int)==91)=false:=by rw[show (91:Int)=((91:UInt8).toNat:Int) from rfl,q91];exact aG.2 (λe=>hq (.inl e))
    have d123:((c.toNat:Int)==123)=false:=by rw[show (123:Int)=((123:UInt8).toNat:Int) from rfl,q123];exact aG.2 (λe=>hq (.inr e))
    clear hq q91 q123 CJ;obtain⟨B,L⟩:=exQ<|fH t;rw[L] at CB;rw[L];clear L;cases B with
    | false=>
      rw[if_neg (by simp)];go_enter Tryz.func69,Tryz.ntmps69;go_upto_region 1 with fail;clear o D;go_wp2_with fail;refine(CB.out _ (aB _ _)).mono ?_;rintro e w2 ⟨rfl,g⟩;have l:=hid g;clear g;have i:=hid (mK (t:=gQ) q.out u.out k.out (sV _ _ _ _) l.out m.out);obtain⟨r0,r1,r2,r3,f0,f1,f2,f3⟩:=cF ((l.out.block R k.out).trans m.out);go_wp2_with fail;obtain⟨WF,b⟩:=exQ<|bL w2 R 0 ([]:aA) (.slice none 0 0) (.slice none 0 0);have f:jP w.heap.size (bL w2 R 0 ([]:aA) (.slice none 0 0) (.slice none 0 0)) (gQ).depth (gQ) (.slice none 0 0) (.slice none 0 0)/\Below w.heap.size w (bL w2 R 0 ([]:aA) (.slice none 0 0) (.slice none 0 0))/\(bL w2 R 0 ([]:aA) (.slice none 0 0) (.slice none 0 0)).heap[R]?=some (.cells #[.int .i64 0, .string (bs ([]:aA)),(.slice none 0 0),(.slice none 0 0)] 25):=i.out;rw[b] at f;have a:=hid f;have d:(((w2.setCell ⟨R,0,none⟩ (.int .i64 0)).setCell ⟨R,1,none⟩ (.string (bs ([]:aA)))).setCell ⟨R,2,none⟩ (.slice none 0 0)).setCell ⟨R,3,none⟩ (.slice none 0 0)=WF:=b
      first
        | rw[d]
        | (have j:(((w2.setCell ⟨R,0,none⟩ (.int .i64 0)).setCell ⟨R,1,none⟩ (.string ⟨#[]⟩)).setCell ⟨R,2,none⟩ (.slice none 0 0)).setCell ⟨R,3,none⟩ (.slice none 0 0)=WF:=b
           rw[j])
      clear b d f r0 r1 r2 r3 f0 f1 f2 f3 i;obtain⟨d0,d1,d2,d3,_⟩:=cF a.out.2.2;refine bodyPost_ret (v:= .tuple #[.agg #[.int .i64 0, .string (bs ([]:aA)),(.slice none 0 0),(.slice none 0 0)], .int .i64 2]) ?_ rfl ⟨⟨_,_,rfl,a.out.1⟩,a.out.2.1⟩;simp[results,Tryz.results69,go_sem,d0,d1,d2,d3]
    | true =>
      rw[if_pos rfl];have CR:=hid (λw' z=>CRes.out t w' (by omega) z);obtain⟨⟨rk,rs⟩,p⟩:=exQ<|lX t;have x:lG t= .mk rk rs [] []:=by unfold lG;rw[p]
      rw[p] at CR;rw[x];clear p x CRes;go_enter Tryz.func69,Tryz.ntmps69;go_upto_region 1 with fail;clear o D;go_wp2_with fail;refine(CB.out _ (aB _ _)).mono ?_;rintro e w2 ⟨rfl,g⟩;have l:=hid g;clear g;go_wp2_with fail;refine(CR.out _ l.out).mono ?_;rintro e w3 ⟨rfl,y⟩;have n:=hid (aC l.out y);clear y;have i:=hid (mK (t:=VT.mk rk rs [] []) q.out u.out k.out (sV _ _ _ _) n.out m.out);obtain⟨r0,r1,r2,r3,f0,f1,f2,f3⟩:=cF ((n.out.block R k.out).trans m.out);go_wp2_with fail;obtain⟨WF,b⟩:=exQ<|bL w3 R rk rs (.slice none 0 0) (.slice none 0 0);have f:jP w.heap.size (bL w3 R rk rs (.slice none 0 0) (.slice none 0 0)) (VT.mk rk rs [] []).depth (VT.mk rk rs [] []) (.slice none 0 0) (.slice none 0 0)/\Below w.heap.size w (bL w3 R rk rs (.slice none 0 0) (.slice none 0 0))/\(bL w3 R rk rs (.slice none 0 0) (.slice none 0 0)).heap[R]?=some (.cells #[.int .i64 rk, .string (bs rs),(.slice none 0 0),(.slice none 0 0)] 25):=i.out;rw[b] at f;have a:=hid f;have d:(((w3.setCell ⟨R,0,none⟩ (.int .i64 rk)).setCell ⟨R,1,none⟩ (.string (bs rs))).setCell ⟨R,2,none⟩ (.slice none 0 0)).setCell ⟨R,3,none⟩ (.slice none 0 0)=WF:=b
      first
        | rw[d]
        | (have j:(((w3.setCell ⟨R,0,none⟩ (.int .i64 rk)).setCell ⟨R,1,none⟩ (.string ⟨#[]⟩)).setCell ⟨R,2,none⟩ (.slice none 0 0)).setCell ⟨R,3,none⟩ (.slice none 0 0)=WF:=b
           rw[j])
      clear b d f r0 r1 r2 r3 f0 f1 f2 f3 i;obtain⟨d0,d1,d2,d3,_⟩:=cF a.out.2.2;refine bodyPost_ret (v:= .tuple #[.agg #[.int .i64 rk, .string (bs rs),(.slice none 0 0),(.slice none 0 0)], .int .i64 0]) ?_ rfl ⟨⟨_,_,rfl,a.out.1⟩,a.out.2.1⟩;simp[results,Tryz.results69,go_sem,d0,d1,d2,d3]
end Go.Proofs.YtjnooaljcgkfpaaGreatDoor
