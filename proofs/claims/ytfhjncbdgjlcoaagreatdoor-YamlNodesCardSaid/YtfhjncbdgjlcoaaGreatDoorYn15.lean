import Derived.Test.YtfhjncbdgjlcoaaGreatDoorYn14
set_option linter.unusedVariables false
set_option linter.unusedSimpArgs false
set_option maxRecDepth 100000
set_option maxHeartbeats 4000000
namespace Go.Proofs.YtfhjncbdgjlcoaaGreatDoor
open Tryz
open Go.RowKit
open Go.Lib hiding intOf
def eE:VT:= .mk 0 [] [] []
def gN (s:aB):VT:= .mk 4 s [] []
def lW (s:aB):VT:= .mk (pU s).1 (pU s).2 [] []
def jV (s:aB):VT×Int×Int:=if(gE s).2.2≠0 then(eE,(gE s).2.1,(gE s).2.2) else(bJ s (gE s).1 32 0,(gE s).2.1,0)
def tR (t:aB):aB×Int:=if(iJ t 0).2.2≠0\/(iJ t 0).2.1≠(t.length:Int) then([],2) else((iJ t 0).1,0)
def jK (t:aB):aB×Int:=if t.head?=some 39 then tR t else((eH t).1,(eH t).2.2)
def gQ (t:aB):VT×Int:=match t with
 | []=>(lW [],0)
 | c::r=>if c=34\/c=39 then(if(jK (c::r)).2≠0 then(eE,(jK (c::r)).2) else(gN (jK (c::r)).1,0))
  else if c=91\/c=123 then((jV (c::r)).1,(jV (c::r)).2.2)
  else if oF (c::r) then(lW (c::r),0) else(eE,2)
def jW (t:aB):aB×Int:=match t with
 | []=>([],2)
 | c::r=>if c=34\/c=39 then jK (c::r) else if oF (c::r) then(c::r,0) else([],2)
theorem Ym (t:aB) (w:World) (hs:t.length<=1073741824) (hT:dE w):
  Calls prog 111 #[bs t] w λe w'=>e=mT (tR t)/\aA w w':=by
 have sl:=aP t;have C1:=hid (Lw t 0 w hs hT);unfold iF at C1;unfold mT tR;obtain⟨⟨S,k,er⟩,hS⟩:=exQ<|iJ t 0;rw[hS] at C1;rw[hS];clear hS hT;simp only[];by_cases he:er=0
 .subst he;by_cases hk:k=(t.length:Int)
  .have dk:(k !=(t.length:Int))=false:=(by simp[hk]);rw[if_neg (by simp[hk])];exact O0
  .have dk:(k !=(t.length:Int))=true:=(by simp[hk]);rw[if_pos (.inr hk)];go_in;go_wp2_with fail;refine aH C1.out λw1 o=>?_;have G:=hid o;clear o hk;exact ep
 .have de:(er !=0)=true:=by simp[he]
  rw[if_pos (.inl he)];go_in;go_wp2_with fail;refine aH C1.out λw1 o=>?_;have G:=hid o;clear o he;exact ep
theorem Mi (t:aB) (c:UInt8) (r:aB) (ht:c::r=t) (w:World) (hs:t.length<=1073741824) (hV:bV w):
  Calls prog 80 #[bs t] w λe w'=>e=mT (jK t)/\aA w w':=by
 have sl:=aP t;have aN:0<t.length:=by rw[<-ht];simp
 have cE:(bs t)[0]'(by rw[aP];exact aN)=c:=by
  subst ht;rfl
 have ba:t.head?=some c:=by rw[<-ht];rfl
 have C1:=hid (Ym t w hs hV.tabs);have C2:=hid (zM t w hs hV.2 hV.tabs);unfold iF at C2;unfold jK;rw[ba];clear hV ba ht;by_cases h39:c=39
 .have bl:((c.toNat:Int)==39)=true:=by rw[h39];rfl
  rw[if_pos (by rw[h39])];unfold mT at C1 ⊢;obtain⟨⟨S,er⟩,hS⟩:=exQ<|tR t;rw[hS] at C1;rw[hS];clear hS h39;exact O0
 .have bl:((c.toNat:Int)==39)=false:=aI.2 (λe=>h39 (UInt8.toNat_inj.1 JB));rw[if_neg (by simpa using h39)];unfold mT;obtain⟨⟨S,k,er⟩,hS⟩:=exQ<|eH t;rw[hS] at C2;rw[hS];clear hS h39;exact O1
theorem pD (c d:UInt8):((c.toNat:Int)==(d.toNat:Int))=(c==d):=by
 by_cases h:c=d
 .subst h;simp
 .rw[aI.2 h];exact aI.2 (λe=>h (UInt8.toNat_inj.1 JB))
theorem Mj (t:aB) (w:World) (hs:t.length<=1073741824) (hV:bV w):
  Calls prog 48 #[bs t] w λe w'=>e=mT (jW t)/\aA w w':=by
 have M3:=trivial;exact IW
def Bf (t:VT) (a er:Int) (w:World) (e:Ending) (w':World):Prop:=(∃kv iv,e= .returned (.tuple #[vv t kv iv,a,er])/\gF w.heap.size w' t.depth t kv iv)/\Below w.heap.size w w'
def pW (t:VT) (er:Int) (w:World) (e:Ending) (w':World):Prop:=(∃kv iv,e= .returned (.tuple #[vv t kv iv,er])/\gF w.heap.size w' t.depth t kv iv)/\Below w.heap.size w w'
theorem kW (B:Nat) (w:World) (k:Int) (s:aB):gF B w (VT.mk k s [] []).depth (VT.mk k s [] []) (.slice none 0 0) (.slice none 0 0):=by
 rw[VT.depth];exact⟨⟨none,0,rfl,aF _, .inl rfl⟩,none,0,rfl,aF _, .inl rfl⟩
theorem iA {w W w':World}{R:Nat}{t:VT}{k0:Int}{t0:aB}{a b kv iv:Value} (hb:aA w W) (hR:w.heap.size<=R) (hRW:R<W.heap.size) (hv:gF W.heap.size w' t.depth t kv iv) (hb2:aA W w') (hc:W.heap[R]?=some (.cells #[k0,bs t0,a,b] 36)):
  gF w.heap.size (bD w' R t.kind t.text kv iv) t.depth t kv iv/\aA w (bD w' R t.kind t.text kv iv)/\(bD w' R t.kind t.text kv iv).heap[R]?=some (.cells #[t.kind,bs t.text,kv,iv] 36):=
 ⟨hv.agree (λq c _=>⟨Be a_,bF hb.size c⟩),rV (aE hb hb2) hR,rW ((hb2.block R hRW).trans hc)⟩
theorem Yn {s:aB}{ns:List aM}{a:Int} (h:gE s=(ns,a,0)):s.length<=65536:=by
 unfold gE dX at h;by_cases hl:65536<s.length
 .simp[hl] at h
 .omega
theorem Yo (s:aB) (w:World) (hs0:s.length<=4611686018427387904) (hV:bV w):
  Calls prog 81 #[bs s] w (Bf (jV s).1 (jV s).2.1 (jV s).2.2 w):=by
 have QP:=trivial;exact PP
theorem Yp (s:aB) (w:World) (hs:s.length<=1073741824) (hV:bV w):
  Calls prog 81 #[bs s] w (Bf (jV s).1 (jV s).2.1 (jV s).2.2 w):=Yo s w a_ hV
theorem Mk (t:aB) (w:World) (hs:t.length<=1073741824) (hV:bV w):
    Calls prog 47 #[bs t] w (pW (gQ t).1 (gQ t).2 w):=by
  have QR:=trivial;exact PD
end Go.Proofs.YtfhjncbdgjlcoaaGreatDoor
