import Derived.Test.YtfhjncbdgjlcoaaGreatDoorYa14
set_option maxRecDepth 100000
set_option maxHeartbeats 4000000
set_option linter.unusedVariables false
set_option linter.unusedSimpArgs false
namespace Go.Proofs.YtfhjncbdgjlcoaaGreatDoor
open Go.RowKit
open Go.Lib hiding intOf
def fD:VT:= .mk 0 [] [] []
def jC (s:aA):VT:= .mk 4 s [] []
def mL (s:aA):VT:= .mk (oZ s).1 (oZ s).2 [] []
def jL (s:aA):VT×Int×Int:=if(fP s).2.2≠0 then(fD,(fP s).2.1,(fP s).2.2) else(bE s (fP s).1 32 0,(fP s).2.1,0)
def sW (t:aA):aA×Int:=if(gT t 0).2.2≠0\/(gT t 0).2.1≠(t.length:Int) then([],2) else((gT t 0).1,0)
def iT (t:aA):aA×Int:=if t.head?=some 39 then sW t else((dR t).1,(dR t).2.2)
def iB (t:aA):VT×Int:=match t with
 | []=>(mL [],0)
 | c::r=>if c=34\/c=39 then(if(iT (c::r)).2≠0 then(fD,(iT (c::r)).2) else(jC (iT (c::r)).1,0))
  else if c=91\/c=123 then((jL (c::r)).1,(jL (c::r)).2.2)
  else if nD (c::r) then(mL (c::r),0) else(fD,2)
def jM (t:aA):aA×Int:=match t with
 | []=>([],2)
 | c::r=>if c=34\/c=39 then iT (c::r) else if nD (c::r) then(c::r,0) else([],2)
theorem Wq (t:aA) (w:World) (hs:t.length<=1073741824) (hT:cW w):
  Calls Tryz.prog 111 #[bs t] w λe w'=>e=mG (sW t)/\Below w.heap.size w w':=by
 have sl:=aM t;have C1:=hid (Ku t 0 w hs hT);unfold gP at C1;unfold mG sW;obtain⟨⟨S,k,er⟩,hS⟩:=exQ<|gT t 0;rw[hS] at C1;rw[hS];clear hS hT;simp only[];by_cases he:er=0
 ·subst he;by_cases hk:k=(t.length:Int)
  ·have dk:(k !=(t.length:Int))=false:=(by simp[hk]);rw[if_neg (by simp[hk])];go_enter Tryz.func111,Tryz.ntmps111;exact ed
  ·have dk:(k !=(t.length:Int))=true:=(by simp[hk]);rw[if_pos (.inr hk)];go_enter Tryz.func111,Tryz.ntmps111;go_wp2_with fail;refine C1.out.mono ?_;rintro e w1 ⟨rfl,o⟩;have G:=hid o;clear o hk;exact eg
 ·have de:(er !=0)=true:=by simp[he]
  rw[if_pos (.inl he)];go_enter Tryz.func111,Tryz.ntmps111;go_wp2_with fail;refine C1.out.mono ?_;rintro e w1 ⟨rfl,o⟩;have G:=hid o;clear o he;exact eg
theorem Lh (t:aA) (c:UInt8) (r:aA) (ht:c::r=t) (w:World) (hs:t.length<=1073741824) (hV:bU w):
  Calls Tryz.prog 80 #[bs t] w λe w'=>e=mG (iT t)/\Below w.heap.size w w':=by
 have sl:=aM t;have aJ:0<t.length:=by rw[<-ht];simp
 have cO:(bs t)[0]'(by rw[aM];exact aJ)=c:=by
  subst ht;rfl
 have a6:t.head?=some c:=by rw[<-ht];rfl
 have C1:=hid (Wq t w hs hV.tabs);have C2:=hid (yT t w hs hV.2 hV.tabs);unfold gP at C2;unfold iT;rw[a6];clear hV a6 ht;by_cases h39:c=39
 ·have bm:((c.toNat:Int)==39)=true:=by rw[h39];rfl
  rw[if_pos (by rw[h39])];unfold mG at C1 ⊢;obtain⟨⟨S,er⟩,hS⟩:=exQ<|sW t;rw[hS] at C1;rw[hS];clear hS h39;go_enter Tryz.func80,Tryz.ntmps80;exact ed
 ·have bm:((c.toNat:Int)==39)=false:=aE.2 (λe=>h39 (UInt8.toNat_inj.1 EZ));rw[if_neg (by simpa using h39)];unfold mG;obtain⟨⟨S,k,er⟩,hS⟩:=exQ<|dR t;rw[hS] at C2;rw[hS];clear hS h39;go_enter Tryz.func80,Tryz.ntmps80;go_wp2_with fail;refine C2.out.mono ?_;exact bd
theorem oA (c d:UInt8):((c.toNat:Int)==(d.toNat:Int))=(c==d):=by
 by_cases h:c=d
 ·subst h;simp
 ·rw[aE.2 h];exact aE.2 (λe=>h (UInt8.toNat_inj.1 EZ))
theorem Li (t:aA) (w:World) (hs:t.length<=1073741824) (hV:bU w):
  Calls Tryz.prog 48 #[bs t] w λe w'=>e=mG (jM t)/\Below w.heap.size w w':=by
 have v8:=trivial;exact sh
def Ah (t:VT) (a er:Int) (w:World) (e:Ending) (w':World):Prop:=(∃kv iv,e= .returned (.tuple #[vv t kv iv,a,er])/\fX w.heap.size w' t.depth t kv iv)/\Below w.heap.size w w'
def pS (t:VT) (er:Int) (w:World) (e:Ending) (w':World):Prop:=(∃kv iv,e= .returned (.tuple #[vv t kv iv,er])/\fX w.heap.size w' t.depth t kv iv)/\Below w.heap.size w w'
theorem kY (B:Nat) (w:World) (k:Int) (s:aA):fX B w (VT.mk k s [] []).depth (VT.mk k s [] []) (.slice none 0 0) (.slice none 0 0):=by
 rw[VT.depth];exact⟨⟨none,0,rfl,aD _, .inl rfl⟩,none,0,rfl,aD _, .inl rfl⟩
theorem iJ {w W w':World}{R:Nat}{t:VT}{k0:Int}{t0:aA}{a b kv iv:Value} (hb:Below w.heap.size w W) (hR:w.heap.size<=R) (hRW:R<W.heap.size) (hv:fX W.heap.size w' t.depth t kv iv) (hb2:Below W.heap.size W w') (hc:W.heap[R]?=some (.cells #[k0,bs t0,a,b] 36)):
  fX w.heap.size (bB w' R t.kind t.text kv iv) t.depth t kv iv/\Below w.heap.size w (bB w' R t.kind t.text kv iv)/\(bB w' R t.kind t.text kv iv).heap[R]?=some (.cells #[t.kind,bs t.text,kv,iv] 36):=
 ⟨hv.agree (λq c _=>⟨Ag a_,aZ hb.size c⟩),uI (aC hb hb2) hR,uJ ((hb2.block R hRW).trans hc)⟩
theorem Ws {s:aA}{ns:List aH}{a:Int} (h:fP s=(ns,a,0)):s.length<=65536:=by
 unfold fP dH at h;by_cases hl:65536<s.length
 ·simp[hl] at h
 ·omega
theorem Wt (s:aA) (w:World) (hs0:s.length<=4611686018427387904) (hV:bU w):
  Calls Tryz.prog 81 #[bs s] w (Ah (jL s).1 (jL s).2.1 (jL s).2.2 w):=by
 have vw:=trivial;exact qk
theorem Wu (s:aA) (w:World) (hs:s.length<=1073741824) (hV:bU w):
  Calls Tryz.prog 81 #[bs s] w (Ah (jL s).1 (jL s).2.1 (jL s).2.2 w):=Wt s w a_ hV
theorem Lj (t:aA) (w:World) (hs:t.length<=1073741824) (hV:bU w):
    Calls Tryz.prog 47 #[bs t] w (pS (iB t).1 (iB t).2 w):=by
  have v7:=trivial;exact pw
end Go.Proofs.YtfhjncbdgjlcoaaGreatDoor
