import Derived.Test.YtfhjncbdgjlcoaaGreatDoorYn45
import Derived.Test.YtfhjncbdgjlcoaaGreatDoorYn39
set_option linter.unusedVariables false
set_option linter.unusedSimpArgs false
set_option maxRecDepth 100000
set_option maxHeartbeats 8000000
namespace Go.Proofs.YtfhjncbdgjlcoaaGreatDoor
open Tryz
open Go.RowKit
open Go.Lib hiding intOf
theorem aDI (s:aB) (d:dU) (hb:oM s d) (HRd:Hid qB) (HKy:Hid qC) (hli: ∀x∈d.nodes,mH s d.lines x) (lv:Nat) (IH:Cz s d lv) (B:Nat) (lvv nv:Value) (k m:Nat) (w:World) (hT:eI d.nodes (lv+1) k m) (hlv:lv+1<=32) (hD0:eP B d lvv nv w) (hV:bV w) (x:aV) (hx:d.nodes[k]?=some x) (h1:x.kind≠1) (h4:x.kind≠4):
    Calls prog 13 #[.agg #[bs s,lvv,nv],k] w (jJ (aX s d (lv+1) k) w):=by
  have QS:=trivial;exact PC
theorem Qu (s:aB) (d:dU) (hb:oM s d) (HRd:Hid qB) (HKy:Hid qC) (hli: ∀x∈d.nodes,mH s d.lines x): ∀lv,Cz s d lv
 | 0=>λ_ _ _ _ _ _ h=>h.elim
 | lv+1=>λB lvv nv k m w hT hlv hD hV=>by
  obtain⟨x,hx⟩: ∃x,d.nodes[k]?=some x:=by obtain⟨x,hx,_⟩:=hT;exact⟨x,hx⟩
  have IH:=Qu s d hb HRd HKy hli lv;by_cases h1:x.kind=1
  .exact aDG s d hb HRd HKy hli lv IH B lvv nv k m w hT hlv hD hV x hx h1
  .by_cases h4:x.kind=4
   .exact aDH s d hb HRd HKy hli lv IH B lvv nv k m w hT hlv hD hV x hx h4
   .exact aDI s d hb HRd HKy hli lv IH B lvv nv k m w hT hlv hD hV x hx h1 h4
theorem aDJ (s:aB) (pl pn:Option Addr) (nl cl nn cn:Nat) (k:Int) (hk:k<0\/(nn:Int)<=k) (w:World):
  Calls prog 10 #[.agg #[bs s, .slice pl nl cl, .slice pn nn cn],k] w (aT w (.tuple #[.agg #[(0:Int),bs [],(),()],false])):=by
 have b1:=aL w (.cells #[bs s, .slice pl nl cl, .slice pn nn cn] 26);have h:=heap_alloc_new w (.cells #[bs s, .slice pl nl cl, .slice pn nn cn] 26);obtain⟨D,e⟩:=exQ<|w.heap.size;obtain⟨W1,d⟩:=exQ<|w.alloc (.cells #[bs s, .slice pl nl cl, .slice pn nn cn] 26);rw[d] at b1 h;rw[e] at h;have b2:=aL W1 (.cells #[(0:Int), .string ⟨#[]⟩,(),()] 36);have g:=heap_alloc_new W1 (.cells #[(0:Int), .string ⟨#[]⟩,(),()] 36);obtain⟨R,a⟩:=exQ<|W1.heap.size;obtain⟨W2,c⟩:=exQ<|W1.alloc (.cells #[(0:Int), .string ⟨#[]⟩,(),()] 36);rw[c] at b2 g;rw[a] at g;have o:=hid (aE b1 b2);obtain⟨d0,d1,d2,_⟩:=eA ((b2.block D (aG h)).trans h);obtain⟨r0,r1,r2,r3,f0,f1,f2,f3⟩:=bK g;have n:Hid (w.heap.size<=R):=hid (by rw[<-a];exact b1.size);have j:=aG g;have m:=hid (iA (t:=eE) o.out n.out j (kW _ _ _ _) (aD _ _) g);clear b1 h b2 g;go_in;go_upto_region 1 with fail
 try rw[d]
 try rw[e]
 try rw[c]
 try rw[a]
 clear d e c a;by_cases h0:k<0
 .have MO:=trivial;exact IK
 .exact IK
theorem Qv (s:aB) (d:dU) (pl pn:Option Addr) (nl cl nn cn:Nat) (k:Int) (w:World) (hnn:d.nodes.length=nn) (h2:rC w pn d.nodes) (hk:k<0\/(nn:Int)<=k\/ ∃(q:Nat) (x:aV),k=(q:Int)/\d.nodes[q]?=some x/\x.kind≠4):
  Calls prog 11 #[.agg #[bs s, .slice pl nl cl, .slice pn nn cn],k] w (aT w (.tuple #[.string ⟨#[]⟩,false])):=by
 have b1:=aL w (.cells #[bs s, .slice pl nl cl, .slice pn nn cn] 26);have e:=heap_alloc_new w (.cells #[bs s, .slice pl nl cl, .slice pn nn cn] 26);obtain⟨D,a⟩:=exQ<|w.heap.size;obtain⟨W1,b⟩:=exQ<|w.alloc (.cells #[bs s, .slice pl nl cl, .slice pn nn cn] 26);rw[b] at b1 e;rw[a] at e;have h:=hid b1;have j:=hid (rC.keep h2 b1);obtain⟨d0,d1,d2,_⟩:=eA e;clear b1 e h2;go_in;go_upto_region 1 with fail
 try rw[b]
 try rw[a]
 clear b a;by_cases h0:k<0
 .have dk:decide (k<0)=true:=aQ h0;clear hk;exact gm
 .have dk:decide (k<0)=false:=aJ h0;have c:=hk.resolve_left h0;clear hk;by_cases h3:(nn:Int)<=k
  .have f:decide ((nn:Int)<=k)=true:=aQ h3;clear c;exact gm
  .have f:decide ((nn:Int)<=k)=false:=aJ h3;obtain⟨q,x,rfl,g,l⟩:=c.resolve_left h3;have dk3:decide (nn<=q)=false:=aJ a_;obtain⟨gn,kv,rfl,_,i⟩:=j.out q x g;obtain⟨y0,_⟩:=Cr i;have hq0:(0:Int)<=(q:Int):=a_;have hq1:(q:Int)<(nn:Int):=a_;have dn:((x.kind:Int) !=4)=true:=eN.2 a_;clear i g l hnn;exact gm
end Go.Proofs.YtfhjncbdgjlcoaaGreatDoor
