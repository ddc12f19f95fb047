import Derived.Test.YtlibkhbachmcgaaGreatDoorRd6
import Derived.Test.YtlibkhbachmcgaaGreatDoorRd13
import Derived.Deep.RegionLaw
import Derived.Deep.RegionHeld3
import Derived.Deep.DeepCutAuto
set_option maxRecDepth 100000
set_option maxHeartbeats 4000000
namespace Go.Proofs.YtlibkhbachmcgaaGreatDoor
set_option linter.unusedSimpArgs false
set_option linter.unusedVariables false
open Go.RowKit
open Go.Lib hiding intOf
def putV (w:World) (X:Nat) (k:Int) (t:Stp) (kv iv:Value):World:=(((w.setCell ⟨X,0,none⟩ (.int .i64 k)).setCell ⟨X,1,none⟩ (.string (bs t))).setCell ⟨X,2,none⟩ kv).setCell ⟨X,3,none⟩ iv
theorem below_putV {B:Nat}{w w':World}{X:Nat}{k:Int}{t:Stp}{kv iv:Value} (h:Below B w w') (hX:B≤X):Below B w (putV w' X k t kv iv):=by
 unfold putV
 exact(((h.setCell (p:=⟨X,0,none⟩) hX _).setCell (p:=⟨X,1,none⟩) hX _).setCell (p:=⟨X,2,none⟩) hX _).setCell (p:=⟨X,3,none⟩) hX _
theorem putV_other {w:World}{X:Nat}{k:Int}{t:Stp}{kv iv:Value}{q:Nat} (hq:q≠X):(putV w X k t kv iv).heap[q]?=w.heap[q]?:=by
 unfold putV
 rw[Below.heap_setCell _ ⟨X,3,none⟩ _ q hq,Below.heap_setCell _ ⟨X,2,none⟩ _ q hq,Below.heap_setCell _ ⟨X,1,none⟩ _ q hq,Below.heap_setCell _ ⟨X,0,none⟩ _ q hq]
theorem putV_cells {w:World}{X:Nat}{k0 k:Int}{t0 t:Stp}{a b kv iv:Value} (h:w.heap[X]?=some (.cells #[.int .i64 k0, .string (bs t0),a,b] 36)):(putV w X k t kv iv).heap[X]?=some (.cells #[.int .i64 k, .string (bs t),kv,iv] 36):=by
 unfold putV
 have h1:=box_setT h 0 (.int .i64 k)
 have h2:=box_setT h1 1 (.string (bs t))
 have h3:=box_setT h2 2 kv
 exact box_setT h3 3 iv
theorem box4 {w:World}{X:Nat}{a b c e:Value} (hb:w.heap[X]?=some (.cells #[a,b,c,e] 36)):w.cell? ⟨X,0,none⟩=some a∧w.cell? ⟨X,1,none⟩=some b∧w.cell? ⟨X,2,none⟩=some c∧w.cell? ⟨X,3,none⟩=some e∧
  w.frozen? ⟨X,0,none⟩=false∧w.frozen? ⟨X,1,none⟩=false∧w.frozen? ⟨X,2,none⟩=false∧w.frozen? ⟨X,3,none⟩=false:=by
 refine⟨?_,?_,?_,?_,?_,?_,?_,?_⟩<;>simp[World.cell?,World.frozen?,hb]
def NewE (t:VT) (w:World) (e:Ending) (w':World):Prop:=(∃kv iv,e= .returned (vv t kv iv)∧VDf w.heap.size w' t.depth t kv iv)∧Below w.heap.size w w'
theorem CS.put {W w:World}{Y R:Nat}{k:Int}{s:Stp}{ks:List Stp}{l:List VT}{kv ov:Value} (h:CS W Y k s ks l kv ov w) (hR:R<W.heap.size):VDx (fun q=>W.heap.size≤q) (putV w R k s kv ov) (VT.mk k s ks l).depth (VT.mk k s ks l) kv ov:=
 h.tree.agree (fun q hq _=>⟨putV_other (by omega),hq⟩)
section
variable {W w w2:World}{X:Nat}{k:Int}{s:ByteArray}{kv:Value}
end
def FbC (W0:World) (x:Value) (w':World):Prop:= ∃Y,x= .pointer (some ⟨Y,0,none⟩)∧W0.heap.size≤Y∧w'.heap[Y]?=some (.cells #[.int .i64 0, .string (bs []), .slice none 0 0, .slice none 0 0] 36)
theorem FbC.new {W0 w':World} (h:W0.heap.size≤w'.heap.size):FbC W0 (.pointer (some ⟨w'.heap.size,0,none⟩)) (w'.alloc (.cells #[.int .i64 0, .string ⟨#[]⟩, .slice none 0 0, .slice none 0 0] 36)):=⟨_,rfl,h,heap_alloc_new w' _⟩
theorem FbC.keep {W0 w' w2:World}{x:Value} (h:FbC W0 x w') (hb:Below w'.heap.size w' w2):FbC W0 x w2:=by
 obtain⟨Y,h1,h2,h3⟩:=h
 exact⟨Y,h1,h2,(hb.block Y (cell_it h3)).trans h3⟩
theorem CS.ofStore {W2 W0 w':World}{Y:Nat}{k:Int}{s:Stp}{ks:List Stp}{p2:Option Addr}{n2 c2:Nat} (hb:Below W2.heap.size W2 W0) (hA:Below W0.heap.size W0 w') (ho:OwnsS W0.heap.size ks (.slice p2 n2 c2) w') (hY:W0.heap.size≤Y) (hYb:w'.heap[Y]?=some (.cells #[.int .i64 0, .string (bs []), .slice none 0 0, .slice none 0 0] 36)):CS W2 Y k s ks [] (.slice p2 n2 c2) (.slice none 0 0) (putV w' Y k s (.slice p2 n2 c2) (.slice none 0 0)):=by
 have hne:some Y≠(Value.slice p2 n2 c2).ownBlock:=fun e=>by
  rcases ho.2 with⟨h,_⟩ | ⟨g,cap,cur,h,_,hg,_⟩
  ·rw[h] at e;cases e
  ·rw[h] at e
   injection e with e
   subst e
   rw[hYb] at hg
   injection hg with hg
   injection hg with _ hg
   exact absurd hg (by decide)
 refine⟨putV_cells hYb,?_,hne,OwnsV.nil _ _ _,below_putV (below_of_new hb hA) (Nat.le_trans hb.size hY),Nat.le_trans hb.size hY⟩
 exact(ho.mono hb.size).keepB (fun q _ hq _=>putV_other (fun e=>hne (by rw[←e];exact hq)))
def REq (n:Nat):Prop:= ∀(t:VT) (kv iv kv2 iv2:Value) (w:World),VD w n t kv iv→VD w n t kv2 iv2→t.bulk≤1073741824→Calls Tryz.prog 16 #[vv t kv iv,vv t kv2 iv2] w fun e w'=>e= .returned (.bool true)∧Below w.heap.size w w'
theorem requal_step (n:Nat) (IH:REq n):REq (n+1):=by
 intro t kv iv kv2 iv2 w h h' hbk
 obtain⟨m',hm,⟨pk,ck,rfl,hck,hlies⟩,p,c,rfl,hlc,hit⟩:=h.parts
 obtain rfl:n=m':=by omega
 obtain⟨m2,hm2,⟨pk2,ck2,rfl,hck2,hlies2⟩,p2,c2,rfl,hlc2,hit2⟩:=h'.parts
 obtain rfl:n=m2:=by omega
 obtain⟨X,hX⟩: ∃X,w.heap.size=X:=⟨_,rfl⟩
 obtain⟨W1,hW1⟩: ∃W,w.alloc (.cells #[.int .i64 t.kind, .string (bs t.text), .slice pk t.keys.length ck, .slice p t.items.length c] 36)=W:=⟨_,rfl⟩
 obtain⟨X2,hX2⟩: ∃X2,W1.heap.size=X2:=⟨_,rfl⟩
 obtain⟨W2,hW2⟩: ∃W,W1.alloc (.cells #[.int .i64 t.kind, .string (bs t.text), .slice pk2 t.keys.length ck2, .slice p2 t.items.length c2] 36)=W:=⟨_,rfl⟩
 have hB1:Below w.heap.size w W1:=by rw[←hW1];exact below_alloc1 _ _
 have hB12:Below W1.heap.size W1 W2:=by rw[←hW2];exact below_alloc1 _ _
 have HB2:=hid (below_of_new hB1 hB12)
 have HXB:Hid (VBox W2 X t (.slice pk t.keys.length ck) (.slice p t.items.length c)):=hid (VBox.keep (by rw[←hW1,←hX];exact VBox.new w t _ _) hB12)
 have HXB2:Hid (VBox W2 X2 t (.slice pk2 t.keys.length ck2) (.slice p2 t.items.length c2)):=hid (by rw[←hW2,←hX2];exact VBox.new W1 t _ _)
 have HIT:=hid (hit.keep HB2.out)
 have HIT2:=hid (hit2.keep HB2.out)
 have HSL:=hid (hlies.keep HB2.out)
 have HSL2:=hid (hlies2.keep HB2.out)
 have hb0:t.bulk=t.text.length+(totS t.keys+t.keys.length)+bulks t.items+1:=by cases t;rw[VT.bulk];rfl
 have hlen:=len_le_bulks t.items
 have ek:(t.kind !=t.kind)=false:=by simp
 have et:((bs t.text).toList !=(bs t.text).toList)=false:=by simp
 have el:((t.keys.length:Int) !=(t.keys.length:Int))=false:=by simp
 have ei:((t.items.length:Int) !=(t.items.length:Int))=false:=by simp
 unfold vv
 clear hit hlies h hm hB1 hB12 hit2 hlies2 h' hm2
 go_enter Tryz.func16,Tryz.ntmps16
 go_upto_region 1 with fail
 clear hW1 hW2 hX2
 obtain⟨b0,b1,b2,b3⟩:=HXB.out.cells
 obtain⟨d0,d1,d2,d3⟩:=HXB2.out.cells
 go_wp2_with fail
 clear b0 b1 b2 b3 d0 d1 d2 d3
 go_loopw [5] (fun s5 wr=> ∃i:Nat,s5= .int .i64 (i:Int)∧i≤t.keys.length∧Hid (Below W2.heap.size W2 wr)) (fun s5 _=>t.keys.length-(RowKit.intOf s5).toNat)
 case atStart=>exact⟨0,rfl,Nat.zero_le _,hid (by first | exact Below.refl _ _ | exact(Below.refl _ _).drew)⟩
 case round=>
  obtain⟨i,rfl,hi,HBr⟩:=hrel
  obtain⟨b0,b1,b2,b3⟩:=(HXB.out.keep HBr.out).cells
  obtain⟨d0,d1,d2,d3⟩:=(HXB2.out.keep HBr.out).cells
  by_cases hil:i<t.keys.length
  ·obtain⟨x,hx⟩: ∃x,t.keys[i]?=some x:=⟨_,List.getElem?_eq_getElem hil⟩
   have hi1:(i:Int)<(t.keys.length:Int):=by omega
   have dk:decide ((i:Int)<(t.keys.length:Int))=true:=decide_eq_true hi1
   obtain⟨g,o,rfl,cx⟩:=(HSL.out.keep HBr.out).at_ hx
   obtain⟨g2,o2,rfl,cx2⟩:=(HSL2.out.keep HBr.out).at_ hx
   have ex:((bs x).toList !=(bs x).toList)=false:=by simp
   have hi0:(0:Int)≤(i:Int):=by omega
   clear hx
   go_upto_region 6 with fail
   go_region
   all_goals
    go_wp2_with fail
    go_roundw
    case rel=>exact⟨i+1,by go_num,by omega,by first | exact HBr | exact hid (below_drewN HBr.out _)⟩
    case measure=>simp[RowKit.intOf];omega
  ·have dk:decide ((i:Int)<(t.keys.length:Int))=false:=decide_eq_false (by omega)
   go_wp2_with fail
   clear b0 b1 b2 b3 d0 d1 d2 d3
   go_loopw [6,7] (fun s6 s7 wq=> ∃i:Nat,s6= .int .i64 (i:Int)∧i≤t.items.length∧Hid (Below W2.heap.size W2 wq)) (fun s6 _ _=>t.items.length-(RowKit.intOf s6).toNat)
   case atStart=>exact⟨0,rfl,Nat.zero_le _,HBr⟩
   case round=>
    obtain⟨j,rfl,hj,HBq⟩:=hrel
    obtain⟨b0,b1,b2,b3⟩:=(HXB.out.keep HBq.out).cells
    obtain⟨d0,d1,d2,d3⟩:=(HXB2.out.keep HBq.out).cells
    by_cases hjl:j<t.items.length
    ·obtain⟨x,hx⟩: ∃x,t.items[j]?=some x:=⟨_,List.getElem?_eq_getElem hjl⟩
     have hj1:(j:Int)<(t.items.length:Int):=by omega
     have dk2:decide ((j:Int)<(t.items.length:Int))=true:=decide_eq_true hj1
     have hxb:=bulk_mem (List.mem_of_getElem? hx)
     obtain⟨g,o,kv',iv',rfl,hg,n0,n1,n2,n3,hvd⟩:=HIT.out j x hx
     obtain⟨pk3,ck3,px,cx,rfl,rfl⟩:=hvd.form
     obtain⟨g2,o2,kv'',iv'',rfl,hg2,z0,z1,z2,z3,hvd2⟩:=HIT2.out j x hx
     obtain⟨pk4,ck4,px2,cx2,rfl,rfl⟩:=hvd2.form
     have m0:wr.cell? ⟨g,o+j*4,none⟩=some (.int .i64 x.kind):=by rw[HBq.out.cell (p:=⟨g,_,none⟩) hg];exact n0
     have m1:wr.cell? ⟨g,o+j*4+1,none⟩=some (.string (bs x.text)):=by rw[HBq.out.cell (p:=⟨g,_,none⟩) hg];exact n1
     have m2:wr.cell? ⟨g,o+j*4+2,none⟩=some (.slice pk3 x.keys.length ck3):=by rw[HBq.out.cell (p:=⟨g,_,none⟩) hg];exact n2
     have m3:wr.cell? ⟨g,o+j*4+3,none⟩=some (.slice px x.items.length cx):=by rw[HBq.out.cell (p:=⟨g,_,none⟩) hg];exact n3
     have q0:wr.cell? ⟨g2,o2+j*4,none⟩=some (.int .i64 x.kind):=by rw[HBq.out.cell (p:=⟨g2,_,none⟩) hg2];exact z0
     have q1:wr.cell? ⟨g2,o2+j*4+1,none⟩=some (.string (bs x.text)):=by rw[HBq.out.cell (p:=⟨g2,_,none⟩) hg2];exact z1
     have q2:wr.cell? ⟨g2,o2+j*4+2,none⟩=some (.slice pk4 x.keys.length ck4):=by rw[HBq.out.cell (p:=⟨g2,_,none⟩) hg2];exact z2
     have q3:wr.cell? ⟨g2,o2+j*4+3,none⟩=some (.slice px2 x.items.length cx2):=by rw[HBq.out.cell (p:=⟨g2,_,none⟩) hg2];exact z3
     have HC:=hid (IH x _ _ _ _ wr.drew ((hvd.keep HBq.out).keep (Below.refl _ _).drew) ((hvd2.keep HBq.out).keep (Below.refl _ _).drew) (by omega))
     unfold vv at HC
     have hj0:(0:Int)≤(j:Int):=by omega
     clear hx hxb n0 n1 n2 n3 z0 z1 z2 z3 hvd hvd2 hg hg2
     go_upto_region 11 with fail
     go_region_with (go_at_call 16;(refine HC.out.mono ?_);rintro e w6 ⟨rfl,hb6⟩)
     all_goals
      have HB6:=hid (below_of_new HBq.out (below_of_new (Below.refl _ _).drew hb6))
      clear hb6 b0 b1 b2 b3 d0 d1 d2 d3 m0 m1 m2 m3 q0 q1 q2 q3
      go_wp2_with fail
      go_roundw
      case rel=>exact⟨j+1,by go_num,by omega,by first | exact HB6 | exact hid (below_drewN HB6.out _)⟩
      case measure=>simp[RowKit.intOf];omega
    ·have dk2:decide ((j:Int)<(t.items.length:Int))=false:=decide_eq_false (by omega)
     have HB6:=hid (below_of_new HB2.out HBq.out)
     go_wp2_with fail
     go_ret
     exact⟨rfl,by first | exact HB6.out | (rw[←hX];exact HB6.out)⟩
theorem requal_any: ∀n,REq n
 | 0=>fun _ _ _ _ _ _ h _ _=>h.elim
 | n+1=>requal_step n (requal_any n)
end Go.Proofs.YtlibkhbachmcgaaGreatDoor
