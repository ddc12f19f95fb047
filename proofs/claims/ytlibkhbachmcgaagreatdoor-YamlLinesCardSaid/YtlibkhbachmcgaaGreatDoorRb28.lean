import Derived.Test.YtlibkhbachmcgaaGreatDoorRb27
import Derived.Test.YtlibkhbachmcgaaGreatDoorRb14
import Derived.Test.YtlibkhbachmcgaaGreatDoorRb12
import Derived.Test.YtlibkhbachmcgaaGreatDoorRb19
import Derived.Deep.RegionHeld3
import Derived.Shelf.Vars
import Derived.Test.YtlibkhbachmcgaaGreatDoorCards
import Derived.Test.YtlibkhbachmcgaaGreatDoorTie
import Derived.Lib.LaidIn
import Derived.Lib.LaidU8T
import Derived.PinnedBridge
import Derived.Lib.TrailingZeros
import Derived.Test.YtlibkhbachmcgaaGreatDoorRows
import Derived.ChangeMaps5
import Derived.ChangeArms
import Derived.ChangeSame
import Derived.ChangeSlices
import Derived.OpenShut
import Derived.Carry
import Derived.Deep.Slices
import Derived.Lib.SmallJoins
import Derived.KernelRfl
set_option maxRecDepth 100000
set_option maxHeartbeats 16000000
namespace Go.Proofs.YtlibkhbachmcgaaGreatDoor
set_option linter.unusedSimpArgs false
set_option linter.unusedVariables false
open Go.RowKit
open Go.Lib hiding intOf
theorem YDocAt.nodeAt {B:Nat}{d:YDoc}{lv:Value}{gn n cn:Nat}{w:World} (h:YDocAt B d lv (.slice (some ⟨gn,0,none⟩) n cn) w) {k:Nat}{x:YND} (hx:d.nodes[k]?=some x):
  n=d.nodes.length∧ ∃pk ck,(∀j u,j<9→(yndCells (x, .slice pk x.kids.length ck))[j]?=some u→w.cell? ⟨gn,k*9+j,none⟩=some u)∧ ∀(j q:Nat),x.kids[j]?=some q→ ∃gk,pk=some ⟨gk,0,none⟩∧w.cell? ⟨gk,j,none⟩=some (.int .i64 (q:Int)):=by
 obtain⟨z,hz,_,hnd⟩:=h
 obtain⟨y,hy⟩: ∃y,z[k]?=some y:=by
  rw[←hz,List.getElem?_map] at hx
  cases hq:z[k]? with
  | none=>rw[hq] at hx;cases hx
  | some q=>exact⟨q,rfl⟩
 have hyx:y.1=x:=by
  rw[←hz,List.getElem?_map,hy] at hx
  exact Option.some.inj hx
 obtain⟨g2,c2,cur,e,_⟩:=hnd.form (fun e=>by rw[e] at hy;cases hy)
 injection e with e1 e2 e3
 injection e1 with e1
 injection e1 with e1
 subst e1 e2 e3
 have hkm:=hnd.kids y (List.mem_of_getElem? hy)
 obtain⟨pk,ck,hkv⟩: ∃p c,y.2= .slice p y.1.kids.length c:=by
  rcases hkm.2 with⟨h0,h1⟩ | ⟨g,cap,cur,h1,_⟩
  ·exact⟨none,0,by rw[h0,h1]⟩
  ·exact⟨_,cap,h1⟩
 have hzl:z.length=d.nodes.length:=by rw[←hz,List.length_map]
 refine⟨hzl,pk,ck,fun j u hj hu=>?_,fun j q hj=>?_⟩
 ·refine(hnd.at_ hy j hj (u:=u) ?_).1
  rw[←hu,←hyx,←hkv]
 ·rw[hkv,hyx] at hkm
  have hjl:=(List.getElem?_eq_some_iff.1 hj).1
  rcases hkm.2 with⟨h0,h1⟩ | ⟨g,cap,cur,h1,_⟩
  ·omega
  ·injection h1 with e1
   subst e1
   refine⟨g,rfl,?_⟩
   rw[World.ownsRow.cellAt hkm _ (by omega)]
   unfold intCells
   rw[List.getElem?_map,hj];rfl
theorem YDocAt.lineAt {B:Nat}{d:YDoc}{lv nv:Value}{w:World} (h:YDocAt B d lv nv w) {k:Nat}{r:LineR} (hr:d.lines[k]?=some r): ∃g cap,lv= .slice (some ⟨g,0,none⟩) d.lines.length cap∧ ∀i u,i<10→(lineC r)[i]?=some u→w.cell? ⟨g,k*10+i,none⟩=some u:=by
 obtain⟨z,hz,h1,_⟩:=h
 have hl:=(List.getElem?_eq_some_iff.1 hr).1
 rcases h1.2 with⟨_,h2⟩ | ⟨g,cap,cur,h2,h3,h4,h5,_⟩
 ·omega
 ·refine⟨g,cap,h2,fun i u hi hu=>?_⟩
  have hr':=h1
  rw[h2] at hr'
  rw[World.ownsRow.cellAt hr' _ (by omega),lnCells,flat_at _ 10 lineC_len d.lines k r hr i hi,hu]
theorem yamlLines_any (sb:ByteArray) (w:World) (hV:AVar w):
  Calls Tryz.prog 5 #[.string sb] w fun e w'=>e= .returned (.bool true)∧Below w.heap.size w w':=by
 obtain⟨s,rfl⟩: ∃l,sb=bs l:=⟨sb.data.toList,(bs_of sb).symm⟩
 have sl:=bs_size s
 have HV:=hid hV
 have C0:=hid (small12_any w hV)
 obtain⟨⟨d,n,er⟩,hP⟩: ∃R,parseYm s=R:=⟨_,rfl⟩
 have CP:Hid (∀w',Below w.heap.size w w'→Calls Tryz.prog 11 #[.string (bs s)] w' (YPE s (d,n,er) w')):=hid (fun w' hb=>by
  have:=yparse_any s w' (HV.out.keep hb)
  rw[hP] at this
  exact this)
 have HP:=hid hP
 clear hV hP
 go_enter Tryz.func5,Tryz.ntmps5
 go_wp2_with fail
 refine C0.out.mono ?_
 rintro e w1 ⟨rfl,hb1⟩
 have HB1:=hid hb1
 clear hb1
 go_wp2_with fail
 refine(CP.out _ HB1.out).mono ?_
 rintro e w2 ⟨tx,lv,nv,rfl,htx,hd2,hb2⟩
 simp only[] at htx
 obtain⟨⟨pl,cl,hpl⟩,pn,cn,hpn⟩:=hd2.forms
 obtain⟨nl,hnl⟩: ∃n,d.lines.length=n:=⟨_,rfl⟩
 obtain⟨nn,hnn⟩: ∃n,d.nodes.length=n:=⟨_,rfl⟩
 simp only[] at hpl hpn
 rw[hnl] at hpl
 rw[hnn] at hpn
 subst hpl hpn
 have HD2:=hid hd2
 have HB2:=hid (below_of_new HB1.out hb2)
 have HTX:=hid htx
 have HNL:=hid (And.intro hnl hnn)
 simp only[]
 clear hd2 hb2 htx hnl hnn
 obtain⟨D,hDe⟩: ∃K,w2.heap.size=K:=⟨_,rfl⟩
 have b3:=below_alloc1 w2 (.cells #[.string tx, .slice pl nl cl, .slice pn nn cn] 26)
 have x3:=heap_alloc_new w2 (.cells #[.string tx, .slice pl nl cl, .slice pn nn cn] 26)
 obtain⟨w3,hw3⟩: ∃W,w2.alloc (.cells #[.string tx, .slice pl nl cl, .slice pn nn cn] 26)=W:=⟨_,rfl⟩
 rw[hw3] at b3 x3
 rw[hDe] at x3
 have HB23:=hid b3
 have HX3:=hid x3
 have HB3:=hid (below_of_new HB2.out b3)
 clear b3 x3
 by_cases h0:er=0
 rotate_left
 ·have d0:(er !=0)=true:=by simpa using h0
  clear h0
  go_wp2_with fail
  go_ret
  exact⟨rfl,by first | exact HB3.out | exact HB3.out.drew⟩
 subst h0
 by_cases hl:4096<s.length
 ·have dl:decide ((4096:Int)<(s.length:Int))=true:=decide_eq_true (by omega)
  have dl2:decide (4096<s.length)=true:=decide_eq_true hl
  clear hl
  go_wp2_with fail
  go_ret
  exact⟨rfl,by first | exact HB3.out | exact HB3.out.drew⟩
 have dl:decide ((4096:Int)<(s.length:Int))=false:=decide_eq_false (by omega)
 have dl2:decide (4096<s.length)=false:=decide_eq_false hl
 have hP2:=HP.out
 unfold parseYm at hP2
 rw[if_neg (by omega)] at hP2
 have HO:=hid (whole_own (spY_ok s) hP2)
 have HT:=hid (whole_tree hP2)
 have hnl:nl≤4100:=by
  have h1:=HT.out.lns
  have h2:=(linesL_len s 0 0).1
  unfold spY at h1
  rw[cutSp_len] at h1
  have:=HNL.out.1
  omega
 have hnn:nn≤4096:=by have:=HT.out.cnt;have:=HNL.out.2;omega
 have hnn0:0<nn:=by have h1:=List.length_pos_iff.2 HO.out.one;have:=HNL.out.2;omega
 have hmk:=fun W=>make_ints nl (by omega) W
 obtain⟨g,hge⟩: ∃K,w3.heap.size=K:=⟨_,rfl⟩
 have b4:=below_alloc1 w3 (.cells (natRow (fun _=>0) nl) 3)
 have x4:NatRow (w3.alloc (.cells (natRow (fun _=>0) nl) 3)) w3.heap.size (fun _=>0) nl:=heap_alloc_new w3 _
 obtain⟨w4,hw4⟩: ∃W,w3.alloc (.cells (natRow (fun _=>0) nl) 3)=W:=⟨_,rfl⟩
 rw[hw4] at b4 x4
 rw[hge] at x4
 have HB34:=hid b4
 have HX4:Hid (NatRow w4 g (fun i=>cntY (d.nodes.take 0) i) nl):=hid x4
 have HDX:Hid (∀w',Below w3.heap.size w3 w'→w'.cell? ⟨D,1,none⟩=some (.slice pl nl cl)∧w'.cell? ⟨D,2,none⟩=some (.slice pn nn cn)):=hid (fun w' h=>by
  obtain⟨_,e1,e2,_⟩:=box3f ((h.block D (cell_it HX3.out)).trans HX3.out)
  exact⟨e1,e2⟩)
 have HDoc:Hid (∀w',Below w3.heap.size w3 w'→YDocAt w1.heap.size d (.slice pl nl cl) (.slice pn nn cn) w'):=hid (fun w' h=>(HD2.out.keep HB23.out).keep h)
 obtain⟨gn,rfl⟩: ∃gn,pn=some ⟨gn,0,none⟩:=by
  obtain⟨z,hz,_,hnd⟩:=HD2.out
  have hzl:z.length=d.nodes.length:=by rw[←hz,List.length_map]
  obtain⟨g,cap,cur,e,_⟩:=hnd.form (fun e=>by rw[e] at hzl;simp at hzl;have:=HNL.out.2;omega)
  injection e with e1
  exact⟨g,e1⟩
 obtain⟨c1,c2⟩:=HDX.out w3 (Below.refl _ _)
 have hgW:w3.heap.size≤g:=by omega
 have HBX:Hid (Below w3.heap.size w3 w4):=HB34
 clear b4 x4 hl hP2 HB34
 go_upto_region 6 with fail
 clear hw4 hge hw3 hDe hmk c1 c2
 go_wp2_with fail
 go_loopw [8] (fun s8 wr=> ∃k:Nat,s8= .int .i64 (k:Int)∧k≤nn∧Hid (NatRow wr g (fun i=>cntY (d.nodes.take k) i) nl)∧Hid (Below w3.heap.size w3 wr)) (fun s8 _=>nn-(RowKit.intOf s8).toNat)
 case atStart=>exact⟨0,rfl,Nat.zero_le _,HX4,HBX⟩
 case round=>
  clear HX4 HBX
  obtain⟨k,rfl,hk,HRow,HBr⟩:=hrel
  obtain⟨c1,c2⟩:=HDX.out wr HBr.out
  by_cases hkn:k<nn
  rotate_left
  ·obtain rfl:k=nn:=by omega
   have dk:decide ((k:Int)<(k:Int))=false:=decide_eq_false (by omega)
   have HRw:Hid (NatRow wr g (fun i=>cntY d.nodes i) nl):=hid (by
    have:=HRow.out
    rw[←HNL.out.2,List.take_length] at this
    exact this)
   clear HRow
   go_wp2_with fail
   clear c1 c2
   go_loopw [14] (fun s14 wx=> ∃i:Nat,s14= .int .i64 (i:Int)∧i≤nl∧Hid (NatRow wx g (fun i=>cntY d.nodes i) nl)∧Hid (Below w3.heap.size w3 wx)) (fun s14 _=>nl-(RowKit.intOf s14).toNat)
   case atStart=>exact⟨0,rfl,Nat.zero_le _,by first | exact HRw | exact hid HRw.out.drew,by first | exact HBr | exact hid HBr.out.drew⟩
   case round=>
    clear HRw HBr
    obtain⟨i,rfl,hi,HRw,HBr⟩:=hrel
    obtain⟨c1,c2⟩:=HDX.out wr HBr.out
    by_cases hin:i<nl
    ·have di:decide ((i:Int)<(nl:Int))=true:=decide_eq_true (by omega)
     have hi0:(0:Int)≤(i:Int):=by omega
     have hi1:(i:Int)<(nl:Int):=by omega
     obtain⟨r,hr⟩: ∃r,d.lines[i]?=some r:=⟨_,List.getElem?_eq_getElem (by have:=HNL.out.1;omega)⟩
     obtain⟨gl,cl2,e9,hcell⟩:=(HDoc.out wr HBr.out).lineAt hr
     rw[HNL.out.1] at e9
     injection e9 with e91 e92 e93
     subst e91
     clear e92 e93
     have g0:=hcell 0 _ (by omega) rfl
     have g1:=hcell 1 _ (by omega) rfl
     have g2:=hcell 2 _ (by omega) rfl
     have g3:=hcell 3 _ (by omega) rfl
     have g4:=hcell 4 _ (by omega) rfl
     have g5:=hcell 5 _ (by omega) rfl
     have g6:=hcell 6 _ (by omega) rfl
     have g7:=hcell 7 _ (by omega) rfl
     have g8:=hcell 8 _ (by omega) rfl
     have g9:=hcell 9 _ (by omega) rfl
     simp only[Nat.add_zero] at g0
     have hok:=HO.out.cnt i (by have:=HNL.out.1;omega)
     rw[show lnAt d.lines i=r by unfold lnAt;rw[hr];rfl] at hok
     obtain⟨c,hc⟩: ∃c,cntY d.nodes i=c:=⟨_,rfl⟩
     rw[hc] at hok
     have HC:=hid hc
     obtain⟨o6,o5,o1,o0⟩:=hok
     have b10:=below_alloc1 wr (.cells (lineA r) 51)
     have h10:=heap_alloc_new wr (.cells (lineA r) 51)
     obtain⟨X,hXe⟩: ∃X,wr.heap.size=X:=⟨_,rfl⟩
     obtain⟨W4,hW4⟩: ∃W,wr.alloc (.cells (lineA r) 51)=W:=⟨_,rfl⟩
     rw[hW4] at b10 h10
     rw[hXe] at h10
     have HRx:=hid (HRw.out.keep b10)
     have HBx:=hid (HBr.out.trans (b10.mono HBr.out.size))
     unfold lineA at hW4
     have hlz:LineBox W4 X r:=h10
     obtain⟨l0,l1,l2,l3,l4,l5,l6,l7,l8,l9,_⟩:=hlz.cells
     obtain⟨r0,_⟩:=HRx.out.cell hin
     try simp only[] at r0
     rw[hc] at r0
     have hXl:=cell_it h10
     have hgl:=HRx.out.lt
     obtain⟨i1,hi1e⟩: ∃i1,i+1=i1:=⟨_,rfl⟩
     have hi1z:(i:Int)+1=(i1:Int):=by omega
     have hi1m:i1≤nl:=by omega
     clear hcell hr hc b10 h10 hlz hi1e
     go_upto_region 33 with fail
     clear hW4 hXe g0 g1 g2 g3 g4 g5 g6 g7 g8 g9 c1 c2
     obtain⟨K,hK⟩: ∃K,r.kind=K:=⟨_,rfl⟩
     rw[hK] at l0 o6 o5 o0
     have HK:=hid hK
     clear hK
     have k1:decide ((1:Int)<(c:Int))=false:=decide_eq_false (by omega)
     have k1b:decide (1<c)=false:=decide_eq_false (by omega)
     by_cases h6:K=6
     ·have hc1:=o6 h6
      subst hc1
      have b6:(K==6)=true:=by simpa using h6
      have b5:(K==5)=false:=beq_eq_false_iff_ne.2 (by omega)
      have b2:(K==2)=false:=beq_eq_false_iff_ne.2 (by omega)
      have b1:(K==1)=false:=beq_eq_false_iff_ne.2 (by omega)
      clear h6 o6 o5 o0
      go_wp2_with fail
      go_roundw
      ·exact⟨i1,by rw[←hi1z],hi1m,by first | exact HRx | exact hid HRx.out.drew,by first | exact HBx | exact hid HBx.out.drew⟩
      ·simp only[RowKit.intOf];omega
     have b6:(K==6)=false:=beq_eq_false_iff_ne.2 h6
     by_cases h5:K=5
     ·have hc1:=o5 h5
      subst hc1
      have b5:(K==5)=true:=by simpa using h5
      have b2:(K==2)=false:=beq_eq_false_iff_ne.2 (by omega)
      have b1:(K==1)=false:=beq_eq_false_iff_ne.2 (by omega)
      clear h6 h5 o6 o5 o0
      go_wp2_with fail
      go_roundw
      ·exact⟨i1,by rw[←hi1z],hi1m,by first | exact HRx | exact hid HRx.out.drew,by first | exact HBx | exact hid HBx.out.drew⟩
      ·simp only[RowKit.intOf];omega
     have b5:(K==5)=false:=beq_eq_false_iff_ne.2 h5
     by_cases h2:K=2
     ·have hc1:=o0 (.inr h2)
      subst hc1
      have b2:(K==2)=true:=by simpa using h2
      have b1:(K==1)=false:=beq_eq_false_iff_ne.2 (by omega)
      clear h6 h5 h2 o6 o5 o0
      go_wp2_with fail
      go_roundw
      ·exact⟨i1,by rw[←hi1z],hi1m,by first | exact HRx | exact hid HRx.out.drew,by first | exact HBx | exact hid HBx.out.drew⟩
      ·simp only[RowKit.intOf];omega
     have b2:(K==2)=false:=beq_eq_false_iff_ne.2 h2
     by_cases h1:K=1
     ·have hc1:=o0 (.inl h1)
      subst hc1
      have b1:(K==1)=true:=by simpa using h1
      clear h6 h5 h2 h1 o6 o5 o0
      go_wp2_with fail
      go_roundw
      ·exact⟨i1,by rw[←hi1z],hi1m,by first | exact HRx | exact hid HRx.out.drew,by first | exact HBx | exact hid HBx.out.drew⟩
      ·simp only[RowKit.intOf];omega
     have b1:(K==1)=false:=beq_eq_false_iff_ne.2 h1
     clear h6 h5 h2 h1 o6 o5 o0
     go_wp2_with fail
     go_roundw
     ·exact⟨i1,by rw[←hi1z],hi1m,by first | exact HRx | exact hid HRx.out.drew,by first | exact HBx | exact hid HBx.out.drew⟩
     ·simp only[RowKit.intOf];omega
    ·obtain rfl:i=nl:=by omega
     have di:decide ((i:Int)<(i:Int))=false:=decide_eq_false (by omega)
     go_wp2_with fail
     go_ret
     exact⟨rfl,by first | exact(HB3.out.trans (HBr.out.mono HB3.out.size)) | exact(HB3.out.trans (HBr.out.mono HB3.out.size)).drew⟩
  ·have dk:decide ((k:Int)<(nn:Int))=true:=decide_eq_true (by omega)
   have hk0:(0:Int)≤(k:Int):=by omega
   have hk1:(k:Int)<(nn:Int):=by omega
   obtain⟨x,hx⟩: ∃x,d.nodes[k]?=some x:=⟨_,List.getElem?_eq_getElem (by have:=HNL.out.2;omega)⟩
   obtain⟨hju,pk,ck,hcell,hkc⟩:=(HDoc.out wr HBr.out).nodeAt hx
   clear hju
   obtain⟨mk,hmk⟩: ∃mk,x.kids.length=mk:=⟨_,rfl⟩
   have hmkb:mk≤4096:=by rw[←hmk];exact HT.out.kids hx
   rw[hmk] at hcell
   have y0:=hcell 0 _ (by omega) rfl
   have y1:=hcell 1 _ (by omega) rfl
   have y2:=hcell 2 _ (by omega) rfl
   have y3:=hcell 3 _ (by omega) rfl
   have y4:=hcell 4 _ (by omega) rfl
   have y5:=hcell 5 _ (by omega) rfl
   have y6:=hcell 6 _ (by omega) rfl
   have y7:=hcell 7 _ (by omega) rfl
   have y8:=hcell 8 _ (by omega) rfl
   simp only[Nat.add_zero] at y0
   have hok:=HO.out.oks k x hx
   rw[HNL.out.1] at hok
   have hle:=hok.le
   have HOK:=hid hok
   have HXk:=hid (And.intro hx hmk)
   have b9:=below_alloc1 wr (.cells (#[.int .i64 (x.kind:Int), .int .i64 x.ind, .int .i64 (x.fr:Int), .int .i64 (x.til:Int), .int .i64 x.kf, .int .i64 x.kt, .int .i64 x.rf, .int .i64 x.rt, .slice pk mk ck]) 45)
   have x9:=heap_alloc_new wr (.cells (#[.int .i64 (x.kind:Int), .int .i64 x.ind, .int .i64 (x.fr:Int), .int .i64 (x.til:Int), .int .i64 x.kf, .int .i64 x.kt, .int .i64 x.rf, .int .i64 x.rt, .slice pk mk ck]) 45)
   obtain⟨X,hXe⟩: ∃K,wr.heap.size=K:=⟨_,rfl⟩
   obtain⟨W4,hW4⟩: ∃W,wr.alloc (.cells (#[.int .i64 (x.kind:Int), .int .i64 x.ind, .int .i64 (x.fr:Int), .int .i64 (x.til:Int), .int .i64 x.kf, .int .i64 x.kt, .int .i64 x.rf, .int .i64 x.rt, .slice pk mk ck]) 45)=W:=⟨_,rfl⟩
   rw[hW4] at b9 x9
   rw[hXe] at x9
   have HB94:=hid b9
   have HX9:=hid x9
   have HBr4:=hid (HBr.out.trans (b9.mono HBr.out.size))
   have HRow4:=hid (HRow.out.keep b9)
   have HKC:Hid (∀w',Below wr.heap.size wr w'→ ∀(j q:Nat),x.kids[j]?=some q→ ∃gk,pk=some ⟨gk,0,none⟩∧w'.cell? ⟨gk,j,none⟩=some (.int .i64 (q:Int))):=hid (fun w' h j q hj=>by
    obtain⟨gk,e1,e2⟩:=hkc j q hj
    exact⟨gk,e1,cell_keepT e2 h⟩)
   have hgr:g<wr.heap.size:=HRow.out.lt
   have hgX:g≠X:=by omega
   clear hcell hkc hx hmk hok b9 x9 HRow
   have HW4:=hid hW4
   go_upto_region 9 with fail
   go_upto_region 10 with fail
   clear hW4 HW4 hXe y0 y1 y2 y3 y4 y5 y6 y7 y8 c1 c2
   obtain⟨n0,n1,n2,n3,n4,n5,n6,n7,n8⟩:=box9 HX9.out
   obtain⟨c1,c2⟩:=HDX.out W4 HBr4.out
   have q1:decide ((x.fr:Int)<0)=false:=decide_eq_false (by omega)
   have q2:decide ((x.til:Int)<(x.fr:Int))=false:=decide_eq_false (by omega)
   have q2b:decide (x.til<x.fr)=false:=decide_eq_false (by omega)
   have q3:decide ((nl:Int)<(x.til:Int))=false:=decide_eq_false (by omega)
   have q3b:decide (nl<x.til)=false:=decide_eq_false (by omega)
   go_wp2_with fail
   have HX4b:Hid (Below W4.heap.size W4 W4):=hid (Below.refl _ _)
   have HCh:Hid (leafB x=false→ChainY d.nodes k x.ind (x.kids.drop 0) x.fr x.til):=hid (fun h=>(HOK.out.kids h).2)
   clear n0 n1 n2 n3 n4 n5 n6 n7 n8 c1 c2 q1 q2 q2b q3 q3b
   go_loopw [10,11] (fun s10 s11 wx=> ∃(at_ i:Nat),s10= .int .i64 (at_:Int)∧s11= .int .i64 (i:Int)∧i≤mk∧Hid (leafB x=false→ChainY d.nodes k x.ind (x.kids.drop i) at_ x.til)∧Hid (Below W4.heap.size W4 wx)) (fun _ s11 _=>mk-(RowKit.intOf s11).toNat)
   case atStart=>exact⟨x.fr,0,rfl,rfl,Nat.zero_le _,HCh,by first | exact HX4b | exact hid HX4b.out.drew⟩
   case round=>
    clear HCh HX4b
    obtain⟨at_,i,rfl,rfl,hi,HCh,HBx⟩:=hrel
    have hx9:=(HBx.out.block X (cell_it HX9.out)).trans HX9.out
    obtain⟨n0,n1,n2,n3,n4,n5,n6,n7,n8⟩:=box9 hx9
    have HX9r:=hid hx9
    have HBr5:=hid (HBr4.out.trans (HBx.out.mono HBr4.out.size))
    obtain⟨c1,c2⟩:=HDX.out _ HBr5.out
    clear hx9
    by_cases him:i<mk
    ·have di:decide ((i:Int)<(mk:Int))=true:=decide_eq_true (by omega)
     have hi0:(0:Int)≤(i:Int):=by omega
     have hi1:(i:Int)<(mk:Int):=by omega
     obtain⟨q,hq⟩: ∃q,x.kids[i]?=some q:=⟨_,List.getElem?_eq_getElem (by rw[HXk.out.2];exact him)⟩
     have hlf:leafB x=false:=by
      cases hh:leafB x with
      | false=>rfl
      | true=>have:=HOK.out.leaf hh;rw[this] at hq;cases hq
     have hch:=HCh.out hlf
     have hdr:x.kids.drop i=q::x.kids.drop (i+1):=by
      rw[List.drop_eq_getElem_cons (by rw[HXk.out.2];exact him)]
      congr 1
      exact(List.getElem?_eq_some_iff.1 hq).2
     rw[hdr] at hch
     obtain⟨hkq,y,hy,h1,h2,h3,h4⟩:=hch
     have h5:=h4.le
     have hqn:q<nn:=by have:=(List.getElem?_eq_some_iff.1 hy).1;have:=HNL.out.2;omega
     have hq0:(0:Int)≤(q:Int):=by omega
     have hq1:(q:Int)<(nn:Int):=by omega
     have e1:decide ((q:Int)≤(k:Int))=false:=decide_eq_false (by omega)
     have e1b:decide (q≤k)=false:=decide_eq_false (by omega)
     have e2:decide ((nn:Int)≤(q:Int))=false:=decide_eq_false (by omega)
     have e2b:decide (nn≤q)=false:=decide_eq_false (by omega)
     have HYq:=hid (And.intro hq (And.intro hy h4))
     obtain⟨gk,rfl,kc⟩:=HKC.out _ (HB94.out.trans (HBx.out.mono HB94.out.size)) i q hq
     have HKc:=hid kc
     clear hq hlf hdr hy h4
     go_upto_region 16 with fail
     obtain⟨W0,hW0⟩: ∃W,wr.drew=W:=⟨_,rfl⟩
     have HB40:Hid (Below W4.heap.size W4 W0):=hid (by rw[←hW0];exact HBx.out.drew)
     have HSC:Hid (∀w',Below W0.heap.size W0 w'→w'.cell? ⟨D,2,none⟩=some (.slice (some ⟨gn,0,none⟩) nn cn)∧w'.cell? ⟨X,8,none⟩=some (.slice (some ⟨gk,0,none⟩) mk ck)∧w'.cell? ⟨gk,i,none⟩=some (.int .i64 (q:Int))∧True):=hid (fun w' h=>by
      have hb:=below_of_new HB40.out h
      obtain⟨_,e2⟩:=HDX.out w' (HBr4.out.trans (hb.mono HBr4.out.size))
      obtain⟨_,_,_,_,_,_,_,_,m8⟩:=box9 ((hb.block X (cell_it HX9.out)).trans HX9.out)
      refine⟨e2,m8,?_,trivial⟩
      obtain⟨g3,e3,e4⟩:=HKC.out w' (HB94.out.trans (hb.mono HB94.out.size)) i q HYq.out.1
      injection e3 with e3
      injection e3 with e3
      rw[e3]
      exact e4)
     clear n0 n1 n2 n3 n4 n5 n6 n7 n8 c1 c2 kc
     have hfol:Tryz.prog.follows .mixedOrders=true:=by kernel_rfl
     refine wp_region_gf hfol [74,75,76,77,78,79,80,81,82,83,84,85,86,87,88,89,90,91] 212 rfl (by kernel_rfl) (by kernel_rfl) (fun iz=>match iz with | 0=> .pointer (some ⟨X,8,none⟩) | 1=> .slice (some ⟨gk,0,none⟩) mk ck | 2=> .int .i64 (i:Int) | 3=> .pointer (some ⟨gk,i,none⟩) | 4=> .int .i64 (q:Int) | 5=> .int .i64 (k:Int) | 6=> .bool false | 7=> .bool false | 8=> .pointer (some ⟨X,8,none⟩) | 9=> .slice (some ⟨gk,0,none⟩) mk ck | 10=> .int .i64 (i:Int) | 11=> .pointer (some ⟨gk,i,none⟩) | 12=> .int .i64 (q:Int) | 13=> .pointer (some ⟨D,2,none⟩) | 14=> .slice (some ⟨gn,0,none⟩) nn cn | 15=> .int .i64 (nn:Int) | 16=> .bool false | 17=> .bool false | _=>undef) (fun w'=>Below W0.heap.size W0 w') (by rw[hW0];exact Below.refl _ _) ?_ ?_
     ·intro dd a w' iq o' ho hi hall hfr hF R' hR
      have hiN:iq<18:=(Array.getElem?_eq_some_iff.1 ho).1
      have q4:a.tmps[4]?.getD undef= .pointer (some ⟨D,0,none⟩):=fr_q hfr 4 (by decide)
      have q8:a.tmps[8]?.getD undef= .int .i64 (k:Int):=fr_q hfr 8 (by decide)
      have q9:a.tmps[9]?.getD undef= .pointer (some ⟨X,0,none⟩):=fr_q hfr 9 (by decide)
      have q11:a.tmps[11]?.getD undef= .int .i64 (i:Int):=fr_q hfr 11 (by decide)
      have hc:=hF.all [(0,74),(1,75),(2,76),(3,77),(4,78),(5,79),(6,80),(7,81),(8,82),(9,83),(10,84),(11,85),(12,86),(13,87),(14,88),(15,89),(16,90)] (by decide)
      dsimp only[AllP] at hc
      clear hfr
      obtain⟨s2,x8,kc,_⟩:=HSC.out _ hF.st
      have hcs:iq=0∨iq=1∨iq=2∨iq=3∨iq=4∨iq=5∨iq=6∨iq=7∨iq=17∨iq=8∨iq=9∨iq=10∨iq=11∨iq=12∨iq=13∨iq=14∨iq=15∨iq=16:=by omega
      clear hiN
      rcases hcs with rfl | rfl | rfl | rfl | rfl | rfl | rfl | rfl | rfl | rfl | rfl | rfl | rfl | rfl | rfl | rfl | rfl | rfl<;>simp only[List.getElem?_toArray,List.getElem?_cons_zero,List.getElem?_cons_succ,Option.some.injEq] at ho<;>subst ho<;>(try simp[Region.binds] at hall)
      iterate 9 (refine gf_run (gf_none rfl) ?_;go_simp;exact hR _ _ (hF.step (by decide) rfl (by first | rfl | simp) hF.st))
      iterate 9 (refine gf_run (hF.on rfl rfl rfl rfl (by simp[hall]) rfl) ?_;go_simp;exact hR _ _ (hF.step (by decide) rfl (by first | rfl | simp) hF.st))
     intro v wz hcl hS
     have hv:=allV (l:= [74,75,76,77,78,79,80,81,82,83,84,85,86,87,88,89,90,91]) hcl (by decide)
     dsimp only[AllV] at hv
     simp only[fillT,List.setIfInBounds_toArray,List.set_cons_succ,List.set_cons_zero,hv]
     clear hcl hv
     have HBz:=hid (below_of_new HB40.out hS)
     have HBz0:=hid hS
     clear hS
     go_upto_region 18 with fail
     obtain⟨W5,hW5⟩: ∃W,wz.drew=W:=⟨_,rfl⟩
     have HB45:Hid (Below W4.heap.size W4 W5):=hid (by rw[←hW5];exact HBz.out.drew)
     obtain⟨hju,pq,cq,hcy,hju2⟩:=(HDoc.out W5 (HBr4.out.trans (HB45.out.mono HBr4.out.size))).nodeAt HYq.out.2.1
     clear hju hju2
     obtain⟨mq,hmq⟩: ∃m,y.kids.length=m:=⟨_,rfl⟩
     rw[hmq] at hcy
     have HCY:=hid hcy
     obtain⟨SA,hSA⟩: ∃S:World→Prop,(fun w'=>w'.cell? ⟨D,2,none⟩=some (.slice (some ⟨gn,0,none⟩) nn cn)∧w'.cell? ⟨X,8,none⟩=some (.slice (some ⟨gk,0,none⟩) mk ck)∧w'.cell? ⟨gk,i,none⟩=some (.int .i64 (q:Int))∧w'.cell? ⟨gn,q*9,none⟩=some (.int .i64 (y.kind:Int))∧w'.cell? ⟨gn,q*9+1,none⟩=some (.int .i64 y.ind)∧w'.cell? ⟨gn,q*9+2,none⟩=some (.int .i64 (y.fr:Int))∧w'.cell? ⟨gn,q*9+3,none⟩=some (.int .i64 (y.til:Int))∧w'.cell? ⟨gn,q*9+4,none⟩=some (.int .i64 y.kf)∧w'.cell? ⟨gn,q*9+5,none⟩=some (.int .i64 y.kt)∧w'.cell? ⟨gn,q*9+6,none⟩=some (.int .i64 y.rf)∧w'.cell? ⟨gn,q*9+7,none⟩=some (.int .i64 y.rt)∧w'.cell? ⟨gn,q*9+8,none⟩=some (.slice pq mq cq))=S:=⟨_,rfl⟩
     have HSA:Hid (∀w',Below W5.heap.size W5 w'→SA w'):=hid (fun w' h=>by
      rw[←hSA]
      have hb:=below_of_new (show Below W0.heap.size W0 W5 from by rw[←hW5];exact(show Below W0.heap.size W0 wz from HBz0.out).drew) h
      obtain⟨s2,x8,kc,_⟩:=HSC.out w' hb
      exact⟨s2,x8,kc,cell_keepT (HCY.out 0 _ (by omega) rfl) h,cell_keepT (HCY.out 1 _ (by omega) rfl) h,cell_keepT (HCY.out 2 _ (by omega) rfl) h,cell_keepT (HCY.out 3 _ (by omega) rfl) h,cell_keepT (HCY.out 4 _ (by omega) rfl) h,cell_keepT (HCY.out 5 _ (by omega) rfl) h,cell_keepT (HCY.out 6 _ (by omega) rfl) h,cell_keepT (HCY.out 7 _ (by omega) rfl) h,cell_keepT (HCY.out 8 _ (by omega) rfl) h⟩)
     clear hcy hmq
     have hfol:Tryz.prog.follows .mixedOrders=true:=by kernel_rfl
     refine wp_region_rcf3 hfol [some 92,some 93,some 94,some 95,some 96,some 97,some 98,some 99,some 100,some 12,none] [92,93,94,95,96,97,98,99,100,12] [10] 9 (FbB W5 45 (yndA zeroND)) 212 rfl (by kernel_rfl) (by kernel_rfl) (by kernel_rfl) (fun iz=>match iz with | 0=> .pointer (some ⟨D,2,none⟩) | 1=> .slice (some ⟨gn,0,none⟩) nn cn | 2=> .pointer (some ⟨X,8,none⟩) | 3=> .slice (some ⟨gk,0,none⟩) mk ck | 4=> .int .i64 (i:Int) | 5=> .pointer (some ⟨gk,i,none⟩) | 6=> .int .i64 (q:Int) | 7=> .pointer (some ⟨gn,q*9,none⟩) | 8=> .agg #[.int .i64 (y.kind:Int), .int .i64 y.ind, .int .i64 (y.fr:Int), .int .i64 (y.til:Int), .int .i64 y.kf, .int .i64 y.kt, .int .i64 y.rf, .int .i64 y.rt, .slice pq mq cq] | _=>undef) SA (PhBox W5 45 #[.int .i64 (y.kind:Int), .int .i64 y.ind, .int .i64 (y.fr:Int), .int .i64 (y.til:Int), .int .i64 y.kf, .int .i64 y.kt, .int .i64 y.rf, .int .i64 y.rt, .slice pq mq cq]) (by rw[hW5];exact HSA.out _ (Below.refl _ _)) (by rw[hW5];exact Below.refl _ _) ?_ ?_
     ·intro dd a w' iq o' ho hi hall hfr hF R' hR
      have hiN:iq<11:=(Array.getElem?_eq_some_iff.1 ho).1
      have q4:a.tmps[4]?.getD undef= .pointer (some ⟨D,0,none⟩):=fr_q hfr 4 (by decide)
      have q9:a.tmps[9]?.getD undef= .pointer (some ⟨X,0,none⟩):=fr_q hfr 9 (by decide)
      have q11:a.tmps[11]?.getD undef= .int .i64 (i:Int):=fr_q hfr 11 (by decide)
      have hc:=hF.all [(0,92),(1,93),(2,94),(3,95),(4,96),(5,97),(6,98),(7,99),(8,100)] (by decide)
      dsimp only[AllP] at hc
      clear hfr
      have ha:=hall
      have hoo:=ho
      have hcs:iq=9∨iq=10∨iq=0∨iq=2∨iq=4∨iq=5∨iq=1∨iq=3∨iq=6∨iq=7∨iq=8:=by omega
      clear hiN
      rcases hcs with rfl | rfl | rfl | rfl | rfl | rfl | rfl | rfl | rfl | rfl | rfl<;>simp only[List.getElem?_toArray,List.getElem?_cons_zero,List.getElem?_cons_succ,Option.some.injEq] at ho<;>subst ho<;>(try simp[Region.binds] at hall)
      ·have hA:Below W5.heap.size W5 w':=hF.at2 (j:=0) rfl (hF.lastNot (f:=11) (i:=9) (by kernel_rfl) hi) (.inl rfl)
       have hA2:=below_alloc1 w' (.cells (yndA zeroND) 45)
       go_simp
       exact hR _ _ (hF.free (by kernel_rfl) hoo ha rfl (by decide) rfl (by decide) (by kernel_rfl) (by decide) (hF.lastNot (f:=11) (i:=9) (by kernel_rfl) hi) (fun _=>HSA.out _ (below_of_new hA hA2)) (fun k c hp=>hp.keep hA2) (FbB.new hA.size))
      ·have c100:=hF.g 8 100 rfl (by decide) (by decide) (by decide) (by simp[hall])
       have hP0:=hF.at2 (j:=0) rfl hi (.inl rfl)
       obtain⟨Y,hY,hYW,hYb⟩:=hF.fb hi (by simp[hall])
       have hY:a.tmps.getD 12 undef= .pointer (some ⟨Y,0,none⟩):=hY
       have c12:a.tmps[12]?.getD undef= .pointer (some ⟨Y,0,none⟩):=by rw[←Array.getD_eq_getD_getElem?];exact hY
       obtain⟨z0,z1,z2,z3,z4,z5,z6,z7,z8,h0,h1,h2,h3,h4,h5,h6,h7,h8⟩:=box9f hYb
       have hA:Below W5.heap.size W5 w':=hP0
       go_simp
       exact hR undef _ (hF.eff2 (by kernel_rfl) (by decide) 0 hoo ha rfl hi (.inl rfl) rfl (by decide) (fun h=>absurd rfl h) (fun h=>absurd rfl h) ⟨Y,hY,hYW,putN_box hYb,below_putN hA hYW⟩)
      iterate 4 (go_simp;exact hR _ _ (hF.pure (by kernel_rfl) hoo ha rfl (by decide) (by decide) (by decide) rfl))
      all_goals
       have hS0:=hF.early (f:=11) (by kernel_rfl) hi
       rw[←hSA] at hS0
       obtain⟨s2,x8,kc,n0,n1,n2,n3,n4,n5,n6,n7,n8⟩:=hS0
       go_simp
       exact hR _ _ (hF.pure (by kernel_rfl) hoo ha rfl (by decide) (by decide) (by decide) rfl)
     intro v wy hcl hP1
     obtain⟨Y,hY,hYW,hYb,hbz⟩:=hP1
     have hv12:v 12= .pointer (some ⟨Y,0,none⟩):=hY
     simp only[fillT,List.setIfInBounds_toArray,List.set_cons_succ,List.set_cons_zero,hv12]
     have HB4y:=hid (below_of_new HB45.out hbz)
     obtain⟨m0,m1,m2,m3,m4,m5,m6,m7,m8⟩:=box9 hYb
     obtain⟨n0,n1,n2,n3,n4,n5,n6,n7,n8⟩:=box9 ((HB4y.out.block X (cell_it HX9.out)).trans HX9.out)
     have hYl:=cell_it hYb
     have hXl:X<wy.heap.size:=Nat.lt_of_lt_of_le (cell_it HX9.out) HB4y.out.size
     obtain⟨i1,hi1e⟩: ∃i1,i+1=i1:=⟨_,rfl⟩
     have hi1z:(i:Int)+1=(i1:Int):=by omega
     have HChn:Hid (leafB x=false→ChainY d.nodes k x.ind (x.kids.drop i1) y.til x.til):=hid (fun _=>by rw[←hi1e];exact HYq.out.2.2)
     have q1:decide ((y.fr:Int)<(at_:Int))=false:=decide_eq_false (by omega)
     have q1b:decide (y.fr<at_)=false:=decide_eq_false (by omega)
     have q2:decide ((x.til:Int)<(y.til:Int))=false:=decide_eq_false (by omega)
     have q2b:decide (x.til<y.til)=false:=decide_eq_false (by omega)
     have q3:decide (y.ind<x.ind)=false:=decide_eq_false (by omega)
     have hi1m:i1≤mk:=by omega
     clear hcl hY hYb hbz hv12 hSA HSA hi1e hW0 hW5
     go_wp2_with fail
     go_roundw
     ·exact⟨y.til,i1,rfl,by rw[←hi1z],hi1m,HChn,by first | exact HB4y | exact hid HB4y.out.drew⟩
     ·simp only[RowKit.intOf];omega
    ·obtain rfl:i=mk:=by omega
     have di:decide ((i:Int)<(i:Int))=false:=decide_eq_false (by omega)
     obtain⟨k1,hk1e⟩: ∃k1,k+1=k1:=⟨_,rfl⟩
     have hk1z:(k:Int)+1=(k1:Int):=by omega
     have hk1m:k1≤nn:=by omega
     have HK1:=hid hk1e
     clear hk1e
     by_cases hx2:x.kind=2
     ·have g2:((x.kind:Int)==2)=true:=by rw[hx2];rfl
      have hlf:leafB x=false:=by unfold leafB;rw[hx2];rfl
      have hat:=HCh.out hlf
      rw[←HXk.out.2,List.drop_length] at hat
      have hat:at_=x.til:=hat
      have e3:((at_:Int) !=(x.til:Int))=false:=by rw[hat];simp
      have e3b:(at_ !=x.til)=false:=by rw[hat];simp
      have hne:=(HOK.out.kids hlf).1
      have hm0:0<i:=by have:=List.length_pos_iff.2 hne;have:=HXk.out.2;omega
      have e4:((i:Int)==0)=false:=beq_eq_false_iff_ne.2 (by omega)
      have e4b:(i==0)=false:=beq_eq_false_iff_ne.2 (by omega)
      have e4c:decide (i=0)=false:=decide_eq_false (by omega)
      have HRn:Hid (NatRow wr g (fun i=>cntY (d.nodes.take k1) i) nl):=hid ((HRow4.out.keep HBx.out).ext (fun j hj=>by
       rw[←HK1.out,cntY_take HXk.out.1]
       have:ownsB j x=false:=by unfold ownsB;rw[hlf];rfl
       rw[this];simp))
      clear hlf hat hne hx2
      go_wp2_with fail
      go_roundw
      ·exact⟨k1,by rw[←hk1z],hk1m,by first | exact HRn | exact hid HRn.out.drew,by first | exact HBr5 | exact hid HBr5.out.drew⟩
      ·simp only[RowKit.intOf];omega
     have g2:((x.kind:Int)==2)=false:=beq_eq_false_iff_ne.2 (by omega)
     by_cases hx3:x.kind=3
     ·have g3:((x.kind:Int)==3)=true:=by rw[hx3];rfl
      have hlf:leafB x=false:=by unfold leafB;rw[hx3];rfl
      have hat:=HCh.out hlf
      rw[←HXk.out.2,List.drop_length] at hat
      have hat:at_=x.til:=hat
      have e3:((at_:Int) !=(x.til:Int))=false:=by rw[hat];simp
      have e3b:(at_ !=x.til)=false:=by rw[hat];simp
      have hne:=(HOK.out.kids hlf).1
      have hm0:0<i:=by have:=List.length_pos_iff.2 hne;have:=HXk.out.2;omega
      have e4:((i:Int)==0)=false:=beq_eq_false_iff_ne.2 (by omega)
      have e4b:(i==0)=false:=beq_eq_false_iff_ne.2 (by omega)
      have e4c:decide (i=0)=false:=decide_eq_false (by omega)
      have HRn:Hid (NatRow wr g (fun i=>cntY (d.nodes.take k1) i) nl):=hid ((HRow4.out.keep HBx.out).ext (fun j hj=>by
       rw[←HK1.out,cntY_take HXk.out.1]
       have:ownsB j x=false:=by unfold ownsB;rw[hlf];rfl
       rw[this];simp))
      clear hlf hat hne hx3 hx2
      go_wp2_with fail
      go_roundw
      ·exact⟨k1,by rw[←hk1z],hk1m,by first | exact HRn | exact hid HRn.out.drew,by first | exact HBr5 | exact hid HBr5.out.drew⟩
      ·simp only[RowKit.intOf];omega
     have g3:((x.kind:Int)==3)=false:=beq_eq_false_iff_ne.2 (by omega)
     have hlf:leafB x=true:=by unfold leafB;simp[hx2,hx3]
     have HRu:Hid (NatRow wr g (upTo (fun i=>cntY (d.nodes.take k) i) x.fr x.fr) nl):=hid ((HRow4.out.keep HBx.out).ext (fun j hj=>(upTo_zero _ _ _).symm))
     have HLF:=hid hlf
     clear hx2 hx3 hlf
     go_wp2_with fail
     clear n0 n1 n2 n3 n4 n5 n6 n7 n8 c1 c2
     go_loopw [13] (fun s13 wx=> ∃j:Nat,s13= .int .i64 (j:Int)∧x.fr≤j∧j≤x.til∧Hid (NatRow wx g (upTo (fun i=>cntY (d.nodes.take k) i) x.fr j) nl)∧Hid (wx.heap[X]?=some (.cells (#[.int .i64 (x.kind:Int), .int .i64 x.ind, .int .i64 (x.fr:Int), .int .i64 (x.til:Int), .int .i64 x.kf, .int .i64 x.kt, .int .i64 x.rf, .int .i64 x.rt, .slice pk i ck]) 45))∧Hid (Below w3.heap.size w3 wx)) (fun s13 _=>x.til-(RowKit.intOf s13).toNat)
     case atStart=>exact⟨x.fr,rfl,Nat.le_refl _,hle.1,by first | exact HRu | exact hid HRu.out.drew,by first | exact HX9r | exact HX9r,by first | exact HBr5 | exact hid HBr5.out.drew⟩
     case round=>
      clear HRu
      obtain⟨j,rfl,hj1,hj2,HRj,HXj,HBj⟩:=hrel
      obtain⟨n0,n1,n2,n3,n4,n5,n6,n7,n8⟩:=box9 HXj.out
      have hXl:=cell_it HXj.out
      by_cases hjt:j<x.til
      ·have dj:decide ((j:Int)<(x.til:Int))=true:=decide_eq_true (by omega)
       have dj2:decide (j<x.til)=true:=decide_eq_true hjt
       have hj0:(0:Int)≤(j:Int):=by omega
       have hjn:(j:Int)<(nl:Int):=by omega
       have hjn2:j<nl:=by omega
       obtain⟨r0,r1⟩:=HRj.out.cell hjn2
       obtain⟨cj,hcj⟩: ∃c,upTo (fun i=>cntY (d.nodes.take k) i) x.fr j j=c:=⟨_,rfl⟩
       have hcb:cj≤4097:=by
        rw[←hcj]
        unfold upTo
        have h1:=cntY_le (d.nodes.take k) j
        have h2:(d.nodes.take k).length≤4096:=by rw[List.length_take];have:=HNL.out.2;omega
        simp only[]
        split<;>omega
       rw[hcj] at r0
       obtain⟨cj1,hcj1⟩: ∃c,cj+1=c:=⟨_,rfl⟩
       have hcz:(cj:Int)+1=(cj1:Int):=by omega
       have hcw:IntKind.i64.wrap ((cj:Int)+1)=(cj1:Int):=by rw[hcz,IntKind.wrap_i64];omega
       have hcx:IntKind.i64.wrap (cj1:Int)=(cj1:Int):=by rw[IntKind.wrap_i64];omega
       obtain⟨j1,hj1e⟩: ∃j1,j+1=j1:=⟨_,rfl⟩
       have hj1z:(j:Int)+1=(j1:Int):=by omega
       have HRn:Hid (NatRow (wr.setCell ⟨g,j,none⟩ (.int .i64 (cj1:Int))) g (upTo (fun i=>cntY (d.nodes.take k) i) x.fr j1) nl):=hid ((HRj.out.set hjn2 cj1).ext (fun q hq=>by
        rw[←hj1e,←upTo_step _ _ _ _ hj1,hcj,hcj1]))
       have HXn:Hid ((wr.setCell ⟨g,j,none⟩ (.int .i64 (cj1:Int))).heap[X]?=some (.cells (#[.int .i64 (x.kind:Int), .int .i64 x.ind, .int .i64 (x.fr:Int), .int .i64 (x.til:Int), .int .i64 x.kf, .int .i64 x.kt, .int .i64 x.rf, .int .i64 x.rt, .slice pk i ck]) 45)):=hid ((Below.heap_setCell wr ⟨g,j,none⟩ _ X (Ne.symm hgX)).trans HXj.out)
       have HBn:=hid (HBj.out.setCell (p:=⟨g,j,none⟩) hgW (.int .i64 (cj1:Int)))
       have hjj:x.fr≤j1∧j1≤x.til:=by omega
       have hgl:=HRj.out.lt
       clear hcj hcj1 hj1e
       go_wp2_with fail
       go_roundw
       ·exact⟨j1,by rw[←hj1z],hjj.1,hjj.2,by first | exact HRn | exact hid HRn.out.drew,by first | exact HXn | exact HXn,by first | exact HBn | exact hid HBn.out.drew⟩
       ·simp only[RowKit.intOf];omega
      ·obtain rfl:j=x.til:=by omega
       have dj:decide ((x.til:Int)<(x.til:Int))=false:=decide_eq_false (by omega)
       have HRn:Hid (NatRow wr g (fun i=>cntY (d.nodes.take k1) i) nl):=hid (HRj.out.ext (fun q hq=>by
        rw[←HK1.out,cntY_take HXk.out.1]
        unfold upTo ownsB
        rw[HLF.out]
        simp))
       go_wp2_with fail
       go_roundw
       ·exact⟨k1,by rw[←hk1z],hk1m,by first | exact HRn | exact hid HRn.out.drew,by first | exact HBj | exact hid HBj.out.drew⟩
       ·simp only[RowKit.intOf];omega
end Go.Proofs.YtlibkhbachmcgaaGreatDoor
namespace Go.Proofs.YtlibkhbachmcgaaGreatDoor
open Go.Shelf Go.RowKit
noncomputable def laidWorld7 (os:Os):World:=
 let w0:=World.holding Tryz.prog os ⟨#[], #[],[]⟩
 let put (h:Array Obj) (g:Nat) (cs:Array Value):Array Obj:=h.modify g fun
  | .cells _ t frozen=> .cells cs t frozen
  | o=>o
 let h1:=put w0.heap 6 #[.int .u8 0, .int .u8 1, .int .u8 28, .int .u8 2, .int .u8 29, .int .u8 14, .int .u8 24, .int .u8 3, .int .u8 30, .int .u8 22, .int .u8 20, .int .u8 15, .int .u8 25, .int .u8 17, .int .u8 4, .int .u8 8, .int .u8 31, .int .u8 27, .int .u8 13, .int .u8 23, .int .u8 21, .int .u8 19, .int .u8 16, .int .u8 7, .int .u8 26, .int .u8 12, .int .u8 18, .int .u8 6, .int .u8 11, .int .u8 5, .int .u8 10, .int .u8 9]
 let h2:=put h1 7 #[.int .u8 0, .int .u8 1, .int .u8 56, .int .u8 2, .int .u8 57, .int .u8 49, .int .u8 28, .int .u8 3, .int .u8 61, .int .u8 58, .int .u8 42, .int .u8 50, .int .u8 38, .int .u8 29, .int .u8 17, .int .u8 4, .int .u8 62, .int .u8 47, .int .u8 59, .int .u8 36, .int .u8 45, .int .u8 43, .int .u8 51, .int .u8 22, .int .u8 53, .int .u8 39, .int .u8 33, .int .u8 30, .int .u8 24, .int .u8 18, .int .u8 12, .int .u8 5, .int .u8 63, .int .u8 55, .int .u8 48, .int .u8 27, .int .u8 60, .int .u8 41, .int .u8 37, .int .u8 16, .int .u8 46, .int .u8 35, .int .u8 44, .int .u8 21, .int .u8 52, .int .u8 32, .int .u8 23, .int .u8 11, .int .u8 54, .int .u8 26, .int .u8 40, .int .u8 15, .int .u8 34, .int .u8 20, .int .u8 31, .int .u8 10, .int .u8 25, .int .u8 14, .int .u8 19, .int .u8 9, .int .u8 13, .int .u8 8, .int .u8 7, .int .u8 6]
 let h3:=put h2 3 #[.int .u64 1, .int .u64 10, .int .u64 100, .int .u64 1000, .int .u64 10000, .int .u64 100000, .int .u64 1000000, .int .u64 10000000, .int .u64 100000000, .int .u64 1000000000, .int .u64 10000000000, .int .u64 100000000000, .int .u64 1000000000000, .int .u64 10000000000000, .int .u64 100000000000000, .int .u64 1000000000000000, .int .u64 10000000000000000, .int .u64 100000000000000000, .int .u64 1000000000000000000, .int .u64 10000000000000000000]
 let h4:=put h3 1 #[.int .u8 128, .int .u8 191, .int .u8 160, .int .u8 191, .int .u8 128, .int .u8 159, .int .u8 144, .int .u8 191, .int .u8 128, .int .u8 143, .int .u8 0, .int .u8 0, .int .u8 0, .int .u8 0, .int .u8 0, .int .u8 0, .int .u8 0, .int .u8 0, .int .u8 0, .int .u8 0, .int .u8 0, .int .u8 0, .int .u8 0, .int .u8 0, .int .u8 0, .int .u8 0, .int .u8 0, .int .u8 0, .int .u8 0, .int .u8 0, .int .u8 0, .int .u8 0]
 let n5:=h4.size
 let a5:=h4.push (.cells #[.string ⟨#[118,97,108,117,101,32,111,117,116,32,111,102,32,114,97,110,103,101]⟩] 268 (0,0))
 let h5:=put a5 5 #[.iface 266 (.pointer (some ⟨n5,0,none⟩))]
 let n6:=h5.size
 let a6:=h5.push (.cells #[.string ⟨#[105,110,118,97,108,105,100,32,115,121,110,116,97,120]⟩] 268 (0,0))
 let h6:=put a6 4 #[.iface 266 (.pointer (some ⟨n6,0,none⟩))]
 let h7:=put h6 0 (Lib.firstTab.map fun z=>Value.int .u8 z).toArray
 { w0 with heap:=h7 }
def laidL7:List (String×DataW Unit):= [("math/bits.deBruijn32tab",Rows.laid_math_bits_deBruijn32tab),("math/bits.deBruijn64tab",Rows.laid_math_bits_deBruijn64tab),("internal/strconv.uint64pow10",Rows.laid_internal_strconv_uint64pow10),("unicode/utf8.acceptRanges",Rows.laid_unicode_utf8_acceptRanges),("strconv.ErrRange",Rows.laid_strconv_ErrRange),("strconv.ErrSyntax",Rows.laid_strconv_ErrSyntax),("unicode/utf8.first",Rows.laid_unicode_utf8_first)]
theorem laid_met7 (os:Os) (args:Array Value):laidMet Tryz.prog laidL7 ((laidWorld7 os).forCall (fun _ _=>0) ⟨#[],args,[]⟩).memory:=
 (LaidIn.of_run (l:=laidL7) (List.range 64) 8 (by kernel_rfl) (by kernel_rfl) (by kernel_rfl) (by kernel_rfl)).met
theorem ptab_of7 {W:World} (hL:laidMet Tryz.prog laidL7 W):PTab W:=by
 obtain⟨g,t,cs,fuel,p,hg,hty,hvar,hd⟩:=Lib.laidMet.reads hL (.tail _ (.tail _ (.head _)))
 obtain rfl:=Option.some.inj ((show Tryz.prog.globalNamed "internal/strconv.uint64pow10" =some 3 by kernel_rfl).symm.trans hg)
 obtain rfl:=Option.some.inj ((show (Tryz.prog.globals[3]?).map (·.type)=some 246 by kernel_rfl).symm.trans hty)
 rw[show (Rows.laid_internal_strconv_uint64pow10:DataW Unit)=Lib.tabData .u64 Lib.pow10Tab by kernel_rfl] at hd
 have h:=Lib.cells_of_tab Tryz.underlying246 Tryz.underlying196 (by kernel_rfl) (by kernel_rfl) hd
 show World.var? Tryz.prog W _=_
 rw[hvar,←h]
theorem iface_cells {H:Type}{enc:TypeId×Value→H}{P:Program}{w:World}{base:Nat}{sp:Nat→Bool}{held:Bool}{fuel:Nat}{t:TypeId}{ms:Array (String×TypeId)}{cs:List Value}{nm:String}{d:DataW H}{p:List MemPlace}
  (ht:P.underlying t=some (.interface ms)) (h:DataW.trod enc P w base sp held fuel t cs=some (.iface nm d,p)): ∃u v,cs= [.iface u v]:=by
 cases fuel with
 | zero=>simp[DataW.trod] at h
 | succ n=>
  unfold DataW.trod at h
  simp only[ht] at h
  rcases cs with _ | ⟨c,_ | ⟨c2,l⟩⟩
  ·simp at h
  ·cases c<;>simp at h
   exact⟨_,_,rfl⟩
  ·cases c<;>simp at h
theorem svar_of7 {W:World} (hL:laidMet Tryz.prog laidL7 W):SVar W:=by
 obtain⟨g,t,cs,fuel,p,hg,hty,hvar,hd⟩:=Lib.laidMet.reads hL (.tail _ (.tail _ (.tail _ (.tail _ (.tail _ (.head _))))))
 obtain rfl:=Option.some.inj ((show Tryz.prog.globalNamed "strconv.ErrSyntax" =some 4 by kernel_rfl).symm.trans hg)
 obtain rfl:=Option.some.inj ((show (Tryz.prog.globals[4]?).map (·.type)=some 109 by kernel_rfl).symm.trans hty)
 obtain⟨u,v,hcs⟩:=iface_cells Tryz.underlying109 hd
 refine⟨u,v,?_⟩
 rw[hvar,←hcs]
theorem dtab_of7 {W:World} (hL:laidMet Tryz.prog laidL7 W):DTab W:=by
 obtain⟨g,t,cs,fuel,p,hg,hty,hvar,hd⟩:=Lib.laidMet.reads hL (.tail _ (.head _))
 obtain rfl:=Option.some.inj ((show Tryz.prog.globalNamed "math/bits.deBruijn64tab" =some 7 by kernel_rfl).symm.trans hg)
 obtain rfl:=Option.some.inj ((show (Tryz.prog.globals[7]?).map (·.type)=some 270 by kernel_rfl).symm.trans hty)
 rw[show (Rows.laid_math_bits_deBruijn64tab:DataW Unit)=Lib.tabData .u8 (Lib.deBruijn64tab.map (fun n:Nat=>(n:Int))) by kernel_rfl] at hd
 have h:=Lib.cells_of_tab Tryz.underlying270 Tryz.underlying5 (by kernel_rfl) (by kernel_rfl) hd
 unfold DTab
 rw[World.var?_cell (P:=Tryz.prog) (show Tryz.prog.globalNamed "math/bits.deBruijn64tab" =some 7 by kernel_rfl) hvar 15,←Array.getElem?_toList,h]
 rfl
theorem tabs_of7 {W:World} (hL:laidMet Tryz.prog laidL7 W):Tabs W:=by
 have h1:=Lib.laidMet.reads hL (.tail _ (.tail _ (.tail _ (.head _))))
 have h2:=Lib.laidMet.reads hL (.tail _ (.tail _ (.tail _ (.tail _ (.tail _ (.tail _ (.head _)))))))
 rw[show Rows.laid_unicode_utf8_first=Lib.firstData from Pinned.utf8First_eq] at h2
 rw[show (Rows.laid_unicode_utf8_acceptRanges:DataW Unit)=Lib.acceptData by kernel_rfl] at h1
 exact utf8Tabs_of_readsT (U8Types.of196 Tryz.laysValid) ⟨by kernel_rfl,by kernel_rfl,by kernel_rfl,by kernel_rfl,by kernel_rfl,by kernel_rfl,by kernel_rfl⟩ h2 h1
theorem mvar_of {W:World} (h:W.ShapedOpen Tryz.prog):MVar W:=
 cell_of_shapedOpen_int (P:=Tryz.prog) (g:=2) (t:=3) (zero:= #[.int .i64 0]) h (of_decide_eq_true (by kernel_rfl)) (by kernel_rfl) rfl (by kernel_rfl) (by kernel_rfl) Tryz.underlying3
end Go.Proofs.YtlibkhbachmcgaaGreatDoor
namespace Go.Proofs.YtlibkhbachmcgaaGreatDoor
set_option linter.unusedSimpArgs false
set_option linter.unusedVariables false
set_option linter.constructorNameAsVariable false
open Go.RowKit Go.Joins Go.ChangeShapes Go.WideShapes
section
variable {H:Type}{enc:TypeId×Value→H}{w:World}{base:Nat}{sp:Nat→Bool}{held:Bool}
instance:Inhabited (VT×Value×Value):=⟨(.mk 0 [] [] [], .nilFunc, .nilFunc)⟩
end
end Go.Proofs.YtlibkhbachmcgaaGreatDoor
