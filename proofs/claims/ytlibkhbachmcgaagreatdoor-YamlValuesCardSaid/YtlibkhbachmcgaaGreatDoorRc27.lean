import Derived.Test.YtlibkhbachmcgaaGreatDoorRc26
import Derived.Test.YtlibkhbachmcgaaGreatDoorRc13
import Derived.Test.YtlibkhbachmcgaaGreatDoorRc8
import Derived.Test.YtlibkhbachmcgaaGreatDoorRc4
import Derived.Test.YtlibkhbachmcgaaGreatDoorRc12
import Derived.Test.YtlibkhbachmcgaaGreatDoorRc3
import Derived.Test.YtlibkhbachmcgaaGreatDoorRc20
import Derived.Test.YtlibkhbachmcgaaGreatDoorRc11
set_option maxRecDepth 100000
set_option maxHeartbeats 4000000
namespace Go.Proofs.YtlibkhbachmcgaaGreatDoor
set_option linter.unusedSimpArgs false
set_option linter.unusedVariables false
open Go.RowKit
open Go.Lib hiding intOf
theorem KidsOk.monoP {P P':Nat→Nat→Prop} (h: ∀k m,P k m→P' k m) {hi:Nat}: ∀ {l:List Nat}{a:Nat},KidsOk P l a hi→KidsOk P' l a hi
 | [],a,h1=>h1
 | y::l,a,h1=>by
  obtain⟨e,m,h2,h3⟩:=h1
  exact⟨e,m,h _ _ h2,h3.monoP h⟩
theorem TKY.up {ns:List YND}: ∀ {lv k hi:Nat},TKY ns lv k hi→TKY ns (lv+1) k hi
 | lv+1,k,hi,h=>by
  obtain⟨x,hx,h2⟩:=h
  exact⟨x,hx,h2.monoP (fun k m h=>TKY.up h)⟩
def NdE (t:VT) (b:Bool) (w:World) (e:Ending) (w':World):Prop:=(∃kv iv,e= .returned (.tuple #[vv t kv iv, .bool b])∧VDf w.heap.size w' t.depth t kv iv)∧Below w.heap.size w w'
theorem yNodeD_any (s:Stp) (d:YDoc) (hb:DocB s d) (hi64: ∀l∈d.lines,l.ind≤1099511627776) (B:Nat) (lvv nv:Value) (k m:Nat) (w:World) (hT:TKY d.nodes 32 k m) (hD0:YDocAt B d lvv nv w) (hV:AVar w):
  Calls Tryz.prog 14 #[.agg #[.string (bs s),lvv,nv], .int .i64 (k:Int)] w (NdE (nodeYv s d 32 k) true w):=by
 obtain⟨z,hz,hln,hnd⟩:=id hD0
 have hkl:k<d.nodes.length:=by obtain⟨x,hx,_⟩:=hT;exact(List.getElem?_eq_some_iff.1 hx).1
 have hzl:z.length=d.nodes.length:=by rw[←hz,List.length_map]
 obtain⟨gn,cn,cur,rfl,hcn,_,hgn⟩:=hnd.form (fun e=>by rw[e] at hzl;simp at hzl;omega)
 obtain⟨pl,nl,cl,rfl⟩: ∃p n c,lvv= .slice p n c:=by
  rcases hln.2 with⟨h0,_⟩ | ⟨g,cap,cur,h1,_⟩
  ·exact⟨none,0,0,h0⟩
  ·exact⟨_,_,_,h1⟩
 obtain⟨nz,hnz⟩: ∃nz,z.length=nz:=⟨_,rfl⟩
 rw[hnz] at hD0 ⊢
 have dq1:decide ((k:Int)<0)=false:=decide_eq_false (by omega)
 have dq2:decide ((nz:Int)≤(k:Int))=false:=decide_eq_false (by omega)
 have dq3:decide (nz≤k)=false:=decide_eq_false (by omega)
 obtain⟨W1,hW1⟩: ∃W,w.alloc (.cells #[.string (bs s), .slice pl nl cl, .slice (some ⟨gn,0,none⟩) nz cn] 26)=W:=⟨_,rfl⟩
 obtain⟨D,hDe⟩: ∃D,w.heap.size=D:=⟨_,rfl⟩
 have b1:Below w.heap.size w W1:=by rw[←hW1];exact below_alloc1 _ _
 have h1:W1.heap[D]?=some (.cells #[.string (bs s), .slice pl nl cl, .slice (some ⟨gn,0,none⟩) nz cn] 26):=by rw[←hW1,←hDe];exact heap_alloc_new w _
 obtain⟨W2,hW2⟩: ∃W,W1.alloc (.cells #[.int .i64 0, .string ⟨#[]⟩, .slice none 0 0, .slice none 0 0] 36)=W:=⟨_,rfl⟩
 obtain⟨R,hRe⟩: ∃S,W1.heap.size=S:=⟨_,rfl⟩
 have b2:Below W1.heap.size W1 W2:=by rw[←hW2];exact below_alloc1 _ _
 have h2:W2.heap[R]?=some (.cells #[.int .i64 0, .string (bs []), .slice none 0 0, .slice none 0 0] 36):=by rw[←hW2,←hRe];exact heap_alloc_new W1 _
 have hd2:=(b2.block D (cell_it h1)).trans h1
 have HB2:=hid (below_of_new b1 b2)
 have H2:=hid h2
 have hRw:w.heap.size≤R:=by rw[←hRe];exact b1.size
 have hR2l:R<W2.heap.size:=cell_it h2
 obtain⟨T,hTe⟩: ∃T,nodeYv s d 32 k=T:=⟨_,rfl⟩
 have CN:Hid (∀w',Below W2.heap.size W2 w'→Calls Tryz.prog 35 #[.agg #[.string (bs s), .slice pl nl cl, .slice (some ⟨gn,0,none⟩) nz cn], .int .i64 (k:Int), .int .i64 1] w' (NewE T w')):=hid (fun w' h=>by
  have:=ynode_any s d hb hi64 32 B (.slice pl nl cl) (.slice (some ⟨gn,0,none⟩) nz cn) k m 1 w' hT (hid (by decide)) (Nat.le_refl _) ((hD0.keep HB2.out).keep h) ((hV.keep HB2.out).keep h)
  rw[hTe] at this
  exact this)
 rw[hTe]
 obtain⟨d0,d1,d2,_⟩:=box3f hd2
 clear b1 b2 h1 h2 hd2 hz hln hnd hkl hzl hgn hcn hnz hTe hT hD0 hV
 go_enter Tryz.func14,Tryz.ntmps14
 go_upto_region 1 with fail
 clear hW1 hW2 hDe hRe
 go_wp2_with fail
 refine(CN.out _ (by first | exact Below.refl _ _ | exact(Below.refl _ _).drew)).mono ?_
 rintro e w6 ⟨⟨kv,iv,rfl,hv6⟩,hb6⟩
 have HB6:Hid (Below W2.heap.size W2 w6):=hid (by first | exact hb6 | exact below_of_new (Below.refl _ _).drew hb6)
 obtain⟨pk6,ck6,pi6,ci6,rfl,rfl⟩:=hv6.toVD.form
 have HRP:=hid (putNew (t:=T) HB2.out hRw hR2l hv6 HB6.out H2.out)
 obtain⟨r0,r1,r2,r3,g0,g1,g2,g3⟩:=box4 ((HB6.out.block R hR2l).trans H2.out)
 unfold vv
 clear hv6 hb6 d0 d1 d2
 go_wp2_with fail
 have hWR':(((w6.setCell ⟨R,0,none⟩ (.int .i64 T.kind)).setCell ⟨R,1,none⟩ (.string (bs T.text))).setCell ⟨R,2,none⟩ (.slice pk6 T.keys.length ck6)).setCell ⟨R,3,none⟩ (.slice pi6 T.items.length ci6)=putV w6 R T.kind T.text (.slice pk6 T.keys.length ck6) (.slice pi6 T.items.length ci6):=rfl
 rw[hWR']
 obtain⟨WR,hWR⟩: ∃W,putV w6 R T.kind T.text (.slice pk6 T.keys.length ck6) (.slice pi6 T.items.length ci6)=W:=⟨_,rfl⟩
 rw[hWR] at HRP ⊢
 clear hWR' hWR r0 r1 r2 r3 g0 g1 g2 g3
 obtain⟨d0,d1,d2,d3,_⟩:=box4 HRP.out.2.2
 refine bodyPost_ret (v:= .tuple #[.agg #[.int .i64 T.kind, .string (bs T.text), .slice pk6 T.keys.length ck6, .slice pi6 T.items.length ci6], .bool true]) ?_ rfl ⟨⟨_,_,rfl,HRP.out.1⟩,HRP.out.2.1⟩
 simp[results,Tryz.results14,go_sem,d0,d1,d2,d3]
end Go.Proofs.YtlibkhbachmcgaaGreatDoor
namespace Go.Proofs.YtlibkhbachmcgaaGreatDoor
set_option linter.unusedSimpArgs false
set_option linter.unusedVariables false
set_option maxRecDepth 100000
open Go.Lib
def sA12:Stp:= [97,58,32,49,10,98,58,10,32,32,45,32,120,10,32,32,45,32,124,10,32,32,32,32,112,10,32,32,32,32,113]
def sB12:Stp:= [97,58,32,49,10,32,98,58,32,50]
def dA12:YDoc:=⟨[⟨4,0,4,0,0,1,3,4,0,0⟩,⟨4,5,7,0,5,6,7,7,0,0⟩,⟨3,8,13,2,0,0,12,13,0,0⟩,⟨3,14,19,2,0,0,18,19,0,0⟩,⟨6,20,25,4,0,0,0,0,0,0⟩,⟨6,26,31,4,0,0,0,0,0,0⟩],
 [⟨3,0,0,6,0,0,0,0,[1,2]⟩,⟨1,0,0,1,0,1,3,4,[]⟩,⟨2,2,2,6,5,6,0,0,[3,4]⟩,⟨1,2,2,3,0,0,12,13,[]⟩,⟨4,2,3,6,0,0,18,19,[]⟩]⟩
def vA12:VT:= .mk 6 [] [[97],[98]] [.mk 3 [49] [] [], .mk 5 [] [] [.mk 4 [120] [] [], .mk 4 [112,10,113,10] [] []]]
theorem sA_parse:parseYm sA12=(dA12,31,0):=by kernel_rfl
theorem sB_parse:(parseYm sB12).2=(6,2):=by decide+kernel
theorem dA_node:nodeYv sA12 dA12 32 0=vA12:=by kernel_rfl
theorem dA_lit:litY sA12 dA12.lines ⟨4,2,3,6,0,0,18,19,[]⟩= [112,10,113,10]:=by decide+kernel
theorem dA_B:DocB sA12 dA12:=⟨by decide,by decide,by decide,by decide,by decide⟩
theorem dA_64: ∀l∈dA12.lines,l.ind≤1099511627776:=by decide
theorem dA_T:TKY dA12.nodes 32 0 5:=by
 have h1:TKY dA12.nodes 31 1 2:=⟨_,rfl,rfl⟩
 have h3:TKY dA12.nodes 30 3 4:=⟨_,rfl,rfl⟩
 have h4:TKY dA12.nodes 30 4 5:=⟨_,rfl,rfl⟩
 have h2:TKY dA12.nodes 31 2 5:=⟨_,rfl,rfl,4,h3,rfl,5,h4,rfl⟩
 exact⟨_,rfl,rfl,2,h1,rfl,5,h2,rfl⟩
end Go.Proofs.YtlibkhbachmcgaaGreatDoor
namespace Go.Proofs.YtlibkhbachmcgaaGreatDoor
set_option linter.unusedSimpArgs false
set_option linter.unusedVariables false
open Go.RowKit
open Go.Lib hiding intOf
theorem sm_num1:textL (ofInt 1)= [49]:=by decide+kernel
theorem vnum1_any (w:World) (hV:YVar w):
  Calls Tryz.prog 25 #[.int .i64 1] w fun e w'=>e= .returned (.agg #[.int .i64 3, .string (bs [49]), .slice none 0 0, .slice none 0 0])∧Below w.heap.size w w':=by
 have ba:=below_alloc1 w (.cells #[.int .i64 0, .string (bs []), .slice none 0 0, .slice none 0 0] 36)
 have hB0:=RsBox.new w 0 []
 obtain⟨W1,hW1⟩: ∃W,w.alloc (.cells #[.int .i64 0, .string (bs []), .slice none 0 0, .slice none 0 0] 36)=W:=⟨_,rfl⟩
 rw[hW1] at ba hB0
 have HBa:=hid ba
 have HB0:=hid hB0
 have HV:=hid (hV.keep ba)
 obtain⟨y0,y1,y2,y3,f0,f1,f2,f3⟩:=hB0.cells
 have hW1':w.alloc (.cells #[.int .i64 0, .string ⟨#[]⟩, .slice none 0 0, .slice none 0 0] 36)=W1:=hW1
 have C1:=hid (of_any 1 W1 (by omega) HV.out.1.2)
 have C2:Hid (∀w',YVar w'→Calls Tryz.prog 50 #[.agg #[.bool (ofInt 1).neg, .string (bs (ofInt 1).dig), .int .i64 (ofInt 1).exp]] w' fun e w2=>e= .returned (.string (bs [49]))∧Below w'.heap.size w' w2):=hid (fun w' hv=>by
  have:=text_any (ofInt 1) w' (by decide+kernel) hv.1.2
  rw[sm_num1] at this
  exact this)
 unfold numV at C1
 obtain⟨N,hN⟩: ∃N,ofInt 1=N:=⟨_,rfl⟩
 rw[hN] at C1 C2
 clear hV ba hB0 hW1 hN
 go_enter Tryz.func25,Tryz.ntmps25
 go_wp2_with fail
 refine C1.out.mono ?_
 rintro e w2 ⟨rfl,hb2⟩
 have HR2:=hid (HB0.out.keep hb2)
 have HB2:=hid (below_of_new HBa.out hb2)
 have HV2:=hid (HV.out.keep hb2)
 clear hb2 y0 y1 y2 y3 f0 f1 f2 f3
 go_wp2_with fail
 refine(C2.out _ HV2.out).mono ?_
 rintro e w4 ⟨rfl,hb4⟩
 have HR4:=hid (HR2.out.keep hb4)
 have HB4:=hid (below_of_new HB2.out hb4)
 clear hb4
 obtain⟨y0,y1,y2,y3,f0,f1,f2,f3⟩:=HR4.out.cells
 go_wp2_with fail
 clear y0 y1 y2 y3 f0 f1 f2 f3
 have hP:=(HR4.out).put (k2:=3) (t2:= [49])
 have hPB:=below_putRs (k:=3) (t:= [49]) (HB4.out) (Nat.le_refl w.heap.size)
 obtain⟨WF,hWF⟩: ∃W,putRs w4 w.heap.size 3 [49]=W:=⟨_,rfl⟩
 rw[hWF] at hP hPB
 have hWF':(((w4.setCell ⟨w.heap.size,0,none⟩ (.int .i64 3)).setCell ⟨w.heap.size,1,none⟩ (.string (bs [49]))).setCell ⟨w.heap.size,2,none⟩ (.slice none 0 0)).setCell ⟨w.heap.size,3,none⟩ (.slice none 0 0)=WF:=hWF
 rw[hWF']
 obtain⟨d0,d1,d2,d3,_⟩:=hP.cells
 clear hWF hWF'
 refine bodyPost_ret (v:= .agg #[.int .i64 3, .string (bs [49]), .slice none 0 0, .slice none 0 0]) ?_ rfl ⟨rfl,hPB⟩
 simp[results,Tryz.results25,go_sem,d0,d1,d2,d3]
def RvBox (w:World) (X:Nat) (k:Int) (t:Stp) (kv iv:Value):Prop:=w.heap[X]?=some (.cells #[.int .i64 k, .string (bs t),kv,iv] 36 (0,0))
def putRv (w:World) (X:Nat) (k:Int) (t:Stp) (kv iv:Value):World:=(((w.setCell ⟨X,0,none⟩ (.int .i64 k)).setCell ⟨X,1,none⟩ (.string (bs t))).setCell ⟨X,2,none⟩ kv).setCell ⟨X,3,none⟩ iv
theorem RsBox.putv {w:World}{X:Nat}{k k2:Int}{t t2:Stp}{kv iv:Value} (h:RsBox w X k t):RvBox (putRv w X k2 t2 kv iv) X k2 t2 kv iv:=by
 unfold RsBox at h
 unfold RvBox putRv
 simp[World.setCell,h,Array.getElem?_modify]
theorem RvBox.cells {w:World}{X:Nat}{k:Int}{t:Stp}{kv iv:Value} (h:RvBox w X k t kv iv):w.cell? ⟨X,0,none⟩=some (.int .i64 k)∧w.cell? ⟨X,1,none⟩=some (.string (bs t))∧w.cell? ⟨X,2,none⟩=some kv∧w.cell? ⟨X,3,none⟩=some iv:=by
 unfold RvBox at h
 refine⟨?_,?_,?_,?_⟩<;>simp[World.cell?,h]
theorem below_putRv {B:Nat}{w w':World}{X:Nat}{k:Int}{t:Stp}{kv iv:Value} (h:Below B w w') (hX:B≤X):Below B w (putRv w' X k t kv iv):=by
 unfold putRv
 exact(((h.setCell (p:=⟨X,0,none⟩) hX _).setCell (p:=⟨X,1,none⟩) hX _).setCell (p:=⟨X,2,none⟩) hX _).setCell (p:=⟨X,3,none⟩) hX _
theorem lrow_any (p:Option Addr) (n c:Nat) (w:World):
  Calls Tryz.prog 26 #[.slice p n c] w fun e w'=>e= .returned (.agg #[.int .i64 5, .string ⟨#[]⟩, .slice none 0 0, .slice p n c])∧Below w.heap.size w w':=by
 have ba:=below_alloc1 w (.cells #[.int .i64 0, .string (bs []), .slice none 0 0, .slice none 0 0] 36)
 have hB0:=RsBox.new w 0 []
 obtain⟨W1,hW1⟩: ∃W,w.alloc (.cells #[.int .i64 0, .string (bs []), .slice none 0 0, .slice none 0 0] 36)=W:=⟨_,rfl⟩
 rw[hW1] at ba hB0
 obtain⟨y0,y1,y2,y3,f0,f1,f2,f3⟩:=hB0.cells
 have hW1':w.alloc (.cells #[.int .i64 0, .string ⟨#[]⟩, .slice none 0 0, .slice none 0 0] 36)=W1:=hW1
 go_enter Tryz.func26,Tryz.ntmps26
 go_wp2_with fail
 clear y0 y1 y2 y3 f0 f1 f2 f3
 have hP:=hB0.putv (k2:=5) (t2:= []) (kv:= .slice none 0 0) (iv:= .slice p n c)
 have hPB:=below_putRv (k:=5) (t:= []) (kv:= .slice none 0 0) (iv:= .slice p n c) ba (Nat.le_refl w.heap.size)
 obtain⟨WF,hWF⟩: ∃W,putRv W1 w.heap.size 5 [] (.slice none 0 0) (.slice p n c)=W:=⟨_,rfl⟩
 rw[hWF] at hP hPB
 have hWF':(((W1.setCell ⟨w.heap.size,0,none⟩ (.int .i64 5)).setCell ⟨w.heap.size,1,none⟩ (.string ⟨#[]⟩)).setCell ⟨w.heap.size,2,none⟩ (.slice none 0 0)).setCell ⟨w.heap.size,3,none⟩ (.slice p n c)=WF:=hWF
 rw[hWF']
 obtain⟨d0,d1,d2,d3⟩:=hP.cells
 clear hWF hWF'
 refine bodyPost_ret (v:= .agg #[.int .i64 5, .string ⟨#[]⟩, .slice none 0 0, .slice p n c]) ?_ rfl ⟨rfl,hPB⟩
 have d1':WF.cell? ⟨w.heap.size,1,none⟩=some (.string ⟨#[]⟩):=d1
 simp[results,Tryz.results26,go_sem,d0,d1',d2,d3]
theorem lmap_any (q:Option Addr) (m d:Nat) (p:Option Addr) (n c:Nat) (w:World):
  Calls Tryz.prog 24 #[.slice q m d, .slice p n c] w fun e w'=>e= .returned (.agg #[.int .i64 6, .string ⟨#[]⟩, .slice q m d, .slice p n c])∧Below w.heap.size w w':=by
 have ba:=below_alloc1 w (.cells #[.int .i64 0, .string (bs []), .slice none 0 0, .slice none 0 0] 36)
 have hB0:=RsBox.new w 0 []
 obtain⟨W1,hW1⟩: ∃W,w.alloc (.cells #[.int .i64 0, .string (bs []), .slice none 0 0, .slice none 0 0] 36)=W:=⟨_,rfl⟩
 rw[hW1] at ba hB0
 obtain⟨y0,y1,y2,y3,f0,f1,f2,f3⟩:=hB0.cells
 have hW1':w.alloc (.cells #[.int .i64 0, .string ⟨#[]⟩, .slice none 0 0, .slice none 0 0] 36)=W1:=hW1
 go_enter Tryz.func24,Tryz.ntmps24
 go_wp2_with fail
 clear y0 y1 y2 y3 f0 f1 f2 f3
 have hP:=hB0.putv (k2:=6) (t2:= []) (kv:= .slice q m d) (iv:= .slice p n c)
 have hPB:=below_putRv (k:=6) (t:= []) (kv:= .slice q m d) (iv:= .slice p n c) ba (Nat.le_refl w.heap.size)
 obtain⟨WF,hWF⟩: ∃W,putRv W1 w.heap.size 6 [] (.slice q m d) (.slice p n c)=W:=⟨_,rfl⟩
 rw[hWF] at hP hPB
 have hWF':(((W1.setCell ⟨w.heap.size,0,none⟩ (.int .i64 6)).setCell ⟨w.heap.size,1,none⟩ (.string ⟨#[]⟩)).setCell ⟨w.heap.size,2,none⟩ (.slice q m d)).setCell ⟨w.heap.size,3,none⟩ (.slice p n c)=WF:=hWF
 rw[hWF']
 obtain⟨d0,d1,d2,d3⟩:=hP.cells
 clear hWF hWF'
 refine bodyPost_ret (v:= .agg #[.int .i64 6, .string ⟨#[]⟩, .slice q m d, .slice p n c]) ?_ rfl ⟨rfl,hPB⟩
 have d1':WF.cell? ⟨w.heap.size,1,none⟩=some (.string ⟨#[]⟩):=d1
 simp[results,Tryz.results24,go_sem,d0,d1',d2,d3]
theorem VD.leaf (w:World) (n:Nat) (k:Int) (s:Stp):VD w (n+1) (.mk k s [] []) (.slice none 0 0) (.slice none 0 0):=
 ⟨⟨none,0,rfl,Nat.le_refl _, .inl rfl⟩,none,0,rfl,Nat.le_refl _, .inl rfl⟩
theorem VD.two {w:World}{n K:Nat}{x y:VT}{xk xi yk yi kv:Value}{k:Int}{s:Stp}{ks:List Stp} (hks:SV w kv ks) (h:w.heap[K]?=some (.cells #[.int .i64 x.kind, .string (bs x.text),xk,xi, .int .i64 y.kind, .string (bs y.text),yk,yi] 36)) (hx:VD w n x xk xi) (hy:VD w n y yk yi):
  VD w (n+1) (.mk k s ks [x,y]) kv (.slice (some ⟨K,0,none⟩) 2 2):=by
 refine⟨hks,some ⟨K,0,none⟩,2,rfl,Nat.le_refl _, .inr ⟨K,0,rfl,cell_it h,fun j z hz=>?_⟩⟩
 have hz: [x,y][j]?=some z:=hz
 match j,hz with
 | 0,hz=>
  obtain rfl:x=z:=by simpa using hz
  exact⟨xk,xi,by simp[World.cell?,h],by simp[World.cell?,h],by simp[World.cell?,h],by simp[World.cell?,h],hx⟩
 | 1,hz=>
  obtain rfl:y=z:=by simpa using hz
  exact⟨yk,yi,by simp[World.cell?,h],by simp[World.cell?,h],by simp[World.cell?,h],by simp[World.cell?,h],hy⟩
 | j+2,hz=>simp at hz
theorem SV.two {w:World}{K:Nat}{x y:Stp} (h:w.heap[K]?=some (.cells #[.string (bs x), .string (bs y)] 9)):SV w (.slice (some ⟨K,0,none⟩) 2 2) [x,y]:=by
 refine⟨some ⟨K,0,none⟩,2,rfl,Nat.le_refl _, .inr ⟨K,0,rfl,cell_it h,fun j z hz=>?_⟩⟩
 match j,hz with
 | 0,hz=>
  obtain rfl:x=z:=by simpa using hz
  simp[World.cell?,h]
 | 1,hz=>
  obtain rfl:y=z:=by simpa using hz
  simp[World.cell?,h]
 | j+2,hz=>simp at hz
theorem YDocAt.forms {B:Nat}{d:YDoc}{lv nv:Value}{w:World} (h:YDocAt B d lv nv w):(∃p c,lv= .slice p d.lines.length c)∧ ∃p c,nv= .slice p d.nodes.length c:=by
 obtain⟨z,hz,h1,h2⟩:=h
 have hzl:z.length=d.nodes.length:=by rw[←hz,List.length_map]
 refine⟨?_,?_⟩
 ·rcases h1.2 with⟨h3,h4⟩ | ⟨g,cap,cur,h3,_⟩
  ·exact⟨none,0,by rw[h3,h4]⟩
  ·exact⟨_,_,h3⟩
 ·rw[←hzl]
  rcases h2.row.2 with⟨h3,h4⟩ | ⟨g,cap,cur,h3,_⟩
  ·exact⟨none,0,by rw[h3,h4]⟩
  ·exact⟨_,_,h3⟩
theorem small12_any (w:World) (hV:AVar w):
  Calls Tryz.prog 9 #[] w fun e w'=>e= .returned (.bool true)∧Below w.heap.size w w':=by
 have HV:=hid hV
 have CA:=hid (yparse_any sA12 w hV)
 rw[sA_parse] at CA
 clear hV
 go_enter Tryz.func9,Tryz.ntmps9
 go_wp2_with fail
 refine CA.out.mono ?_
 rintro e w1 ⟨tx,lv,nv,rfl,rfl,hd1,hb1⟩
 obtain⟨⟨pl,cl,hpl⟩,pn,cn,hpn⟩:=hd1.forms
 rw[show dA12.lines.length=6 from rfl] at hpl
 rw[show dA12.nodes.length=5 from rfl] at hpn
 subst hpl hpn
 have HD1:=hid hd1
 have HB1:=hid hb1
 clear CA hd1 hb1
 obtain⟨K2,hK2⟩: ∃K,w1.heap.size=K:=⟨_,rfl⟩
 have b2:=below_alloc1 w1 (.cells #[.string (bs sA12), .slice pl 6 cl, .slice pn 5 cn] 26)
 have x2:=heap_alloc_new w1 (.cells #[.string (bs sA12), .slice pl 6 cl, .slice pn 5 cn] 26)
 obtain⟨w2,hw2⟩: ∃W,w1.alloc (.cells #[.string (bs sA12), .slice pl 6 cl, .slice pn 5 cn] 26)=W:=⟨_,rfl⟩
 rw[hw2] at b2 x2
 rw[hK2] at x2
 have HB2:=hid b2
 have HX2:=hid x2
 clear b2 x2
 have HV2:=hid ((HV.out.keep HB1.out).keep HB2.out)
 have HD2:=hid (HD1.out.keep HB2.out)
 have CB:=hid (yparse_any sB12 w2 HV2.out)
 obtain⟨dB,hdB⟩: ∃d,(parseYm sB12).1=d:=⟨_,rfl⟩
 have hpB:parseYm sB12=(dB,6,2):=by rw[←hdB,←sB_parse]
 rw[hpB] at CB
 clear hpB hdB
 go_wp2_with fail
 refine CB.out.mono ?_
 rintro e w3 ⟨tx,lv,nv,rfl,rfl,hd3,hb3⟩
 obtain⟨⟨pl2,cl2,rfl⟩,pn2,cn2,rfl⟩:=hd3.forms
 obtain⟨n1,hn1⟩: ∃n,dB.lines.length=n:=⟨_,rfl⟩
 obtain⟨n2,hn2⟩: ∃n,dB.nodes.length=n:=⟨_,rfl⟩
 rw[hn1,hn2]
 have HB3:=hid hb3
 clear CB hd3 hb3 hn1 hn2 hw2 hK2
 obtain⟨K4,hK4⟩: ∃K,w3.heap.size=K:=⟨_,rfl⟩
 have b4:=below_alloc1 w3 (.cells #[.string ⟨#[]⟩, .slice pl2 n1 cl2, .slice pn2 n2 cn2] 26)
 have x4:=heap_alloc_new w3 (.cells #[.string ⟨#[]⟩, .slice pl2 n1 cl2, .slice pn2 n2 cn2] 26)
 obtain⟨w4,hw4⟩: ∃W,w3.alloc (.cells #[.string ⟨#[]⟩, .slice pl2 n1 cl2, .slice pn2 n2 cn2] 26)=W:=⟨_,rfl⟩
 rw[hw4] at b4 x4
 rw[hK4] at x4
 have HB4:=hid b4
 have HX4:=hid x4
 clear b4 x4
 have HX4b:=hid (((HB4.out.block K2 (Nat.lt_of_lt_of_le (cell_it HX2.out) HB3.out.size)).trans (HB3.out.block K2 (cell_it HX2.out))).trans HX2.out)
 have HB24:=hid (below_of_new HB3.out HB4.out)
 have HV4:=hid (HV2.out.keep HB24.out)
 have HD4:=hid (HD2.out.keep HB24.out)
 have CN:=hid (yNodeD_any sA12 dA12 dA_B dA_64 _ _ _ 0 5 w4 dA_T HD4.out HV4.out)
 rw[dA_node] at CN
 obtain⟨y0,y1,y2,_⟩:=box3f HX4b.out
 have hsimp:(if(2:Int)=0 then bs sB12 else⟨#[]⟩)=(⟨#[]⟩:ByteArray):=if_neg (by decide)
 go_wp2_with fail
 refine CN.out.mono ?_
 rintro e w5 ⟨⟨kv,iv,rfl,hv5⟩,hb5⟩
 obtain⟨pk,ck,pi,ci,hkv,hiv⟩:=hv5.toVD.form
 rw[show vA12.keys.length=2 from rfl] at hkv
 rw[show vA12.items.length=2 from rfl] at hiv
 subst hkv hiv
 have HB5:=hid hb5
 have HV5:=hid hv5.toVD
 unfold vv
 rw[show vA12.kind=6 from rfl,show vA12.text= [] from rfl]
 clear CN hv5 hb5 y0 y1 y2 hw4 hK4
 obtain⟨K6,hK6⟩: ∃K,w5.heap.size=K:=⟨_,rfl⟩
 have b6:=below_alloc1 w5 (.cells #[.int .i64 6, .string (bs []), .slice pk 2 ck, .slice pi 2 ci] 36)
 have x6:=heap_alloc_new w5 (.cells #[.int .i64 6, .string (bs []), .slice pk 2 ck, .slice pi 2 ci] 36)
 obtain⟨w6,hw6⟩: ∃W,w5.alloc (.cells #[.int .i64 6, .string (bs []), .slice pk 2 ck, .slice pi 2 ci] 36)=W:=⟨_,rfl⟩
 rw[hw6] at b6 x6
 rw[hK6] at x6
 have HB6:=hid b6
 have HX6:=hid x6
 clear b6 x6
 have HB46:=hid (below_of_new HB5.out HB6.out)
 have HX4c:=hid ((HB46.out.block K2 (cell_it HX4b.out)).trans HX4b.out)
 have HD6:=hid (HD4.out.keep HB46.out)
 have HVD6:=hid (HV5.out.keep HB6.out)
 have CL:=hid (yliteralD_yes sA12 dA12 (.slice pl 6 cl) (.slice pn 5 cn) _ w6 HD6.out dA_B dA_64 4 _ rfl rfl)
 rw[dA_lit] at CL
 obtain⟨y0,y1,y2,_⟩:=box3f HX4c.out
 go_wp2_with fail
 refine CL.out.mono ?_
 rintro e w7 ⟨rfl,hb7⟩
 have HB7:=hid hb7
 clear hb7
 have HB47:=hid (below_of_new HB46.out HB7.out)
 clear y0 y1 y2 hw6 hK6 CL
 obtain⟨K8,hK8⟩: ∃K,w7.heap.size=K:=⟨_,rfl⟩
 have b8:=below_alloc1 w7 (.cells #[.string ⟨#[97]⟩, .string ⟨#[98]⟩] 9)
 have x8:=heap_alloc_new w7 (.cells #[.string ⟨#[97]⟩, .string ⟨#[98]⟩] 9)
 obtain⟨w8,hw8⟩: ∃W,w7.alloc (.cells #[.string ⟨#[97]⟩, .string ⟨#[98]⟩] 9)=W:=⟨_,rfl⟩
 rw[hw8] at b8 x8
 rw[hK8] at x8
 have HB8:=hid b8
 have HX8:=hid x8
 clear b8 x8
 have HB48:=hid (below_of_new HB47.out HB8.out)
 have C1:=hid (vnum1_any w8 (HV4.out.keep HB48.out).1)
 go_wp2_with fail
 refine C1.out.mono ?_
 rintro e w9 ⟨rfl,hb9⟩
 have HB9:=hid hb9
 clear hb9
 have HB49:=hid (below_of_new HB48.out HB9.out)
 have C2:=hid (vof_any [120] w9)
 clear hw8 C1
 go_wp2_with fail
 refine C2.out.mono ?_
 rintro e w10 ⟨rfl,hb10⟩
 have HB10:=hid hb10
 clear hb10
 have C3:=hid (vof_any [112,10,113,10] w10)
 clear C2
 go_wp2_with fail
 refine C3.out.mono ?_
 rintro e w11 ⟨rfl,hb11⟩
 have HB11:=hid hb11
 clear hb11
 have HB411:=hid (below_of_new HB49.out (below_of_new HB10.out HB11.out))
 clear C3
 obtain⟨K12,hK12⟩: ∃K,w11.heap.size=K:=⟨_,rfl⟩
 have b12:=below_alloc1 w11 (.cells #[.int .i64 4, .string (bs [120]), .slice none 0 0, .slice none 0 0, .int .i64 4, .string (bs [112,10,113,10]), .slice none 0 0, .slice none 0 0] 36)
 have x12:=heap_alloc_new w11 (.cells #[.int .i64 4, .string (bs [120]), .slice none 0 0, .slice none 0 0, .int .i64 4, .string (bs [112,10,113,10]), .slice none 0 0, .slice none 0 0] 36)
 obtain⟨w12,hw12⟩: ∃W,w11.alloc (.cells #[.int .i64 4, .string (bs [120]), .slice none 0 0, .slice none 0 0, .int .i64 4, .string (bs [112,10,113,10]), .slice none 0 0, .slice none 0 0] 36)=W:=⟨_,rfl⟩
 rw[hw12] at b12 x12
 rw[hK12] at x12
 have HB12:=hid b12
 have HX12:=hid x12
 clear b12 x12
 have C4:=hid (lrow_any (some ⟨K12,0,none⟩) 2 2 w12)
 go_wp2_with fail
 refine C4.out.mono ?_
 rintro e w13 ⟨rfl,hb13⟩
 have HB13:=hid hb13
 clear hb13
 have HB413:=hid (below_of_new HB411.out (below_of_new HB12.out HB13.out))
 clear C4 hw12
 obtain⟨K14,hK14⟩: ∃K,w13.heap.size=K:=⟨_,rfl⟩
 have b14:=below_alloc1 w13 (.cells #[.int .i64 3, .string (bs [49]), .slice none 0 0, .slice none 0 0, .int .i64 5, .string ⟨#[]⟩, .slice none 0 0, .slice (some ⟨K12,0,none⟩) 2 2] 36)
 have x14:=heap_alloc_new w13 (.cells #[.int .i64 3, .string (bs [49]), .slice none 0 0, .slice none 0 0, .int .i64 5, .string ⟨#[]⟩, .slice none 0 0, .slice (some ⟨K12,0,none⟩) 2 2] 36)
 obtain⟨w14,hw14⟩: ∃W,w13.alloc (.cells #[.int .i64 3, .string (bs [49]), .slice none 0 0, .slice none 0 0, .int .i64 5, .string ⟨#[]⟩, .slice none 0 0, .slice (some ⟨K12,0,none⟩) 2 2] 36)=W:=⟨_,rfl⟩
 rw[hw14] at b14 x14
 rw[hK14] at x14
 have HB14:=hid b14
 have HX14:=hid x14
 clear b14 x14
 have C5:=hid (lmap_any (some ⟨K8,0,none⟩) 2 2 (some ⟨K14,0,none⟩) 2 2 w14)
 go_wp2_with fail
 refine C5.out.mono ?_
 rintro e w15 ⟨rfl,hb15⟩
 have HB15:=hid hb15
 clear hb15
 have HB415:=hid (below_of_new HB413.out (below_of_new HB14.out HB15.out))
 clear C5 hw14
 obtain⟨K16,hK16⟩: ∃K,w15.heap.size=K:=⟨_,rfl⟩
 have b16:=below_alloc1 w15 (.cells #[.int .i64 6, .string ⟨#[]⟩, .slice (some ⟨K8,0,none⟩) 2 2, .slice (some ⟨K14,0,none⟩) 2 2] 36)
 have x16:=heap_alloc_new w15 (.cells #[.int .i64 6, .string ⟨#[]⟩, .slice (some ⟨K8,0,none⟩) 2 2, .slice (some ⟨K14,0,none⟩) 2 2] 36)
 obtain⟨w16,hw16⟩: ∃W,w15.alloc (.cells #[.int .i64 6, .string ⟨#[]⟩, .slice (some ⟨K8,0,none⟩) 2 2, .slice (some ⟨K14,0,none⟩) 2 2] 36)=W:=⟨_,rfl⟩
 rw[hw16] at b16 x16
 rw[hK16] at x16
 have HB16:=hid b16
 have HX16:=hid x16
 clear b16 x16
 have HB816:=hid (below_of_new HB9.out (below_of_new HB10.out (below_of_new HB11.out (below_of_new HB12.out (below_of_new HB13.out (below_of_new HB14.out (below_of_new HB15.out HB16.out)))))))
 have HB1216:=hid (below_of_new HB13.out (below_of_new HB14.out (below_of_new HB15.out HB16.out)))
 have HB1416:=hid (below_of_new HB15.out HB16.out)
 have hx8:=(HB816.out.block _ (cell_it HX8.out)).trans HX8.out
 have hx12:=(HB1216.out.block _ (cell_it HX12.out)).trans HX12.out
 have hx14:=(HB1416.out.block _ (cell_it HX14.out)).trans HX14.out
 have HVD16:Hid (VD w16 3 vA12 (.slice (some ⟨K8,0,none⟩) 2 2) (.slice (some ⟨K14,0,none⟩) 2 2)):=hid (VD.two (SV.two hx8) hx14 (VD.leaf w16 1 3 [49]) (VD.two (n:=1) (kv:= .slice none 0 0) ⟨none,0,rfl,Nat.le_refl _, .inl rfl⟩ hx12 (VD.leaf w16 0 4 [120]) (VD.leaf w16 0 4 [112,10,113,10])))
 have HB416:=hid (below_of_new HB415.out HB16.out)
 have HB616:=hid (below_of_new HB7.out (below_of_new HB8.out HB816.out))
 have HVN16:Hid (VD w16 3 vA12 (.slice pk 2 ck) (.slice pi 2 ci)):=hid (HVD6.out.keep HB616.out)
 have HX6b:=hid ((HB616.out.block _ (cell_it HX6.out)).trans HX6.out)
 have HX2b:=hid ((HB416.out.block _ (cell_it HX4b.out)).trans HX4b.out)
 have CE:=hid (fun w' (hb:Below w16.heap.size w16 w')=>requal_any 3 vA12 _ _ _ _ w' (HVN16.out.keep hb) (HVD16.out.keep hb) (by decide))
 have HB:=hid (below_of_new HB1.out (below_of_new HB2.out (below_of_new HB24.out HB416.out)))
 obtain⟨y0,y1,y2,_⟩:=box3f HX2b.out
 obtain⟨a0,a1,a2,a3,_⟩:=box4 HX6b.out
 obtain⟨c0,c1,c2,c3,_⟩:=box4 HX16.out
 clear hx8 hx12 hx14
 go_wp2_with fail
 refine(CE.out _ (by first | exact Below.refl _ _ | exact(Below.refl _ _).drew)).mono ?_
 rintro e w17 ⟨rfl,hb17⟩
 have HBz:=hid (below_of_new HB.out (show Below w16.heap.size w16 w17 from by first | exact hb17 | exact below_of_new (Below.refl _ _).drew hb17))
 have e1:((bs [112,10,113,10]).toList== [112,10,113,10])=true:=str_is rfl
 clear hb17
 go_wp2_with fail
 go_ret
 exact⟨rfl,HBz.out⟩
end Go.Proofs.YtlibkhbachmcgaaGreatDoor
namespace Go.Proofs.YtlibkhbachmcgaaGreatDoor
set_option linter.unusedSimpArgs false
set_option linter.unusedVariables false
open Go.Lib
theorem keysGo_snoc (k:Stp): ∀(ks had:List Stp),keysGo had (ks++ [k])=(keysGo had ks&&!decide (k∈had∨k∈ks)&&Lib.validD k)
 | [],had=>by simp[keysGo]
 | x::ks,had=>by
  rw[List.cons_append,keysGo,keysGo,keysGo_snoc k ks (x::had)]
  have:decide (k∈x::had∨k∈ks)=decide (k∈had∨k∈x::ks):=by
   apply decide_eq_decide.2
   simp only[List.mem_cons]
   constructor
   ·rintro((h | h) | h)
    ·exact .inr (.inl h)
    ·exact .inl h
    ·exact .inr (.inr h)
   ·rintro(h | h | h)
    ·exact .inl (.inr h)
    ·exact .inl (.inl h)
    ·exact .inr h
  rw[this]
  simp only[Bool.and_assoc]
theorem unq_valid (l:Stp):validD (unqL l).1=true:=by
 by_cases h:(unqL l).2.2=0
 ·exact((unq_facts l).2 h).2
 ·rw[((unq_facts l).1 h).1];rfl
structure NRt (txt:Stp) (ns:List NodeD) (x:NodeD):Prop where
 kd:1≤x.kind∧x.kind≤6
 flat:x.kind≠5→x.kind≠6→x.kids= []
 tf:x.kind=2→slT txt (x.sf,x.st)=trueL∨slT txt (x.sf,x.st)=falseL
 kid: ∀q∈x.kids,q<ns.length
 keys:x.kind=6→keysGo [] (x.kids.map (keyV txt ns))=true
def KeyS (ns ns':List NodeD):Prop:= ∀j,j<ns.length→(ns'[j]?).map NodeD.key=(ns[j]?).map NodeD.key
theorem KeyS.len {ns ns':List NodeD} (h:KeyS ns ns'):ns.length≤ns'.length:=by
 apply Classical.byContradiction
 intro hn
 have h1:=h ns'.length (by omega)
 rw[List.getElem?_eq_none (Nat.le_refl _),List.getElem?_eq_getElem (by omega)] at h1
 cases h1
theorem KeyS.key {txt:Stp}{ns ns':List NodeD} (h:KeyS ns ns') {q:Nat} (hq:q<ns.length):keyV txt ns' q=keyV txt ns q:=by
 have h1:=h q hq
 have hq':=Nat.lt_of_lt_of_le hq h.len
 unfold keyV
 rw[List.getElem?_eq_getElem hq,List.getElem?_eq_getElem hq'] at h1 ⊢
 simp only[Option.map_some,Option.some.injEq] at h1
 simp only[h1]
theorem KeyS.map {txt:Stp}{ns ns':List NodeD} (h:KeyS ns ns') {l:List Nat} (hl: ∀q∈l,q<ns.length):l.map (keyV txt ns')=l.map (keyV txt ns):=List.map_congr_left (fun q hq=>h.key (hl q hq))
theorem NRt.mono {txt:Stp}{ns ns':List NodeD}{x:NodeD} (h:NRt txt ns x) (hk:KeyS ns ns'):NRt txt ns' x:=
 ⟨h.kd,h.flat,h.tf,fun q hq=>Nat.lt_of_lt_of_le (h.kid q hq) hk.len,fun h6=>by rw[hk.map h.kid];exact h.keys h6⟩
theorem KeyS.app (ns more:List NodeD):KeyS ns (ns++more):=fun j hj=>by rw[List.getElem?_append_left hj]
theorem KeyS.modN {f:NodeD→NodeD} (hf: ∀x,(f x).key=x.key) (n:Nat) (ns:List NodeD):KeyS ns (modN f n ns):=fun j hj=>by
 rw[modN_at]
 split
 ·rw[List.getElem?_eq_getElem hj];simp[hf]
 ·rfl
theorem KeyS.trans {a b c:List NodeD} (h:KeyS a b) (h2:KeyS b c):KeyS a c:=fun j hj=>(h2 j (Nat.lt_of_lt_of_le hj h.len)).trans (h j hj)
def TkNr (txt:Stp) (ts:List Tok):Prop:= ∀t∈ts,slT txt (t.sf,t.st)=(txt.drop t.sf).take (t.st-t.sf)∧(t.kind=10∨t.kind=11→slT txt (t.sf,t.st)=trueL∨slT txt (t.sf,t.st)=falseL)
theorem TkNr.drop {txt:Stp}{ts:List Tok} (h:TkNr txt ts) (k:Nat):TkNr txt (ts.drop k):=fun t ht=>h t (List.mem_of_mem_drop ht)
def VNR (txt:Stp) (V:VF):Prop:= ∀rest last nodes key r l ns,V rest last nodes key= .ok r l ns→TkNr txt rest→(∀j y,nodes.length≤j→ns[j]?=some y→NRt txt ns y)∧ ∃x,ns[nodes.length]?=some x∧x.key=key
theorem kid_nr {txt:Stp}{V:VF} (hV:VNR txt V) {obj:Bool}{had had':List (List UInt8)}{rest r:List Tok}{last l:Sp}{nodes ns:List NodeD} (h:kidM txt V obj had rest last nodes=(.ok r l ns,had')) (ht:TkNr txt rest):
  (∀j y,nodes.length≤j→ns[j]?=some y→NRt txt ns y)∧(obj=true→keyV txt ns nodes.length ∉ had∧had'=keyV txt ns nodes.length::had):=by
 unfold kidM at h
 split at h
 ·rename_i ho
  injection h with h _
  exact⟨(hV _ _ _ _ _ _ _ h ht).1,fun e=>by rw[ho] at e;cases e⟩
 ·split at h
  ·injection h with h _;cases h
  ·rename_i t q
   split at h
   ·injection h with h _;cases h
   ·split at h
    ·injection h with h _;cases h
    ·rename_i hnh
     split at h
     ·injection h with h _;cases h
     ·rename_i c r2
      split at h
      ·injection h with h _;cases h
      ·injection h with h h'
       obtain⟨h1,x,h2,h3⟩:=hV _ _ _ _ _ _ _ h (fun u hu=>ht u (List.mem_cons_of_mem _ (List.mem_cons_of_mem _ hu)))
       have hk:keyV txt ns nodes.length=(unqL ((txt.drop t.sf).take (t.st-t.sf))).1:=by
        unfold keyV
        rw[h2]
        simp only[h3]
        rw[(ht t (List.mem_cons_self ..)).1]
       refine⟨h1,fun _=>?_⟩
       rw[hk]
       exact⟨hnh,h'.symm⟩
structure LNr (txt:Stp) (obj:Bool) (pre:List NodeD) (x:NodeD) (had:List Stp) (nodes:List NodeD):Prop where
 post: ∀j y,pre.length<j→nodes[j]?=some y→NRt txt nodes y
 kid: ∀q∈x.kids,q<nodes.length
 keys:obj=true→had=(x.kids.map (keyV txt nodes)).reverse∧keysGo [] (x.kids.map (keyV txt nodes))=true
theorem loop_nr {txt:Stp}{V:VF} (hV:VNR txt V) (hE:Ext V) {closing:Nat}{obj:Bool}{pre:List NodeD}: ∀(f:Nat) {had:List (List UInt8)}{rest:List Tok}{last:Sp}{nodes:List NodeD}{r:List Tok}{l:Sp}{ns:List NodeD}{x:NodeD}{post:List NodeD},
  Mid pre x post nodes→LNr txt obj pre x had nodes→TkNr txt rest→loopM txt V closing obj pre.length f had rest last nodes= .ok r l ns→ ∃x' post' had',Mid pre x' post' ns∧LNr txt obj pre x' had' ns∧x'.kind=x.kind∧x'.sf=x.sf∧x'.key=x.key
 | 0,_,_,_,_,_,_,_,_,_,_,_,_,h=>by cases h
 | f + 1,had,rest,last,nodes,r,l,ns,x,post,hm,hL,ht,h=>by
  unfold loopM at h
  split at h
  ·cases h
  ·rename_i r1 l1 ns1 had1 hk
   obtain⟨k1,k2⟩:=kid_nr hV hk ht
   obtain⟨more,rfl,h2,h3,⟨kk,h4⟩,h5⟩:=kid_ext hE hk
   split at h
   ·cases h
   ·rename_i t r'
    have hm2:=hm.add h5 h2 nodes.length (last.2,t.sf)
    have hks:KeyS (nodes++more) (addKid pre.length nodes.length (last.2,t.sf) (nodes++more)):=by unfold addKid;refine KeyS.modN ?_ _ _;intro _;rfl
    have hk0:KeyS nodes (addKid pre.length nodes.length (last.2,t.sf) (nodes++more)):=(KeyS.app _ _).trans hks
    have hlen:nodes.length<(nodes++more).length:=by rw[List.length_append];omega
    have hL2:LNr txt obj pre { x with kids:=x.kids++ [nodes.length],pcs:=x.pcs++ [(last.2,t.sf)] } had1 (addKid pre.length nodes.length (last.2,t.sf) (nodes++more)):=by
     refine⟨fun j y hj hy=>?_,fun q hq=>?_,fun ho=>?_⟩
     ·unfold addKid at hy
      rw[modN_at,if_neg (by omega)] at hy
      by_cases hj2:j<nodes.length
      ·rw[List.getElem?_append_left hj2] at hy
       exact(hL.post j y hj hy).mono hk0
      ·exact(k1 j y (by omega) hy).mono hks
     ·have hlen2:(addKid pre.length nodes.length (last.2,t.sf) (nodes++more)).length=(nodes++more).length:=modN_len _ _ _
      rw[hlen2]
      rcases List.mem_append.1 hq with hq | hq
      ·have:=hL.kid q hq;omega
      ·rw[List.mem_singleton.1 hq];exact hlen
     ·obtain⟨e1,e2⟩:=hL.keys ho
      obtain⟨g1,g2⟩:=k2 ho
      have em:(x.kids++ [nodes.length]).map (keyV txt (addKid pre.length nodes.length (last.2,t.sf) (nodes++more)))=x.kids.map (keyV txt nodes)++ [keyV txt (nodes++more) nodes.length]:=by
       rw[List.map_append,hk0.map hL.kid,List.map_singleton,hks.key hlen]
      show _=((x.kids++ [nodes.length]).map _).reverse∧keysGo [] ((x.kids++ [nodes.length]).map _)=true
      rw[em]
      refine⟨by rw[g2,e1,List.reverse_append];rfl,?_⟩
      rw[keysGo_snoc,e2]
      have hn:keyV txt (nodes++more) nodes.length ∉ x.kids.map (keyV txt nodes):=by
       intro hin
       exact g1 (by rw[e1];exact List.mem_reverse.2 hin)
      have hv:validD (keyV txt (nodes++more) nodes.length)=true:=by
       unfold keyV
       split
       ·exact unq_valid _
       ·rfl
      rw[hv,decide_eq_false (by simp[hn])]
      rfl
    split at h
    ·injection h with e1 e2 e3
     subst e3
     exact⟨_,_,_,hm2,hL2,rfl,rfl,rfl⟩
    ·split at h
     ·have ht2:TkNr txt r':=by
       have:r'=rest.drop (kk+1):=by rw[←List.drop_drop,←h4];rfl
       rw[this]
       exact ht.drop _
      obtain⟨x',post',had',i1,i2,i3,i4,i5⟩:=loop_nr hV hE f hm2 hL2 ht2 h
      exact⟨x',post',had',i1,i2,i3,i4,i5⟩
     ·cases h
theorem kids_nr {txt:Stp}{V:VF} (hV:VNR txt V) (hE:Ext V) {closing:Nat}{obj:Bool}{pre:List NodeD}{rest:List Tok}{last:Sp}{nodes:List NodeD}{r:List Tok}{l:Sp}{ns:List NodeD}{x:NodeD}{post:List NodeD}
  (hm:Mid pre x post nodes) (hL:LNr txt obj pre x [] nodes) (ht:TkNr txt rest) (h:kidsM txt V closing obj pre.length rest last nodes= .ok r l ns): ∃x' post' had',Mid pre x' post' ns∧LNr txt obj pre x' had' ns∧x'.kind=x.kind∧x'.sf=x.sf∧x'.key=x.key:=by
 unfold kidsM at h
 split at h
 ·exact loop_nr hV hE _ hm hL ht h
 ·split at h
  ·injection h with h1 h2 h3
   subst h3
   exact⟨x,post,[],hm,hL,rfl,rfl,rfl⟩
  ·exact loop_nr hV hE _ hm hL ht h
theorem value_nr (txt:Stp): ∀lv,VNR txt (valueM txt lv)
 | 0=>fun rest last nodes key r l ns h=>by
  unfold valueM at h
  split at h<;>cases h
 | lv + 1=>fun rest last nodes key r l ns h ht=>by
  have ih:=value_nr txt lv
  have ie:=value_ext txt lv
  cases rest with
  | nil=>
   unfold valueM at h
   rw[if_pos (show kindOfT (kindT [])=0 from rfl)] at h
   cases h
  | cons t q=>
   unfold valueM at h
   split at h
   ·cases h
   ·rename_i hkd
    have hkd:kindOfT t.kind≠0:=hkd
    split at h
    ·cases h
    ·simp only[] at h
     obtain⟨ns',h1,rfl⟩:=endM_ok h
     have htq:TkNr txt q:=fun u hu=>ht u (List.mem_cons_of_mem _ hu)
     obtain⟨x0,hx0⟩: ∃x0:NodeD,⟨kindOfT t.kind,t.sf,t.st,key,[],[]⟩=x0:=⟨_,rfl⟩
     have hm0:Mid nodes x0 [] (nodes++ [x0]):=⟨rfl,by rw[←hx0];exact Nat.le_refl _,by rw[←hx0];exact Nat.le_refl _,fun y hy=>by cases hy⟩
     have hL0: ∀obj,LNr txt obj nodes x0 [] (nodes++ [x0]):=fun obj=>⟨fun j y hj hy=>(by
      rw[List.getElem?_eq_none (by rw[List.length_append,List.length_singleton];omega)] at hy;cases hy),fun q hq=>(by rw[←hx0] at hq;cases hq),fun _=>(by rw[←hx0];exact⟨rfl,rfl⟩)⟩
     have hkd2:1≤kindOfT t.kind∧kindOfT t.kind≤6:=by
      refine⟨by omega,?_⟩
      unfold kindOfT
      repeat' split
      all_goals omega
     have fin: ∀ {x':NodeD}{post':List NodeD}{obj:Bool}{had'},Mid nodes x' post' ns'→LNr txt obj nodes x' had' ns'→x'.kind=kindOfT t.kind→x'.key=key→(x'.kind=6→obj=true)→(x'.kind≠5→x'.kind≠6→x'.kids= []∧slT txt (x'.sf,l.2)=slT txt (t.sf,t.st))→
       (∀j y,nodes.length≤j→(setTo nodes.length l.2 ns')[j]?=some y→NRt txt (setTo nodes.length l.2 ns') y)∧ ∃x,(setTo nodes.length l.2 ns')[nodes.length]?=some x∧x.key=key:=by
      intro x' post' obj had' hm hL hk5 hk6 ho hs
      have hxa:=mid_at hm
      have hks:KeyS ns' (setTo nodes.length l.2 ns'):=by unfold setTo;refine KeyS.modN ?_ _ _;intro _;rfl
      refine⟨fun j y hj hy=>?_,?_⟩
      ·unfold setTo at hy
       rw[modN_at] at hy
       by_cases hj2:j=nodes.length
       ·rw[if_pos hj2,hj2,hxa] at hy
        simp only[Option.map_some,Option.some.injEq] at hy
        subst hy
        refine NRt.mono ⟨by rw[hk5];exact hkd2,fun h5 h6=>(hs h5 h6).1,fun h2=>?_,hL.kid,fun h6=>(hL.keys (ho h6)).2⟩ hks
        have h2':x'.kind=2:=h2
        have hsl:=(hs (by omega) (by omega)).2
        show slT txt (x'.sf,l.2)=trueL∨slT txt (x'.sf,l.2)=falseL
        rw[hsl]
        refine(ht t (List.mem_cons_self ..)).2 ?_
        rw[hk5] at h2'
        unfold kindOfT at h2'
        apply Classical.byContradiction
        intro hne
        rw[if_neg hne] at h2'
        revert h2'
        repeat' split
        all_goals omega
       ·rw[if_neg hj2] at hy
        exact(hL.post j y (by omega) hy).mono hks
      ·refine⟨{ x' with st:=l.2 },?_,hk6⟩
       unfold setTo
       rw[modN_at,if_pos rfl,hxa]
       rfl
     rw[hx0] at h1
     have k0:x0.kind=kindOfT t.kind:=by rw[←hx0]
     have k1:x0.key=key:=by rw[←hx0]
     split at h1
     ·rename_i h4
      obtain⟨x',post',had',i1,i2,i3,i4,i5⟩:=kids_nr ih ie hm0 (hL0 _) htq h1
      have:kindOfT t.kind=5:=by rw[h4];rfl
      exact fin i1 i2 (i3.trans k0) (i5.trans k1) (by intro e;rw[i3,k0,this] at e;omega) (by intro e;rw[i3,k0,this] at e;omega)
     ·split at h1
      ·rename_i h2
       obtain⟨x',post',had',i1,i2,i3,i4,i5⟩:=kids_nr ih ie hm0 (hL0 _) htq h1
       have:kindOfT t.kind=6:=by rw[h2];rfl
       exact fin i1 i2 (i3.trans k0) (i5.trans k1) (fun _=>rfl) (by intro _ e;rw[i3,k0,this] at e;omega)
      ·rename_i n4 n2
       injection h1 with h2 h3 h4
       subst h4
       subst h3
       refine fin (obj:=true) hm0 (hL0 _) k0 k1 (fun _=>rfl) (fun _ _=>?_)
       rw[←hx0]
       exact⟨rfl,rfl⟩
theorem nought_right:rightB nought=true:=by decide+kernel
theorem parse_right (l:Stp):rightB (parseL l).1=true:=by
 by_cases h:(parseL l).2=0
 ·exact parseL_right (l:=l) (by rw[←h])
 ·rw[parse_nought l h];exact nought_right
theorem dec_text (l:Stp):decB (textL (parseL l).1)=true:=by
 unfold decB
 rw[parse_text _ (parse_right l)]
 simp
theorem slT_in {txt:Stp}{a b:Nat} (h1:a≤b) (h2:b≤txt.length):slT txt (a,b)=(txt.drop a).take (b-a):=by
 unfold slT
 rw[if_neg (by simp only[];omega)]
 simp only[]
 rw[List.drop_take]
theorem word_is {l:Stp} (h:(tokR l).2.2=0) (hk:(tokR l).1=10∨(tokR l).1=11):l.take (tokR l).2.1=trueL∨l.take (tokR l).2.1=falseL:=by
 unfold tokR at h hk ⊢
 split at h
 ·cases h
 ·rename_i c r
  simp only[] at hk ⊢
  split at hk
  ·rename_i k hs
   exfalso
   unfold signI at hs
   repeat' split at hs
   all_goals first | (injection hs with hs;simp only[] at hk;omega) | cases hs
  ·rename_i hs
   rw[hs] at h
   simp only[] at h ⊢
   split at hk
   ·simp only[] at hk;omega
   ·rename_i hb
    rw[if_neg hb] at h ⊢
    split at hk
    ·split at hk<;>simp only[] at hk<;>omega
    ·rename_i h34
     rw[if_neg h34] at h ⊢
     split at hk
     ·split at hk<;>simp only[] at hk<;>omega
     ·rename_i hd
      rw[if_neg hd] at h ⊢
      split at hk
      ·simp only[] at hk;omega
      ·rename_i hw
       rw[if_neg hw]
       simp only[] at hk ⊢
       obtain⟨W,hW⟩: ∃W,(c::r).take (runL isSmall (c::r))=W:=⟨_,rfl⟩
       rw[hW] at hk ⊢
       unfold wordL at hk
       split at hk
       ·rename_i e;exact .inl e
       ·split at hk
        ·rename_i e;exact .inr e
        ·split at hk<;>omega
theorem tks_ok (s:Stp) {T:List Tok} (hT:toksGo s.length s 0=(T,none)):TkNr s (nblk T):=by
 intro t ht
 have hc:=toks_chain s.length s 0 (Nat.le_refl _) (by rw[hT])
 have h1:t∈(toksGo s.length s 0).1:=by rw[hT];exact(List.mem_filter.1 ht).1
 obtain⟨e1,e2,e3,e4⟩:=toks_each s.length s s 0 (Nat.le_refl _) (by simp) t h1
 have hle:(tokR (s.drop t.sf)).2.1≤(s.drop t.sf).length:=(tokR_ok _ e4).1
 have hsl:slT s (t.sf,t.st)=(s.drop t.sf).take (t.st-t.sf):=slT_in (by omega) (by rw[List.length_drop] at hle;have:t.sf<s.length:=by { apply Classical.byContradiction;intro hn;exact e4 (List.drop_of_length_le (by omega)) };omega)
 refine⟨hsl,fun hk=>?_⟩
 rw[hsl,e3,show t.sf+(tokR (s.drop t.sf)).2.1-t.sf=(tokR (s.drop t.sf)).2.1 by omega]
 exact word_is e1 (by rw[←e2];exact hk)
theorem everyL_map {p:VT→Bool}{f:Nat→VT}: ∀ {l:List Nat},(∀q∈l,everyB p (f q)=true)→everyL p (l.map f)=true
 | [],_=>rfl
 | q::l,h=>by
  rw[List.map_cons,everyL,Bool.and_eq_true]
  exact⟨h q (List.mem_cons_self ..),everyL_map (fun x hx=>h x (List.mem_cons_of_mem _ hx))⟩
theorem node_right {txt:Stp}{ns:List NodeD} (hN: ∀x∈ns,NRt txt ns x): ∀(lv k hi:Nat),TOk ns lv k hi→everyB rnodeB (nodeV txt ns lv k)=true
 | lv+1,k,hi,h=>by
  have hkid:=fun {x} hx {q} hq=>h.kid (x:=x) hx (q:=q) hq
  obtain⟨x,hx,_⟩:=h
  have hn:=hN x (List.mem_of_getElem? hx)
  unfold nodeV
  rw[hx]
  simp only[]
  rw[everyB,Bool.and_eq_true]
  refine⟨?_,everyL_map (fun q hq=>by obtain⟨⟨m,h1⟩,_⟩:=hkid hx hq;exact node_right hN lv q m h1)⟩
  have h16:=hn.kd
  unfold rnodeB nodeB
  rw[Bool.and_eq_true]
  refine⟨decide_eq_true (by show (x.kind:Int)≠7;omega),?_⟩
  show nodeF (x.kind:Int) (textV x.kind (slT txt (x.sf,x.st))) (if x.kind=6 then x.kids.map (keyV txt ns) else []) (x.kids.map (nodeV txt ns lv)).length=true
  rw[List.length_map]
  have hk:x.kind=1∨x.kind=2∨x.kind=3∨x.kind=4∨x.kind=5∨x.kind=6:=by omega
  have hf:=hn.flat
  have h2:=hn.tf
  have h6:=hn.keys
  rcases hk with e | e | e | e | e | e<;>rw[e] at hf h2 h6 ⊢
  ·rw[hf (by decide) (by decide)];rfl
  ·rw[hf (by decide) (by decide)]
   rcases h2 rfl with e2 | e2<;>(show (decide (slT txt (x.sf,x.st)=trueL)||decide (slT txt (x.sf,x.st)=falseL))=true)<;>rw[e2]<;>decide
  ·rw[hf (by decide) (by decide)]
   show decB (textL (parseL (slT txt (x.sf,x.st))).1)=true
   exact dec_text _
  ·rw[hf (by decide) (by decide)]
   exact unq_valid _
  ·rfl
  ·show (keyedB (x.kids.map (keyV txt ns)) x.kids.length&&true)=true
   unfold keyedB
   rw[h6 rfl,List.length_map]
   simp
theorem parseJ_right {s:Stp} (h:(parseJ s).2.2=0):everyB rnodeB (nodeV s (parseJ s).1 32 0)=true:=by
 obtain⟨hs,T,l,ns,hT,hv,hp⟩:=parse_ok h
 have hK:=(value_nr s 32 _ _ _ _ _ _ _ hv (tks_ok s hT)).1
 rw[hp]
 refine node_right (fun x hx=>?_) 32 0 ns.length (parse_tree hp)
 obtain⟨j,hj,e⟩:=List.mem_iff_getElem.1 hx
 exact hK j x (Nat.zero_le _) (by rw[List.getElem?_eq_getElem hj,e])
theorem validD_cat {a b:Stp} (ha:validD a=true) (hb:validD b=true):validD (a++b)=true:=by rw[validD_app a b ha];exact hb
theorem sq_valid: ∀(f:Nat) (l:Stp) (i:Nat) (acc:Stp),validD acc=true→validD (sqGo f l i acc).1=true
 | 0,l,i,acc,h=>by cases l<;>rfl
 | _+1,[],i,acc,h=>rfl
 | f+1,c::r,i,acc,h=>by
  rw[sqGo_cons]
  split
  ·split
   ·exact sq_valid f _ _ _ (validD_cat h rfl)
   ·exact h
  ·split
   ·rfl
   ·rename_i hp
    obtain⟨p1,p2,p3,_⟩:=plain_dec (c::r) (List.cons_ne_nil _ _) (by simpa using hp)
    refine sq_valid f _ _ _ (validD_cat h ?_)
    rw[←p3]
    exact validD_one _ p1
theorem textY_valid (t:Stp):validD (textY t).1=true:=by
 unfold textY
 split
 ·unfold singleY
  split
  ·rfl
  ·show validD (sqL t 0).1=true
   unfold sqL
   split
   ·rfl
   ·split
    ·exact sq_valid _ _ _ _ rfl
    ·rfl
 ·exact unq_valid t
theorem bare_valid {t:Stp} (h:bareB t=true):validD t=true:=by
 unfold bareB at h
 split at h
 ·cases h
 ·simp only[Bool.and_eq_true] at h
  have hc:=h.1.1.1.1.1.1.1
  unfold cleanB at hc
  rw[Bool.and_eq_true] at hc
  exact hc.2
theorem leaf_right {k:Int}{s:Stp} (h7:k≠7) (h:nodeF k s [] 0=true):everyB rnodeB (.mk k s [] [])=true:=by
 rw[everyB,Bool.and_eq_true]
 refine⟨?_,rfl⟩
 unfold rnodeB nodeB
 rw[Bool.and_eq_true]
 exact⟨decide_eq_true h7,h⟩
theorem str_right {s:Stp} (h:validD s=true):everyB rnodeB (strT s)=true:=leaf_right (fun e=>by cases e) h
theorem resT_right {t:Stp} (h:validD t=true):everyB rnodeB (resT t)=true:=by
 unfold resT
 unfold resP
 split
 ·exact leaf_right (fun e=>by cases e) rfl
 ·split
  ·rename_i hb
   refine leaf_right (fun e=>by cases e) ?_
   show (decide (t=trueL)||decide (t=falseL))=true
   rcases hb with e | e<;>rw[e]<;>decide
  ·split
   ·exact leaf_right (fun e=>by cases e) (dec_text t)
   ·exact leaf_right (fun e=>by cases e) h
theorem readY_right {t:Stp} (h:(readY t).2=0):everyB rnodeB (readY t).1=true:=by
 unfold readY at h ⊢
 split at h
 ·exact resT_right rfl
 ·rename_i c r
  split at h
  ·rename_i hq
   rw[if_pos hq]
   split at h
   ·rename_i he;exact absurd h he
   ·rename_i he
    rw[if_neg he]
    exact str_right (textY_valid _)
  ·rename_i hq
   rw[if_neg hq]
   split at h
   ·rename_i hj
    rw[if_pos hj]
    have h2:(readJ (c::r)).2.2=0:=h
    show everyB rnodeB (readJ (c::r)).1=true
    unfold readJ at h2 ⊢
    split at h2
    ·rename_i he;exact absurd h2 he
    ·rename_i he
     rw[if_neg he]
     exact parseJ_right (by simpa using he)
   ·rename_i hj
    rw[if_neg hj]
    split at h
    ·rename_i hb
     rw[if_pos hb]
     exact resT_right (bare_valid hb)
    ·cases h
theorem keyRd_valid {t:Stp} (h:(keyRd t).2=0):validD (keyRd t).1=true:=by
 unfold keyRd at h ⊢
 split at h
 ·rfl
 ·split
  ·exact textY_valid _
  ·split
   ·rename_i hb;exact bare_valid hb
   ·rfl
end Go.Proofs.YtlibkhbachmcgaaGreatDoor
