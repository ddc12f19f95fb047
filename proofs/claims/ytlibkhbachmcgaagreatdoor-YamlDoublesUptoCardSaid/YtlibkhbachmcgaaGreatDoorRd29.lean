import Derived.Test.YtlibkhbachmcgaaGreatDoorRd28
import Derived.Test.YtlibkhbachmcgaaGreatDoorRd13
import Derived.Test.YtlibkhbachmcgaaGreatDoorRd9
import Derived.Test.YtlibkhbachmcgaaGreatDoorRd22
set_option maxRecDepth 100000
set_option maxHeartbeats 4000000
namespace Go.Proofs.YtlibkhbachmcgaaGreatDoor
set_option linter.unusedSimpArgs false
set_option linter.unusedVariables false
open Go.RowKit
open Go.Lib hiding intOf
def NdE (t:VT) (b:Bool) (w:World) (e:Ending) (w':World):Prop:=(∃kv iv,e= .returned (.tuple #[vv t kv iv, .bool b])∧VDf w.heap.size w' t.depth t kv iv)∧Below w.heap.size w w'
theorem yNodeD_any (s:Stp) (d:YDoc) (hb:DocB s d) (hi64: ∀l∈d.lines,l.ind≤1099511627776) (B:Nat) (lvv nv:Value) (k m:Nat) (w:World) (hT:TKY d.nodes 32 k m) (hD0:YDocAt B d lvv nv w) (hV:AVar w):
  Calls Tryz.prog 14 #[.agg #[.string (bs s),lvv,nv], .int .i64 (k:Int)] w (NdE (nodeYv s d 32 k) true w):=by
 obtain⟨z,hz,hln,hnd⟩:=id hD0
 have hkl:k<d.nodes.length:=by obtain⟨x,hx,_⟩:=hT;exact(List.getElem?_eq_some_iff.1 hx).1
 have hzl:z.length=d.nodes.length:=by rw[←hz,List.length_map]
 obtain⟨gn,cn,cur,rfl,hcn,_,hgn⟩:=hnd.form (fun e=>by rw[e] at hzl;simp at hzl;omega)
 obtain⟨pl,nl,cl,rfl⟩: ∃p n c,lvv= .slice p n c:=by
  rcases hln.2 with⟨h0,_⟩ | ⟨g,cap,cur,h1,_⟩
  ·exact⟨none,0,0,h0⟩
  ·exact⟨_,_,_,h1⟩
 obtain⟨nz,hnz⟩: ∃nz,z.length=nz:=⟨_,rfl⟩
 rw[hnz] at hD0 ⊢
 have dq1:decide ((k:Int)<0)=false:=decide_eq_false (by omega)
 have dq2:decide ((nz:Int)≤(k:Int))=false:=decide_eq_false (by omega)
 have dq3:decide (nz≤k)=false:=decide_eq_false (by omega)
 obtain⟨W1,hW1⟩: ∃W,w.alloc (.cells #[.string (bs s), .slice pl nl cl, .slice (some ⟨gn,0,none⟩) nz cn] 26)=W:=⟨_,rfl⟩
 obtain⟨D,hDe⟩: ∃D,w.heap.size=D:=⟨_,rfl⟩
 have b1:Below w.heap.size w W1:=by rw[←hW1];exact below_alloc1 _ _
 have h1:W1.heap[D]?=some (.cells #[.string (bs s), .slice pl nl cl, .slice (some ⟨gn,0,none⟩) nz cn] 26):=by rw[←hW1,←hDe];exact heap_alloc_new w _
 obtain⟨W2,hW2⟩: ∃W,W1.alloc (.cells #[.int .i64 0, .string ⟨#[]⟩, .slice none 0 0, .slice none 0 0] 36)=W:=⟨_,rfl⟩
 obtain⟨R,hRe⟩: ∃S,W1.heap.size=S:=⟨_,rfl⟩
 have b2:Below W1.heap.size W1 W2:=by rw[←hW2];exact below_alloc1 _ _
 have h2:W2.heap[R]?=some (.cells #[.int .i64 0, .string (bs []), .slice none 0 0, .slice none 0 0] 36):=by rw[←hW2,←hRe];exact heap_alloc_new W1 _
 have hd2:=(b2.block D (cell_it h1)).trans h1
 have HB2:=hid (below_of_new b1 b2)
 have H2:=hid h2
 have hRw:w.heap.size≤R:=by rw[←hRe];exact b1.size
 have hR2l:R<W2.heap.size:=cell_it h2
 obtain⟨T,hTe⟩: ∃T,nodeYv s d 32 k=T:=⟨_,rfl⟩
 have CN:Hid (∀w',Below W2.heap.size W2 w'→Calls Tryz.prog 35 #[.agg #[.string (bs s), .slice pl nl cl, .slice (some ⟨gn,0,none⟩) nz cn], .int .i64 (k:Int), .int .i64 1] w' (NewE T w')):=hid (fun w' h=>by
  have:=ynode_any s d hb hi64 32 B (.slice pl nl cl) (.slice (some ⟨gn,0,none⟩) nz cn) k m 1 w' hT (hid (by decide)) (Nat.le_refl _) ((hD0.keep HB2.out).keep h) ((hV.keep HB2.out).keep h)
  rw[hTe] at this
  exact this)
 rw[hTe]
 obtain⟨d0,d1,d2,_⟩:=box3f hd2
 clear b1 b2 h1 h2 hd2 hz hln hnd hkl hzl hgn hcn hnz hTe hT hD0 hV
 go_enter Tryz.func14,Tryz.ntmps14
 go_upto_region 1 with fail
 clear hW1 hW2 hDe hRe
 go_wp2_with fail
 refine(CN.out _ (by first | exact Below.refl _ _ | exact(Below.refl _ _).drew)).mono ?_
 rintro e w6 ⟨⟨kv,iv,rfl,hv6⟩,hb6⟩
 have HB6:Hid (Below W2.heap.size W2 w6):=hid (by first | exact hb6 | exact below_of_new (Below.refl _ _).drew hb6)
 obtain⟨pk6,ck6,pi6,ci6,rfl,rfl⟩:=hv6.toVD.form
 have HRP:=hid (putNew (t:=T) HB2.out hRw hR2l hv6 HB6.out H2.out)
 obtain⟨r0,r1,r2,r3,g0,g1,g2,g3⟩:=box4 ((HB6.out.block R hR2l).trans H2.out)
 unfold vv
 clear hv6 hb6 d0 d1 d2
 go_wp2_with fail
 have hWR':(((w6.setCell ⟨R,0,none⟩ (.int .i64 T.kind)).setCell ⟨R,1,none⟩ (.string (bs T.text))).setCell ⟨R,2,none⟩ (.slice pk6 T.keys.length ck6)).setCell ⟨R,3,none⟩ (.slice pi6 T.items.length ci6)=putV w6 R T.kind T.text (.slice pk6 T.keys.length ck6) (.slice pi6 T.items.length ci6):=rfl
 rw[hWR']
 obtain⟨WR,hWR⟩: ∃W,putV w6 R T.kind T.text (.slice pk6 T.keys.length ck6) (.slice pi6 T.items.length ci6)=W:=⟨_,rfl⟩
 rw[hWR] at HRP ⊢
 clear hWR' hWR r0 r1 r2 r3 g0 g1 g2 g3
 obtain⟨d0,d1,d2,d3,_⟩:=box4 HRP.out.2.2
 refine bodyPost_ret (v:= .tuple #[.agg #[.int .i64 T.kind, .string (bs T.text), .slice pk6 T.keys.length ck6, .slice pi6 T.items.length ci6], .bool true]) ?_ rfl ⟨⟨_,_,rfl,HRP.out.1⟩,HRP.out.2.1⟩
 simp[results,Tryz.results14,go_sem,d0,d1,d2,d3]
end Go.Proofs.YtlibkhbachmcgaaGreatDoor
namespace Go.Proofs.YtlibkhbachmcgaaGreatDoor
set_option linter.unusedSimpArgs false
set_option linter.unusedVariables false
set_option maxRecDepth 100000
open Go.Lib
def sA12:Stp:= [97,58,32,49,10,98,58,10,32,32,45,32,120,10,32,32,45,32,124,10,32,32,32,32,112,10,32,32,32,32,113]
def sB12:Stp:= [97,58,32,49,10,32,98,58,32,50]
def dA12:YDoc:=⟨[⟨4,0,4,0,0,1,3,4,0,0⟩,⟨4,5,7,0,5,6,7,7,0,0⟩,⟨3,8,13,2,0,0,12,13,0,0⟩,⟨3,14,19,2,0,0,18,19,0,0⟩,⟨6,20,25,4,0,0,0,0,0,0⟩,⟨6,26,31,4,0,0,0,0,0,0⟩],
 [⟨3,0,0,6,0,0,0,0,[1,2]⟩,⟨1,0,0,1,0,1,3,4,[]⟩,⟨2,2,2,6,5,6,0,0,[3,4]⟩,⟨1,2,2,3,0,0,12,13,[]⟩,⟨4,2,3,6,0,0,18,19,[]⟩]⟩
def vA12:VT:= .mk 6 [] [[97],[98]] [.mk 3 [49] [] [], .mk 5 [] [] [.mk 4 [120] [] [], .mk 4 [112,10,113,10] [] []]]
theorem sA_parse:parseYm sA12=(dA12,31,0):=by kernel_rfl
theorem sB_parse:(parseYm sB12).2=(6,2):=by decide+kernel
theorem dA_node:nodeYv sA12 dA12 32 0=vA12:=by kernel_rfl
theorem dA_lit:litY sA12 dA12.lines ⟨4,2,3,6,0,0,18,19,[]⟩= [112,10,113,10]:=by decide+kernel
theorem dA_B:DocB sA12 dA12:=⟨by decide,by decide,by decide,by decide,by decide⟩
theorem dA_64: ∀l∈dA12.lines,l.ind≤1099511627776:=by decide
theorem dA_T:TKY dA12.nodes 32 0 5:=by
 have h1:TKY dA12.nodes 31 1 2:=⟨_,rfl,rfl⟩
 have h3:TKY dA12.nodes 30 3 4:=⟨_,rfl,rfl⟩
 have h4:TKY dA12.nodes 30 4 5:=⟨_,rfl,rfl⟩
 have h2:TKY dA12.nodes 31 2 5:=⟨_,rfl,rfl,4,h3,rfl,5,h4,rfl⟩
 exact⟨_,rfl,rfl,2,h1,rfl,5,h2,rfl⟩
end Go.Proofs.YtlibkhbachmcgaaGreatDoor
namespace Go.Proofs.YtlibkhbachmcgaaGreatDoor
set_option linter.unusedSimpArgs false
set_option linter.unusedVariables false
open Go.RowKit
open Go.Lib hiding intOf
theorem sm_num1:textL (ofInt 1)= [49]:=by decide+kernel
theorem vnum1_any (w:World) (hV:YVar w):
  Calls Tryz.prog 25 #[.int .i64 1] w fun e w'=>e= .returned (.agg #[.int .i64 3, .string (bs [49]), .slice none 0 0, .slice none 0 0])∧Below w.heap.size w w':=by
 have ba:=below_alloc1 w (.cells #[.int .i64 0, .string (bs []), .slice none 0 0, .slice none 0 0] 36)
 have hB0:=RsBox.new w 0 []
 obtain⟨W1,hW1⟩: ∃W,w.alloc (.cells #[.int .i64 0, .string (bs []), .slice none 0 0, .slice none 0 0] 36)=W:=⟨_,rfl⟩
 rw[hW1] at ba hB0
 have HBa:=hid ba
 have HB0:=hid hB0
 have HV:=hid (hV.keep ba)
 obtain⟨y0,y1,y2,y3,f0,f1,f2,f3⟩:=hB0.cells
 have hW1':w.alloc (.cells #[.int .i64 0, .string ⟨#[]⟩, .slice none 0 0, .slice none 0 0] 36)=W1:=hW1
 have C1:=hid (of_any 1 W1 (by omega) HV.out.1.2)
 have C2:Hid (∀w',YVar w'→Calls Tryz.prog 50 #[.agg #[.bool (ofInt 1).neg, .string (bs (ofInt 1).dig), .int .i64 (ofInt 1).exp]] w' fun e w2=>e= .returned (.string (bs [49]))∧Below w'.heap.size w' w2):=hid (fun w' hv=>by
  have:=text_any (ofInt 1) w' (by decide+kernel) hv.1.2
  rw[sm_num1] at this
  exact this)
 unfold numV at C1
 obtain⟨N,hN⟩: ∃N,ofInt 1=N:=⟨_,rfl⟩
 rw[hN] at C1 C2
 clear hV ba hB0 hW1 hN
 go_enter Tryz.func25,Tryz.ntmps25
 go_wp2_with fail
 refine C1.out.mono ?_
 rintro e w2 ⟨rfl,hb2⟩
 have HR2:=hid (HB0.out.keep hb2)
 have HB2:=hid (below_of_new HBa.out hb2)
 have HV2:=hid (HV.out.keep hb2)
 clear hb2 y0 y1 y2 y3 f0 f1 f2 f3
 go_wp2_with fail
 refine(C2.out _ HV2.out).mono ?_
 rintro e w4 ⟨rfl,hb4⟩
 have HR4:=hid (HR2.out.keep hb4)
 have HB4:=hid (below_of_new HB2.out hb4)
 clear hb4
 obtain⟨y0,y1,y2,y3,f0,f1,f2,f3⟩:=HR4.out.cells
 go_wp2_with fail
 clear y0 y1 y2 y3 f0 f1 f2 f3
 have hP:=(HR4.out).put (k2:=3) (t2:= [49])
 have hPB:=below_putRs (k:=3) (t:= [49]) (HB4.out) (Nat.le_refl w.heap.size)
 obtain⟨WF,hWF⟩: ∃W,putRs w4 w.heap.size 3 [49]=W:=⟨_,rfl⟩
 rw[hWF] at hP hPB
 have hWF':(((w4.setCell ⟨w.heap.size,0,none⟩ (.int .i64 3)).setCell ⟨w.heap.size,1,none⟩ (.string (bs [49]))).setCell ⟨w.heap.size,2,none⟩ (.slice none 0 0)).setCell ⟨w.heap.size,3,none⟩ (.slice none 0 0)=WF:=hWF
 rw[hWF']
 obtain⟨d0,d1,d2,d3,_⟩:=hP.cells
 clear hWF hWF'
 refine bodyPost_ret (v:= .agg #[.int .i64 3, .string (bs [49]), .slice none 0 0, .slice none 0 0]) ?_ rfl ⟨rfl,hPB⟩
 simp[results,Tryz.results25,go_sem,d0,d1,d2,d3]
def RvBox (w:World) (X:Nat) (k:Int) (t:Stp) (kv iv:Value):Prop:=w.heap[X]?=some (.cells #[.int .i64 k, .string (bs t),kv,iv] 36 (0,0))
def putRv (w:World) (X:Nat) (k:Int) (t:Stp) (kv iv:Value):World:=(((w.setCell ⟨X,0,none⟩ (.int .i64 k)).setCell ⟨X,1,none⟩ (.string (bs t))).setCell ⟨X,2,none⟩ kv).setCell ⟨X,3,none⟩ iv
theorem RsBox.putv {w:World}{X:Nat}{k k2:Int}{t t2:Stp}{kv iv:Value} (h:RsBox w X k t):RvBox (putRv w X k2 t2 kv iv) X k2 t2 kv iv:=by
 unfold RsBox at h
 unfold RvBox putRv
 simp[World.setCell,h,Array.getElem?_modify]
theorem RvBox.cells {w:World}{X:Nat}{k:Int}{t:Stp}{kv iv:Value} (h:RvBox w X k t kv iv):w.cell? ⟨X,0,none⟩=some (.int .i64 k)∧w.cell? ⟨X,1,none⟩=some (.string (bs t))∧w.cell? ⟨X,2,none⟩=some kv∧w.cell? ⟨X,3,none⟩=some iv:=by
 unfold RvBox at h
 refine⟨?_,?_,?_,?_⟩<;>simp[World.cell?,h]
theorem below_putRv {B:Nat}{w w':World}{X:Nat}{k:Int}{t:Stp}{kv iv:Value} (h:Below B w w') (hX:B≤X):Below B w (putRv w' X k t kv iv):=by
 unfold putRv
 exact(((h.setCell (p:=⟨X,0,none⟩) hX _).setCell (p:=⟨X,1,none⟩) hX _).setCell (p:=⟨X,2,none⟩) hX _).setCell (p:=⟨X,3,none⟩) hX _
theorem lrow_any (p:Option Addr) (n c:Nat) (w:World):
  Calls Tryz.prog 26 #[.slice p n c] w fun e w'=>e= .returned (.agg #[.int .i64 5, .string ⟨#[]⟩, .slice none 0 0, .slice p n c])∧Below w.heap.size w w':=by
 have ba:=below_alloc1 w (.cells #[.int .i64 0, .string (bs []), .slice none 0 0, .slice none 0 0] 36)
 have hB0:=RsBox.new w 0 []
 obtain⟨W1,hW1⟩: ∃W,w.alloc (.cells #[.int .i64 0, .string (bs []), .slice none 0 0, .slice none 0 0] 36)=W:=⟨_,rfl⟩
 rw[hW1] at ba hB0
 obtain⟨y0,y1,y2,y3,f0,f1,f2,f3⟩:=hB0.cells
 have hW1':w.alloc (.cells #[.int .i64 0, .string ⟨#[]⟩, .slice none 0 0, .slice none 0 0] 36)=W1:=hW1
 go_enter Tryz.func26,Tryz.ntmps26
 go_wp2_with fail
 clear y0 y1 y2 y3 f0 f1 f2 f3
 have hP:=hB0.putv (k2:=5) (t2:= []) (kv:= .slice none 0 0) (iv:= .slice p n c)
 have hPB:=below_putRv (k:=5) (t:= []) (kv:= .slice none 0 0) (iv:= .slice p n c) ba (Nat.le_refl w.heap.size)
 obtain⟨WF,hWF⟩: ∃W,putRv W1 w.heap.size 5 [] (.slice none 0 0) (.slice p n c)=W:=⟨_,rfl⟩
 rw[hWF] at hP hPB
 have hWF':(((W1.setCell ⟨w.heap.size,0,none⟩ (.int .i64 5)).setCell ⟨w.heap.size,1,none⟩ (.string ⟨#[]⟩)).setCell ⟨w.heap.size,2,none⟩ (.slice none 0 0)).setCell ⟨w.heap.size,3,none⟩ (.slice p n c)=WF:=hWF
 rw[hWF']
 obtain⟨d0,d1,d2,d3⟩:=hP.cells
 clear hWF hWF'
 refine bodyPost_ret (v:= .agg #[.int .i64 5, .string ⟨#[]⟩, .slice none 0 0, .slice p n c]) ?_ rfl ⟨rfl,hPB⟩
 have d1':WF.cell? ⟨w.heap.size,1,none⟩=some (.string ⟨#[]⟩):=d1
 simp[results,Tryz.results26,go_sem,d0,d1',d2,d3]
theorem lmap_any (q:Option Addr) (m d:Nat) (p:Option Addr) (n c:Nat) (w:World):
  Calls Tryz.prog 24 #[.slice q m d, .slice p n c] w fun e w'=>e= .returned (.agg #[.int .i64 6, .string ⟨#[]⟩, .slice q m d, .slice p n c])∧Below w.heap.size w w':=by
 have ba:=below_alloc1 w (.cells #[.int .i64 0, .string (bs []), .slice none 0 0, .slice none 0 0] 36)
 have hB0:=RsBox.new w 0 []
 obtain⟨W1,hW1⟩: ∃W,w.alloc (.cells #[.int .i64 0, .string (bs []), .slice none 0 0, .slice none 0 0] 36)=W:=⟨_,rfl⟩
 rw[hW1] at ba hB0
 obtain⟨y0,y1,y2,y3,f0,f1,f2,f3⟩:=hB0.cells
 have hW1':w.alloc (.cells #[.int .i64 0, .string ⟨#[]⟩, .slice none 0 0, .slice none 0 0] 36)=W1:=hW1
 go_enter Tryz.func24,Tryz.ntmps24
 go_wp2_with fail
 clear y0 y1 y2 y3 f0 f1 f2 f3
 have hP:=hB0.putv (k2:=6) (t2:= []) (kv:= .slice q m d) (iv:= .slice p n c)
 have hPB:=below_putRv (k:=6) (t:= []) (kv:= .slice q m d) (iv:= .slice p n c) ba (Nat.le_refl w.heap.size)
 obtain⟨WF,hWF⟩: ∃W,putRv W1 w.heap.size 6 [] (.slice q m d) (.slice p n c)=W:=⟨_,rfl⟩
 rw[hWF] at hP hPB
 have hWF':(((W1.setCell ⟨w.heap.size,0,none⟩ (.int .i64 6)).setCell ⟨w.heap.size,1,none⟩ (.string ⟨#[]⟩)).setCell ⟨w.heap.size,2,none⟩ (.slice q m d)).setCell ⟨w.heap.size,3,none⟩ (.slice p n c)=WF:=hWF
 rw[hWF']
 obtain⟨d0,d1,d2,d3⟩:=hP.cells
 clear hWF hWF'
 refine bodyPost_ret (v:= .agg #[.int .i64 6, .string ⟨#[]⟩, .slice q m d, .slice p n c]) ?_ rfl ⟨rfl,hPB⟩
 have d1':WF.cell? ⟨w.heap.size,1,none⟩=some (.string ⟨#[]⟩):=d1
 simp[results,Tryz.results24,go_sem,d0,d1',d2,d3]
theorem VD.leaf (w:World) (n:Nat) (k:Int) (s:Stp):VD w (n+1) (.mk k s [] []) (.slice none 0 0) (.slice none 0 0):=
 ⟨⟨none,0,rfl,Nat.le_refl _, .inl rfl⟩,none,0,rfl,Nat.le_refl _, .inl rfl⟩
theorem VD.two {w:World}{n K:Nat}{x y:VT}{xk xi yk yi kv:Value}{k:Int}{s:Stp}{ks:List Stp} (hks:SV w kv ks) (h:w.heap[K]?=some (.cells #[.int .i64 x.kind, .string (bs x.text),xk,xi, .int .i64 y.kind, .string (bs y.text),yk,yi] 36)) (hx:VD w n x xk xi) (hy:VD w n y yk yi):
  VD w (n+1) (.mk k s ks [x,y]) kv (.slice (some ⟨K,0,none⟩) 2 2):=by
 refine⟨hks,some ⟨K,0,none⟩,2,rfl,Nat.le_refl _, .inr ⟨K,0,rfl,cell_it h,fun j z hz=>?_⟩⟩
 have hz: [x,y][j]?=some z:=hz
 match j,hz with
 | 0,hz=>
  obtain rfl:x=z:=by simpa using hz
  exact⟨xk,xi,by simp[World.cell?,h],by simp[World.cell?,h],by simp[World.cell?,h],by simp[World.cell?,h],hx⟩
 | 1,hz=>
  obtain rfl:y=z:=by simpa using hz
  exact⟨yk,yi,by simp[World.cell?,h],by simp[World.cell?,h],by simp[World.cell?,h],by simp[World.cell?,h],hy⟩
 | j+2,hz=>simp at hz
theorem SV.two {w:World}{K:Nat}{x y:Stp} (h:w.heap[K]?=some (.cells #[.string (bs x), .string (bs y)] 9)):SV w (.slice (some ⟨K,0,none⟩) 2 2) [x,y]:=by
 refine⟨some ⟨K,0,none⟩,2,rfl,Nat.le_refl _, .inr ⟨K,0,rfl,cell_it h,fun j z hz=>?_⟩⟩
 match j,hz with
 | 0,hz=>
  obtain rfl:x=z:=by simpa using hz
  simp[World.cell?,h]
 | 1,hz=>
  obtain rfl:y=z:=by simpa using hz
  simp[World.cell?,h]
 | j+2,hz=>simp at hz
theorem YDocAt.forms {B:Nat}{d:YDoc}{lv nv:Value}{w:World} (h:YDocAt B d lv nv w):(∃p c,lv= .slice p d.lines.length c)∧ ∃p c,nv= .slice p d.nodes.length c:=by
 obtain⟨z,hz,h1,h2⟩:=h
 have hzl:z.length=d.nodes.length:=by rw[←hz,List.length_map]
 refine⟨?_,?_⟩
 ·rcases h1.2 with⟨h3,h4⟩ | ⟨g,cap,cur,h3,_⟩
  ·exact⟨none,0,by rw[h3,h4]⟩
  ·exact⟨_,_,h3⟩
 ·rw[←hzl]
  rcases h2.row.2 with⟨h3,h4⟩ | ⟨g,cap,cur,h3,_⟩
  ·exact⟨none,0,by rw[h3,h4]⟩
  ·exact⟨_,_,h3⟩
theorem small12_any (w:World) (hV:AVar w):
  Calls Tryz.prog 9 #[] w fun e w'=>e= .returned (.bool true)∧Below w.heap.size w w':=by
 have HV:=hid hV
 have CA:=hid (yparse_any sA12 w hV)
 rw[sA_parse] at CA
 clear hV
 go_enter Tryz.func9,Tryz.ntmps9
 go_wp2_with fail
 refine CA.out.mono ?_
 rintro e w1 ⟨tx,lv,nv,rfl,rfl,hd1,hb1⟩
 obtain⟨⟨pl,cl,hpl⟩,pn,cn,hpn⟩:=hd1.forms
 rw[show dA12.lines.length=6 from rfl] at hpl
 rw[show dA12.nodes.length=5 from rfl] at hpn
 subst hpl hpn
 have HD1:=hid hd1
 have HB1:=hid hb1
 clear CA hd1 hb1
 obtain⟨K2,hK2⟩: ∃K,w1.heap.size=K:=⟨_,rfl⟩
 have b2:=below_alloc1 w1 (.cells #[.string (bs sA12), .slice pl 6 cl, .slice pn 5 cn] 26)
 have x2:=heap_alloc_new w1 (.cells #[.string (bs sA12), .slice pl 6 cl, .slice pn 5 cn] 26)
 obtain⟨w2,hw2⟩: ∃W,w1.alloc (.cells #[.string (bs sA12), .slice pl 6 cl, .slice pn 5 cn] 26)=W:=⟨_,rfl⟩
 rw[hw2] at b2 x2
 rw[hK2] at x2
 have HB2:=hid b2
 have HX2:=hid x2
 clear b2 x2
 have HV2:=hid ((HV.out.keep HB1.out).keep HB2.out)
 have HD2:=hid (HD1.out.keep HB2.out)
 have CB:=hid (yparse_any sB12 w2 HV2.out)
 obtain⟨dB,hdB⟩: ∃d,(parseYm sB12).1=d:=⟨_,rfl⟩
 have hpB:parseYm sB12=(dB,6,2):=by rw[←hdB,←sB_parse]
 rw[hpB] at CB
 clear hpB hdB
 go_wp2_with fail
 refine CB.out.mono ?_
 rintro e w3 ⟨tx,lv,nv,rfl,rfl,hd3,hb3⟩
 obtain⟨⟨pl2,cl2,rfl⟩,pn2,cn2,rfl⟩:=hd3.forms
 obtain⟨n1,hn1⟩: ∃n,dB.lines.length=n:=⟨_,rfl⟩
 obtain⟨n2,hn2⟩: ∃n,dB.nodes.length=n:=⟨_,rfl⟩
 rw[hn1,hn2]
 have HB3:=hid hb3
 clear CB hd3 hb3 hn1 hn2 hw2 hK2
 obtain⟨K4,hK4⟩: ∃K,w3.heap.size=K:=⟨_,rfl⟩
 have b4:=below_alloc1 w3 (.cells #[.string ⟨#[]⟩, .slice pl2 n1 cl2, .slice pn2 n2 cn2] 26)
 have x4:=heap_alloc_new w3 (.cells #[.string ⟨#[]⟩, .slice pl2 n1 cl2, .slice pn2 n2 cn2] 26)
 obtain⟨w4,hw4⟩: ∃W,w3.alloc (.cells #[.string ⟨#[]⟩, .slice pl2 n1 cl2, .slice pn2 n2 cn2] 26)=W:=⟨_,rfl⟩
 rw[hw4] at b4 x4
 rw[hK4] at x4
 have HB4:=hid b4
 have HX4:=hid x4
 clear b4 x4
 have HX4b:=hid (((HB4.out.block K2 (Nat.lt_of_lt_of_le (cell_it HX2.out) HB3.out.size)).trans (HB3.out.block K2 (cell_it HX2.out))).trans HX2.out)
 have HB24:=hid (below_of_new HB3.out HB4.out)
 have HV4:=hid (HV2.out.keep HB24.out)
 have HD4:=hid (HD2.out.keep HB24.out)
 have CN:=hid (yNodeD_any sA12 dA12 dA_B dA_64 _ _ _ 0 5 w4 dA_T HD4.out HV4.out)
 rw[dA_node] at CN
 obtain⟨y0,y1,y2,_⟩:=box3f HX4b.out
 have hsimp:(if(2:Int)=0 then bs sB12 else⟨#[]⟩)=(⟨#[]⟩:ByteArray):=if_neg (by decide)
 go_wp2_with fail
 refine CN.out.mono ?_
 rintro e w5 ⟨⟨kv,iv,rfl,hv5⟩,hb5⟩
 obtain⟨pk,ck,pi,ci,hkv,hiv⟩:=hv5.toVD.form
 rw[show vA12.keys.length=2 from rfl] at hkv
 rw[show vA12.items.length=2 from rfl] at hiv
 subst hkv hiv
 have HB5:=hid hb5
 have HV5:=hid hv5.toVD
 unfold vv
 rw[show vA12.kind=6 from rfl,show vA12.text= [] from rfl]
 clear CN hv5 hb5 y0 y1 y2 hw4 hK4
 obtain⟨K6,hK6⟩: ∃K,w5.heap.size=K:=⟨_,rfl⟩
 have b6:=below_alloc1 w5 (.cells #[.int .i64 6, .string (bs []), .slice pk 2 ck, .slice pi 2 ci] 36)
 have x6:=heap_alloc_new w5 (.cells #[.int .i64 6, .string (bs []), .slice pk 2 ck, .slice pi 2 ci] 36)
 obtain⟨w6,hw6⟩: ∃W,w5.alloc (.cells #[.int .i64 6, .string (bs []), .slice pk 2 ck, .slice pi 2 ci] 36)=W:=⟨_,rfl⟩
 rw[hw6] at b6 x6
 rw[hK6] at x6
 have HB6:=hid b6
 have HX6:=hid x6
 clear b6 x6
 have HB46:=hid (below_of_new HB5.out HB6.out)
 have HX4c:=hid ((HB46.out.block K2 (cell_it HX4b.out)).trans HX4b.out)
 have HD6:=hid (HD4.out.keep HB46.out)
 have HVD6:=hid (HV5.out.keep HB6.out)
 have CL:=hid (yliteralD_yes sA12 dA12 (.slice pl 6 cl) (.slice pn 5 cn) _ w6 HD6.out dA_B dA_64 4 _ rfl rfl)
 rw[dA_lit] at CL
 obtain⟨y0,y1,y2,_⟩:=box3f HX4c.out
 go_wp2_with fail
 refine CL.out.mono ?_
 rintro e w7 ⟨rfl,hb7⟩
 have HB7:=hid hb7
 clear hb7
 have HB47:=hid (below_of_new HB46.out HB7.out)
 clear y0 y1 y2 hw6 hK6 CL
 obtain⟨K8,hK8⟩: ∃K,w7.heap.size=K:=⟨_,rfl⟩
 have b8:=below_alloc1 w7 (.cells #[.string ⟨#[97]⟩, .string ⟨#[98]⟩] 9)
 have x8:=heap_alloc_new w7 (.cells #[.string ⟨#[97]⟩, .string ⟨#[98]⟩] 9)
 obtain⟨w8,hw8⟩: ∃W,w7.alloc (.cells #[.string ⟨#[97]⟩, .string ⟨#[98]⟩] 9)=W:=⟨_,rfl⟩
 rw[hw8] at b8 x8
 rw[hK8] at x8
 have HB8:=hid b8
 have HX8:=hid x8
 clear b8 x8
 have HB48:=hid (below_of_new HB47.out HB8.out)
 have C1:=hid (vnum1_any w8 (HV4.out.keep HB48.out).1)
 go_wp2_with fail
 refine C1.out.mono ?_
 rintro e w9 ⟨rfl,hb9⟩
 have HB9:=hid hb9
 clear hb9
 have HB49:=hid (below_of_new HB48.out HB9.out)
 have C2:=hid (vof_any [120] w9)
 clear hw8 C1
 go_wp2_with fail
 refine C2.out.mono ?_
 rintro e w10 ⟨rfl,hb10⟩
 have HB10:=hid hb10
 clear hb10
 have C3:=hid (vof_any [112,10,113,10] w10)
 clear C2
 go_wp2_with fail
 refine C3.out.mono ?_
 rintro e w11 ⟨rfl,hb11⟩
 have HB11:=hid hb11
 clear hb11
 have HB411:=hid (below_of_new HB49.out (below_of_new HB10.out HB11.out))
 clear C3
 obtain⟨K12,hK12⟩: ∃K,w11.heap.size=K:=⟨_,rfl⟩
 have b12:=below_alloc1 w11 (.cells #[.int .i64 4, .string (bs [120]), .slice none 0 0, .slice none 0 0, .int .i64 4, .string (bs [112,10,113,10]), .slice none 0 0, .slice none 0 0] 36)
 have x12:=heap_alloc_new w11 (.cells #[.int .i64 4, .string (bs [120]), .slice none 0 0, .slice none 0 0, .int .i64 4, .string (bs [112,10,113,10]), .slice none 0 0, .slice none 0 0] 36)
 obtain⟨w12,hw12⟩: ∃W,w11.alloc (.cells #[.int .i64 4, .string (bs [120]), .slice none 0 0, .slice none 0 0, .int .i64 4, .string (bs [112,10,113,10]), .slice none 0 0, .slice none 0 0] 36)=W:=⟨_,rfl⟩
 rw[hw12] at b12 x12
 rw[hK12] at x12
 have HB12:=hid b12
 have HX12:=hid x12
 clear b12 x12
 have C4:=hid (lrow_any (some ⟨K12,0,none⟩) 2 2 w12)
 go_wp2_with fail
 refine C4.out.mono ?_
 rintro e w13 ⟨rfl,hb13⟩
 have HB13:=hid hb13
 clear hb13
 have HB413:=hid (below_of_new HB411.out (below_of_new HB12.out HB13.out))
 clear C4 hw12
 obtain⟨K14,hK14⟩: ∃K,w13.heap.size=K:=⟨_,rfl⟩
 have b14:=below_alloc1 w13 (.cells #[.int .i64 3, .string (bs [49]), .slice none 0 0, .slice none 0 0, .int .i64 5, .string ⟨#[]⟩, .slice none 0 0, .slice (some ⟨K12,0,none⟩) 2 2] 36)
 have x14:=heap_alloc_new w13 (.cells #[.int .i64 3, .string (bs [49]), .slice none 0 0, .slice none 0 0, .int .i64 5, .string ⟨#[]⟩, .slice none 0 0, .slice (some ⟨K12,0,none⟩) 2 2] 36)
 obtain⟨w14,hw14⟩: ∃W,w13.alloc (.cells #[.int .i64 3, .string (bs [49]), .slice none 0 0, .slice none 0 0, .int .i64 5, .string ⟨#[]⟩, .slice none 0 0, .slice (some ⟨K12,0,none⟩) 2 2] 36)=W:=⟨_,rfl⟩
 rw[hw14] at b14 x14
 rw[hK14] at x14
 have HB14:=hid b14
 have HX14:=hid x14
 clear b14 x14
 have C5:=hid (lmap_any (some ⟨K8,0,none⟩) 2 2 (some ⟨K14,0,none⟩) 2 2 w14)
 go_wp2_with fail
 refine C5.out.mono ?_
 rintro e w15 ⟨rfl,hb15⟩
 have HB15:=hid hb15
 clear hb15
 have HB415:=hid (below_of_new HB413.out (below_of_new HB14.out HB15.out))
 clear C5 hw14
 obtain⟨K16,hK16⟩: ∃K,w15.heap.size=K:=⟨_,rfl⟩
 have b16:=below_alloc1 w15 (.cells #[.int .i64 6, .string ⟨#[]⟩, .slice (some ⟨K8,0,none⟩) 2 2, .slice (some ⟨K14,0,none⟩) 2 2] 36)
 have x16:=heap_alloc_new w15 (.cells #[.int .i64 6, .string ⟨#[]⟩, .slice (some ⟨K8,0,none⟩) 2 2, .slice (some ⟨K14,0,none⟩) 2 2] 36)
 obtain⟨w16,hw16⟩: ∃W,w15.alloc (.cells #[.int .i64 6, .string ⟨#[]⟩, .slice (some ⟨K8,0,none⟩) 2 2, .slice (some ⟨K14,0,none⟩) 2 2] 36)=W:=⟨_,rfl⟩
 rw[hw16] at b16 x16
 rw[hK16] at x16
 have HB16:=hid b16
 have HX16:=hid x16
 clear b16 x16
 have HB816:=hid (below_of_new HB9.out (below_of_new HB10.out (below_of_new HB11.out (below_of_new HB12.out (below_of_new HB13.out (below_of_new HB14.out (below_of_new HB15.out HB16.out)))))))
 have HB1216:=hid (below_of_new HB13.out (below_of_new HB14.out (below_of_new HB15.out HB16.out)))
 have HB1416:=hid (below_of_new HB15.out HB16.out)
 have hx8:=(HB816.out.block _ (cell_it HX8.out)).trans HX8.out
 have hx12:=(HB1216.out.block _ (cell_it HX12.out)).trans HX12.out
 have hx14:=(HB1416.out.block _ (cell_it HX14.out)).trans HX14.out
 have HVD16:Hid (VD w16 3 vA12 (.slice (some ⟨K8,0,none⟩) 2 2) (.slice (some ⟨K14,0,none⟩) 2 2)):=hid (VD.two (SV.two hx8) hx14 (VD.leaf w16 1 3 [49]) (VD.two (n:=1) (kv:= .slice none 0 0) ⟨none,0,rfl,Nat.le_refl _, .inl rfl⟩ hx12 (VD.leaf w16 0 4 [120]) (VD.leaf w16 0 4 [112,10,113,10])))
 have HB416:=hid (below_of_new HB415.out HB16.out)
 have HB616:=hid (below_of_new HB7.out (below_of_new HB8.out HB816.out))
 have HVN16:Hid (VD w16 3 vA12 (.slice pk 2 ck) (.slice pi 2 ci)):=hid (HVD6.out.keep HB616.out)
 have HX6b:=hid ((HB616.out.block _ (cell_it HX6.out)).trans HX6.out)
 have HX2b:=hid ((HB416.out.block _ (cell_it HX4b.out)).trans HX4b.out)
 have CE:=hid (fun w' (hb:Below w16.heap.size w16 w')=>requal_any 3 vA12 _ _ _ _ w' (HVN16.out.keep hb) (HVD16.out.keep hb) (by decide))
 have HB:=hid (below_of_new HB1.out (below_of_new HB2.out (below_of_new HB24.out HB416.out)))
 obtain⟨y0,y1,y2,_⟩:=box3f HX2b.out
 obtain⟨a0,a1,a2,a3,_⟩:=box4 HX6b.out
 obtain⟨c0,c1,c2,c3,_⟩:=box4 HX16.out
 clear hx8 hx12 hx14
 go_wp2_with fail
 refine(CE.out _ (by first | exact Below.refl _ _ | exact(Below.refl _ _).drew)).mono ?_
 rintro e w17 ⟨rfl,hb17⟩
 have HBz:=hid (below_of_new HB.out (show Below w16.heap.size w16 w17 from by first | exact hb17 | exact below_of_new (Below.refl _ _).drew hb17))
 have e1:((bs [112,10,113,10]).toList== [112,10,113,10])=true:=str_is rfl
 clear hb17
 go_wp2_with fail
 go_ret
 exact⟨rfl,HBz.out⟩
end Go.Proofs.YtlibkhbachmcgaaGreatDoor
namespace Go.Proofs.YtlibkhbachmcgaaGreatDoor
set_option linter.unusedSimpArgs false
set_option linter.unusedVariables false
open Go.Lib hiding intOf
theorem low_rune (r:Int) (hr:okRune r) (h: ∀c∈encodeRune r,lowB c=false):32≤r:=by
 by_cases h128:r<128
 ·have h0:=hr.1
  obtain⟨c,hc⟩: ∃c:UInt8,r=(c.toNat:Int):=⟨UInt8.ofNat r.toNat,by rw[UInt8.toNat_ofNat'];omega⟩
  subst hc
  rw[encode_one c (by omega)] at h
  have:=h c (by simp)
  unfold lowB at this
  simp only[Bool.or_eq_false_iff,decide_eq_false_iff_not] at this
  omega
 ·omega
theorem wr_full: ∀(n:Nat) (s:Stp),s.length≤n→validD s=true→(∀c∈s,lowB c=false)→ ∀g,s.length≤g→wrGo true g s 0=s.length
 | 0,s,hn,_,_=>by
  intro g _
  cases s with
  | nil=>cases g<;>rfl
  | cons c r=>simp at hn
 | n+1,s,hn,hv,hc=>by
  intro g hg
  by_cases hne:s= []
  ·subst hne;cases g<;>rfl
  obtain⟨r,t,hr,rfl,ht,hd⟩:=valid_cut s hne hv
  have h32:=low_rune r hr (fun c h=>hc c (by simp[h]))
  have hct: ∀c∈t,lowB c=false:=fun c h=>hc c (by simp[h])
  obtain⟨E,hE⟩: ∃E,encodeRune r=E:=⟨_,rfl⟩
  have hEne:=encode_ne r
  have hpl:=(plain_rune r hr h32 t).2
  rw[hE] at hEne
  cases E with
  | nil=>exact absurd rfl hEne
  | cons e E'=>
   rw[hE] at hd hn hc hg hpl ⊢
   obtain⟨g',rfl⟩: ∃g0,g=g0+1:=⟨g-1,by simp at hg;omega⟩
   rw[List.cons_append] at hd hpl
   have e127:(e==127)=false:=by
    have:=hc e (by simp)
    unfold lowB at this
    simp only[Bool.or_eq_false_iff,decide_eq_false_iff_not] at this
    rw[beq_eq_false_iff_ne]
    rintro rfl
    exact this.2 rfl
   have e1:(e::(E'++t)).drop (e::E').length=t:=by rw[show e::(E'++t)=(e::E')++t from rfl,List.drop_left]
   have ih:=wr_full n t (by simp at hn;omega) ht hct g' (by simp at hg;omega)
   rw[List.cons_append,wrGo_cons,hpl,hd,e127,if_neg (by simp),e1]
   have ho:=wrGo_off true g' t 0 (e::E').length
   rw[Nat.zero_add] at ho
   rw[Nat.zero_add,ho,ih]
   simp only[List.length_cons,List.length_append]
   omega
def CmT (t:Stp):Prop:=validD t=true∧ ∀c∈t,lowB c=false
theorem CmT.app {a b:Stp} (h:CmT a) (h2:CmT b):CmT (a++b):=⟨by rw[validD_app a b h.1];exact h2.1,fun c hc=>by
 rcases List.mem_append.1 hc with hc | hc
 ·exact h.2 c hc
 ·exact h2.2 c hc⟩
theorem CmT.lit {l:Stp} (h: ∀c∈l,c.toNat<128∧lowB c=false):CmT l:=⟨valid_ascii l (fun c hc=>(h c hc).1),fun c hc=>(h c hc).2⟩
theorem CmT.wr {t:Stp} (h:CmT t):wrL true t=t.length:=wr_full t.length t (Nat.le_refl _) h.1 h.2 t.length (Nat.le_refl _)
theorem CmT.no10 {t:Stp} (h:CmT t):t.contains 10=false:=by
 cases e:t.contains 10 with
 | false=>rfl
 | true=>
  have:=h.2 10 (by simpa using e)
  exact absurd this (by decide)
theorem safe_bytes: ∀(p:Bool) (n:Fin 256),(safeGo p [UInt8.ofNat n.val]).all (fun d=>!lowB d||(lowB (UInt8.ofNat n.val)&&decide (n.val<32)))=true:=by decide+kernel
theorem qB_bytes: ∀(n:Fin 256),(qB (UInt8.ofNat n.val)).all (fun d=>decide (32≤d.toNat))=true:=by decide+kernel
theorem asc_bytes: ∀(p:Bool) (n:Fin 128),(safeGo p (qB (UInt8.ofNat n.val))).all (fun d=>decide (d.toNat<128))=true:=by decide+kernel
theorem safe_nolow: ∀(l:Stp) (p:Bool),(∀c∈l,32≤c.toNat)→ ∀c∈safeGo p l,lowB c=false
 | [],p,_=>fun c hc=>by cases hc
 | d::r,p,h=>by
  have e:=safe_app r [d] p
  rw[List.singleton_append] at e
  rw[e]
  intro c hc
  rcases List.mem_append.1 hc with hc | hc
  ·have:=safe_bytes p ⟨d.toNat,d.toNat_lt⟩
   simp only[UInt8.ofNat_toNat] at this
   have:=List.all_eq_true.1 this c hc
   simp only[Bool.or_eq_true,Bool.not_eq_true',Bool.and_eq_true,decide_eq_true_eq] at this
   rcases this with h1 | h1
   ·exact h1
   ·have:=h d (by simp);omega
  ·exact safe_nolow r _ (fun c hc=>h c (by simp[hc])) c hc
theorem qBs_32 (s:Stp): ∀c∈qBs s,32≤c.toNat:=by
 intro c hc
 unfold qBs at hc
 obtain⟨d,_,hd⟩:=List.mem_flatMap.1 hc
 have:=qB_bytes ⟨d.toNat,d.toNat_lt⟩
 simp only[UInt8.ofNat_toNat] at this
 simpa using List.all_eq_true.1 this c hd
theorem safe_valid: ∀(n:Nat) (s:Stp) (p:Bool),s.length≤n→validD s=true→validD (safeGo p (qBs s))=true
 | 0,s,p,hn,_=>by
  cases s with
  | nil=>rfl
  | cons c r=>simp at hn
 | n+1,s,p,hn,hv=>by
  by_cases hne:s= []
  ·subst hne;rfl
  obtain⟨r,t,hr,rfl,ht,hd⟩:=valid_cut s hne hv
  have hl:=encode_ne r
  have hl2:0<(encodeRune r).length:=List.length_pos_iff.2 hl
  rw[qBs_append,safe_app]
  have ih:=safe_valid n t (lastB p (qBs (encodeRune r))) (by rw[List.length_append] at hn;omega) ht
  by_cases h128:r<128
  ·have h0:=hr.1
   obtain⟨c,hc⟩: ∃c:UInt8,r=(c.toNat:Int):=⟨UInt8.ofNat r.toNat,by rw[UInt8.toNat_ofNat'];omega⟩
   subst hc
   rw[encode_one c (by omega),show qBs [c]=qB c by simp[qBs]] at ih ⊢
   have ha:=asc_bytes p ⟨c.toNat,by omega⟩
   simp only[UInt8.ofNat_toNat] at ha
   rw[validD_app _ _ (valid_ascii _ (fun d hd=>by simpa using List.all_eq_true.1 ha d hd))]
   exact ih
  ·have hh:=encode_high r hr (by omega)
   rw[qBs_high _ hh] at ih ⊢
   rw[safe_high _ _ hh,validD_rune r hr]
   exact ih
theorem CmT.qS {s:Stp} (hv:validD s=true):CmT (qS s):=by
 unfold Go.Proofs.YtlibkhbachmcgaaGreatDoor.qS
 have h1:CmT (safeGo false (qBs s)):=⟨safe_valid s.length s false (Nat.le_refl _) hv,safe_nolow _ _ (qBs_32 s)⟩
 exact(CmT.lit (l:= [34]) (by decide)).app (h1.app (CmT.lit (l:= [34]) (by decide)))
def noH:Bool→Stp→Bool
 | _,[]=>true
 | p,c::r=>!(p&&c==35)&&noH (c==32) r
theorem noH_at: ∀(l:Stp) (p:Bool),noH p l=true→ ∀j,1≤j→ ¬(l[j]?=some 35∧l[j-1]?=some 32)
 | [],p,_,j,_=>by simp
 | c::r,p,h,j,hj=>by
  rw[noH,Bool.and_eq_true] at h
  obtain⟨j,rfl⟩: ∃i,j=i+1:=⟨j-1,by omega⟩
  rw[List.getElem?_cons_succ,Nat.add_sub_cancel]
  cases j with
  | zero=>
   rintro⟨h1,h2⟩
   simp only[List.getElem?_cons_zero,Option.some.injEq] at h2
   subst h2
   cases r with
   | nil=>cases h1
   | cons d r=>
    simp only[List.getElem?_cons_zero,Option.some.injEq] at h1
    subst h1
    have:=h.2
    rw[noH] at this
    simp at this
  | succ j=>
   have:=noH_at r _ h.2 (j+1) (by omega)
   rw[List.getElem?_cons_succ]
   rwa [Nat.add_sub_cancel] at this
theorem noH_pairs: ∀(l:Stp),pairsB l=true→noH false l=true
 | [],_=>rfl
 | [c],_=>by rw[noH,noH];rfl
 | a::b::r,h=>by
  rw[pairsB,Bool.and_eq_true] at h
  have ih:=noH_pairs (b::r) h.2
  rw[noH,Bool.false_and,Bool.not_false,Bool.true_and]
  rw[noH] at ih ⊢
  rw[Bool.false_and,Bool.not_false,Bool.true_and] at ih
  rw[ih,Bool.and_true]
  have:=h.1
  simp only[Bool.not_eq_true',Bool.or_eq_false_iff] at this
  rw[this.2]
  rfl
def QdOk (t:Stp):Prop:=(t.head?=some 34∨t.head?=some 39)∧ ∀back:Stp,back.head?≠some 39→qdL (t++back)=t.length
def PlOk (t:Stp):Prop:=t.head?≠some 34∧t.head?≠some 39∧noH false t=true
structure TxOk (t:Stp):Prop where
 cm:CmT t
 ne:t≠ []
 h32:t.head?≠some 32
 h35:t.head?≠some 35
 last:t.getLast?≠some 32
 q:QdOk t∨PlOk t
theorem spL_zero {l:Stp} (h:l.head?≠some 32):spL l=0:=by
 cases l with
 | nil=>rfl
 | cons c r=>rw[spL_cons,if_neg (by intro e;subst e;exact h rfl)]
theorem trL_full {l:Stp} (h:l.getLast?≠some 32):trL l=l.length:=by
 unfold trL
 rw[spL_zero (by rw[List.head?_reverse];exact h),Nat.sub_zero]
theorem qd_plain {t:Stp} (h1:t.head?≠some 34) (h2:t.head?≠some 39):qdL t=0:=by unfold qdL;rw[if_neg h1,if_neg h2]
theorem colGo_hit (t:Stp) (c m:Nat) (hm:m<c) (hs:signL t m 58=true): ∀(f k:Nat),k≤m→m<k+f→(∀j,k≤j→j<m→signL t j 58=false)→colGo t c f k=(4,m)
 | 0,k,h1,h2,_=>by omega
 | f+1,k,h1,h2,h3=>by
  unfold colGo
  rw[if_neg (by omega)]
  by_cases hk:k=m
  ·subst hk;rw[if_pos hs]
  ·rw[h3 k (Nat.le_refl _) (by omega),if_neg (by simp)]
   exact colGo_hit t c m hm hs f (k+1) (by omega) (by omega) (fun j h4 h5=>h3 j (by omega) h5)
theorem rest_tx (P T:Stp) (hT:TxOk T) (h:Nat×Nat) (hf:fromL h=P.length) (hP:1≤P.length):
  restL (P++32::T) h (behindL (P++32::T) (fromL h)) (noteL (P++32::T) (behindL (P++32::T) (fromL h)+qdL ((P++32::T).drop (behindL (P++32::T) (fromL h)))))=⟨h.1,h.2,P.length+1,(P++32::T).length,none⟩:=by
 have hb:behindL (P++32::T) (fromL h)=P.length+1:=by
  unfold behindL
  rw[hf,List.drop_left,spL_cons,if_pos rfl,spL_zero hT.h32]
 have hd:(P++32::T).drop (P.length+1)=T:=by
  rw[show P++32::T=(P++ [32])++T by simp,show P.length+1=(P++ [32]).length by simp,List.drop_left]
 have hlen:(P++32::T).length=P.length+1+T.length:=by simp;omega
 have hat: ∀j,(P++32::T)[P.length+1+j]?=T[j]?:=fun j=>by
  rw[←List.getElem?_drop,hd]
 rw[hb,hd]
 have hn:noteL (P++32::T) (P.length+1+qdL T)=(P++32::T).length:=by
  refine noteL_unique _ _ _ (Nat.le_refl _) (fun h=>absurd h (Nat.lt_irrefl _)) (fun j h1 h2=>?_)
  rcases hT.q with hq | hq
  ·have:=hq.2 [] (by simp)
   rw[List.append_nil] at this
   rw[this] at h1
   omega
  ·rw[qd_plain hq.1 hq.2.1] at h1
   obtain⟨i,rfl⟩: ∃i,j=P.length+1+i:=⟨j-(P.length+1),by omega⟩
   rw[hat]
   cases i with
   | zero=>
    rintro⟨e,_⟩
    rw[←List.head?_eq_getElem?] at e
    exact hT.h35 e
   | succ i=>
    rw[show P.length+1+(i+1)-1=P.length+1+i by omega,hat]
    have:=noH_at T false hq.2.2 (i+1) (by omega)
    rwa [Nat.add_sub_cancel] at this
 rw[hn]
 unfold restL
 rw[List.take_length,hd,trL_full hT.last,if_neg (Nat.lt_irrefl _)]
 congr 1
 omega
theorem line_core (n:Nat) (P T:Stp) (h:Nat×Nat) (hT:TxOk T) (hP:1≤P.length) (hcP:CmT P) (hh:headL (P++32::T)=h) (hf:fromL h=P.length) (h32:P.head?≠some 32) (h35:P.head?≠some 35) (hq: ¬((P.head?=some 34∨P.head?=some 39)∧qdL (P++32::T)=0)):
  lineL (List.replicate n 32++(P++32::T)) 0 ((n+(P.length+1+T.length):Nat):Int)=(lineOf 0 ((n+(P.length+1+T.length):Nat):Int) n ⟨h.1,h.2,P.length+1,P.length+1+T.length,none⟩,((n+(P.length+1+T.length):Nat):Int),0):=by
 have hlen:(P++32::T).length=P.length+1+T.length:=by simp;omega
 have hU:(P++32::T).head?=P.head?:=by
  cases P with
  | nil=>simp at hP
  | cons c r=>rfl
 have hcU:CmT (P++32::T):=hcP.app ((CmT.lit (l:= [32]) (by decide)).app hT.cm)
 have hcL:CmT (List.replicate n (32:UInt8)++(P++32::T)):=CmT.app (CmT.lit (fun c hc=>by rw[(List.mem_replicate.1 hc).2];decide)) hcU
 have hL:(List.replicate n (32:UInt8)++(P++32::T)).length=n+(P.length+1+T.length):=by rw[List.length_append,List.length_replicate,hlen]
 have hsp:spL (List.replicate n (32:UInt8)++(P++32::T))=n:=by rw[spL_rep,spL_zero (by rw[hU];exact h32),Nat.add_zero]
 unfold lineL
 rw[if_neg (by rw[hL];omega)]
 have ht:((List.replicate n (32:UInt8)++(P++32::T)).drop (0:Int).toNat).take (((n+(P.length+1+T.length):Nat):Int)-0).toNat=List.replicate n (32:UInt8)++(P++32::T):=by
  rw[show (0:Int).toNat=0 from rfl,List.drop_zero]
  exact List.take_of_length_le (by rw[hL];omega)
 simp only[]
 rw[ht,hcL.no10,if_neg (by simp),hcL.wr,if_neg (Nat.lt_irrefl _),hsp]
 have hdr:(List.replicate n (32:UInt8)++(P++32::T)).drop n=P++32::T:=by
  have:=List.drop_left (l₁:=List.replicate n (32:UInt8)) (l₂:=P++32::T)
  rwa [List.length_replicate] at this
 rw[hdr]
 have hcore:coreL (P++32::T)=some ⟨h.1,h.2,P.length+1,P.length+1+T.length,none⟩:=by
  unfold coreL
  rw[if_neg (by simp),hU,if_neg h35,if_neg hq,hh,rest_tx P T hT h hf hP,hlen]
 rw[hcore]
structure KyOk (k:Stp):Prop where
 cm:CmT k
 ne:k≠ []
 h32:k.head?≠some 32
 h35:k.head?≠some 35
 q:QdOk k∨bareB k=true
theorem pairs_at: ∀(l:List UInt8),pairsB l=true→ ∀j:Nat,¬(l[j]?=some 58∧l[j+1]?=some 32)
 | [],_,j=>by simp
 | [c],_,j=>by simp
 | a::b::r,h,j=>by
  rw[pairsB,Bool.and_eq_true] at h
  cases j with
  | zero=>
   rintro⟨e1,e2⟩
   simp only[List.getElem?_cons_zero,List.getElem?_cons_succ,Option.some.injEq] at e1 e2
   subst e1 e2
   exact absurd h.1 (by decide)
  | succ j=>
   rw[List.getElem?_cons_succ,List.getElem?_cons_succ]
   exact pairs_at (b::r) h.2 j
theorem bare_facts {k:Stp} (h:bareB k=true):CmT k∧k≠ []∧k.head?≠some 32∧k.head?≠some 35∧k.getLast?≠some 32∧k.getLast?≠some 58∧k.head?≠some 34∧k.head?≠some 39∧k.head?≠some 91∧k.head?≠some 123∧pairsB k=true∧ ¬(k[0]?=some 45∧(k[1]?=none∨k[1]?=some 32)):=by
 rw[bare_eq] at h
 cases k with
 | nil=>cases h
 | cons c r=>
  unfold bareR at h
  simp only[Bool.and_eq_true,Bool.not_eq_true',clean_eq,List.any_eq_false,beq_eq_false_iff_ne,Bool.and_eq_false_iff,Bool.or_eq_false_iff] at h
  obtain⟨⟨⟨⟨⟨⟨⟨hv,hl⟩,h2⟩,h3⟩,h4⟩,h5⟩,h6⟩,h7⟩:=h
  refine⟨⟨hv,fun d hd=>by simpa using hl d hd⟩,by simp,by simpa using h2,?_,h3,h4,?_,?_,?_,?_,h7,?_⟩
  ·intro e;simp only[List.head?_cons,Option.some.injEq] at e;subst e;exact absurd h5 (by decide)
  ·intro e;simp only[List.head?_cons,Option.some.injEq] at e;subst e;exact absurd h5 (by decide)
  ·intro e;simp only[List.head?_cons,Option.some.injEq] at e;subst e;exact absurd h5 (by decide)
  ·intro e;simp only[List.head?_cons,Option.some.injEq] at e;subst e;exact absurd h5 (by decide)
  ·intro e;simp only[List.head?_cons,Option.some.injEq] at e;subst e;exact absurd h5 (by decide)
  ·rintro⟨e1,e2⟩
   simp only[List.getElem?_cons_zero,List.getElem?_cons_succ,Option.some.injEq] at e1 e2
   subst e1
   rcases h6 with h6 | h6
   ·exact h6 rfl
   ·cases r with
    | nil=>simp at h6
    | cons d r=>
     simp only[List.getElem?_cons_zero] at e2
     rcases e2 with e2 | e2
     ·cases e2
     ·injection e2 with e2
      subst e2
      exact h6.2 rfl
theorem head_key (K R:Stp) (hK:KyOk K):headL (K++58::32::R)=(4,K.length)∧ ¬((K.head?=some 34∨K.head?=some 39)∧qdL (K++58::32::R)=0):=by
 have hU:(K++58::32::R).head?=K.head?:=by
  have:=hK.ne
  cases K with
  | nil=>exact absurd rfl this
  | cons c r=>rfl
 have hl1:(K++58::32::R)[K.length]?=some 58:=by rw[List.getElem?_append_right (Nat.le_refl _)];simp
 have hl2:(K++58::32::R)[K.length+1]?=some 32:=by rw[List.getElem?_append_right (by omega),show K.length+1-K.length=1 by omega];rfl
 have hin: ∀j,j<K.length→(K++58::32::R)[j]?=K[j]?:=fun j hj=>List.getElem?_append_left hj
 have hs:signL (K++58::32::R) K.length 58=true:=by unfold signL;rw[hl1,hl2];rfl
 have h0:0<K.length:=List.length_pos_iff.2 hK.ne
 rcases hK.q with hq | hb
 ·have hqd:=hq.2 (58::32::R) (by simp)
  have hh:=hq.1
  refine⟨?_,fun h=>by rw[hqd] at h;omega⟩
  unfold headL
  have hn:signL (K++58::32::R) 0 45=false:=by
   unfold signL
   rw[hin 0 h0,←List.head?_eq_getElem?]
   rcases hh with e | e<;>rw[e]<;>rfl
  rw[hn,if_neg (by simp),hU,if_pos hh,hqd,if_pos hs]
 ·obtain⟨b1,b2,b3,b4,b5,b6,b7,b8,b9,b10,b11,b12⟩:=bare_facts hb
  refine⟨?_,fun h=>by rcases h.1 with e | e;exact b7 e;exact b8 e⟩
  unfold headL
  have hn:signL (K++58::32::R) 0 45=false:=by
   unfold signL
   rw[hin 0 h0]
   cases e:(K[0]?==some 45) with
   | false=>rfl
   | true=>
    rw[beq_iff_eq] at e
    have h1:K[1]?≠none∧K[1]?≠some 32:=⟨fun h=>b12 ⟨e, .inl h⟩,fun h=>b12 ⟨e, .inr h⟩⟩
    have h2:1<K.length:=by
     refine Nat.lt_of_not_le (fun h=>h1.1 (List.getElem?_eq_none h))
    rw[hin 1 h2,beq_eq_false_iff_ne.2 h1.1,beq_eq_false_iff_ne.2 h1.2]
    rfl
  rw[hn,if_neg (by simp),hU,if_neg (by rintro(e | e);exact b7 e;exact b8 e),if_neg (by rintro(e | e);exact b9 e;exact b10 e)]
  have hnote:K.length<noteL (K++58::32::R) 0:=by
   obtain⟨g1,g2,g3⟩:=noteL_spec (K++58::32::R) 0
   refine Nat.lt_of_not_le (fun hle=>?_)
   have hlen:(K++58::32::R).length=K.length+(R.length+2):=by simp
   obtain⟨k1,k2,k3⟩:=g2 (by omega)
   by_cases he:noteL (K++58::32::R) 0=K.length
   ·rw[he,hl1] at k2
    exact absurd k2 (by decide)
   ·rw[hin _ (by omega)] at k2 k3
    exact noH_at K false (noH_pairs K b11) _ (by omega) ⟨k2,k3⟩
  refine colGo_hit _ _ _ hnote hs _ 1 (by omega) (by simp;omega) (fun j h1 h2=>?_)
  unfold signL
  rw[hin j h2]
  cases e:(K[j]?==some 58) with
  | false=>rfl
  | true=>
   rw[beq_iff_eq] at e
   have hlast:j+1<K.length:=by
    refine Nat.lt_of_le_of_ne h2 (fun e2=>b6 ?_)
    rw[List.getLast?_eq_getElem?,←e2,Nat.add_sub_cancel];exact e
   rw[hin _ hlast]
   have h3:K[j+1]?≠some 32:=fun h=>pairs_at K b11 j ⟨e,h⟩
   have h4:K[j+1]?≠none:=by rw[Ne,List.getElem?_eq_none_iff];omega
   rw[beq_eq_false_iff_ne.2 h3,beq_eq_false_iff_ne.2 h4]
   rfl
theorem line_entry (n:Nat) (K T:Stp) (hK:KyOk K) (hT:TxOk T):
  lineL (List.replicate n 32++(K++58::32::T)) 0 ((n+(K.length+2+T.length):Nat):Int)=(⟨4,0,((n+(K.length+2+T.length):Nat):Int),n,n,((n+K.length:Nat):Int),((n+K.length+2:Nat):Int),((n+(K.length+2+T.length):Nat):Int),0,0⟩,((n+(K.length+2+T.length):Nat):Int),0):=by
 obtain⟨h1,h2⟩:=head_key K T hK
 have e:K++58::32::T=(K++ [58])++32::T:=by simp
 have hhd:(K++ [58]:Stp).head?=K.head?:=by
  have:=hK.ne
  cases K with
  | nil=>exact absurd rfl this
  | cons c r=>rfl
 have:=line_core n (K++ [58]) T (4,K.length) hT (by simp) (hK.cm.app (CmT.lit (by decide))) (by rw[←e];exact h1) (by simp[fromL]) (by rw[hhd];exact hK.h32) (by rw[hhd];exact hK.h35) (by rw[hhd,←e];exact h2)
 rw[e]
 have hl:(K++ [58]:Stp).length+1=K.length+2:=by simp
 rw[hl] at this
 rw[this]
 unfold lineOf
 simp only[]
 congr 1
 congr 1<;>first | rfl | (simp;done) | (push_cast;omega) | (simp;omega)
theorem bare_tx {t:Stp} (h:bareB t=true):TxOk t:=by
 obtain⟨b1,b2,b3,b4,b5,b6,b7,b8,b9,b10,b11,b12⟩:=bare_facts h
 exact⟨b1,b2,b3,b4,b5, .inr ⟨b7,b8,noH_pairs t b11⟩⟩
theorem bare_ky {t:Stp} (h:bareB t=true):KyOk t:=by
 obtain⟨b1,b2,b3,b4,b5,b6,b7,b8,b9,b10,b11,b12⟩:=bare_facts h
 exact⟨b1,b2,b3,b4, .inr h⟩
theorem dbl_valid: ∀(n:Nat) (s:Stp),s.length≤n→validD s=true→validD (dbl s)=true
 | 0,s,hn,_=>by
  cases s with
  | nil=>rfl
  | cons c r=>simp at hn
 | n+1,s,hn,hv=>by
  by_cases hne:s= []
  ·subst hne;rfl
  obtain⟨r,t,hr,rfl,ht,hd⟩:=valid_cut s hne hv
  have hl2:0<(encodeRune r).length:=List.length_pos_iff.2 (encode_ne r)
  rw[dbl_append]
  have ih:=dbl_valid n t (by rw[List.length_append] at hn;omega) ht
  by_cases h39:r=39
  ·subst h39
   rw[show dbl (encodeRune 39)= [39,39] from by decide+kernel,validD_app _ _ (by decide)]
   exact ih
  ·rw[dbl_same _ (enc_no39 r hr h39),validD_rune r hr]
   exact ih
theorem dbl_mem: ∀(s:Stp),∀c∈dbl s,c∈s∨c=39:=by
 intro s c hc
 unfold dbl at hc
 obtain⟨d,h1,h2⟩:=List.mem_flatMap.1 hc
 split at h2
 ·simp at h2;exact .inr h2
 ·simp at h2;subst h2;exact .inl h1
structure QtOk (t:Stp):Prop where
 cm:CmT t
 ne:t≠ []
 h32:t.head?≠some 32
 h35:t.head?≠some 35
 last:t.getLast?≠some 32
 q:QdOk t
theorem qS_last (s:Stp):(qS s).getLast?=some 34:=by
 unfold qS
 rw[show (34::(safeGo false (qBs s)++ [34]):Stp)=(34::safeGo false (qBs s))++ [34] from rfl,List.getLast?_append]
 simp
theorem qS_qd (s:Stp) (hv:validD s=true):QdOk (qS s):=by
 have hh:(qS s).head?=some 34:=rfl
 refine⟨.inl hh,fun back _=>?_⟩
 have hr:=qS_reads s [] back hv
 simp only[List.nil_append,List.length_nil,Nat.zero_add] at hr
 have hpos:0<(qS s++back).length:=by unfold qS;simp
 have he:=endL_at (qS s++back) 0 hpos
 rw[List.drop_zero] at he
 change readL (qS s++back) 0=_ at hr
 rw[hr] at he
 change endL (qS s++back) 0=_ at he
 unfold qdL
 have hh2:(qS s++back).head?=some 34:=rfl
 rw[if_pos hh2,he,if_pos rfl]
 simp
theorem sqw_qd (s:Stp) (h:(sqw s).2=0):QdOk (sqw s).1:=by
 obtain⟨_,r,hr⟩:=text_sqw s h
 refine⟨.inr (by rw[hr];rfl),fun back hb=>?_⟩
 have:=sqL_back [] s back h hb
 simp only[List.nil_append,List.length_nil,Nat.zero_add] at this
 change sqL ((sqw s).1++back) 0=_ at this
 have hh:((sqw s).1++back).head?=some 39:=by rw[hr];rfl
 unfold qdL
 rw[if_neg (by rw[hh];decide),if_pos hh,this,if_pos rfl]
 simp
theorem quoted_ok (s:Stp) (hv:validD s=true):QtOk (quotedY s).1:=by
 unfold quotedY
 by_cases hc:cleanB s=true
 ·rw[if_pos hc]
  have h0:=clean_sqw2 hc
  have hq:=sqw_qd s h0
  rw[clean_eq,Bool.and_eq_true,Bool.not_eq_true',List.any_eq_false] at hc
  have e:(sqw s).1=39::(dbl s++ [39]):=by
   unfold sqw at h0 ⊢
   split at h0
   ·cases h0
   ·rename_i h;rw[if_neg h]
  have hd:CmT (dbl s):=⟨dbl_valid s.length s (Nat.le_refl _) hv,fun c hc'=>by
   rcases dbl_mem s c hc' with h | h
   ·simpa using hc.2 c h
   ·subst h;decide⟩
  refine⟨?_,?_,?_,?_,?_,hq⟩
  ·rw[e];exact(CmT.lit (l:= [39]) (by decide)).app (hd.app (CmT.lit (l:= [39]) (by decide)))
  ·rw[e];simp
  ·rw[e];simp
  ·rw[e];simp
  ·rw[e,show (39::(dbl s++ [39]):Stp)=(39::dbl s)++ [39] from rfl,List.getLast?_append];simp
 ·rw[if_neg hc]
  have e:safeL (quoteL s).1=qS s:=by rw[safe_eq];exact safe_quote s hv false
  simp only[]
  rw[e]
  exact⟨CmT.qS hv,by unfold qS;simp,by unfold qS;simp,by unfold qS;simp,by rw[qS_last];simp,qS_qd s hv⟩
theorem QtOk.ky {t:Stp} (h:QtOk t):KyOk t:=⟨h.cm,h.ne,h.h32,h.h35, .inl h.q⟩
theorem key_ky (s:Stp) (hv:validD s=true):KyOk (keyY s).1:=by
 unfold keyY
 rw[if_pos hv]
 by_cases hb:bareB s=true
 ·rw[if_pos hb];exact bare_ky hb
 ·rw[if_neg hb];exact(quoted_ok s hv).ky
end Go.Proofs.YtlibkhbachmcgaaGreatDoor
