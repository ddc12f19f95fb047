import Derived.Test.YtlibkhbachmcgaaGreatDoorRb26
import Derived.Test.YtlibkhbachmcgaaGreatDoorRb12
import Derived.Test.YtlibkhbachmcgaaGreatDoorRb8
import Derived.Laws.MakeOwn
import Derived.Laws.OwnMore
set_option maxRecDepth 100000
set_option maxHeartbeats 4000000
namespace Go.Proofs.YtlibkhbachmcgaaGreatDoor
set_option linter.unusedSimpArgs false
set_option linter.unusedVariables false
open Go.RowKit
open Go.Lib hiding intOf
theorem KidsOk.monoP {P P':Nat→Nat→Prop} (h: ∀k m,P k m→P' k m) {hi:Nat}: ∀ {l:List Nat}{a:Nat},KidsOk P l a hi→KidsOk P' l a hi
 | [],a,h1=>h1
 | y::l,a,h1=>by
  obtain⟨e,m,h2,h3⟩:=h1
  exact⟨e,m,h _ _ h2,h3.monoP h⟩
theorem TKY.up {ns:List YND}: ∀ {lv k hi:Nat},TKY ns lv k hi→TKY ns (lv+1) k hi
 | lv+1,k,hi,h=>by
  obtain⟨x,hx,h2⟩:=h
  exact⟨x,hx,h2.monoP (fun k m h=>TKY.up h)⟩
def NdE (t:VT) (b:Bool) (w:World) (e:Ending) (w':World):Prop:=(∃kv iv,e= .returned (.tuple #[vv t kv iv, .bool b])∧VDf w.heap.size w' t.depth t kv iv)∧Below w.heap.size w w'
theorem yNodeD_any (s:Stp) (d:YDoc) (hb:DocB s d) (hi64: ∀l∈d.lines,l.ind≤1099511627776) (B:Nat) (lvv nv:Value) (k m:Nat) (w:World) (hT:TKY d.nodes 32 k m) (hD0:YDocAt B d lvv nv w) (hV:AVar w):
  Calls Tryz.prog 14 #[.agg #[.string (bs s),lvv,nv], .int .i64 (k:Int)] w (NdE (nodeYv s d 32 k) true w):=by
 obtain⟨z,hz,hln,hnd⟩:=id hD0
 have hkl:k<d.nodes.length:=by obtain⟨x,hx,_⟩:=hT;exact(List.getElem?_eq_some_iff.1 hx).1
 have hzl:z.length=d.nodes.length:=by rw[←hz,List.length_map]
 obtain⟨gn,cn,cur,rfl,hcn,_,hgn⟩:=hnd.form (fun e=>by rw[e] at hzl;simp at hzl;omega)
 obtain⟨pl,nl,cl,rfl⟩: ∃p n c,lvv= .slice p n c:=by
  rcases hln.2 with⟨h0,_⟩ | ⟨g,cap,cur,h1,_⟩
  ·exact⟨none,0,0,h0⟩
  ·exact⟨_,_,_,h1⟩
 obtain⟨nz,hnz⟩: ∃nz,z.length=nz:=⟨_,rfl⟩
 rw[hnz] at hD0 ⊢
 have dq1:decide ((k:Int)<0)=false:=decide_eq_false (by omega)
 have dq2:decide ((nz:Int)≤(k:Int))=false:=decide_eq_false (by omega)
 have dq3:decide (nz≤k)=false:=decide_eq_false (by omega)
 obtain⟨W1,hW1⟩: ∃W,w.alloc (.cells #[.string (bs s), .slice pl nl cl, .slice (some ⟨gn,0,none⟩) nz cn] 26)=W:=⟨_,rfl⟩
 obtain⟨D,hDe⟩: ∃D,w.heap.size=D:=⟨_,rfl⟩
 have b1:Below w.heap.size w W1:=by rw[←hW1];exact below_alloc1 _ _
 have h1:W1.heap[D]?=some (.cells #[.string (bs s), .slice pl nl cl, .slice (some ⟨gn,0,none⟩) nz cn] 26):=by rw[←hW1,←hDe];exact heap_alloc_new w _
 obtain⟨W2,hW2⟩: ∃W,W1.alloc (.cells #[.int .i64 0, .string ⟨#[]⟩, .slice none 0 0, .slice none 0 0] 36)=W:=⟨_,rfl⟩
 obtain⟨R,hRe⟩: ∃S,W1.heap.size=S:=⟨_,rfl⟩
 have b2:Below W1.heap.size W1 W2:=by rw[←hW2];exact below_alloc1 _ _
 have h2:W2.heap[R]?=some (.cells #[.int .i64 0, .string (bs []), .slice none 0 0, .slice none 0 0] 36):=by rw[←hW2,←hRe];exact heap_alloc_new W1 _
 have hd2:=(b2.block D (cell_it h1)).trans h1
 have HB2:=hid (below_of_new b1 b2)
 have H2:=hid h2
 have hRw:w.heap.size≤R:=by rw[←hRe];exact b1.size
 have hR2l:R<W2.heap.size:=cell_it h2
 obtain⟨T,hTe⟩: ∃T,nodeYv s d 32 k=T:=⟨_,rfl⟩
 have CN:Hid (∀w',Below W2.heap.size W2 w'→Calls Tryz.prog 35 #[.agg #[.string (bs s), .slice pl nl cl, .slice (some ⟨gn,0,none⟩) nz cn], .int .i64 (k:Int), .int .i64 1] w' (NewE T w')):=hid (fun w' h=>by
  have:=ynode_any s d hb hi64 32 B (.slice pl nl cl) (.slice (some ⟨gn,0,none⟩) nz cn) k m 1 w' hT (hid (by decide)) (Nat.le_refl _) ((hD0.keep HB2.out).keep h) ((hV.keep HB2.out).keep h)
  rw[hTe] at this
  exact this)
 rw[hTe]
 obtain⟨d0,d1,d2,_⟩:=box3f hd2
 clear b1 b2 h1 h2 hd2 hz hln hnd hkl hzl hgn hcn hnz hTe hT hD0 hV
 go_enter Tryz.func14,Tryz.ntmps14
 go_upto_region 1 with fail
 clear hW1 hW2 hDe hRe
 go_wp2_with fail
 refine(CN.out _ (by first | exact Below.refl _ _ | exact(Below.refl _ _).drew)).mono ?_
 rintro e w6 ⟨⟨kv,iv,rfl,hv6⟩,hb6⟩
 have HB6:Hid (Below W2.heap.size W2 w6):=hid (by first | exact hb6 | exact below_of_new (Below.refl _ _).drew hb6)
 obtain⟨pk6,ck6,pi6,ci6,rfl,rfl⟩:=hv6.toVD.form
 have HRP:=hid (putNew (t:=T) HB2.out hRw hR2l hv6 HB6.out H2.out)
 obtain⟨r0,r1,r2,r3,g0,g1,g2,g3⟩:=box4 ((HB6.out.block R hR2l).trans H2.out)
 unfold vv
 clear hv6 hb6 d0 d1 d2
 go_wp2_with fail
 have hWR':(((w6.setCell ⟨R,0,none⟩ (.int .i64 T.kind)).setCell ⟨R,1,none⟩ (.string (bs T.text))).setCell ⟨R,2,none⟩ (.slice pk6 T.keys.length ck6)).setCell ⟨R,3,none⟩ (.slice pi6 T.items.length ci6)=putV w6 R T.kind T.text (.slice pk6 T.keys.length ck6) (.slice pi6 T.items.length ci6):=rfl
 rw[hWR']
 obtain⟨WR,hWR⟩: ∃W,putV w6 R T.kind T.text (.slice pk6 T.keys.length ck6) (.slice pi6 T.items.length ci6)=W:=⟨_,rfl⟩
 rw[hWR] at HRP ⊢
 clear hWR' hWR r0 r1 r2 r3 g0 g1 g2 g3
 obtain⟨d0,d1,d2,d3,_⟩:=box4 HRP.out.2.2
 refine bodyPost_ret (v:= .tuple #[.agg #[.int .i64 T.kind, .string (bs T.text), .slice pk6 T.keys.length ck6, .slice pi6 T.items.length ci6], .bool true]) ?_ rfl ⟨⟨_,_,rfl,HRP.out.1⟩,HRP.out.2.1⟩
 simp[results,Tryz.results14,go_sem,d0,d1,d2,d3]
end Go.Proofs.YtlibkhbachmcgaaGreatDoor
namespace Go.Proofs.YtlibkhbachmcgaaGreatDoor
set_option linter.unusedSimpArgs false
set_option linter.unusedVariables false
set_option maxRecDepth 100000
open Go.Lib
def sA12:Stp:= [97,58,32,49,10,98,58,10,32,32,45,32,120,10,32,32,45,32,124,10,32,32,32,32,112,10,32,32,32,32,113]
def sB12:Stp:= [97,58,32,49,10,32,98,58,32,50]
def dA12:YDoc:=⟨[⟨4,0,4,0,0,1,3,4,0,0⟩,⟨4,5,7,0,5,6,7,7,0,0⟩,⟨3,8,13,2,0,0,12,13,0,0⟩,⟨3,14,19,2,0,0,18,19,0,0⟩,⟨6,20,25,4,0,0,0,0,0,0⟩,⟨6,26,31,4,0,0,0,0,0,0⟩],
 [⟨3,0,0,6,0,0,0,0,[1,2]⟩,⟨1,0,0,1,0,1,3,4,[]⟩,⟨2,2,2,6,5,6,0,0,[3,4]⟩,⟨1,2,2,3,0,0,12,13,[]⟩,⟨4,2,3,6,0,0,18,19,[]⟩]⟩
def vA12:VT:= .mk 6 [] [[97],[98]] [.mk 3 [49] [] [], .mk 5 [] [] [.mk 4 [120] [] [], .mk 4 [112,10,113,10] [] []]]
theorem sA_parse:parseYm sA12=(dA12,31,0):=by kernel_rfl
theorem sB_parse:(parseYm sB12).2=(6,2):=by decide+kernel
theorem dA_node:nodeYv sA12 dA12 32 0=vA12:=by kernel_rfl
theorem dA_lit:litY sA12 dA12.lines ⟨4,2,3,6,0,0,18,19,[]⟩= [112,10,113,10]:=by decide+kernel
theorem dA_B:DocB sA12 dA12:=⟨by decide,by decide,by decide,by decide,by decide⟩
theorem dA_64: ∀l∈dA12.lines,l.ind≤1099511627776:=by decide
theorem dA_T:TKY dA12.nodes 32 0 5:=by
 have h1:TKY dA12.nodes 31 1 2:=⟨_,rfl,rfl⟩
 have h3:TKY dA12.nodes 30 3 4:=⟨_,rfl,rfl⟩
 have h4:TKY dA12.nodes 30 4 5:=⟨_,rfl,rfl⟩
 have h2:TKY dA12.nodes 31 2 5:=⟨_,rfl,rfl,4,h3,rfl,5,h4,rfl⟩
 exact⟨_,rfl,rfl,2,h1,rfl,5,h2,rfl⟩
end Go.Proofs.YtlibkhbachmcgaaGreatDoor
namespace Go.Proofs.YtlibkhbachmcgaaGreatDoor
set_option linter.unusedSimpArgs false
set_option linter.unusedVariables false
open Go.RowKit
open Go.Lib hiding intOf
theorem sm_num1:textL (ofInt 1)= [49]:=by decide+kernel
theorem vnum1_any (w:World) (hV:YVar w):
  Calls Tryz.prog 25 #[.int .i64 1] w fun e w'=>e= .returned (.agg #[.int .i64 3, .string (bs [49]), .slice none 0 0, .slice none 0 0])∧Below w.heap.size w w':=by
 have ba:=below_alloc1 w (.cells #[.int .i64 0, .string (bs []), .slice none 0 0, .slice none 0 0] 36)
 have hB0:=RsBox.new w 0 []
 obtain⟨W1,hW1⟩: ∃W,w.alloc (.cells #[.int .i64 0, .string (bs []), .slice none 0 0, .slice none 0 0] 36)=W:=⟨_,rfl⟩
 rw[hW1] at ba hB0
 have HBa:=hid ba
 have HB0:=hid hB0
 have HV:=hid (hV.keep ba)
 obtain⟨y0,y1,y2,y3,f0,f1,f2,f3⟩:=hB0.cells
 have hW1':w.alloc (.cells #[.int .i64 0, .string ⟨#[]⟩, .slice none 0 0, .slice none 0 0] 36)=W1:=hW1
 have C1:=hid (of_any 1 W1 (by omega) HV.out.1.2)
 have C2:Hid (∀w',YVar w'→Calls Tryz.prog 50 #[.agg #[.bool (ofInt 1).neg, .string (bs (ofInt 1).dig), .int .i64 (ofInt 1).exp]] w' fun e w2=>e= .returned (.string (bs [49]))∧Below w'.heap.size w' w2):=hid (fun w' hv=>by
  have:=text_any (ofInt 1) w' (by decide+kernel) hv.1.2
  rw[sm_num1] at this
  exact this)
 unfold numV at C1
 obtain⟨N,hN⟩: ∃N,ofInt 1=N:=⟨_,rfl⟩
 rw[hN] at C1 C2
 clear hV ba hB0 hW1 hN
 go_enter Tryz.func25,Tryz.ntmps25
 go_wp2_with fail
 refine C1.out.mono ?_
 rintro e w2 ⟨rfl,hb2⟩
 have HR2:=hid (HB0.out.keep hb2)
 have HB2:=hid (below_of_new HBa.out hb2)
 have HV2:=hid (HV.out.keep hb2)
 clear hb2 y0 y1 y2 y3 f0 f1 f2 f3
 go_wp2_with fail
 refine(C2.out _ HV2.out).mono ?_
 rintro e w4 ⟨rfl,hb4⟩
 have HR4:=hid (HR2.out.keep hb4)
 have HB4:=hid (below_of_new HB2.out hb4)
 clear hb4
 obtain⟨y0,y1,y2,y3,f0,f1,f2,f3⟩:=HR4.out.cells
 go_wp2_with fail
 clear y0 y1 y2 y3 f0 f1 f2 f3
 have hP:=(HR4.out).put (k2:=3) (t2:= [49])
 have hPB:=below_putRs (k:=3) (t:= [49]) (HB4.out) (Nat.le_refl w.heap.size)
 obtain⟨WF,hWF⟩: ∃W,putRs w4 w.heap.size 3 [49]=W:=⟨_,rfl⟩
 rw[hWF] at hP hPB
 have hWF':(((w4.setCell ⟨w.heap.size,0,none⟩ (.int .i64 3)).setCell ⟨w.heap.size,1,none⟩ (.string (bs [49]))).setCell ⟨w.heap.size,2,none⟩ (.slice none 0 0)).setCell ⟨w.heap.size,3,none⟩ (.slice none 0 0)=WF:=hWF
 rw[hWF']
 obtain⟨d0,d1,d2,d3,_⟩:=hP.cells
 clear hWF hWF'
 refine bodyPost_ret (v:= .agg #[.int .i64 3, .string (bs [49]), .slice none 0 0, .slice none 0 0]) ?_ rfl ⟨rfl,hPB⟩
 simp[results,Tryz.results25,go_sem,d0,d1,d2,d3]
def RvBox (w:World) (X:Nat) (k:Int) (t:Stp) (kv iv:Value):Prop:=w.heap[X]?=some (.cells #[.int .i64 k, .string (bs t),kv,iv] 36 (0,0))
def putRv (w:World) (X:Nat) (k:Int) (t:Stp) (kv iv:Value):World:=(((w.setCell ⟨X,0,none⟩ (.int .i64 k)).setCell ⟨X,1,none⟩ (.string (bs t))).setCell ⟨X,2,none⟩ kv).setCell ⟨X,3,none⟩ iv
theorem RsBox.putv {w:World}{X:Nat}{k k2:Int}{t t2:Stp}{kv iv:Value} (h:RsBox w X k t):RvBox (putRv w X k2 t2 kv iv) X k2 t2 kv iv:=by
 unfold RsBox at h
 unfold RvBox putRv
 simp[World.setCell,h,Array.getElem?_modify]
theorem RvBox.cells {w:World}{X:Nat}{k:Int}{t:Stp}{kv iv:Value} (h:RvBox w X k t kv iv):w.cell? ⟨X,0,none⟩=some (.int .i64 k)∧w.cell? ⟨X,1,none⟩=some (.string (bs t))∧w.cell? ⟨X,2,none⟩=some kv∧w.cell? ⟨X,3,none⟩=some iv:=by
 unfold RvBox at h
 refine⟨?_,?_,?_,?_⟩<;>simp[World.cell?,h]
theorem below_putRv {B:Nat}{w w':World}{X:Nat}{k:Int}{t:Stp}{kv iv:Value} (h:Below B w w') (hX:B≤X):Below B w (putRv w' X k t kv iv):=by
 unfold putRv
 exact(((h.setCell (p:=⟨X,0,none⟩) hX _).setCell (p:=⟨X,1,none⟩) hX _).setCell (p:=⟨X,2,none⟩) hX _).setCell (p:=⟨X,3,none⟩) hX _
theorem lrow_any (p:Option Addr) (n c:Nat) (w:World):
  Calls Tryz.prog 26 #[.slice p n c] w fun e w'=>e= .returned (.agg #[.int .i64 5, .string ⟨#[]⟩, .slice none 0 0, .slice p n c])∧Below w.heap.size w w':=by
 have ba:=below_alloc1 w (.cells #[.int .i64 0, .string (bs []), .slice none 0 0, .slice none 0 0] 36)
 have hB0:=RsBox.new w 0 []
 obtain⟨W1,hW1⟩: ∃W,w.alloc (.cells #[.int .i64 0, .string (bs []), .slice none 0 0, .slice none 0 0] 36)=W:=⟨_,rfl⟩
 rw[hW1] at ba hB0
 obtain⟨y0,y1,y2,y3,f0,f1,f2,f3⟩:=hB0.cells
 have hW1':w.alloc (.cells #[.int .i64 0, .string ⟨#[]⟩, .slice none 0 0, .slice none 0 0] 36)=W1:=hW1
 go_enter Tryz.func26,Tryz.ntmps26
 go_wp2_with fail
 clear y0 y1 y2 y3 f0 f1 f2 f3
 have hP:=hB0.putv (k2:=5) (t2:= []) (kv:= .slice none 0 0) (iv:= .slice p n c)
 have hPB:=below_putRv (k:=5) (t:= []) (kv:= .slice none 0 0) (iv:= .slice p n c) ba (Nat.le_refl w.heap.size)
 obtain⟨WF,hWF⟩: ∃W,putRv W1 w.heap.size 5 [] (.slice none 0 0) (.slice p n c)=W:=⟨_,rfl⟩
 rw[hWF] at hP hPB
 have hWF':(((W1.setCell ⟨w.heap.size,0,none⟩ (.int .i64 5)).setCell ⟨w.heap.size,1,none⟩ (.string ⟨#[]⟩)).setCell ⟨w.heap.size,2,none⟩ (.slice none 0 0)).setCell ⟨w.heap.size,3,none⟩ (.slice p n c)=WF:=hWF
 rw[hWF']
 obtain⟨d0,d1,d2,d3⟩:=hP.cells
 clear hWF hWF'
 refine bodyPost_ret (v:= .agg #[.int .i64 5, .string ⟨#[]⟩, .slice none 0 0, .slice p n c]) ?_ rfl ⟨rfl,hPB⟩
 have d1':WF.cell? ⟨w.heap.size,1,none⟩=some (.string ⟨#[]⟩):=d1
 simp[results,Tryz.results26,go_sem,d0,d1',d2,d3]
theorem lmap_any (q:Option Addr) (m d:Nat) (p:Option Addr) (n c:Nat) (w:World):
  Calls Tryz.prog 24 #[.slice q m d, .slice p n c] w fun e w'=>e= .returned (.agg #[.int .i64 6, .string ⟨#[]⟩, .slice q m d, .slice p n c])∧Below w.heap.size w w':=by
 have ba:=below_alloc1 w (.cells #[.int .i64 0, .string (bs []), .slice none 0 0, .slice none 0 0] 36)
 have hB0:=RsBox.new w 0 []
 obtain⟨W1,hW1⟩: ∃W,w.alloc (.cells #[.int .i64 0, .string (bs []), .slice none 0 0, .slice none 0 0] 36)=W:=⟨_,rfl⟩
 rw[hW1] at ba hB0
 obtain⟨y0,y1,y2,y3,f0,f1,f2,f3⟩:=hB0.cells
 have hW1':w.alloc (.cells #[.int .i64 0, .string ⟨#[]⟩, .slice none 0 0, .slice none 0 0] 36)=W1:=hW1
 go_enter Tryz.func24,Tryz.ntmps24
 go_wp2_with fail
 clear y0 y1 y2 y3 f0 f1 f2 f3
 have hP:=hB0.putv (k2:=6) (t2:= []) (kv:= .slice q m d) (iv:= .slice p n c)
 have hPB:=below_putRv (k:=6) (t:= []) (kv:= .slice q m d) (iv:= .slice p n c) ba (Nat.le_refl w.heap.size)
 obtain⟨WF,hWF⟩: ∃W,putRv W1 w.heap.size 6 [] (.slice q m d) (.slice p n c)=W:=⟨_,rfl⟩
 rw[hWF] at hP hPB
 have hWF':(((W1.setCell ⟨w.heap.size,0,none⟩ (.int .i64 6)).setCell ⟨w.heap.size,1,none⟩ (.string ⟨#[]⟩)).setCell ⟨w.heap.size,2,none⟩ (.slice q m d)).setCell ⟨w.heap.size,3,none⟩ (.slice p n c)=WF:=hWF
 rw[hWF']
 obtain⟨d0,d1,d2,d3⟩:=hP.cells
 clear hWF hWF'
 refine bodyPost_ret (v:= .agg #[.int .i64 6, .string ⟨#[]⟩, .slice q m d, .slice p n c]) ?_ rfl ⟨rfl,hPB⟩
 have d1':WF.cell? ⟨w.heap.size,1,none⟩=some (.string ⟨#[]⟩):=d1
 simp[results,Tryz.results24,go_sem,d0,d1',d2,d3]
theorem VD.leaf (w:World) (n:Nat) (k:Int) (s:Stp):VD w (n+1) (.mk k s [] []) (.slice none 0 0) (.slice none 0 0):=
 ⟨⟨none,0,rfl,Nat.le_refl _, .inl rfl⟩,none,0,rfl,Nat.le_refl _, .inl rfl⟩
theorem VD.two {w:World}{n K:Nat}{x y:VT}{xk xi yk yi kv:Value}{k:Int}{s:Stp}{ks:List Stp} (hks:SV w kv ks) (h:w.heap[K]?=some (.cells #[.int .i64 x.kind, .string (bs x.text),xk,xi, .int .i64 y.kind, .string (bs y.text),yk,yi] 36)) (hx:VD w n x xk xi) (hy:VD w n y yk yi):
  VD w (n+1) (.mk k s ks [x,y]) kv (.slice (some ⟨K,0,none⟩) 2 2):=by
 refine⟨hks,some ⟨K,0,none⟩,2,rfl,Nat.le_refl _, .inr ⟨K,0,rfl,cell_it h,fun j z hz=>?_⟩⟩
 have hz: [x,y][j]?=some z:=hz
 match j,hz with
 | 0,hz=>
  obtain rfl:x=z:=by simpa using hz
  exact⟨xk,xi,by simp[World.cell?,h],by simp[World.cell?,h],by simp[World.cell?,h],by simp[World.cell?,h],hx⟩
 | 1,hz=>
  obtain rfl:y=z:=by simpa using hz
  exact⟨yk,yi,by simp[World.cell?,h],by simp[World.cell?,h],by simp[World.cell?,h],by simp[World.cell?,h],hy⟩
 | j+2,hz=>simp at hz
theorem SV.two {w:World}{K:Nat}{x y:Stp} (h:w.heap[K]?=some (.cells #[.string (bs x), .string (bs y)] 9)):SV w (.slice (some ⟨K,0,none⟩) 2 2) [x,y]:=by
 refine⟨some ⟨K,0,none⟩,2,rfl,Nat.le_refl _, .inr ⟨K,0,rfl,cell_it h,fun j z hz=>?_⟩⟩
 match j,hz with
 | 0,hz=>
  obtain rfl:x=z:=by simpa using hz
  simp[World.cell?,h]
 | 1,hz=>
  obtain rfl:y=z:=by simpa using hz
  simp[World.cell?,h]
 | j+2,hz=>simp at hz
theorem YDocAt.forms {B:Nat}{d:YDoc}{lv nv:Value}{w:World} (h:YDocAt B d lv nv w):(∃p c,lv= .slice p d.lines.length c)∧ ∃p c,nv= .slice p d.nodes.length c:=by
 obtain⟨z,hz,h1,h2⟩:=h
 have hzl:z.length=d.nodes.length:=by rw[←hz,List.length_map]
 refine⟨?_,?_⟩
 ·rcases h1.2 with⟨h3,h4⟩ | ⟨g,cap,cur,h3,_⟩
  ·exact⟨none,0,by rw[h3,h4]⟩
  ·exact⟨_,_,h3⟩
 ·rw[←hzl]
  rcases h2.row.2 with⟨h3,h4⟩ | ⟨g,cap,cur,h3,_⟩
  ·exact⟨none,0,by rw[h3,h4]⟩
  ·exact⟨_,_,h3⟩
theorem small12_any (w:World) (hV:AVar w):
  Calls Tryz.prog 9 #[] w fun e w'=>e= .returned (.bool true)∧Below w.heap.size w w':=by
 have HV:=hid hV
 have CA:=hid (yparse_any sA12 w hV)
 rw[sA_parse] at CA
 clear hV
 go_enter Tryz.func9,Tryz.ntmps9
 go_wp2_with fail
 refine CA.out.mono ?_
 rintro e w1 ⟨tx,lv,nv,rfl,rfl,hd1,hb1⟩
 obtain⟨⟨pl,cl,hpl⟩,pn,cn,hpn⟩:=hd1.forms
 rw[show dA12.lines.length=6 from rfl] at hpl
 rw[show dA12.nodes.length=5 from rfl] at hpn
 subst hpl hpn
 have HD1:=hid hd1
 have HB1:=hid hb1
 clear CA hd1 hb1
 obtain⟨K2,hK2⟩: ∃K,w1.heap.size=K:=⟨_,rfl⟩
 have b2:=below_alloc1 w1 (.cells #[.string (bs sA12), .slice pl 6 cl, .slice pn 5 cn] 26)
 have x2:=heap_alloc_new w1 (.cells #[.string (bs sA12), .slice pl 6 cl, .slice pn 5 cn] 26)
 obtain⟨w2,hw2⟩: ∃W,w1.alloc (.cells #[.string (bs sA12), .slice pl 6 cl, .slice pn 5 cn] 26)=W:=⟨_,rfl⟩
 rw[hw2] at b2 x2
 rw[hK2] at x2
 have HB2:=hid b2
 have HX2:=hid x2
 clear b2 x2
 have HV2:=hid ((HV.out.keep HB1.out).keep HB2.out)
 have HD2:=hid (HD1.out.keep HB2.out)
 have CB:=hid (yparse_any sB12 w2 HV2.out)
 obtain⟨dB,hdB⟩: ∃d,(parseYm sB12).1=d:=⟨_,rfl⟩
 have hpB:parseYm sB12=(dB,6,2):=by rw[←hdB,←sB_parse]
 rw[hpB] at CB
 clear hpB hdB
 go_wp2_with fail
 refine CB.out.mono ?_
 rintro e w3 ⟨tx,lv,nv,rfl,rfl,hd3,hb3⟩
 obtain⟨⟨pl2,cl2,rfl⟩,pn2,cn2,rfl⟩:=hd3.forms
 obtain⟨n1,hn1⟩: ∃n,dB.lines.length=n:=⟨_,rfl⟩
 obtain⟨n2,hn2⟩: ∃n,dB.nodes.length=n:=⟨_,rfl⟩
 rw[hn1,hn2]
 have HB3:=hid hb3
 clear CB hd3 hb3 hn1 hn2 hw2 hK2
 obtain⟨K4,hK4⟩: ∃K,w3.heap.size=K:=⟨_,rfl⟩
 have b4:=below_alloc1 w3 (.cells #[.string ⟨#[]⟩, .slice pl2 n1 cl2, .slice pn2 n2 cn2] 26)
 have x4:=heap_alloc_new w3 (.cells #[.string ⟨#[]⟩, .slice pl2 n1 cl2, .slice pn2 n2 cn2] 26)
 obtain⟨w4,hw4⟩: ∃W,w3.alloc (.cells #[.string ⟨#[]⟩, .slice pl2 n1 cl2, .slice pn2 n2 cn2] 26)=W:=⟨_,rfl⟩
 rw[hw4] at b4 x4
 rw[hK4] at x4
 have HB4:=hid b4
 have HX4:=hid x4
 clear b4 x4
 have HX4b:=hid (((HB4.out.block K2 (Nat.lt_of_lt_of_le (cell_it HX2.out) HB3.out.size)).trans (HB3.out.block K2 (cell_it HX2.out))).trans HX2.out)
 have HB24:=hid (below_of_new HB3.out HB4.out)
 have HV4:=hid (HV2.out.keep HB24.out)
 have HD4:=hid (HD2.out.keep HB24.out)
 have CN:=hid (yNodeD_any sA12 dA12 dA_B dA_64 _ _ _ 0 5 w4 dA_T HD4.out HV4.out)
 rw[dA_node] at CN
 obtain⟨y0,y1,y2,_⟩:=box3f HX4b.out
 have hsimp:(if(2:Int)=0 then bs sB12 else⟨#[]⟩)=(⟨#[]⟩:ByteArray):=if_neg (by decide)
 go_wp2_with fail
 refine CN.out.mono ?_
 rintro e w5 ⟨⟨kv,iv,rfl,hv5⟩,hb5⟩
 obtain⟨pk,ck,pi,ci,hkv,hiv⟩:=hv5.toVD.form
 rw[show vA12.keys.length=2 from rfl] at hkv
 rw[show vA12.items.length=2 from rfl] at hiv
 subst hkv hiv
 have HB5:=hid hb5
 have HV5:=hid hv5.toVD
 unfold vv
 rw[show vA12.kind=6 from rfl,show vA12.text= [] from rfl]
 clear CN hv5 hb5 y0 y1 y2 hw4 hK4
 obtain⟨K6,hK6⟩: ∃K,w5.heap.size=K:=⟨_,rfl⟩
 have b6:=below_alloc1 w5 (.cells #[.int .i64 6, .string (bs []), .slice pk 2 ck, .slice pi 2 ci] 36)
 have x6:=heap_alloc_new w5 (.cells #[.int .i64 6, .string (bs []), .slice pk 2 ck, .slice pi 2 ci] 36)
 obtain⟨w6,hw6⟩: ∃W,w5.alloc (.cells #[.int .i64 6, .string (bs []), .slice pk 2 ck, .slice pi 2 ci] 36)=W:=⟨_,rfl⟩
 rw[hw6] at b6 x6
 rw[hK6] at x6
 have HB6:=hid b6
 have HX6:=hid x6
 clear b6 x6
 have HB46:=hid (below_of_new HB5.out HB6.out)
 have HX4c:=hid ((HB46.out.block K2 (cell_it HX4b.out)).trans HX4b.out)
 have HD6:=hid (HD4.out.keep HB46.out)
 have HVD6:=hid (HV5.out.keep HB6.out)
 have CL:=hid (yliteralD_yes sA12 dA12 (.slice pl 6 cl) (.slice pn 5 cn) _ w6 HD6.out dA_B dA_64 4 _ rfl rfl)
 rw[dA_lit] at CL
 obtain⟨y0,y1,y2,_⟩:=box3f HX4c.out
 go_wp2_with fail
 refine CL.out.mono ?_
 rintro e w7 ⟨rfl,hb7⟩
 have HB7:=hid hb7
 clear hb7
 have HB47:=hid (below_of_new HB46.out HB7.out)
 clear y0 y1 y2 hw6 hK6 CL
 obtain⟨K8,hK8⟩: ∃K,w7.heap.size=K:=⟨_,rfl⟩
 have b8:=below_alloc1 w7 (.cells #[.string ⟨#[97]⟩, .string ⟨#[98]⟩] 9)
 have x8:=heap_alloc_new w7 (.cells #[.string ⟨#[97]⟩, .string ⟨#[98]⟩] 9)
 obtain⟨w8,hw8⟩: ∃W,w7.alloc (.cells #[.string ⟨#[97]⟩, .string ⟨#[98]⟩] 9)=W:=⟨_,rfl⟩
 rw[hw8] at b8 x8
 rw[hK8] at x8
 have HB8:=hid b8
 have HX8:=hid x8
 clear b8 x8
 have HB48:=hid (below_of_new HB47.out HB8.out)
 have C1:=hid (vnum1_any w8 (HV4.out.keep HB48.out).1)
 go_wp2_with fail
 refine C1.out.mono ?_
 rintro e w9 ⟨rfl,hb9⟩
 have HB9:=hid hb9
 clear hb9
 have HB49:=hid (below_of_new HB48.out HB9.out)
 have C2:=hid (vof_any [120] w9)
 clear hw8 C1
 go_wp2_with fail
 refine C2.out.mono ?_
 rintro e w10 ⟨rfl,hb10⟩
 have HB10:=hid hb10
 clear hb10
 have C3:=hid (vof_any [112,10,113,10] w10)
 clear C2
 go_wp2_with fail
 refine C3.out.mono ?_
 rintro e w11 ⟨rfl,hb11⟩
 have HB11:=hid hb11
 clear hb11
 have HB411:=hid (below_of_new HB49.out (below_of_new HB10.out HB11.out))
 clear C3
 obtain⟨K12,hK12⟩: ∃K,w11.heap.size=K:=⟨_,rfl⟩
 have b12:=below_alloc1 w11 (.cells #[.int .i64 4, .string (bs [120]), .slice none 0 0, .slice none 0 0, .int .i64 4, .string (bs [112,10,113,10]), .slice none 0 0, .slice none 0 0] 36)
 have x12:=heap_alloc_new w11 (.cells #[.int .i64 4, .string (bs [120]), .slice none 0 0, .slice none 0 0, .int .i64 4, .string (bs [112,10,113,10]), .slice none 0 0, .slice none 0 0] 36)
 obtain⟨w12,hw12⟩: ∃W,w11.alloc (.cells #[.int .i64 4, .string (bs [120]), .slice none 0 0, .slice none 0 0, .int .i64 4, .string (bs [112,10,113,10]), .slice none 0 0, .slice none 0 0] 36)=W:=⟨_,rfl⟩
 rw[hw12] at b12 x12
 rw[hK12] at x12
 have HB12:=hid b12
 have HX12:=hid x12
 clear b12 x12
 have C4:=hid (lrow_any (some ⟨K12,0,none⟩) 2 2 w12)
 go_wp2_with fail
 refine C4.out.mono ?_
 rintro e w13 ⟨rfl,hb13⟩
 have HB13:=hid hb13
 clear hb13
 have HB413:=hid (below_of_new HB411.out (below_of_new HB12.out HB13.out))
 clear C4 hw12
 obtain⟨K14,hK14⟩: ∃K,w13.heap.size=K:=⟨_,rfl⟩
 have b14:=below_alloc1 w13 (.cells #[.int .i64 3, .string (bs [49]), .slice none 0 0, .slice none 0 0, .int .i64 5, .string ⟨#[]⟩, .slice none 0 0, .slice (some ⟨K12,0,none⟩) 2 2] 36)
 have x14:=heap_alloc_new w13 (.cells #[.int .i64 3, .string (bs [49]), .slice none 0 0, .slice none 0 0, .int .i64 5, .string ⟨#[]⟩, .slice none 0 0, .slice (some ⟨K12,0,none⟩) 2 2] 36)
 obtain⟨w14,hw14⟩: ∃W,w13.alloc (.cells #[.int .i64 3, .string (bs [49]), .slice none 0 0, .slice none 0 0, .int .i64 5, .string ⟨#[]⟩, .slice none 0 0, .slice (some ⟨K12,0,none⟩) 2 2] 36)=W:=⟨_,rfl⟩
 rw[hw14] at b14 x14
 rw[hK14] at x14
 have HB14:=hid b14
 have HX14:=hid x14
 clear b14 x14
 have C5:=hid (lmap_any (some ⟨K8,0,none⟩) 2 2 (some ⟨K14,0,none⟩) 2 2 w14)
 go_wp2_with fail
 refine C5.out.mono ?_
 rintro e w15 ⟨rfl,hb15⟩
 have HB15:=hid hb15
 clear hb15
 have HB415:=hid (below_of_new HB413.out (below_of_new HB14.out HB15.out))
 clear C5 hw14
 obtain⟨K16,hK16⟩: ∃K,w15.heap.size=K:=⟨_,rfl⟩
 have b16:=below_alloc1 w15 (.cells #[.int .i64 6, .string ⟨#[]⟩, .slice (some ⟨K8,0,none⟩) 2 2, .slice (some ⟨K14,0,none⟩) 2 2] 36)
 have x16:=heap_alloc_new w15 (.cells #[.int .i64 6, .string ⟨#[]⟩, .slice (some ⟨K8,0,none⟩) 2 2, .slice (some ⟨K14,0,none⟩) 2 2] 36)
 obtain⟨w16,hw16⟩: ∃W,w15.alloc (.cells #[.int .i64 6, .string ⟨#[]⟩, .slice (some ⟨K8,0,none⟩) 2 2, .slice (some ⟨K14,0,none⟩) 2 2] 36)=W:=⟨_,rfl⟩
 rw[hw16] at b16 x16
 rw[hK16] at x16
 have HB16:=hid b16
 have HX16:=hid x16
 clear b16 x16
 have HB816:=hid (below_of_new HB9.out (below_of_new HB10.out (below_of_new HB11.out (below_of_new HB12.out (below_of_new HB13.out (below_of_new HB14.out (below_of_new HB15.out HB16.out)))))))
 have HB1216:=hid (below_of_new HB13.out (below_of_new HB14.out (below_of_new HB15.out HB16.out)))
 have HB1416:=hid (below_of_new HB15.out HB16.out)
 have hx8:=(HB816.out.block _ (cell_it HX8.out)).trans HX8.out
 have hx12:=(HB1216.out.block _ (cell_it HX12.out)).trans HX12.out
 have hx14:=(HB1416.out.block _ (cell_it HX14.out)).trans HX14.out
 have HVD16:Hid (VD w16 3 vA12 (.slice (some ⟨K8,0,none⟩) 2 2) (.slice (some ⟨K14,0,none⟩) 2 2)):=hid (VD.two (SV.two hx8) hx14 (VD.leaf w16 1 3 [49]) (VD.two (n:=1) (kv:= .slice none 0 0) ⟨none,0,rfl,Nat.le_refl _, .inl rfl⟩ hx12 (VD.leaf w16 0 4 [120]) (VD.leaf w16 0 4 [112,10,113,10])))
 have HB416:=hid (below_of_new HB415.out HB16.out)
 have HB616:=hid (below_of_new HB7.out (below_of_new HB8.out HB816.out))
 have HVN16:Hid (VD w16 3 vA12 (.slice pk 2 ck) (.slice pi 2 ci)):=hid (HVD6.out.keep HB616.out)
 have HX6b:=hid ((HB616.out.block _ (cell_it HX6.out)).trans HX6.out)
 have HX2b:=hid ((HB416.out.block _ (cell_it HX4b.out)).trans HX4b.out)
 have CE:=hid (fun w' (hb:Below w16.heap.size w16 w')=>requal_any 3 vA12 _ _ _ _ w' (HVN16.out.keep hb) (HVD16.out.keep hb) (by decide))
 have HB:=hid (below_of_new HB1.out (below_of_new HB2.out (below_of_new HB24.out HB416.out)))
 obtain⟨y0,y1,y2,_⟩:=box3f HX2b.out
 obtain⟨a0,a1,a2,a3,_⟩:=box4 HX6b.out
 obtain⟨c0,c1,c2,c3,_⟩:=box4 HX16.out
 clear hx8 hx12 hx14
 go_wp2_with fail
 refine(CE.out _ (by first | exact Below.refl _ _ | exact(Below.refl _ _).drew)).mono ?_
 rintro e w17 ⟨rfl,hb17⟩
 have HBz:=hid (below_of_new HB.out (show Below w16.heap.size w16 w17 from by first | exact hb17 | exact below_of_new (Below.refl _ _).drew hb17))
 have e1:((bs [112,10,113,10]).toList== [112,10,113,10])=true:=str_is rfl
 clear hb17
 go_wp2_with fail
 go_ret
 exact⟨rfl,HBz.out⟩
def natRow (f:Nat→Nat) (n:Nat):Array Value:=((List.range n).map fun k=>Value.int .i64 (f k:Int)).toArray
theorem natRow_size (f:Nat→Nat) (n:Nat):(natRow f n).size=n:=by unfold natRow;simp
theorem natRow_at (f:Nat→Nat) (n k:Nat) (h:k<n):(natRow f n)[k]?=some (.int .i64 (f k:Int)):=by unfold natRow;simp[h]
theorem natRow_ext {f g:Nat→Nat}{n:Nat} (h: ∀k,k<n→f k=g k):natRow f n=natRow g n:=by
 refine Array.ext_getElem? fun k=>?_
 by_cases hk:k<n
 ·rw[natRow_at f n k hk,natRow_at g n k hk,h k hk]
 ·rw[Array.getElem?_eq_none (by rw[natRow_size];omega),Array.getElem?_eq_none (by rw[natRow_size];omega)]
theorem natRow_set (f:Nat→Nat) (n k:Nat) (b:Nat) (h:k<n):(natRow f n).setIfInBounds k (.int .i64 (b:Int))=natRow (fun j=>if j=k then b else f j) n:=by
 refine Array.ext_getElem? fun j=>?_
 rw[Array.getElem?_setIfInBounds]
 by_cases hj:j<n
 ·rw[natRow_at f n j hj]
  by_cases hk:k=j
  ·subst hk
   rw[if_pos rfl,if_pos (by rw[natRow_size];exact hj),natRow_at _ n k hj,if_pos rfl]
  ·rw[if_neg hk,natRow_at _ n j hj,if_neg (Ne.symm hk)]
 ·rw[Array.getElem?_eq_none (i:=j) (xs:=natRow (fun j=>if j=k then b else f j) n) (by rw[natRow_size];omega)]
  by_cases hk:k=j
  ·omega
  ·rw[if_neg hk,Array.getElem?_eq_none (by rw[natRow_size];omega)]
def NatRow (W:World) (g:Nat) (f:Nat→Nat) (n:Nat):Prop:=W.heap[g]?=some (.cells (natRow f n) 3 (0,0))
theorem NatRow.cell {W:World}{g:Nat}{f:Nat→Nat}{n:Nat} (h:NatRow W g f n) {k:Nat} (hk:k<n):W.cell? ⟨g,k,none⟩=some (.int .i64 (f k:Int))∧W.frozen? ⟨g,k,none⟩=false:=
 ⟨by rw[cell_of_row W g k _ _ (0,0) h,natRow_at f n k hk],by simp[World.frozen?,show W.heap[g]?=_ from h]⟩
theorem NatRow.lt {W:World}{g:Nat}{f:Nat→Nat}{n:Nat} (h:NatRow W g f n):g<W.heap.size:=cell_it h
theorem NatRow.set {W:World}{g:Nat}{f:Nat→Nat}{n:Nat} (h:NatRow W g f n) {k:Nat} (hk:k<n) (b:Nat):NatRow (W.setCell ⟨g,k,none⟩ (.int .i64 (b:Int))) g (fun j=>if j=k then b else f j) n:=by
 unfold NatRow at h ⊢
 rw[←natRow_set f n k b hk]
 simp[World.setCell,Array.getElem?_modify,h]
theorem NatRow.ext {W:World}{g:Nat}{f f':Nat→Nat}{n:Nat} (h:NatRow W g f n) (he: ∀k,k<n→f k=f' k):NatRow W g f' n:=by unfold NatRow at h ⊢;rw[←natRow_ext he];exact h
theorem NatRow.keep {W W':World}{g:Nat}{f:Nat→Nat}{n:Nat} (h:NatRow W g f n) (hb:Below W.heap.size W W'):NatRow W' g f n:=(hb.block g h.lt).trans h
theorem make_ints (n:Nat) (hn:n≤1048576) (w:World):(Instr.makeSlice 43 (.int .i64 (n:Int)) (.int .i64 (n:Int))).run Tryz.prog w= .ok (.slice (some ⟨w.heap.size,0,none⟩) n n) (w.alloc (.cells (natRow (fun _=>0) n) 3)):=by
 obtain⟨i0,hi0,hz0,hz1,hz2⟩:=info_parts Tryz.infoInt
 have:=run_make (P:=Tryz.prog) w 43 3 i0 _ Tryz.underlying43 hi0 hz0 .i64 .i64 (n:Int) (n:Int) (by omega) (Int.le_refl _) (by rw[hz2];omega) (by omega)
 rw[this,Int.toNat_natCast,hz1,Nat.mul_one]
 have e:madeCells (Value.int .i64 0).cells n=natRow (fun _=>0) n:=by
  apply Array.toList_inj.1
  show (madeCells #[Value.int .i64 0] n).toList=_
  rw[toList_madeCells_one]
  unfold natRow
  rw[List.toList_toArray]
  show _=(List.range n).map (fun _=>Value.int .i64 0)
  rw[List.map_const',List.length_range]
 rw[e]
theorem cntY_take {ns:List YND}{k:Nat}{x:YND} (h:ns[k]?=some x) (i:Nat):cntY (ns.take (k+1)) i=cntY (ns.take k) i+(if ownsB i x then 1 else 0):=by
 rw[List.take_add_one,h,Option.toList_some,cntY_app,cntY_cons]
 simp[cntY]
theorem cntY_le (ns:List YND) (i:Nat):cntY ns i≤ns.length:=List.countP_le_length
def upTo (c:Nat→Nat) (a b:Nat):Nat→Nat:=fun i=>c i+if a≤i∧i<b then 1 else 0
theorem upTo_zero (c:Nat→Nat) (a i:Nat):upTo c a a i=c i:=by unfold upTo;rw[if_neg (by omega)];rfl
theorem upTo_step (c:Nat→Nat) (a b i:Nat) (h:a≤b):(if i=b then upTo c a b b+1 else upTo c a b i)=upTo c a (b+1) i:=by
 unfold upTo
 by_cases hi:i=b
 ·subst hi
  rw[if_pos rfl,if_neg (by omega),if_pos (by omega)]
 ·rw[if_neg hi]
  by_cases h2:a≤i∧i<b
  ·rw[if_pos h2,if_pos (by omega)]
  ·rw[if_neg h2,if_neg (by omega)]
end Go.Proofs.YtlibkhbachmcgaaGreatDoor
namespace Go.Proofs.YtlibkhbachmcgaaGreatDoor
set_option linter.unusedSimpArgs false
set_option linter.unusedVariables false
open Go.Lib
def TrR (lv:Nat) (R:YR):Prop:=match R with
 | .ok n st'=>TKY st'.nodes lv n st'.nodes.length
 | .bad _ _=>True
def VTr (s:Stp) (sp:List (Nat×Nat)) (lv:Nat) (V:YB):Prop:= ∀k kf kt st,WfS s sp st→k+1=st.lines.length→TrR lv (V k kf kt st)
theorem leaf_tree {ns:List YND}{x:YND}{lv:Nat} (h0:lv≠0) (hx:x.kids= []):TKY (ns++ [x]) lv ns.length (ns++ [x]).length:=by
 cases lv with
 | zero=>exact absurd rfl h0
 | succ lv=>exact⟨x,by simp,by rw[hx];show ns.length+1=_;simp⟩
theorem restM_tree {s:Stp}{lv k:Nat}{kf kt:Int}{st:YS}:TrR lv (restM s lv k kf kt st):=by
 unfold restM
 split
 ·trivial
 ·rename_i n1 s1 h1
  obtain⟨rfl,rfl,h0,_⟩:=addM_ok h1
  simp only[]
  split
  ·trivial
  ·split
   ·trivial
   ·split
    ·trivial
    ·exact leaf_tree h0 rfl
theorem literalM_tree {s:Stp}{sp:List (Nat×Nat)}{lv k:Nat}{kf kt:Int}{st:YS}:TrR lv (literalM s sp lv k kf kt st):=by
 unfold literalM
 split
 ·trivial
 ·rename_i n1 s1 h1
  obtain⟨rfl,rfl,h0,_⟩:=addM_ok h1
  simp only[]
  split
  ·trivial
  ·exact leaf_tree h0 rfl
theorem ymValue_tree {s:Stp}{sp:List (Nat×Nat)} (hsp:SpOk s sp) {B:YB}{lv:Nat} (hB:VTr s sp lv B):VTr s sp lv (ymValue s sp B lv):=by
 intro k kf kt st hw hk
 unfold ymValue
 simp only[]
 split
 ·exact literalM_tree
 ·split
  ·have hn:=nextM_ok hsp (k:=k+1) (lines:=st.lines) (by omega) hw.ls (fun i h1 h2=>by omega)
   cases hm:nextM s sp (k+1) st.lines with
   | bad a e=>trivial
   | ok nx ls=>
    rw[hm] at hn
    simp only[] at hn ⊢
    split
    ·rename_i hc
     exact hB nx kf kt ⟨ls,st.nodes,st.total⟩ ⟨hn.ok,hw.tot⟩ (hn.hit hc.1).1.symm
    ·exact restM_tree
  ·exact restM_tree
theorem oneM_tree {s:Stp}{sp:List (Nat×Nat)}{V:YB}{m:Nat} (hV:VTr s sp m V) (map:Bool) (had:List Stp) {k:Nat}{st:YS} (hw:WfS s sp st) (hk:k+1=st.lines.length):TrR m (oneM s V map had k st).1:=by
 unfold oneM
 split
 ·simp only[]
  split
  ·trivial
  ·split
   ·trivial
   ·exact hV _ _ _ _ hw hk
 ·exact hV _ _ _ _ hw hk
theorem ymOne_tree {s:Stp}{sp:List (Nat×Nat)}{V:YB} (hG:VGood s sp V) {m:Nat} (hV:VTr s sp m V) {map:Bool}{n:Nat}{ind:Int}{had had':List Stp}{k nx:Nat}{st s3:YS} (hw:WfS s sp st) (hk:k+1=st.lines.length) {x:YND} (hx:st.nodes[n]?=some x) (hK:KidsOk (TKY st.nodes m) x.kids (n+1) st.nodes.length) (h:ymOne s sp V map n ind had k st= .ok nx s3 had'):
  ∃x',s3.nodes[n]?=some x'∧KidsOk (TKY s3.nodes m) x'.kids (n+1) s3.nodes.length:=by
 have hg:=oneM_good hG map had hw hk
 have ht:=oneM_tree hV map had hw hk
 unfold ymOne at h
 obtain⟨⟨Q,had2⟩,hQ⟩: ∃Q,oneM s V map had k st=Q:=⟨_,rfl⟩
 rw[hQ] at h hg ht
 cases Q with
 | bad a e=>cases h
 | ok kid s2=>
  obtain⟨g1,⟨more,g2n,g2⟩,_,_,_,_⟩:=(show GoodS s sp k st kid s2 from hg)
  have ht:TKY s2.nodes m kid s2.nodes.length:=ht
  simp only[] at h
  split at h
  ·cases h
  ·split at h
   ·cases h
   ·injection h with e1 e2 e3
    have hnl:=(List.getElem?_eq_some_iff.1 hx).1
    have hx2:s2.nodes[n]?=some x:=by rw[g2,List.getElem?_append_left hnl];exact hx
    have hn2:=(List.getElem?_eq_some_iff.1 hx2).1
    subst e2
    simp only[]
    obtain⟨ns3,hns3⟩: ∃ns3,addKidY n kid s2.nodes=ns3:=⟨_,rfl⟩
    have hset:ns3=s2.nodes.set n { x with kids:=x.kids++ [kid],til:=toOf s2.nodes kid }:=by
     rw[←hns3];unfold addKidY;exact modY_set _ n _ x hx2
    have hl3:ns3.length=s2.nodes.length:=by rw[hset,List.length_set]
    rw[hns3]
    refine⟨{ x with kids:=x.kids++ [kid],til:=toOf s2.nodes kid },by rw[hset,List.getElem?_set_self hn2],?_⟩
    simp only[]
    have hmono: ∀k' m',n<k'→TKY s2.nodes m k' m'→TKY ns3 m k' m':=fun k' m' h1 h2=>h2.mono (fun j y h3 h4 h5=>⟨y,by rw[hset,List.getElem?_set_ne (by omega)];exact h5,rfl⟩)
    refine KidsOk.snoc (k:=kid) ?_ (by rw[hl3];exact hmono _ _ (by omega) ht)
    rw[g1]
    exact hK.imp _ (fun k m h=>TKY.lt h) (fun k' m' h1 h2 h3=>hmono k' m' (by omega) (h3.mono (fun j y h4 h5 h6=>⟨y,by rw[g2,List.getElem?_append_left (by omega)];exact h6,rfl⟩)))
theorem ymLoop_tree {s:Stp}{sp:List (Nat×Nat)} (hsp:SpOk s sp) {V:YB} (hG:VGood s sp V) {m:Nat} (hV:VTr s sp m V) {map:Bool}{n:Nat}{ind kind:Int}: ∀(f:Nat) (had:List Stp) (k:Nat) (st:YS) (x:YND),
  WfS s sp st→(k<sp.length→k+1=st.lines.length)→st.nodes[n]?=some x→KidsOk (TKY st.nodes m) x.kids (n+1) st.nodes.length→TrR (m+1) (ymLoop s sp V map n ind kind f had k st)
 | 0,had,k,st,x,hw,hk,hx,hK=>⟨x,hx,hK⟩
 | f+1,had,k,st,x,hw,hk,hx,hK=>by
  unfold ymLoop
  split
  ·rename_i hc
   cases ho:ymOne s sp V map n ind had k st with
   | bad a e=>trivial
   | ok nx s2 had'=>
    obtain⟨x',h1,h2⟩:=ymOne_tree hG hV hw (hk hc.1) hx hK ho
    obtain⟨_,_,_,h3,h4,h5,h6⟩:=ymOne_step hsp hG hw (hk hc.1) hx ho
    exact ymLoop_tree hsp hG hV f had' nx s2 x' h3 h6 h1 h2
  ·exact⟨x,hx,hK⟩
theorem ymBlockS_tree {s:Stp}{sp:List (Nat×Nat)} (hsp:SpOk s sp) {V:YB} (lv:Nat) (hG:lv≠0→VGood s sp V) (hV: ∀m,lv=m+1→VTr s sp m V):VTr s sp lv (ymBlockS s sp V lv):=by
 intro k kf kt st hw hk
 unfold ymBlockS
 simp only[]
 split
 ·exact restM_tree
 ·split
  ·trivial
  ·rename_i n1 s1 h1
   obtain⟨rfl,rfl,h0,h4⟩:=addM_ok h1
   obtain⟨m,rfl⟩: ∃m,lv=m+1:=⟨lv-1,by omega⟩
   have htot:=hw.tot
   refine ymLoop_tree hsp (hG h0) (hV m rfl) _ _ _ _ _ ⟨hw.ls,by simp only[List.length_append,List.length_singleton];omega⟩ (fun _=>hk) (by simp;rfl) ?_
   show st.nodes.length+1=_
   simp
theorem ymBlock_tree {s:Stp}{sp:List (Nat×Nat)} (hsp:SpOk s sp): ∀lv,VTr s sp lv (ymBlock s sp lv)
 | 0=>ymBlockS_tree hsp 0 (fun h=>absurd rfl h) (fun m h=>by omega)
 | lv+1=>ymBlockS_tree hsp (lv+1) (fun _=>ymValue_good hsp (ymBlock_good hsp lv) lv) (fun m h=>by
   obtain rfl:m=lv:=by omega
   exact ymValue_tree hsp (ymBlock_tree hsp m))
structure DocTr (s:Stp) (d:YDoc):Prop where
 tree:TKY d.nodes 32 0 d.nodes.length
 cnt:d.nodes.length≤4096
 lns:d.lines.length≤(spY s).length
 ok:LsOk s (spY s) d.lines
theorem whole_tree {s:Stp}{d:YDoc}{a:Int} (h:ymWhole s (spY s)=(d,a,0)):DocTr s d:=by
 have hsp:=spY_ok s
 have hls:LsOk s (spY s) []:=⟨Nat.zero_le _,fun i hi=>absurd hi (Nat.not_lt_zero _)⟩
 have h1:=nextM_ok hsp (k:=0) (lines:= []) (Nat.le_refl _) hls (fun i _ hi=>absurd hi (Nat.not_lt_zero _))
 unfold ymWhole at h
 cases hN:nextM s (spY s) 0 [] with
 | bad a' e'=>
  rw[hN] at h1 h
  simp only[Prod.mk.injEq] at h
  exact absurd h.2.2 h1.2.2
 | ok k ls=>
  rw[hN] at h1 h
  simp only[] at h1 h
  by_cases hk:k<(spY s).length
  ·rw [if_neg (fun e=>e hk)] at h
   have hw:WfS s (spY s) ⟨ls,[],0⟩:=⟨h1.ok,by simp⟩
   have hg:=ymBlock_good hsp 32 k 0 0 ⟨ls,[],0⟩ hw (h1.hit hk).1.symm
   have ht:=ymBlock_tree hsp 32 k 0 0 ⟨ls,[],0⟩ hw (h1.hit hk).1.symm
   cases hB:ymBlock s (spY s) 32 k 0 0 ⟨ls,[],0⟩ with
   | bad a' e'=>
    rw[hB] at hg h
    simp only[Prod.mk.injEq] at h
    exact absurd h.2.2 (show 0≤a'∧a'≤(s.length:Int)∧e'≠0 from hg).2.2
   | ok n st=>
    rw[hB] at hg ht h
    obtain⟨g1,_,_,g4,g5,g6⟩:=(show GoodS s (spY s) k ⟨ls,[],0⟩ n st from hg)
    have g10:n=0:=g1
    subst g10
    have ht:TKY st.nodes 32 0 st.nodes.length:=ht
    have h2:=nextM_ok hsp (k:=toOf st.nodes 0) g4.2 g6.ls g5
    simp only[] at h
    cases hN2:nextM s (spY s) (toOf st.nodes 0) st.lines with
    | bad a' e'=>
     rw[hN2] at h2 h
     simp only[Prod.mk.injEq] at h
     exact absurd h.2.2 h2.2.2
    | ok k2 ls2=>
     rw[hN2] at h2 h
     simp only[] at h h2
     split at h
     ·simp only[Prod.mk.injEq] at h
      exact absurd h.2.2 (by decide)
     ·injection h with e1 e2
      subst e1
      exact⟨ht,by have:=g6.tot;simp only[];omega,h2.ok.1,h2.ok⟩
  ·rw[if_pos hk] at h
   injection h with e1 e2
   subst e1
   exact⟨⟨_,rfl,rfl⟩,by simp,h1.ok.1,h1.ok⟩
theorem TKY.sub {ns:List YND}: ∀ {lv k hi:Nat},TKY ns lv k hi→ ∀j,k≤j→j<hi→ ∃m,TKY ns lv j m
 | lv+1,k,hi,h,j,h1,h2=>by
  by_cases hjk:j=k
  ·subst hjk;exact⟨hi,h⟩
  ·obtain⟨x,hx,hK⟩:=h
   have key: ∀(l:List Nat) (a:Nat),KidsOk (TKY ns lv) l a hi→a≤j→ ∃m,TKY ns lv j m:=by
    intro l
    induction l with
    | nil=>intro a h ha;have:a=hi:=h;omega
    | cons y l ih=>
     intro a h ha
     obtain⟨rfl,m,h3,h4⟩:=h
     by_cases hm:m≤j
     ·exact ih m h4 hm
     ·exact TKY.sub h3 j ha (by omega)
   obtain⟨m,hm⟩:=key _ _ hK (by omega)
   exact⟨m,hm.up⟩
theorem kidsY_le {P:Nat→Nat→Prop} (hlt: ∀k m,P k m→k<m) {hi:Nat}: ∀ {l:List Nat}{a:Nat},KidsOk P l a hi→a+l.length≤hi
 | [],a,h=>Nat.le_of_eq h
 | y::l,a,h=>by
  obtain⟨rfl,m,h2,h3⟩:=h
  have h4:=hlt _ _ h2
  have:=kidsY_le hlt h3
  rw[List.length_cons]
  omega
theorem DocTr.node {s:Stp}{d:YDoc} (h:DocTr s d) {k:Nat} (hk:k<d.nodes.length): ∃m,TKY d.nodes 32 k m∧m≤d.nodes.length:=by
 obtain⟨m,hm⟩:=h.tree.sub k (Nat.zero_le _) hk
 refine⟨m,hm,?_⟩
 have: ∀ {lv k m:Nat},TKY d.nodes lv k m→m≤d.nodes.length:=by
  intro lv
  induction lv with
  | zero=>intro k m h;exact h.elim
  | succ lv ih=>
   intro k m h
   obtain⟨x,hx,hK⟩:=h
   have hkl:=(List.getElem?_eq_some_iff.1 hx).1
   have: ∀(l:List Nat) (a:Nat),a≤d.nodes.length→KidsOk (TKY d.nodes lv) l a m→m≤d.nodes.length:=by
    intro l
    induction l with
    | nil=>intro a ha h;have:a=m:=h;omega
    | cons y l ih2=>
     intro a ha h
     obtain⟨rfl,q,h3,h4⟩:=h
     exact ih2 q (ih h3) h4
   exact this _ _ (by omega) hK
 exact this hm
theorem DocTr.kids {s:Stp}{d:YDoc} (h:DocTr s d) {k:Nat}{x:YND} (hx:d.nodes[k]?=some x):x.kids.length≤4096:=by
 obtain⟨m,hm,hml⟩:=h.node (List.getElem?_eq_some_iff.1 hx).1
 obtain⟨x',hx',hK⟩:=hm
 rw[hx] at hx'
 obtain rfl:=Option.some.inj hx'
 have:=kidsY_le (fun _ _=>TKY.lt) hK
 have:=h.cnt
 omega
end Go.Proofs.YtlibkhbachmcgaaGreatDoor
