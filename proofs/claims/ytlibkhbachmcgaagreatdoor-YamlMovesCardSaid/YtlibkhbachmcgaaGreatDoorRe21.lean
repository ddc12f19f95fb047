import Derived.Test.YtlibkhbachmcgaaGreatDoorRe20
import Derived.Test.YtlibkhbachmcgaaGreatDoorRe15
import Derived.Test.YtlibkhbachmcgaaGreatDoorRe3
import Derived.Test.YtlibkhbachmcgaaGreatDoorRe4
set_option maxRecDepth 100000
set_option maxHeartbeats 8000000
namespace Go.Proofs.YtlibkhbachmcgaaGreatDoor
set_option linter.unusedSimpArgs false
set_option linter.unusedVariables false
open Go.RowKit
open Go.Lib hiding intOf
def PhT (W0:World) (P t2:Nat):Nat→Value→World→Prop
 | 0,_,w'=>Below W0.heap.size W0 w'
 | _,_,w'=> ∃w1,Below W0.heap.size W0 w1∧w'=w1.setCell ⟨P,4,none⟩ (.int .i64 (t2:Int))
theorem PhT.keep {W0 w' w2:World}{P t2:Nat}{c:Value} (h:PhT W0 P t2 0 c w') (hb:Below w'.heap.size w' w2):PhT W0 P t2 0 c w2:=below_of_new (show Below W0.heap.size W0 w' from h) hb
theorem slI_len (s:Stp) (a b:Int):(slI s a b).length≤s.length:=by
 unfold slI
 rw[List.length_take,List.length_drop]
 omega
theorem yrest_any {Pr:Frm}{w0:World}{P:Nat}{txt:Stp}{sp:List (Nat×Nat)}{st:YS} (k:Nat) (kf kt:Int) (lv:Nat) (lev:Int) (w:World) (h:YJ YP Pr w0 P txt sp st 0 0 w) (hkl:k<st.lines.length) (hw:WfS txt sp st) (hl:Hid (lev=33-(lv:Int))) (hlv:lv≤32) (hsp:SpOk txt sp) (hs:txt.length≤65536) (hn:sp.length≤131072) (hV:AVar w0):
  Calls Tryz.prog 108 #[.pointer (some ⟨P,0,none⟩), .int .i64 (k:Int), .int .i64 lev, .agg #[.int .i64 kf, .int .i64 kt]] w (YRE YP Pr w0 P txt sp (restM txt lv k kf kt st)):=by
 obtain⟨R,hR⟩: ∃R,restM txt lv k kf kt st=R:=⟨_,rfl⟩
 rw[hR]
 unfold restM at hR
 have hln:=lnAt_get hkl
 obtain⟨r,hr⟩: ∃r,lnAt st.lines k=r:=⟨_,rfl⟩
 rw[hr] at hln hR
 have hll:=hw.ls.1
 have hnt:=hw.tot
 have hrk:=hw.ls.2 k hkl
 rw[hr] at hrk
 obtain⟨n,hn2⟩: ∃n,st.lines.length=n:=⟨_,rfl⟩
 have b1:=below_alloc1 w (.cells #[.int .i64 kf, .int .i64 kt] 42)
 have hX1:=heap_alloc_new w (.cells #[.int .i64 kf, .int .i64 kt] 42)
 have hp1:=h.put b1 (Nat.le_refl _) hX1
 have hl1: ∀q o,Pr q=some o→(Pr.put w.heap.size (.cells #[.int .i64 kf, .int .i64 kt] 42)) q=some o:=Frm.put_less (fun q o hq=>h.frLt q o hq) (Nat.le_refl _)
 obtain⟨X1,hX1e⟩: ∃X,w.heap.size=X:=⟨_,rfl⟩
 obtain⟨W1,hW1⟩: ∃W,w.alloc (.cells #[.int .i64 kf, .int .i64 kt] 42)=W:=⟨_,rfl⟩
 rw[hW1] at hX1 hp1
 rw[hX1e] at hX1 hp1 hl1
 have b2:=below_alloc1 W1 (.cells (lineA r) 51)
 have hX2:=heap_alloc_new W1 (.cells (lineA r) 51)
 have hp2:=hp1.put b2 (Nat.le_refl _) hX2
 have hl2: ∀q o,(Pr.put X1 (.cells #[.int .i64 kf, .int .i64 kt] 42)) q=some o→((Pr.put X1 (.cells #[.int .i64 kf, .int .i64 kt] 42)).put W1.heap.size (.cells (lineA r) 51)) q=some o:=Frm.put_less (fun q o hq=>hp1.frLt q o hq) (Nat.le_refl _)
 have hX1':(W1.alloc (.cells (lineA r) 51)).heap[X1]?=some (.cells #[.int .i64 kf, .int .i64 kt] 42):=(b2.block _ (cell_it hX1)).trans hX1
 obtain⟨z,sv,lvv,nv,hz,hK⟩:=hp1
 obtain⟨gl,cl,e9,_,hcell⟩:=hK.lineAt hln
 subst e9
 obtain⟨⟨_,_,c2,_⟩,_⟩:=hK.cells
 have hPl:=hK.lt
 have g0:=hcell 0 _ (by omega) rfl
 have g1:=hcell 1 _ (by omega) rfl
 have g2:=hcell 2 _ (by omega) rfl
 have g3:=hcell 3 _ (by omega) rfl
 have g4:=hcell 4 _ (by omega) rfl
 have g5:=hcell 5 _ (by omega) rfl
 have g6:=hcell 6 _ (by omega) rfl
 have g7:=hcell 7 _ (by omega) rfl
 have g8:=hcell 8 _ (by omega) rfl
 have g9:=hcell 9 _ (by omega) rfl
 simp only[Nat.add_zero] at g0
 rw[hn2] at c2
 have hk0:(0:Int)≤(k:Int):=by omega
 have hk1:(k:Int)<(n:Int):=by omega
 obtain⟨X2,hX2f⟩: ∃X,W1.heap.size=X:=⟨_,rfl⟩
 obtain⟨W2,hW2⟩: ∃W,W1.alloc (.cells (lineA r) 51)=W:=⟨_,rfl⟩
 rw[hW2] at hp2 hX2 hX1'
 rw[hX2f] at hp2 hX2 hl2
 unfold lineA at hW2
 have HP2:=hid hp2
 have HX12:=hid (And.intro hX1' hX2)
 have HLess:=hid (fun q o hq=>hl2 q o (hl1 q o hq))
 have HR:=hid hR
 have HW:=hid hw
 have HSP:=hid hsp
 have HK:=hid (And.intro hr hln)
 have HN2:=hid hn2
 clear hK hz hcell hp2 hX1 hX1' hX2 b1 b2 hl1 hl2 hR hw hsp hln hr h
 obtain⟨A,hA⟩: ∃A,addM ⟨1,r.ind,k,k+1,kf,kt,r.rf,r.rt,[]⟩ lv r.rf st=A:=⟨_,rfl⟩
 obtain⟨k1,hk1e⟩: ∃k1,k+1=k1:=⟨_,rfl⟩
 have hk1z:(k:Int)+1=(k1:Int):=by omega
 rw[hk1e] at hA
 have HK1:=hid hk1e
 obtain⟨Pr2,hPr2⟩: ∃Pr2:Frm,((Pr.put X1 (.cells #[.int .i64 kf, .int .i64 kt] 42)).put X2 (.cells (lineA r) 51))=Pr2:=⟨_,rfl⟩
 have HX2P:=hid (Frm.put_eq (Pr.put X1 (.cells #[.int .i64 kf, .int .i64 kt] 42)) X2 (.cells (lineA r) 51))
 rw[hPr2] at HX2P HP2 HLess
 have CA:Hid (∀w',YJ YP Pr2 w0 P txt sp st 0 0 w'→Calls Tryz.prog 110 #[.pointer (some ⟨P,0,none⟩), .agg #[.int .i64 1, .int .i64 r.ind, .int .i64 (k:Int), .int .i64 (k1:Int), .int .i64 kf, .int .i64 kt, .int .i64 r.rf, .int .i64 r.rt, .slice none 0 0], .int .i64 lev, .int .i64 r.rf] w' (YRE YP Pr2 w0 P txt sp A)):=hid (fun w' hj=>by
  have:=yadd_any (Pr:=Pr2) ⟨1,r.ind,k,k1,kf,kt,r.rf,r.rt,[]⟩ lv lev r.rf w' hj rfl hl hlv (by omega)
  rw[hA] at this
  exact this)
 have HA:=hid hA
 obtain⟨y0,y1⟩:=cells_span HX12.out.1
 have hlz2:LineBox W2 X2 r:=HX12.out.2
 obtain⟨l0,l1,l2,l3,l4,l5,l6,l7,l8,l9,_⟩:=hlz2.cells
 clear hA hPr2 hk1e hlz2
 go_enter Tryz.func108,Tryz.ntmps108
 go_upto_region 2 with fail
 clear hW1 hX1e hW2 hX2f c2 g0 g1 g2 g3 g4 g5 g6 g7 g8 g9 hPl
 cases A with
 | bad a e=>
  have hR:=HR.out
  rw[HK1.out,HA.out] at hR
  have HR2:Hid (YR.bad a e=R):=hid hR
  clear hR
  go_wp2_with fail
  refine(CA.out _ (by first | exact HP2.out | exact HP2.out.keep (Below.refl _ _).drew)).mono ?_
  rintro e w4 ⟨⟨m,rfl⟩,hbad⟩
  have HF:=hid (hbad.less HLess.out)
  clear hbad
  go_wp2_with fail
  go_ret2
  rw[←HR2.out]
  exact⟨⟨_,rfl⟩,HF.out⟩
 | ok nn s1=>
  obtain⟨e1,e2,h0lv,h4t⟩:=addM_ok HA.out
  subst e2
  have hR:=HR.out
  rw[HK1.out,HA.out] at hR
  simp only[] at hR
  obtain⟨ns,hns⟩: ∃ns,st.nodes++ [⟨1,r.ind,k,k1,kf,kt,r.rf,r.rt,[]⟩]=ns:=⟨_,rfl⟩
  rw[hns] at hR CA
  obtain⟨tot,htot⟩: ∃tot,st.total+1=tot:=⟨_,rfl⟩
  rw[htot] at hR CA
  have htot4:tot≤4096:=by omega
  obtain⟨⟨T,er⟩,hT⟩: ∃T,readY (slI txt r.rf r.rt)=T:=⟨_,rfl⟩
  rw[hT] at hR
  simp only[] at hR
  have hbulk:=readY_bulk3 (slI txt r.rf r.rt) (Nat.le_trans (slI_len _ _ _) hs)
  rw[hT] at hbulk
  simp only[] at hbulk
  have hsz:=size_le_bulk T
  have hsp1:=size_pos T
  have hdz:=depth_le_size T
  have HR3:=hid hR
  have CRd:Hid (∀w',AVar w'→Calls Tryz.prog 63 #[.string (bs (slI txt r.rf r.rt))] w' (NewE2 T er w')):=hid (fun w' hv=>by
   have:=yread_any (slI txt r.rf r.rt) w' (by have:=slI_len txt r.rf r.rt;omega) hv
   rw[hT] at this
   exact this)
  obtain⟨q1,q2,q3⟩:=hrk.rst
  have CBy:Hid (∀w',YJ YP Pr2 w0 P txt sp ⟨st.lines,ns,tot⟩ 0 0 w'→Calls Tryz.prog 155 #[.pointer (some ⟨P,0,none⟩), .agg #[.int .i64 r.rf, .int .i64 r.rt]] w' fun e w2=>e= .returned (.string (bs (slI txt r.rf r.rt)))∧Below w'.heap.size w' w2):=hid (fun w' hj=>ybytes_any r.rf r.rt w' hj q1 q2 q3 (by omega))
  have HNN:=hid e1
  clear hR hT e1 hns htot q1 q2 q3
  go_wp2_with fail
  refine(CA.out _ (by first | exact HP2.out | exact HP2.out.keep (Below.refl _ _).drew)).mono ?_
  rintro e w4 ⟨rfl,hj4⟩
  have HJ4:=hid hj4
  have hlz:LineBox w4 X2 r:=hj4.at_ HX2P.out
  obtain⟨l0,l1,l2,l3,l4,l5,l6,l7,l8,l9,_⟩:=hlz.cells
  clear hj4 hlz y0 y1
  go_wp2_with fail
  refine(CBy.out _ (by first | exact HJ4.out | exact HJ4.out.keep (Below.refl _ _).drew)).mono ?_
  rintro e w5 ⟨rfl,hb5⟩
  have HJ5:=hid (HJ4.out.keep hb5)
  clear hb5 l0 l1 l2 l3 l4 l5 l6 l7 l8 l9
  go_wp2_with fail
  refine(CRd.out _ (hV.keep HJ5.out.bel)).mono ?_
  rintro e w6 ⟨⟨kv,iv,rfl,hv6⟩,hb6⟩
  have HJ6:=hid (HJ5.out.keep hb6)
  obtain⟨pk,ck,pi,ci,rfl,rfl⟩:=hv6.toVD.form
  obtain⟨V,hVe⟩: ∃V,w6.heap.size=V:=⟨_,rfl⟩
  have b7:=below_alloc1 w6 (.cells #[.int .i64 T.kind, .string (bs T.text), .slice pk T.keys.length ck, .slice pi T.items.length ci] 36)
  have hV7:=heap_alloc_new w6 (.cells #[.int .i64 T.kind, .string (bs T.text), .slice pk T.keys.length ck, .slice pi T.items.length ci] 36)
  obtain⟨W7,hW7⟩: ∃W,w6.alloc (.cells #[.int .i64 T.kind, .string (bs T.text), .slice pk T.keys.length ck, .slice pi T.items.length ci] 36)=W:=⟨_,rfl⟩
  rw[hW7] at b7 hV7
  rw[hVe] at hV7
  have HJ7:=hid (HJ6.out.keep b7)
  have HV7:=hid hV7
  have HVX:=hid (hv6.keep b7)
  have HP5:=hid HJ5.out.lt
  unfold vv
  clear hb6 b7 hV7 hv6
  by_cases h0:er=0
  rotate_left
  ·have hR:=HR3.out
   rw[if_pos h0] at hR
   have HR4:Hid (YR.bad r.rf er=R):=hid hR
   have d0:(er !=0)=true:=by simpa using h0
   have CF:=hid (fun w' hj=>yfail_any (Pr:=Pr2) (w0:=w0) (P:=P) (txt:=txt) (sp:=sp) (st:=⟨st.lines,ns,tot⟩) (a0:=0) (e0:=0) r.rf er w' hj)
   clear hR h0
   go_wp2_with fail
   refine(CF.out _ (by first | exact HJ7.out | exact HJ7.out.keep (Below.refl _ _).drew)).mono ?_
   rintro e w8 ⟨rfl,hj8⟩
   have HF:=hid (hj8.less HLess.out).bad
   clear hj8
   go_wp2_with fail
   go_ret2
   rw[←HR4.out]
   exact⟨⟨_,rfl⟩,HF.out⟩
  subst h0
  have hR:=HR3.out
  rw[if_neg (by simp)] at hR
  have HR4:=hid hR
  obtain⟨s1,hs1⟩: ∃s1,T.size-1=s1:=⟨_,rfl⟩
  have hs1z:(T.size:Int)-1=(s1:Int):=by omega
  have hs1w:IntKind.i64.wrap ((T.size:Int)-1)=(s1:Int):=by rw[hs1z,IntKind.wrap_i64];omega
  have hs1x:IntKind.i64.wrap (s1:Int)=(s1:Int):=by rw[IntKind.wrap_i64];omega
  obtain⟨t2,ht2⟩: ∃t2,tot+s1=t2:=⟨_,rfl⟩
  have ht2z:(tot:Int)+(s1:Int)=(t2:Int):=by omega
  have ht2w:IntKind.i64.wrap ((tot:Int)+(s1:Int))=(t2:Int):=by rw[ht2z,IntKind.wrap_i64];omega
  have ht2x:IntKind.i64.wrap (t2:Int)=(t2:Int):=by rw[IntKind.wrap_i64];omega
  have HT2:Hid (tot+T.size-1=t2):=hid (by omega)
  have ht2b:t2≤1099511631872:=by omega
  clear hR hs1 ht2
  obtain⟨W3,hW3⟩: ∃W,W7.drew=W:=⟨_,rfl⟩
  have hb73:Below W7.heap.size W7 W3:=by rw[←hW3];exact(Below.refl _ _).drew
  have HJ3:=hid (HJ7.out.keep hb73)
  have HV3:=hid ((hb73.block _ (cell_it HV7.out)).trans HV7.out)
  have HVX3:=hid (HVX.out.keep hb73)
  have HVD3:=hid (HVX3.out.toVD)
  have CSz:Hid (∀w',Below W3.heap.size W3 w'→Calls Tryz.prog 22 #[.agg #[.int .i64 T.kind, .string (bs T.text), .slice pk T.keys.length ck, .slice pi T.items.length ci]] w' fun e w2=>e= .returned (.int .i64 (T.size:Int))∧Below w'.heap.size w' w2):=hid (fun w' hb=>vsize_any _ T (.slice pk T.keys.length ck) (.slice pi T.items.length ci) w' (HVD3.out.keep hb) hbulk)
  obtain⟨SA,hSA⟩: ∃S:World→Prop,(fun w'=>(w'.cell? ⟨P,4,none⟩=some (.int .i64 (tot:Int))∧w'.frozen? ⟨P,4,none⟩=false)∧w'.cell? ⟨V,0,none⟩=some (.int .i64 T.kind)∧w'.cell? ⟨V,1,none⟩=some (.string (bs T.text))∧w'.cell? ⟨V,2,none⟩=some (.slice pk T.keys.length ck)∧w'.cell? ⟨V,3,none⟩=some (.slice pi T.items.length ci))=S:=⟨_,rfl⟩
  have HSA:Hid (∀w',Below W3.heap.size W3 w'→SA w'):=hid (fun w' hb=>by
   rw[←hSA]
   obtain⟨z,sv,lvv,nv,hz,hK⟩:=HJ3.out.keep hb
   obtain⟨⟨_,_,_,_,c4,_⟩,_,_,f4,_⟩:=hK.cells
   have hv:=(hb.block _ (cell_it HV3.out)).trans HV3.out
   obtain⟨y0,y1,y2,y3,_⟩:=box4 hv
   exact⟨⟨c4,f4⟩,y0,y1,y2,y3⟩)
  clear hb73
  go_upto_region 9 with fail
  clear hW7 hVe
  have hfol:Tryz.prog.follows .mixedOrders=true:=by kernel_rfl
  refine wp_region_rcf3 hfol [some 58,some 59,some 60,some 61,some 62,some 63,some 64,some 65,some 66,some 67,none] [58,59,60,61,62,63,64,65,66,67] [10] 1000000 (fun _ _=>True) 88 rfl (by kernel_rfl) (by kernel_rfl) (by kernel_rfl) (fun iz=>match iz with | 0=> .pointer (some ⟨P,0,none⟩) | 1=> .pointer (some ⟨P,0,none⟩) | 2=> .pointer (some ⟨P,4,none⟩) | 3=> .int .i64 (tot:Int) | 4=> .agg #[.int .i64 T.kind, .string (bs T.text), .slice pk T.keys.length ck, .slice pi T.items.length ci] | 5=> .int .i64 (T.size:Int) | 6=> .int .i64 (s1:Int) | 7=> .int .i64 (t2:Int) | 8=> .pointer (some ⟨P,0,none⟩) | 9=> .pointer (some ⟨P,4,none⟩) | _=>undef) SA (PhT W3 P t2) (by rw[hW3];exact HSA.out _ (Below.refl _ _)) (by rw[hW3];exact Below.refl _ _) ?_ ?_
  ·intro d a w' iq o' ho hi hall hfr hF R' hR
   have hiN:iq<11:=(Array.getElem?_eq_some_iff.1 ho).1
   have q0:a.tmps[0]?.getD undef= .pointer (some ⟨P,0,none⟩):=fr_q hfr 0 (by decide)
   have q14:a.tmps[14]?.getD undef= .pointer (some ⟨V,0,none⟩):=fr_q hfr 14 (by decide)
   have hc:=hF.all [(0,58),(1,59),(2,60),(3,61),(4,62),(5,63),(6,64),(7,65),(8,66),(9,67)] (by decide)
   dsimp only[AllP] at hc
   clear hfr
   have ha:=hall
   have hoo:=ho
   have hcs:iq=5∨iq=10∨iq=0∨iq=1∨iq=2∨iq=6∨iq=7∨iq=8∨iq=9∨iq=3∨iq=4:=by omega
   clear hiN
   rcases hcs with rfl | rfl | rfl | rfl | rfl | rfl | rfl | rfl | rfl | rfl | rfl<;>simp only[List.getElem?_toArray,List.getElem?_cons_zero,List.getElem?_cons_succ,Option.some.injEq] at ho<;>subst ho<;>(try simp[Region.binds] at hall)
   ·have c62:=hF.g 4 62 rfl (by decide) (by decide) (by decide) (by simp[hall])
    have hA:Below W3.heap.size W3 w':=hF.at2 (j:=0) rfl (hF.lastNot (f:=11) (i:=5) (by kernel_rfl) hi) (.inl rfl)
    go_simp
    go_at_call 22
    refine(CSz.out _ hA).mono ?_
    rintro e w5 ⟨rfl,hb5⟩
    exact hR _ _ (hF.quiet (by kernel_rfl) hoo ha rfl (by decide) (by decide) (by decide) rfl (hF.lastNot (f:=11) (i:=5) (by kernel_rfl) hi) (fun _=>HSA.out _ (below_of_new hA hb5)) (fun k c hk hp=>by obtain rfl:k=0:=(by simp at hk;omega);exact PhT.keep hp hb5) (fun x hx=>hx))
   ·have c65:=hF.g 7 65 rfl (by decide) (by decide) (by decide) (by simp[hall])
    have c67:=hF.g 9 67 rfl (by decide) (by decide) (by decide) (by simp[hall])
    have hP0:=hF.at2 (j:=0) rfl hi (.inl rfl)
    have hS0:=hF.st hi
    rw[←hSA] at hS0
    obtain⟨⟨p4,p4f⟩,v0,v1,v2,v3⟩:=hS0
    have hA:Below W3.heap.size W3 w':=hP0
    go_simp
    exact hR undef _ (hF.eff2 (by kernel_rfl) (by decide) 0 hoo ha rfl hi (.inl rfl) rfl (by decide) (fun _ _ _=>trivial) (fun h=>absurd rfl h) ⟨w',hA,rfl⟩)
   iterate 7 (go_simp;exact hR _ _ (hF.pure (by kernel_rfl) hoo ha rfl (by decide) (by decide) (by decide) rfl))
   all_goals
    have hS0:=hF.early (f:=11) (by kernel_rfl) hi
    rw[←hSA] at hS0
    obtain⟨⟨p4,p4f⟩,v0,v1,v2,v3⟩:=hS0
    go_simp
    exact hR _ _ (hF.pure (by kernel_rfl) hoo ha rfl (by decide) (by decide) (by decide) rfl)
  intro v wz hcl hP1
  obtain⟨w8,hb8,hw8⟩:=hP1
  have hj8:YJ YP Pr2 w0 P txt sp ⟨st.lines,ns,t2⟩ 0 0 wz:=by
   obtain⟨z,sv,lvv,nv,hz,hK⟩:=HJ3.out.keep hb8
   rw[hw8]
   exact⟨z,sv,lvv,nv,hz,hK.count t2⟩
  have hv8:wz.heap[V]?=some (.cells #[.int .i64 T.kind, .string (bs T.text), .slice pk T.keys.length ck, .slice pi T.items.length ci] 36):=by
   rw[hw8]
   have hne:V≠P:=by
    intro e
    obtain⟨z,sv,lvv,nv,hz,hK⟩:=HJ3.out
    have hb:=hK.box
    rw[←e,HV3.out] at hb
    injection hb with hb
    injection hb with _ hb
    exact absurd hb (by decide)
   rw[Below.heap_setCell w8 ⟨P,4,none⟩ _ V hne]
   exact(hb8.block _ (cell_it HV3.out)).trans HV3.out
  have hvd8:VD wz T.depth T (.slice pk T.keys.length ck) (.slice pi T.items.length ci):=by
   have h1:=HVX3.out.keep hb8
   refine VDx.toVD (ok:=fun _=>True) (h1.agree (fun q hq hql=>⟨?_,trivial⟩))
   rw[hw8]
   exact Below.heap_setCell w8 ⟨P,4,none⟩ _ q (by have:=HP5.out;simp only[];omega)
  have HJ8:=hid hj8
  have HV8:=hid hv8
  have HVD8:=hid hvd8
  have CDp:Hid (∀w',Below wz.heap.size wz w'→Calls Tryz.prog 77 #[.agg #[.int .i64 T.kind, .string (bs T.text), .slice pk T.keys.length ck, .slice pi T.items.length ci]] w' fun e w2=>e= .returned (.int .i64 (T.depth:Int))∧Below w'.heap.size w' w2):=hid (fun w' hb=>vdepth_any _ T (.slice pk T.keys.length ck) (.slice pi T.items.length ci) w' (HVD8.out.keep hb) hbulk)
  obtain⟨y0,y1,y2,y3,_⟩:=box4 hv8
  clear hcl hb8 hw8 hj8 hv8 hvd8 hSA HSA CSz
  simp only[fillT,List.setIfInBounds_toArray,List.set_cons_succ,List.set_cons_zero]
  have hlev:=hl.out
  have hR:=HR4.out
  rw[HT2.out] at hR
  obtain⟨dp,hdp⟩: ∃dp,T.depth=dp:=⟨_,rfl⟩
  rw[hdp] at hR CDp
  have hdpb:dp≤1099511627776:=by omega
  obtain⟨ld,hld⟩: ∃ld,lev+(dp:Int)=ld:=⟨_,rfl⟩
  have hldw:IntKind.i64.wrap ld=ld:=by rw[IntKind.wrap_i64];omega
  obtain⟨l1,hl1⟩: ∃l1,ld-1=l1:=⟨_,rfl⟩
  have hl1w:IntKind.i64.wrap l1=l1:=by rw[IntKind.wrap_i64];omega
  by_cases hd:lv<dp
  ·rw[if_pos hd] at hR
   have HR5:Hid (YR.bad r.rf 5=R):=hid hR
   have d1:decide ((32:Int)<l1)=true:=decide_eq_true (by omega)
   have CF:=hid (fun w' hj=>yfail_any (Pr:=Pr2) (w0:=w0) (P:=P) (txt:=txt) (sp:=sp) (st:=⟨st.lines,ns,t2⟩) (a0:=0) (e0:=0) r.rf 5 w' hj)
   clear hR hd hlev hdp
   go_wp2_with fail
   refine(CDp.out _ (by first | exact Below.refl _ _ | exact(Below.refl _ _).drew)).mono ?_
   rintro e w9 ⟨rfl,hb9⟩
   have HJ9:=hid (HJ8.out.keep (by first | exact hb9 | exact below_of_new (Below.refl _ _).drew hb9))
   clear hb9
   go_wp2_with fail
   refine(CF.out _ (by first | exact HJ9.out | exact HJ9.out.keep (Below.refl _ _).drew)).mono ?_
   rintro e w10 ⟨rfl,hj10⟩
   have HF:=hid (hj10.less HLess.out).bad
   clear hj10
   go_wp2_with fail
   go_ret2
   rw[←HR5.out]
   exact⟨⟨_,rfl⟩,HF.out⟩
  rw[if_neg hd] at hR
  have d1:decide ((32:Int)<l1)=false:=decide_eq_false (by omega)
  by_cases ht:4096<t2
  ·rw[if_pos ht] at hR
   have HR5:Hid (YR.bad r.rf 6=R):=hid hR
   have d2:decide ((4096:Int)<(t2:Int))=true:=decide_eq_true (by omega)
   have CF:=hid (fun w' hj=>yfail_any (Pr:=Pr2) (w0:=w0) (P:=P) (txt:=txt) (sp:=sp) (st:=⟨st.lines,ns,t2⟩) (a0:=0) (e0:=0) r.rf 6 w' hj)
   clear hR hd hlev hdp ht
   go_wp2_with fail
   refine(CDp.out _ (by first | exact Below.refl _ _ | exact(Below.refl _ _).drew)).mono ?_
   rintro e w9 ⟨rfl,hb9⟩
   have HJ9:=hid (HJ8.out.keep (by first | exact hb9 | exact below_of_new (Below.refl _ _).drew hb9))
   clear hb9
   obtain⟨z,sv,lvv,nv,hz,hK⟩:=HJ9.out
   have c4:=hK.cells.1.2.2.2.2.1
   have hPl:=hK.lt
   clear hK hz
   simp only[] at c4
   go_wp2_with fail
   refine(CF.out _ (by first | exact HJ9.out | exact HJ9.out.keep (Below.refl _ _).drew)).mono ?_
   rintro e w10 ⟨rfl,hj10⟩
   have HF:=hid (hj10.less HLess.out).bad
   clear hj10
   go_wp2_with fail
   go_ret2
   rw[←HR5.out]
   exact⟨⟨_,rfl⟩,HF.out⟩
  ·rw[if_neg ht] at hR
   have HR5:=hid hR
   have d2:decide ((4096:Int)<(t2:Int))=false:=decide_eq_false (by omega)
   clear hR hd hlev hdp ht
   go_wp2_with fail
   refine(CDp.out _ (by first | exact Below.refl _ _ | exact(Below.refl _ _).drew)).mono ?_
   rintro e w9 ⟨rfl,hb9⟩
   have HJ9:=hid (HJ8.out.keep (by first | exact hb9 | exact below_of_new (Below.refl _ _).drew hb9))
   clear hb9
   obtain⟨z,sv,lvv,nv,hz,hK⟩:=HJ9.out
   have c4:=hK.cells.1.2.2.2.2.1
   have hPl:=hK.lt
   clear hK hz
   simp only[] at c4
   have HF:=hid (HJ9.out.less HLess.out)
   go_wp2_with fail
   go_ret2
   rw[←HR5.out]
   exact⟨rfl,HF.out⟩
def YBC (f:Nat) (w0:World) (P:Nat) (txt:Stp) (sp:List (Nat×Nat)) (B:YB) (lv:Nat):Prop:= ∀(Pr:Frm) (k:Nat) (kf kt:Int) (st:YS) (lev:Int) (w:World),YJ YP Pr w0 P txt sp st 0 0 w→k+1=st.lines.length→WfS txt sp st→Hid (lev=33-(lv:Int))→
 Calls Tryz.prog f #[.pointer (some ⟨P,0,none⟩), .int .i64 (k:Int), .int .i64 lev, .agg #[.int .i64 kf, .int .i64 kt]] w (YRE YP Pr w0 P txt sp (B k kf kt st))
theorem str_is {t l:Stp} (h:t=l):((bs t).toList==l)=true:=by rw[Lib.toList_data,bs_data,h];simp
theorem str_isnt {t l:Stp} (h:t≠l):((bs t).toList==l)=false:=by rw[Lib.toList_data,bs_data];simpa using h
theorem yvalue_any (w0:World) (P:Nat) (txt:Stp) (sp:List (Nat×Nat)) (hsp0:SpOk txt sp) (hs:txt.length≤65536) (hn:sp.length≤131072) (hV:AVar w0) (lv:Nat) (hlv:lv≤32) (B:YB) (hBG:VGood txt sp B) (IH:YBC 60 w0 P txt sp B lv):YBC 154 w0 P txt sp (ymValue txt sp B lv) lv:=by
 intro Pr k kf kt st lev w h hk1l hw hl
 have hsp:=hsp0
 have hkl:k<st.lines.length:=by omega
 obtain⟨R,hR⟩: ∃R,ymValue txt sp B lv k kf kt st=R:=⟨_,rfl⟩
 rw[hR]
 unfold ymValue at hR
 have hln:=lnAt_get hkl
 obtain⟨r,hr⟩: ∃r,lnAt st.lines k=r:=⟨_,rfl⟩
 rw[hr] at hln hR
 have hll:=hw.ls.1
 have hnt:=hw.tot
 have hrk:=hw.ls.2 k hkl
 rw[hr] at hrk
 obtain⟨n,hn2⟩: ∃n,st.lines.length=n:=⟨_,rfl⟩
 have b1:=below_alloc1 w (.cells #[.int .i64 kf, .int .i64 kt] 42)
 have hX1:=heap_alloc_new w (.cells #[.int .i64 kf, .int .i64 kt] 42)
 have hp1:=h.put b1 (Nat.le_refl _) hX1
 have hl1: ∀q o,Pr q=some o→(Pr.put w.heap.size (.cells #[.int .i64 kf, .int .i64 kt] 42)) q=some o:=Frm.put_less (fun q o hq=>h.frLt q o hq) (Nat.le_refl _)
 obtain⟨X1,hX1e⟩: ∃X,w.heap.size=X:=⟨_,rfl⟩
 obtain⟨W1,hW1⟩: ∃W,w.alloc (.cells #[.int .i64 kf, .int .i64 kt] 42)=W:=⟨_,rfl⟩
 rw[hW1] at hX1 hp1
 rw[hX1e] at hX1 hp1 hl1
 have b2:=below_alloc1 W1 (.cells (lineA r) 51)
 have hX2:=heap_alloc_new W1 (.cells (lineA r) 51)
 have hp2:=hp1.put b2 (Nat.le_refl _) hX2
 have hl2: ∀q o,(Pr.put X1 (.cells #[.int .i64 kf, .int .i64 kt] 42)) q=some o→((Pr.put X1 (.cells #[.int .i64 kf, .int .i64 kt] 42)).put W1.heap.size (.cells (lineA r) 51)) q=some o:=Frm.put_less (fun q o hq=>hp1.frLt q o hq) (Nat.le_refl _)
 have hX1':(W1.alloc (.cells (lineA r) 51)).heap[X1]?=some (.cells #[.int .i64 kf, .int .i64 kt] 42):=(b2.block _ (cell_it hX1)).trans hX1
 obtain⟨z,sv,lvv,nv,hz,hK⟩:=hp1
 obtain⟨gl,cl,e9,_,hcell⟩:=hK.lineAt hln
 subst e9
 obtain⟨⟨_,_,c2,_⟩,_⟩:=hK.cells
 have hPl:=hK.lt
 have g0:=hcell 0 _ (by omega) rfl
 have g1:=hcell 1 _ (by omega) rfl
 have g2:=hcell 2 _ (by omega) rfl
 have g3:=hcell 3 _ (by omega) rfl
 have g4:=hcell 4 _ (by omega) rfl
 have g5:=hcell 5 _ (by omega) rfl
 have g6:=hcell 6 _ (by omega) rfl
 have g7:=hcell 7 _ (by omega) rfl
 have g8:=hcell 8 _ (by omega) rfl
 have g9:=hcell 9 _ (by omega) rfl
 simp only[Nat.add_zero] at g0
 rw[hn2] at c2
 have hk0:(0:Int)≤(k:Int):=by omega
 have hk1:(k:Int)<(n:Int):=by omega
 obtain⟨X2,hX2f⟩: ∃X,W1.heap.size=X:=⟨_,rfl⟩
 obtain⟨W2,hW2⟩: ∃W,W1.alloc (.cells (lineA r) 51)=W:=⟨_,rfl⟩
 rw[hW2] at hp2 hX2 hX1'
 rw[hX2f] at hp2 hX2 hl2
 unfold lineA at hW2
 have HP2:=hid hp2
 have HX12:=hid (And.intro hX1' hX2)
 have HLess:=hid (fun q o hq=>hl2 q o (hl1 q o hq))
 have HR:=hid hR
 have HW:=hid hw
 have HSP:=hid hsp
 have HK:=hid (And.intro hr hln)
 have HN2:=hid hn2
 clear hK hz hcell hp2 hX1 hX1' hX2 b1 b2 hl1 hl2 hR hw hsp hln hr h
 obtain⟨Pr2,hPr2⟩: ∃Pr2:Frm,((Pr.put X1 (.cells #[.int .i64 kf, .int .i64 kt] 42)).put X2 (.cells (lineA r) 51))=Pr2:=⟨_,rfl⟩
 have HX2P:=hid (Frm.put_eq (Pr.put X1 (.cells #[.int .i64 kf, .int .i64 kt] 42)) X2 (.cells (lineA r) 51))
 have hx1p:Pr2 X1=some (.cells #[.int .i64 kf, .int .i64 kt] 42):=by
  rw[←hPr2,Frm.put_ne _ _ (show X1≠X2 by have:=cell_it HX12.out.1;have h2:=cell_it HX12.out.2;intro e;have e1:=HX12.out.1;rw[e,HX12.out.2] at e1;injection e1 with e1;injection e1 with _ e1;exact absurd e1 (by decide))]
  exact Frm.put_eq _ _ _
 have HX1P:=hid hx1p
 rw[hPr2] at HX2P HP2 HLess
 obtain⟨t,ht⟩: ∃t,slI txt r.rf r.rt=t:=⟨_,rfl⟩
 have hR:=HR.out
 rw[ht] at hR
 have HRt:=hid hR
 obtain⟨q1,q2,q3⟩:=hrk.rst
 have CBy:Hid (∀w',YJ YP Pr2 w0 P txt sp st 0 0 w'→Calls Tryz.prog 155 #[.pointer (some ⟨P,0,none⟩), .agg #[.int .i64 r.rf, .int .i64 r.rt]] w' fun e w2=>e= .returned (.string (bs t))∧Below w'.heap.size w' w2):=hid (fun w' hj=>by
  have:=ybytes_any r.rf r.rt w' hj q1 q2 q3 (by omega)
  rw[ht] at this
  exact this)
 have HK1:=hid hk1l
 have HX1C:Hid (∀w',YJ YP Pr2 w0 P txt sp st 0 0 w'→True):=hid (fun _ _=>trivial)
 obtain⟨y0,y1⟩:=cells_span HX12.out.1
 have hlz2:LineBox W2 X2 r:=HX12.out.2
 obtain⟨l0,l1,l2,l3,l4,l5,l6,l7,l8,l9,_⟩:=hlz2.cells
 clear hR ht q1 q2 q3 hPr2 hlz2 hx1p
 go_enter Tryz.func154,Tryz.ntmps154
 go_upto_region 2 with fail
 clear hW1 hX1e hW2 hX2f c2 g0 g1 g2 g3 g4 g5 g6 g7 g8 g9 hPl
 go_wp2_with fail
 refine(CBy.out _ (by first | exact HP2.out | exact HP2.out.keep (Below.refl _ _).drew)).mono ?_
 rintro e w4 ⟨rfl,hb4⟩
 have HJ4:=hid (HP2.out.keep (by first | exact hb4 | exact below_of_new (Below.refl _ _).drew hb4))
 clear hb4 y0 y1 l0 l1 l2 l3 l4 l5 l6 l7 l8 l9
 obtain⟨y0,y1⟩:=cells_span (HJ4.out.at_ HX1P.out)
 by_cases h1:t= [124]∨t= [124,45]
 ·have hR:=HRt.out
  rw[if_pos h1] at hR
  obtain⟨Q,hQ⟩: ∃Q,literalM txt sp lv k kf kt st=Q:=⟨_,rfl⟩
  rw[hQ] at hR
  have HRQ:Hid (Q=R):=hid hR
  have CL:Hid (∀w',YJ YP Pr2 w0 P txt sp st 0 0 w'→Calls Tryz.prog 191 #[.pointer (some ⟨P,0,none⟩), .int .i64 (k:Int), .int .i64 lev, .agg #[.int .i64 kf, .int .i64 kt]] w' (YRE YP Pr2 w0 P txt sp Q)):=hid (fun w' hj=>by
   have:=yliteral_any k kf kt lv lev w' hj HK1.out HW.out hl hlv HSP.out hs hn hV
   rw[hQ] at this
   exact this)
  clear hR hQ
  by_cases h2:t= [124]
  ·have d1:=str_is h2
   clear h1 h2
   go_wp2_with fail
   refine(CL.out _ (by first | exact HJ4.out | exact HJ4.out.keep (Below.refl _ _).drew)).mono ?_
   rintro e w7 hE
   have HE:=hid (hE.less HLess.out)
   clear hE
   cases Q with
   | bad a er=>
    obtain⟨⟨m,rfl⟩,hbad⟩:=HE.out
    have HF:=hid hbad
    clear hbad HE
    go_wp2_with fail
    go_ret2
    rw[←HRQ.out]
    exact⟨⟨_,rfl⟩,HF.out⟩
   | ok nn sq=>
    obtain⟨rfl,hj9⟩:=HE.out
    have HF:=hid hj9
    clear hj9 HE
    go_wp2_with fail
    go_ret2
    rw[←HRQ.out]
    exact⟨rfl,HF.out⟩
  ·have d1:=str_isnt h2
   have d2:=str_is (h1.resolve_left h2)
   clear h1 h2
   go_wp2_with fail
   refine(CL.out _ (by first | exact HJ4.out | exact HJ4.out.keep (Below.refl _ _).drew)).mono ?_
   rintro e w7 hE
   have HE:=hid (hE.less HLess.out)
   clear hE
   cases Q with
   | bad a er=>
    obtain⟨⟨m,rfl⟩,hbad⟩:=HE.out
    have HF:=hid hbad
    clear hbad HE
    go_wp2_with fail
    go_ret2
    rw[←HRQ.out]
    exact⟨⟨_,rfl⟩,HF.out⟩
   | ok nn sq=>
    obtain⟨rfl,hj9⟩:=HE.out
    have HF:=hid hj9
    clear hj9 HE
    go_wp2_with fail
    go_ret2
    rw[←HRQ.out]
    exact⟨rfl,HF.out⟩
 have d1:=str_isnt (fun e=>h1 (.inl e):t≠ [124])
 have d2:=str_isnt (fun e=>h1 (.inr e):t≠ [124,45])
 by_cases h3:t= []
 rotate_left
 ·have hR:=HRt.out
  rw[if_neg h1,if_neg h3] at hR
  have d3:=str_isnt h3
  have d3b:(bs t).toList.isEmpty=false:=by rw[Lib.toList_data,bs_data];cases t with | nil=>exact absurd rfl h3 | cons _ _=>rfl
  obtain⟨Q,hQ⟩: ∃Q,restM txt lv k kf kt st=Q:=⟨_,rfl⟩
  rw[hQ] at hR
  have HRQ:Hid (Q=R):=hid hR
  have CL:Hid (∀w',YJ YP Pr2 w0 P txt sp st 0 0 w'→Calls Tryz.prog 108 #[.pointer (some ⟨P,0,none⟩), .int .i64 (k:Int), .int .i64 lev, .agg #[.int .i64 kf, .int .i64 kt]] w' (YRE YP Pr2 w0 P txt sp Q)):=hid (fun w' hj=>by
   have:=yrest_any k kf kt lv lev w' hj (by have:=HK1.out;omega) HW.out hl hlv HSP.out hs hn hV
   rw[hQ] at this
   exact this)
  clear hR hQ h1 h3
  go_wp2_with fail
  refine(CL.out _ (by first | exact HJ4.out | exact HJ4.out.keep (Below.refl _ _).drew)).mono ?_
  rintro e w7 hE
  have HE:=hid (hE.less HLess.out)
  clear hE
  cases Q with
  | bad a er=>
   obtain⟨⟨m,rfl⟩,hbad⟩:=HE.out
   have HF:=hid hbad
   clear hbad HE
   go_wp2_with fail
   go_ret2
   rw[←HRQ.out]
   exact⟨⟨_,rfl⟩,HF.out⟩
  | ok nn sq=>
   obtain⟨rfl,hj9⟩:=HE.out
   have HF:=hid hj9
   clear hj9 HE
   go_wp2_with fail
   go_ret2
   rw[←HRQ.out]
   exact⟨rfl,HF.out⟩
 have hR:=HRt.out
 rw[if_neg h1,if_pos h3] at hR
 have d3:=str_is h3
 have d3b:(bs t).toList.isEmpty=true:=by rw[Lib.toList_data,bs_data,h3];rfl
 clear h1
 obtain⟨k1,hk1e⟩: ∃k1,k+1=k1:=⟨_,rfl⟩
 have hk1z:(k:Int)+1=(k1:Int):=by omega
 have HK1e:=hid hk1e
 rw[hk1e] at hR
 obtain⟨N,hN⟩: ∃N,nextM txt sp k1 st.lines=N:=⟨_,rfl⟩
 have hnok:=nextM_ok (k:=k1) hsp0 (by omega) HW.out.ls (fun i a b=>by omega)
 rw[hN] at hR hnok
 have CN:Hid (∀w',YJ YP Pr2 w0 P txt sp st 0 0 w'→Calls Tryz.prog 58 #[.pointer (some ⟨P,0,none⟩), .int .i64 (k1:Int)] w' (NXE YP Pr2 w0 P txt sp st N)):=hid (fun w' hj=>by
  have:=ynext_any k1 w' hj (by omega) HW.out.ls.1 hs hn hV
  rw[hN] at this
  exact this)
 clear hN hk1e h3
 cases N with
 | bad a er=>
  have HRQ:Hid (YR.bad a er=R):=hid hR
  clear hR hnok
  go_wp2_with fail
  refine(CN.out _ (by first | exact HJ4.out | exact HJ4.out.keep (Below.refl _ _).drew)).mono ?_
  rintro e w5 ⟨⟨m,rfl⟩,hbad⟩
  have HF:=hid (hbad.less HLess.out)
  clear hbad
  go_wp2_with fail
  go_ret2
  rw[←HRQ.out]
  exact⟨⟨_,rfl⟩,HF.out⟩
 | ok nx ls=>
  simp only[] at hR hnok
  have hw5:WfS txt sp ⟨ls,st.nodes,st.total⟩:=⟨hnok.ok,HW.out.tot⟩
  have HW5:=hid hw5
  have HNO:=hid hnok
  have hnx0:(0:Int)≤(nx:Int):=by omega
  have HRn:=hid hR
  clear hR hnok hw5
  go_wp2_with fail
  refine(CN.out _ (by first | exact HJ4.out | exact HJ4.out.keep (Below.refl _ _).drew)).mono ?_
  rintro e w5 ⟨rfl,hj5⟩
  have HJ5:=hid hj5
  clear hj5 y0 y1
  go_upto_region 10 with fail
  obtain⟨W0,hW0⟩: ∃W,w5.drew=W:=⟨_,rfl⟩
  have hj0:=HJ5.out.keep (Below.refl _ w5).drew
  rw[hW0] at hj0
  have HJ0:=hid hj0
  have CT0:Hid (∀w',Below W0.heap.size W0 w'→Calls Tryz.prog 59 #[.pointer (some ⟨P,0,none⟩), .int .i64 (nx:Int)] w' fun e w2=>e= .returned (.bool (decide (nx<sp.length)))∧Below w'.heap.size w' w2):=hid (fun w' hb=>ythere_any nx w' (HJ0.out.keep hb))
  clear hj0
  by_cases hlt:nx<sp.length
  rotate_left
  ·have hR:=HRn.out
   rw[if_neg (fun e=>hlt e.1)] at hR
   obtain⟨Q,hQ⟩: ∃Q,restM txt lv k kf kt ⟨ls,st.nodes,st.total⟩=Q:=⟨_,rfl⟩
   rw[hQ] at hR
   have HRQ:Hid (Q=R):=hid hR
   have CL:Hid (∀w',YJ YP Pr2 w0 P txt sp ⟨ls,st.nodes,st.total⟩ 0 0 w'→Calls Tryz.prog 108 #[.pointer (some ⟨P,0,none⟩), .int .i64 (k:Int), .int .i64 lev, .agg #[.int .i64 kf, .int .i64 kt]] w' (YRE YP Pr2 w0 P txt sp Q)):=hid (fun w' hj=>by
    have:=yrest_any (st:=⟨ls,st.nodes,st.total⟩) k kf kt lv lev w' hj (by have:=HK1.out;have:=HNO.out.len;simp only[];omega) HW5.out hl hlv HSP.out hs hn hV
    rw[hQ] at this
    exact this)
   have CT:Hid (∀w',Below W0.heap.size W0 w'→Calls Tryz.prog 59 #[.pointer (some ⟨P,0,none⟩), .int .i64 (nx:Int)] w' fun e w2=>e= .returned (.bool false)∧Below w'.heap.size w' w2):=hid (fun w' hb=>by have:=CT0.out w' hb;rw[decide_eq_false hlt] at this;exact this)
   clear hR hQ hlt CT0
   have hfol:Tryz.prog.follows .mixedOrders=true:=by kernel_rfl
   refine wp_region_gf hfol [45,46,47,48,49,50,51,52,53,54,55,56,57,58,59,60] 75 rfl (by kernel_rfl) (by kernel_rfl) (fun iz=>match iz with | 0=> .pointer (some ⟨P,0,none⟩) | 1=> .int .i64 (nx:Int) | 2=> .bool false | 3=> .bool false | 4=>undef | 5=>undef | 6=>undef | 7=>undef | 8=>undef | 9=>undef | 10=>undef | 11=>undef | 12=>undef | 13=>undef | 14=>undef | 15=> .bool false | _=>undef) (fun w'=>Below W0.heap.size W0 w') (by rw[hW0];exact Below.refl _ _) ?_ ?_
   ·intro d a w' iq o' ho hi hall hfr hF R' hR
    have hiN:iq<16:=(Array.getElem?_eq_some_iff.1 ho).1
    have q0:a.tmps[0]?.getD undef= .pointer (some ⟨P,0,none⟩):=fr_q hfr 0 (by decide)
    have q10:a.tmps[10]?.getD undef= .pointer (some ⟨X2,0,none⟩):=fr_q hfr 10 (by decide)
    have q11:a.tmps[11]?.getD undef= .int .i64 (nx:Int):=fr_q hfr 11 (by decide)
    have hc:=hF.all [(0,45),(1,46),(2,47),(3,48),(14,59)] (by decide)
    dsimp only[AllP] at hc
    clear hfr
    have hcs:iq=2∨iq=0∨iq=1∨iq=3∨iq=15∨iq=4∨iq=5∨iq=6∨iq=7∨iq=8∨iq=9∨iq=10∨iq=11∨iq=12∨iq=13∨iq=14:=by omega
    clear hiN
    rcases hcs with rfl | rfl | rfl | rfl | rfl | rfl | rfl | rfl | rfl | rfl | rfl | rfl | rfl | rfl | rfl | rfl<;>simp only[List.getElem?_toArray,List.getElem?_cons_zero,List.getElem?_cons_succ,Option.some.injEq] at ho<;>subst ho<;>(try simp[Region.binds] at hall)
    ·have c45:=hF.g 0 45 rfl (by simp[hall])
     have c46:=hF.g 1 46 rfl (by simp[hall])
     refine gf_run (gf_none rfl) ?_
     go_simp
     go_at_call 59
     refine(CT.out _ hF.st).mono ?_
     rintro e w5 ⟨rfl,hb5⟩
     exact hR _ _ (hF.step (by decide) rfl rfl (below_of_new hF.st hb5))
    iterate 4 (refine gf_run (gf_none rfl) ?_;go_simp;exact hR _ _ (hF.step (by decide) rfl (by first | rfl | simp) hF.st))
    iterate 11 exact gf_skip (hF.off rfl rfl rfl rfl (by simp[hall]) rfl) (hR _ _ (hF.step (by decide) rfl rfl hF.st))
   intro v wz hcl hS
   have hv:=allV (l:= [45,46,47,48,49,50,51,52,53,54,55,56,57,58,59,60]) hcl (by decide)
   dsimp only[AllV] at hv
   simp only[fillT,List.setIfInBounds_toArray,List.set_cons_succ,List.set_cons_zero,hv]
   clear hcl hv
   have HJN:=hid (HJ0.out.keep hS)
   obtain⟨y0,y1⟩:=cells_span (HJN.out.at_ HX1P.out)
   go_wp2_with fail
   refine(CL.out _ (by first | exact HJN.out | exact HJN.out.keep (Below.refl _ _).drew)).mono ?_
   rintro e w7 hE
   have HE:=hid (hE.less HLess.out)
   clear hE
   cases Q with
   | bad a er=>
    obtain⟨⟨m,rfl⟩,hbad⟩:=HE.out
    have HF:=hid hbad
    clear hbad HE
    go_wp2_with fail
    go_ret2
    rw[←HRQ.out]
    exact⟨⟨_,rfl⟩,HF.out⟩
   | ok nn sq=>
    obtain⟨rfl,hj9⟩:=HE.out
    have HF:=hid hj9
    clear hj9 HE
    go_wp2_with fail
    go_ret2
    rw[←HRQ.out]
    exact⟨rfl,HF.out⟩
  ·obtain⟨hlen,hcon⟩:=HNO.out.hit hlt
   have CT:Hid (∀w',Below W0.heap.size W0 w'→Calls Tryz.prog 59 #[.pointer (some ⟨P,0,none⟩), .int .i64 (nx:Int)] w' fun e w2=>e= .returned (.bool true)∧Below w'.heap.size w' w2):=hid (fun w' hb=>by have:=CT0.out w' hb;rw[decide_eq_true hlt] at this;exact this)
   obtain⟨i2,hi2⟩: ∃i2,(lnAt ls nx).ind=i2:=⟨_,rfl⟩
   obtain⟨bb,hbb⟩: ∃bb,decide (r.ind<i2)=bb:=⟨_,rfl⟩
   obtain⟨m2,hm2⟩: ∃m2,ls.length=m2:=⟨_,rfl⟩
   obtain⟨z,sv,lvv,nv,hz,hK⟩:=HJ0.out
   have hln2:=lnAt_get (show nx<ls.length by omega)
   obtain⟨g2,cz2,e9,_,hcell⟩:=hK.lineAt hln2
   subst e9
   have HSC:Hid (∀w',Below W0.heap.size W0 w'→w'.cell? ⟨P,2,none⟩=some (.slice (some ⟨g2,0,none⟩) m2 cz2)∧w'.cell? ⟨g2,nx*10+3,none⟩=some (.int .i64 i2)∧w'.cell? ⟨X2,3,none⟩=some (.int .i64 r.ind)):=hid (fun w' hb=>by
    have hK2:=hK.keep hb
    obtain⟨⟨_,_,c2,_⟩,_⟩:=hK2.cells
    have hl3:LineBox w' X2 r:=(HJ0.out.keep hb).at_ HX2P.out
    obtain⟨_,_,_,b3,_⟩:=hl3.cells
    obtain⟨g3,cz3,e3,_,hcell3⟩:=hK2.lineAt hln2
    have e4:=(Value.slice.inj e3).1
    injection e4 with e4
    injection e4 with e4
    subst e4
    have h3:=hcell3 3 _ (by omega) rfl
    rw[hi2] at h3
    simp only[hm2] at c2
    exact⟨c2,h3,b3⟩)
   have hnx1:(nx:Int)<(m2:Int):=by omega
   have HI2:=hid (And.intro hi2 hbb)
   have HHit:=hid (And.intro hlen hcon)
   have HLT:=hid hlt
   clear hK hz hcell hln2 hm2 hi2 hlen hcon CT0 hlt
   have hfol:Tryz.prog.follows .mixedOrders=true:=by kernel_rfl
   refine wp_region_gf hfol [45,46,47,48,49,50,51,52,53,54,55,56,57,58,59,60] 75 rfl (by kernel_rfl) (by kernel_rfl) (fun iz=>match iz with | 0=> .pointer (some ⟨P,0,none⟩) | 1=> .int .i64 (nx:Int) | 2=> .bool true | 3=> .bool true | 4=> .pointer (some ⟨P,0,none⟩) | 5=> .pointer (some ⟨P,0,none⟩) | 6=> .pointer (some ⟨P,2,none⟩) | 7=> .slice (some ⟨g2,0,none⟩) m2 cz2 | 8=> .int .i64 (nx:Int) | 9=> .pointer (some ⟨g2,nx*10,none⟩) | 10=> .pointer (some ⟨g2,nx*10+3,none⟩) | 11=> .int .i64 i2 | 12=> .pointer (some ⟨X2,3,none⟩) | 13=> .int .i64 r.ind | 14=> .bool bb | 15=> .bool bb | _=>undef) (fun w'=>Below W0.heap.size W0 w') (by rw[hW0];exact Below.refl _ _) ?_ ?_
   ·intro d a w' iq o' ho hi hall hfr hF R' hR
    have hiN:iq<16:=(Array.getElem?_eq_some_iff.1 ho).1
    have q0:a.tmps[0]?.getD undef= .pointer (some ⟨P,0,none⟩):=fr_q hfr 0 (by decide)
    have q10:a.tmps[10]?.getD undef= .pointer (some ⟨X2,0,none⟩):=fr_q hfr 10 (by decide)
    have q11:a.tmps[11]?.getD undef= .int .i64 (nx:Int):=fr_q hfr 11 (by decide)
    have hc:=hF.all [(0,45),(1,46),(2,47),(3,48),(4,49),(5,50),(6,51),(7,52),(8,53),(9,54),(10,55),(11,56),(12,57),(13,58),(14,59)] (by decide)
    dsimp only[AllP] at hc
    clear hfr
    obtain⟨p2,l3,x3⟩:=HSC.out _ hF.st
    have hcs:iq=2∨iq=0∨iq=1∨iq=3∨iq=15∨iq=4∨iq=5∨iq=6∨iq=7∨iq=8∨iq=9∨iq=10∨iq=11∨iq=12∨iq=13∨iq=14:=by omega
    clear hiN
    rcases hcs with rfl | rfl | rfl | rfl | rfl | rfl | rfl | rfl | rfl | rfl | rfl | rfl | rfl | rfl | rfl | rfl<;>simp only[List.getElem?_toArray,List.getElem?_cons_zero,List.getElem?_cons_succ,Option.some.injEq] at ho<;>subst ho<;>(try simp[Region.binds] at hall)
    ·have c45:=hF.g 0 45 rfl (by simp[hall])
     have c46:=hF.g 1 46 rfl (by simp[hall])
     refine gf_run (gf_none rfl) ?_
     go_simp
     go_at_call 59
     refine(CT.out _ hF.st).mono ?_
     rintro e w5 ⟨rfl,hb5⟩
     exact hR _ _ (hF.step (by decide) rfl rfl (below_of_new hF.st hb5))
    iterate 4 (refine gf_run (gf_none rfl) ?_;go_simp;exact hR _ _ (hF.step (by decide) rfl (by first | rfl | simp) hF.st))
    iterate 11 (refine gf_run (hF.on rfl rfl rfl rfl (by simp[hall]) rfl) ?_;go_simp;exact hR _ _ (hF.step (by decide) rfl (by first | rfl | simp) hF.st))
   intro v wz hcl hS
   have hv:=allV (l:= [45,46,47,48,49,50,51,52,53,54,55,56,57,58,59,60]) hcl (by decide)
   dsimp only[AllV] at hv
   simp only[fillT,List.setIfInBounds_toArray,List.set_cons_succ,List.set_cons_zero,hv]
   clear hcl hv
   have HJN:=hid (HJ0.out.keep hS)
   obtain⟨y0,y1⟩:=cells_span (HJN.out.at_ HX1P.out)
   have hbb:=HI2.out.2
   have hR:=HRn.out
   rw[HI2.out.1] at hR
   cases bb with
   | true=>
    rw[if_pos ⟨HLT.out,of_decide_eq_true hbb⟩] at hR
    obtain⟨Q,hQ⟩: ∃Q,B nx kf kt ⟨ls,st.nodes,st.total⟩=Q:=⟨_,rfl⟩
    rw[hQ] at hR
    have HRQ:Hid (Q=R):=hid hR
    have CL:Hid (∀w',YJ YP Pr2 w0 P txt sp ⟨ls,st.nodes,st.total⟩ 0 0 w'→Calls Tryz.prog 60 #[.pointer (some ⟨P,0,none⟩), .int .i64 (nx:Int), .int .i64 lev, .agg #[.int .i64 kf, .int .i64 kt]] w' (YRE YP Pr2 w0 P txt sp Q)):=hid (fun w' hj=>by
     have:=IH Pr2 nx kf kt ⟨ls,st.nodes,st.total⟩ lev w' hj HHit.out.1.symm HW5.out hl
     rw[hQ] at this
     exact this)
    clear hR hQ hbb
    go_wp2_with fail
    refine(CL.out _ (by first | exact HJN.out | exact HJN.out.keep (Below.refl _ _).drew)).mono ?_
    rintro e w7 hE
    have HE:=hid (hE.less HLess.out)
    clear hE
    cases Q with
    | bad a er=>
     obtain⟨⟨m,rfl⟩,hbad⟩:=HE.out
     have HF:=hid hbad
     clear hbad HE
     go_wp2_with fail
     go_ret2
     rw[←HRQ.out]
     exact⟨⟨_,rfl⟩,HF.out⟩
    | ok nn sq=>
     obtain⟨rfl,hj9⟩:=HE.out
     have HF:=hid hj9
     clear hj9 HE
     go_wp2_with fail
     go_ret2
     rw[←HRQ.out]
     exact⟨rfl,HF.out⟩
   | false=>
    rw[if_neg (fun e=>of_decide_eq_false hbb e.2)] at hR
    obtain⟨Q,hQ⟩: ∃Q,restM txt lv k kf kt ⟨ls,st.nodes,st.total⟩=Q:=⟨_,rfl⟩
    rw[hQ] at hR
    have HRQ:Hid (Q=R):=hid hR
    have CL:Hid (∀w',YJ YP Pr2 w0 P txt sp ⟨ls,st.nodes,st.total⟩ 0 0 w'→Calls Tryz.prog 108 #[.pointer (some ⟨P,0,none⟩), .int .i64 (k:Int), .int .i64 lev, .agg #[.int .i64 kf, .int .i64 kt]] w' (YRE YP Pr2 w0 P txt sp Q)):=hid (fun w' hj=>by
     have:=yrest_any (st:=⟨ls,st.nodes,st.total⟩) k kf kt lv lev w' hj (by have:=HK1.out;have:=HNO.out.len;simp only[];omega) HW5.out hl hlv HSP.out hs hn hV
     rw[hQ] at this
     exact this)
    clear hR hQ hbb
    go_wp2_with fail
    refine(CL.out _ (by first | exact HJN.out | exact HJN.out.keep (Below.refl _ _).drew)).mono ?_
    rintro e w7 hE
    have HE:=hid (hE.less HLess.out)
    clear hE
    cases Q with
    | bad a er=>
     obtain⟨⟨m,rfl⟩,hbad⟩:=HE.out
     have HF:=hid hbad
     clear hbad HE
     go_wp2_with fail
     go_ret2
     rw[←HRQ.out]
     exact⟨⟨_,rfl⟩,HF.out⟩
    | ok nn sq=>
     obtain⟨rfl,hj9⟩:=HE.out
     have HF:=hid hj9
     clear hj9 HE
     go_wp2_with fail
     go_ret2
     rw[←HRQ.out]
     exact⟨rfl,HF.out⟩
end Go.Proofs.YtlibkhbachmcgaaGreatDoor
namespace Go.Proofs.YtlibkhbachmcgaaGreatDoor
set_option linter.unusedSimpArgs false
set_option linter.unusedVariables false
open Go.RowKit Go.Maps Go.WideMaps
open Go.Lib hiding intOf
theorem own_offM {w:World}{B:Nat}{e:TypeId}{s:Nat}{v:Value}{n:Nat}{xs:List Value}{b:Nat}{es:Array MapEntry}{c:Nat} (h:w.ownsRow B e s v n xs) (hb:w.heap[b]?=some (.map es c)):v.ownBlock=none∨v.ownBlock≠some b:=by
 rcases h.2 with⟨rfl,_⟩ | ⟨g,cap,cur,rfl,_,hg,_⟩
 ·exact .inl rfl
 ·right
  intro e2
  have hgg:g=b:=Option.some.inj e2
  subst hgg
  rw[hg] at hb
  cases hb
section
variable {T:TypeId}{Pr:Frm}{w0 w w':World}{P:Nat}{txt:Stp}{sp:List (Nat×Nat)}{lines:List LineR}{z:List YN}{tot:Nat}{a er:Int}{sv lv nv:Value}{st:YS}{b:Nat}
theorem YK.mapG (h:YK T Pr w0 P txt sp lines z tot a er sv lv nv w) {es:Array MapEntry}{c:Nat} (ho:w.heap[b]?=some (.map es c)) (hg:w.grownBy w' (some b)) (hb:w0.heap.size≤b) (hp:Pr b=none):YK T Pr w0 P txt sp lines z tot a er sv lv nv w':=by
 have hPb:P≠b:=fun e=>by
  have:=h.box
  rw[e,ho] at this
  cases this
 refine⟨grown_at hg h.box (fun e=>hPb (Option.some.inj e).symm),h.spr.kept hg (own_offM h.spr ho),h.lnr.kept hg (own_offM h.lnr ho),⟨h.nod.row.kept hg (own_offM h.nod.row ho),fun y hy=>(h.nod.kids y hy).kept hg (own_offM (h.nod.kids y hy) ho),h.nod.ak⟩,h.hB,h.ty,h.bel.grown hg h.bel.size (fun q hq=>by have:=Option.some.inj hq;omega),fun q o hq=>?_⟩
 obtain⟨f1,f2⟩:=h.fr q o hq
 exact⟨grown_at hg f1 (fun e=>by have e2:=Option.some.inj e;subst e2;rw[hp] at hq;cases hq),f2⟩
theorem YK.putMap (h:YK T Pr w0 P txt sp lines z tot a er sv lv nv w) {es:Array MapEntry}{c:Nat} (ho:w.heap[b]?=some (.map es c)):YK T (Pr.put b (.map es c)) w0 P txt sp lines z tot a er sv lv nv w:=by
 refine⟨h.box,h.spr,h.lnr,h.nod,h.hB,h.ty,h.bel,fun k o' hk=>?_⟩
 by_cases hkb:k=b
 ·subst hkb
  rw[Frm.put_eq] at hk
  obtain rfl:=Option.some.inj hk
  have key: ∀ {v:Value}{e:TypeId}{s n:Nat}{xs:List Value},w.ownsRow w0.heap.size e s v n xs→v.ownBlock≠some k:=fun hr e=>by
   rcases own_offM hr ho with h1 | h1
   ·rw[h1] at e;cases e
   ·exact h1 e
  refine⟨ho,fun e=>?_,key h.lnr,key h.nod.row,fun y hy=>key (h.nod.kids y hy)⟩
  have:=h.box
  rw[←e,ho] at this
  cases this
 ·rw[Frm.put_ne _ _ hkb] at hk
  exact h.fr k o' hk
theorem YJ.mapG (h:YJ T Pr w0 P txt sp st a er w) {es:Array MapEntry}{c:Nat} (ho:w.heap[b]?=some (.map es c)) (hg:w.grownBy w' (some b)) (hb:w0.heap.size≤b) (hp:Pr b=none):YJ T Pr w0 P txt sp st a er w':=by
 obtain⟨z,sv,lv,nv,h1,h2⟩:=h
 exact⟨z,sv,lv,nv,h1,h2.mapG ho hg hb hp⟩
theorem YJ.putMap (h:YJ T Pr w0 P txt sp st a er w) {es:Array MapEntry}{c:Nat} (ho:w.heap[b]?=some (.map es c)):YJ T (Pr.put b (.map es c)) w0 P txt sp st a er w:=by
 obtain⟨z,sv,lv,nv,h1,h2⟩:=h
 exact⟨z,sv,lv,nv,h1,h2.putMap ho⟩
theorem Frm.put_lessN {o:Obj} (hp:Pr b=none): ∀k o',Pr k=some o'→Pr.put b o k=some o':=fun k o' hk=>by
 rw[Frm.put_ne _ _ (fun e=>by subst e;rw[hp] at hk;cases hk)]
 exact hk
end
theorem yitem_any (w0:World) (P:Nat) (txt:Stp) (sp:List (Nat×Nat)) (V:YB) (lv:Nat) (IH:YBC 154 w0 P txt sp V lv) {Pr:Frm}{st:YS} (k:Nat) (lev:Int) (w:World) (h:YJ YP Pr w0 P txt sp st 0 0 w) (hk:k+1=st.lines.length) (hw:WfS txt sp st) (hl:Hid (lev=33-(lv:Int))):
  Calls Tryz.prog 107 #[.pointer (some ⟨P,0,none⟩), .int .i64 (k:Int), .int .i64 lev] w (YRE YP Pr w0 P txt sp (V k 0 0 st)):=by
 obtain⟨Q,hQ⟩: ∃Q,V k 0 0 st=Q:=⟨_,rfl⟩
 have C:=hid (IH Pr k 0 0 st lev w h hk hw hl)
 rw[hQ] at C ⊢
 clear hQ h hk hw
 go_enter Tryz.func107,Tryz.ntmps107
 go_wp2_with fail
 refine C.out.mono ?_
 rintro e w7 hE
 have HE:=hid hE
 clear hE
 cases Q with
 | bad a er=>
  obtain⟨⟨m,rfl⟩,hbad⟩:=HE.out
  have HF:=hid hbad
  clear hbad HE
  go_wp2_with fail
  go_ret2
  exact⟨⟨_,rfl⟩,HF.out⟩
 | ok nn sq=>
  obtain⟨rfl,hj9⟩:=HE.out
  have HF:=hid hj9
  clear hj9 HE
  go_wp2_with fail
  go_ret2
  exact⟨rfl,HF.out⟩
def OME (Pr:Frm) (w0:World) (P:Nat) (txt:Stp) (sp:List (Nat×Nat)) (b:Nat) (R:YR×List Stp) (e:Ending) (w':World):Prop:=match R.1 with
 | .ok n st=>e= .returned (.tuple #[.int .i64 (n:Int), .bool true])∧YJ YP Pr w0 P txt sp st 0 0 w'∧HM b R.2 w'
 | .bad a er=>(∃m:Int,e= .returned (.tuple #[.int .i64 m, .bool false]))∧YBad YP Pr w0 P txt sp a er w'
theorem keyRd_len (t:Stp):(keyRd t).1.length≤4*t.length:=by
 unfold keyRd
 split
 ·simp
 ·split
  ·exact textY_len3 _
  ·split
   ·simp only[];omega
   ·simp
theorem ymember_any (w0:World) (P:Nat) (txt:Stp) (sp:List (Nat×Nat)) (hs:txt.length≤65536) (hV:AVar w0) (V:YB) (lv:Nat) (IH:YBC 154 w0 P txt sp V lv) {Pr:Frm}{st:YS} (k:Nat) (lev:Int) (b CX CY:Nat) (had:List Stp) (w:World)
  (h:YJ YP Pr w0 P txt sp st 0 0 w) (hk:k+1=st.lines.length) (hw:WfS txt sp st) (hl:Hid (lev=33-(lv:Int))) (hm:HM b had w) (hB:w0.heap.size≤b) (hpb:Pr b=none) (hhad:had.length≤131072)
  (hX:Pr CX=some (.cells #[.pointer (some ⟨P,0,none⟩)] 73)) (hY:Pr CY=some (.cells #[.map (some b)] 138)):
  Calls Tryz.prog 156 #[.int .i64 (k:Int), .int .i64 lev, .pointer (some ⟨CX,0,none⟩), .pointer (some ⟨CY,0,none⟩)] w (OME Pr w0 P txt sp b (oneM txt V true had k st)):=by
 obtain⟨R,hR⟩: ∃R,oneM txt V true had k st=R:=⟨_,rfl⟩
 rw[hR]
 unfold oneM at hR
 rw[if_pos rfl] at hR
 have hkl:k<st.lines.length:=by omega
 have hln:=lnAt_get hkl
 obtain⟨r,hr⟩: ∃r,lnAt st.lines k=r:=⟨_,rfl⟩
 have hrk:=hw.ls.2 k hkl
 rw[hr] at hln hR hrk
 obtain⟨q1,q2,q3⟩:=hrk.key
 obtain⟨⟨key,ke⟩,hke⟩: ∃K,keyRd (slI txt r.kf r.kt)=K:=⟨_,rfl⟩
 rw[hke] at hR
 simp only[] at hR
 have hkeyl:key.length≤262144:=by
  have h1:=keyRd_len (slI txt r.kf r.kt)
  have h2:=slI_len txt r.kf r.kt
  rw[hke] at h1
  simp only[] at h1
  omega
 have CBy:Hid (∀w',YJ YP Pr w0 P txt sp st 0 0 w'→Calls Tryz.prog 155 #[.pointer (some ⟨P,0,none⟩), .agg #[.int .i64 r.kf, .int .i64 r.kt]] w' fun e w2=>e= .returned (.string (bs (slI txt r.kf r.kt)))∧Below w'.heap.size w' w2):=hid (fun w' hj=>ybytes_any r.kf r.kt w' hj q1 q2 q3 (by omega))
 have CKy:Hid (∀w',AVar w'→Calls Tryz.prog 64 #[.string (bs (slI txt r.kf r.kt))] w' fun e w2=>e= .returned (.tuple #[.string (bs key), .int .i64 ke])∧Below w'.heap.size w' w2):=hid (fun w' hv=>by
  have:=ykey_any (slI txt r.kf r.kt) w' (by have:=slI_len txt r.kf r.kt;omega) hv
  rw[hke] at this
  exact this)
 have hx:=cells_at1 (h.at_ hX)
 have hy:=cells_at1 (h.at_ hY)
 obtain⟨cx0,cxl⟩:=hx
 obtain⟨cy0,cyl⟩:=hy
 have HXY:=hid (And.intro hX hY)
 have HJ:=hid h
 have HM0:=hid hm
 have HR:=hid hR
 have HW:=hid hw
 have HK:=hid hk
 obtain⟨z,sv,lvv,nv,hz,hK⟩:=h
 obtain⟨gl,cl,e9,_,hcell⟩:=hK.lineAt hln
 subst e9
 have c2:=hK.cells.1.2.2.1
 have hPl:=hK.lt
 have g3:=hcell 4 _ (by omega) rfl
 have g4:=hcell 5 _ (by omega) rfl
 obtain⟨n,hn2⟩: ∃n,st.lines.length=n:=⟨_,rfl⟩
 rw[hn2] at c2
 have hk0:(0:Int)≤(k:Int):=by omega
 have hk1:(k:Int)<(n:Int):=by omega
 have b1:=below_alloc1 w (.cells #[.int .i64 r.kf, .int .i64 r.kt] 42)
 have hS1:=heap_alloc_new w (.cells #[.int .i64 r.kf, .int .i64 r.kt] 42)
 obtain⟨S,hSe⟩: ∃S,w.heap.size=S:=⟨_,rfl⟩
 obtain⟨W1,hW1⟩: ∃W,w.alloc (.cells #[.int .i64 r.kf, .int .i64 r.kt] 42)=W:=⟨_,rfl⟩
 rw[hW1] at b1 hS1
 rw[hSe] at hS1
 have HB1:=hid b1
 have HS1:=hid hS1
 have HN2:=hid hn2
 clear hK hz hcell hln hr hrk hke hR hw hk hm hX hY hn2 b1 hS1 q1 q2 q3
 go_enter Tryz.func156,Tryz.ntmps156
 go_upto_region 2 with fail
 clear hW1 hSe c2 g3 g4 cx0 cy0
 have hJ1:=HJ.out.keep HB1.out
 have HJ1:=hid hJ1
 have HM1:Hid (HM b had W1):=hid (HM0.out.same (HB1.out.block b HM0.out.lt))
 obtain⟨cx0,cxl1⟩:=cells_at1 (hJ1.at_ HXY.out.1)
 obtain⟨y0,y1⟩:=cells_span HS1.out
 clear hJ1
 go_wp2_with fail
 refine(CBy.out _ (by first | exact HJ1.out | exact HJ1.out.keep (Below.refl _ _).drew)).mono ?_
 rintro e w2 ⟨rfl,hb2⟩
 have HB2:=hid (show Below W1.heap.size W1 w2 from by first | exact hb2 | exact below_of_new (Below.refl _ _).drew hb2)
 clear hb2
 go_wp2_with fail
 refine(CKy.out _ (hV.keep (HJ1.out.keep HB2.out).bel)).mono ?_
 rintro e w3 ⟨rfl,hb3⟩
 have HB3:=hid (below_of_new HB2.out hb3)
 have HJ3:=hid (HJ1.out.keep HB3.out)
 have HM3:Hid (HM b had w3):=hid (HM1.out.same (HB3.out.block b HM1.out.lt))
 have HS3:=hid ((HB3.out.block S (cell_it HS1.out)).trans HS1.out)
 clear hb3 cx0 y0 y1 cxl cyl cxl1
 obtain⟨cx0,cxl⟩:=cells_at1 (HJ3.out.at_ HXY.out.1)
 obtain⟨cy0,cyl⟩:=cells_at1 (HJ3.out.at_ HXY.out.2)
 obtain⟨y0,y1⟩:=cells_span HS3.out
 have CF:Hid (∀er w',YJ YP Pr w0 P txt sp st 0 0 w'→Calls Tryz.prog 61 #[.pointer (some ⟨P,0,none⟩), .int .i64 r.kf, .int .i64 er] w' fun e w2=>e= .returned (.bool false)∧YJ YP Pr w0 P txt sp st r.kf er w2):=hid (fun er w' hj=>yfail_any r.kf er w' hj)
 by_cases h0:ke=0
 rotate_left
 ·have hR:=HR.out
  rw[if_pos h0] at hR
  have HR4:Hid ((YR.bad r.kf ke,had)=R):=hid hR
  have d0:(ke !=0)=true:=by simpa using h0
  clear hR h0
  go_wp2_with fail
  refine(CF.out _ _ (by first | exact HJ3.out | exact HJ3.out.keep (Below.refl _ _).drew)).mono ?_
  rintro e w8 ⟨rfl,hj8⟩
  have HF:=hid hj8.bad
  clear hj8
  go_wp2_with fail
  go_ret2
  rw[←HR4.out]
  exact⟨⟨_,rfl⟩,HF.out⟩
 subst h0
 have hR:=HR.out
 rw[if_neg (by simp)] at hR
 have hlook:=HM3.out.look key (by omega)
 by_cases hin:key∈had
 ·rw[if_pos hin] at hR
  rw[decide_eq_true hin] at hlook
  have HR4:Hid ((YR.bad r.kf 7,had)=R):=hid hR
  clear hR hin
  go_wp2_with fail
  refine(CF.out _ _ (by first | exact HJ3.out | exact HJ3.out.keep (Below.refl _ _).drew)).mono ?_
  rintro e w8 ⟨rfl,hj8⟩
  have HF:=hid hj8.bad
  clear hj8
  go_wp2_with fail
  go_ret2
  rw[←HR4.out]
  exact⟨⟨_,rfl⟩,HF.out⟩
 rw[if_neg hin] at hR
 rw[decide_eq_false hin] at hlook
 obtain⟨Q,hQ⟩: ∃Q,V k r.kf r.kt st=Q:=⟨_,rfl⟩
 rw[hQ] at hR
 have HRQ:Hid ((Q,key::had)=R):=hid hR
 have CVl:=hid (fun(Pr':Frm) w' hj=>IH Pr' k r.kf r.kt st lev w' hj HK.out HW.out hl)
 rw[hQ] at CVl
 obtain⟨es3,cm3,hobj3⟩:=HM3.out.obj
 have HO3:=hid hobj3
 have hown:w3.ownsMap Tryz.prog 9 (plainElem Tryz.prog 4) b had.length (hadD had):=HM3.out
 clear hR hin hQ hobj3
 have HKEY:Hid (keyOf Tryz.prog 9 (.string (bs key))=some (.string key)):=hid (by
  have:=keyOf_string_mk (P:=Tryz.prog) Tryz.underlying9 (s:=bs key) (by rw[bs_size];unfold maxLen;omega)
  rw[bs_data] at this
  exact this)
 have HNEXT:Hid (∀w6,w6.ownsMap Tryz.prog 9 (plainElem Tryz.prog 4) b (had.length+1) ((hadD had).put (.string key) (.lit (.bool true)))→w3.grownBy w6 (some b)→HM b (key::had) w6∧YJ YP Pr w0 P txt sp st 0 0 w6∧w6.heap[S]?=some (.cells #[.int .i64 r.kf, .int .i64 r.kt] 42)):=hid (fun w6 hown6 hg6=>⟨hown6,HJ3.out.mapG HO3.out hg6 hB hpb,grown_at hg6 HS3.out (fun e=>by
  have e2:=Option.some.inj e
  have h1:=HS3.out
  rw[←e2,HO3.out] at h1
  cases h1)⟩)
 go_wp2_with (at_mapUpdate;refine wpList_mapUpdate_own _ rfl _ _ _ 138 rfl 9 4 lawK Tryz.underlying138 _ b had.length _ rfl hown (by unfold maxLen;omega) _ _ (.string key) rfl rfl HKEY.out _ [] (plainElem_bool Tryz.underlying4 true) ?_;intro w6 hown6 hg6;obtain⟨hm6,hj6,hs6⟩:=HNEXT.out w6 hown6 hg6;have HM6:=hid hm6;have HJ6:=hid hj6;have HS6:=hid hs6;clear hown6 hg6 hm6 hj6 hs6 cx0 cxl y0 y1 cy0 cyl;obtain⟨cx0,cxl⟩:=cells_at1 (HJ6.out.at_ HXY.out.1);obtain⟨y0,y1⟩:=cells_span HS6.out)
 obtain⟨es6,cm6,hobj6⟩:=HM6.out.obj
 have HO6:=hid hobj6
 have HJ6b:=hid (HJ6.out.putMap HO6.out)
 clear hown hlook hobj6
 refine(CVl.out _ _ (by first | exact HJ6b.out | exact HJ6b.out.keep (Below.refl _ _).drew)).mono ?_
 rintro e w7 hE
 have HE:=hid hE
 clear hE
 cases Q with
 | bad a er=>
  obtain⟨⟨m,rfl⟩,hbad⟩:=HE.out
  have HF:=hid (hbad.less (Frm.put_lessN hpb))
  clear hbad HE
  go_wp2_with fail
  go_ret2
  rw[←HRQ.out]
  exact⟨⟨_,rfl⟩,HF.out⟩
 | ok nn sq=>
  obtain⟨rfl,hj9⟩:=HE.out
  have HM9:Hid (HM b (key::had) w7):=hid (HM6.out.same ((hj9.at_ (Frm.put_eq _ _ _)).trans HO6.out.symm))
  have HF:=hid (hj9.less (Frm.put_lessN hpb))
  clear hj9 HE
  go_wp2_with fail
  go_ret2
  rw[←HRQ.out]
  exact⟨rfl,HF.out,HM9.out⟩
end Go.Proofs.YtlibkhbachmcgaaGreatDoor
