import Derived.Test.YtlibkhbachmcgaaGreatDoorRe22
set_option maxRecDepth 100000
set_option maxHeartbeats 8000000
namespace Go.Proofs.YtlibkhbachmcgaaGreatDoor
set_option linter.unusedSimpArgs false
set_option linter.unusedVariables false
open Go.RowKit Go.Maps Go.WideMaps
open Go.Lib hiding intOf
theorem YK.puts {T:TypeId}{Pr Pr':Frm}{w0 w w':World}{P:Nat}{txt:Stp}{sp:List (Nat×Nat)}{lines:List LineR}{z:List YN}{tot:Nat}{a er:Int}{sv lv nv:Value} (h:YK T Pr w0 P txt sp lines z tot a er sv lv nv w) (hb:Below w.heap.size w w') (hp: ∀k o,Pr' k=some o→Pr k=some o∨(w.heap.size≤k∧w'.heap[k]?=some o)):YK T Pr' w0 P txt sp lines z tot a er sv lv nv w':=by
 have h2:=h.keep hb
 refine⟨h2.box,h2.spr,h2.lnr,h2.nod,h2.hB,h2.ty,h2.bel,fun k o' hk=>?_⟩
 rcases hp k o' hk with h3 | ⟨hX,ho⟩
 ·exact h2.fr k o' h3
 ·have hP:=cell_it h.box
  refine⟨ho,by omega,fun e=>?_,fun e=>?_,fun y hy e=>?_⟩
  ·have:=(World.ownsRow.lt h.lnr k e).2;omega
  ·have:=(World.ownsRow.lt h.nod.row k e).2;omega
  ·have:=(World.ownsRow.lt (h.nod.kids y hy) k e).2;omega
theorem YJ.puts {T:TypeId}{Pr Pr':Frm}{w0 w w':World}{P:Nat}{txt:Stp}{sp:List (Nat×Nat)}{st:YS}{a er:Int} (h:YJ T Pr w0 P txt sp st a er w) (hb:Below w.heap.size w w') (hp: ∀k o,Pr' k=some o→Pr k=some o∨(w.heap.size≤k∧w'.heap[k]?=some o)):YJ T Pr' w0 P txt sp st a er w':=by
 obtain⟨z,sv,lv,nv,h1,h2⟩:=h
 exact⟨z,sv,lv,nv,h1,h2.puts hb hp⟩
def PhQ (W0:World) (AV:Value) (O:World→Prop):Nat→Value→World→Prop
 | 0,_,w'=>Below W0.heap.size W0 w'
 | _,c,w'=>c=AV∧O w'
theorem ymemberF_any (P b:Nat) (w:World):Calls Tryz.prog 109 #[.pointer (some ⟨P,0,none⟩), .map (some b)] w fun e w'=>e= .returned (.func (.func 156) #[] #[.pointer (some ⟨w.heap.size,0,none⟩), .pointer (some ⟨w.heap.size+1,0,none⟩)])∧w'=(w.alloc (.cells #[.pointer (some ⟨P,0,none⟩)] 73)).alloc (.cells #[.map (some b)] 138):=by
 have hsz:(w.alloc (.cells #[.pointer (some ⟨P,0,none⟩)] 73)).heap.size=w.heap.size+1:=by simp
 go_enter Tryz.func109,Tryz.ntmps109
 go_wp2_with fail
 go_ret
 exact⟨rfl,rfl⟩
def HT (_:List Stp) (_:World):Prop:=True
def OneC (w0:World) (P:Nat) (txt:Stp) (sp:List (Nat×Nat)) (V:YB) (map:Bool) (Pr:Frm) (H:List Stp→World→Prop) (FV:Value) (n:Nat) (ind lev1:Int):Prop:= ∀(k:Nat) (st:YS) (had:List Stp) (w':World),YJ YP Pr w0 P txt sp st 0 0 w'→H had w'→k+1=st.lines.length→WfS txt sp st→(∃x,st.nodes[n]?=some x∧x.ind=ind∧x.kids.length+n<st.nodes.length)→had.length≤131072→
 Calls Tryz.prog 111 #[.pointer (some ⟨P,0,none⟩), .int .i64 (n:Int), .int .i64 (k:Int), .int .i64 lev1,FV] w' (OneE Pr w0 P txt sp H (ymOne txt sp V map n ind had k st))
theorem oneC_items {w0:World}{P:Nat}{txt:Stp}{sp:List (Nat×Nat)} (hsp:SpOk txt sp) (hs:txt.length≤65536) (hns:sp.length≤131072) (hV:AVar w0) {V:YB} (hVG:VGood txt sp V) {m:Nat} (IH:YBC 154 w0 P txt sp V m) (Pr:Frm) (n:Nat) (ind lev1:Int) (hl:Hid (lev1=33-(m:Int))):
  OneC w0 P txt sp V false Pr HT (.func (.func 107) #[.pointer (some ⟨P,0,none⟩)] #[]) n ind lev1:=by
 intro k st had w' hj _ hk hw ⟨x,hx,hxi,hxk⟩ hh
 have ht:=hw.tot
 refine yone_items w0 P txt sp hsp hs hns hV V hVG HT n k ind lev1 had w' hk hw hx hxi (oneM_kids hVG hw hk hx (by omega)) hj.lt ?_
 exact(yitem_any w0 P txt sp V m IH k lev1 w' hj hk hw hl).mono (fun e w2 hE=>YRE.toX hE)
theorem oneC_members {w0:World}{P:Nat}{txt:Stp}{sp:List (Nat×Nat)} (hsp:SpOk txt sp) (hs:txt.length≤65536) (hns:sp.length≤131072) (hV:AVar w0) {V:YB} (hVG:VGood txt sp V) {m:Nat} (IH:YBC 154 w0 P txt sp V m) (Pr:Frm) (n:Nat) (ind lev1:Int) (hl:Hid (lev1=33-(m:Int))) {b CX CY:Nat} (hB:w0.heap.size≤b) (hpb:Pr b=none)
  (hX:Pr CX=some (.cells #[.pointer (some ⟨P,0,none⟩)] 73)) (hY:Pr CY=some (.cells #[.map (some b)] 138)):
  OneC w0 P txt sp V true Pr (HM b) (.func (.func 156) #[] #[.pointer (some ⟨CX,0,none⟩), .pointer (some ⟨CY,0,none⟩)]) n ind lev1:=by
 intro k st had w' hj hm hk hw ⟨x,hx,hxi,hxk⟩ hh
 have ht:=hw.tot
 refine yone_members w0 P txt sp hsp hs hns hV V hVG (HM b) n k ind lev1 had CX CY w' hk hw hx hxi (oneM_kids hVG hw hk hx (by omega)) hj.lt ?_
 exact(ymember_any w0 P txt sp hs hV V m IH k lev1 b CX CY had w' hj hk hw hl hm hB hpb hh hX hY).mono (fun e w2 hE=>OME.toX hpb hE)
def LpI (w0:World) (P:Nat) (txt:Stp) (sp:List (Nat×Nat)) (V:YB) (map:Bool) (Pr:Frm) (H:List Stp→World→Prop) (n:Nat) (ind kind:Int) (R:YR) (b:Bool) (k:Nat) (wr:World):Prop:=match b with
 | true=> ∃f had st,ymLoop txt sp V map n ind kind f had k st=R∧YJ YP Pr w0 P txt sp st 0 0 wr∧H had wr∧WfS txt sp st∧(k<sp.length→k+1=st.lines.length)∧k≤sp.length∧sp.length≤k+f∧(∃x,st.nodes[n]?=some x∧x.ind=ind∧x.kids.length+n<st.nodes.length)∧had.length≤k
 | false=> ∃a e,R= .bad a e∧YBad YP Pr w0 P txt sp a e wr
def ltM (n:Nat) (s1 s14:Value):Nat:=match s14 with
 | .bool true=>1+(n+1-(RowKit.intOf s1).toNat)
 | _=>0
theorem set0_box {w:World}{X:Nat}{a0 a1 a2 a3 a4 a5 a6 a7 a8 b0:Value}{t:TypeId} (h:w.heap[X]?=some (.cells #[a0,a1,a2,a3,a4,a5,a6,a7,a8] t)):(w.setCell ⟨X,0,none⟩ b0).heap[X]?=some (.cells #[b0,a1,a2,a3,a4,a5,a6,a7,a8] t):=by
 simp[World.setCell,Array.getElem?_modify,h]
theorem yblock_at (w0:World) (P:Nat) (txt:Stp) (sp:List (Nat×Nat)) (hsp0:SpOk txt sp) (hs:txt.length≤65536) (hn:sp.length≤131072) (hV:AVar w0) (lv:Nat) (hlv:lv≤32) (V:YB) (hVG:lv≠0→VGood txt sp V) (IH: ∀m,lv=m+1→YBC 154 w0 P txt sp V m) (Pr:Frm) (k:Nat) (kf kt:Int) (st:YS) (lev:Int) (w:World) (h:YJ YP Pr w0 P txt sp st 0 0 w) (hk1l:k+1=st.lines.length) (hw:WfS txt sp st) (hl:Hid (lev=33-(lv:Int))):
 Calls Tryz.prog 60 #[.pointer (some ⟨P,0,none⟩), .int .i64 (k:Int), .int .i64 lev, .agg #[.int .i64 kf, .int .i64 kt]] w (YRE YP Pr w0 P txt sp (ymBlockS txt sp V lv k kf kt st)):=by
 have hsp:=hsp0
 have hkl:k<st.lines.length:=by omega
 obtain⟨R,hR⟩: ∃R,ymBlockS txt sp V lv k kf kt st=R:=⟨_,rfl⟩
 rw[hR]
 unfold ymBlockS at hR
 have hln:=lnAt_get hkl
 obtain⟨r,hr⟩: ∃r,lnAt st.lines k=r:=⟨_,rfl⟩
 rw[hr] at hln hR
 have hll:=hw.ls.1
 have hnt:=hw.tot
 have hrk:=hw.ls.2 k hkl
 rw[hr] at hrk
 obtain⟨n,hn2⟩: ∃n,st.lines.length=n:=⟨_,rfl⟩
 have b1:=below_alloc1 w (.cells #[.int .i64 kf, .int .i64 kt] 42)
 have hX1:=heap_alloc_new w (.cells #[.int .i64 kf, .int .i64 kt] 42)
 have hp1:=h.put b1 (Nat.le_refl _) hX1
 have hl1: ∀q o,Pr q=some o→(Pr.put w.heap.size (.cells #[.int .i64 kf, .int .i64 kt] 42)) q=some o:=Frm.put_less (fun q o hq=>h.frLt q o hq) (Nat.le_refl _)
 obtain⟨X1,hX1e⟩: ∃X,w.heap.size=X:=⟨_,rfl⟩
 obtain⟨W1,hW1⟩: ∃W,w.alloc (.cells #[.int .i64 kf, .int .i64 kt] 42)=W:=⟨_,rfl⟩
 rw[hW1] at hX1 hp1
 rw[hX1e] at hX1 hp1 hl1
 have b2:=below_alloc1 W1 (.cells (lineA r) 51)
 have hX2:=heap_alloc_new W1 (.cells (lineA r) 51)
 have hp2:=hp1.put b2 (Nat.le_refl _) hX2
 have hl2: ∀q o,(Pr.put X1 (.cells #[.int .i64 kf, .int .i64 kt] 42)) q=some o→((Pr.put X1 (.cells #[.int .i64 kf, .int .i64 kt] 42)).put W1.heap.size (.cells (lineA r) 51)) q=some o:=Frm.put_less (fun q o hq=>hp1.frLt q o hq) (Nat.le_refl _)
 have hX1':(W1.alloc (.cells (lineA r) 51)).heap[X1]?=some (.cells #[.int .i64 kf, .int .i64 kt] 42):=(b2.block _ (cell_it hX1)).trans hX1
 obtain⟨z,sv,lvv,nv,hz,hK⟩:=hp1
 obtain⟨gl,cl,e9,_,hcell⟩:=hK.lineAt hln
 subst e9
 obtain⟨⟨_,_,c2,_⟩,_⟩:=hK.cells
 have hPl:=hK.lt
 have g0:=hcell 0 _ (by omega) rfl
 have g1:=hcell 1 _ (by omega) rfl
 have g2:=hcell 2 _ (by omega) rfl
 have g3:=hcell 3 _ (by omega) rfl
 have g4:=hcell 4 _ (by omega) rfl
 have g5:=hcell 5 _ (by omega) rfl
 have g6:=hcell 6 _ (by omega) rfl
 have g7:=hcell 7 _ (by omega) rfl
 have g8:=hcell 8 _ (by omega) rfl
 have g9:=hcell 9 _ (by omega) rfl
 simp only[Nat.add_zero] at g0
 rw[hn2] at c2
 have hk0:(0:Int)≤(k:Int):=by omega
 have hk1:(k:Int)<(n:Int):=by omega
 obtain⟨X2,hX2f⟩: ∃X,W1.heap.size=X:=⟨_,rfl⟩
 obtain⟨W2,hW2⟩: ∃W,W1.alloc (.cells (lineA r) 51)=W:=⟨_,rfl⟩
 rw[hW2] at hp2 hX2 hX1'
 rw[hX2f] at hp2 hX2 hl2
 unfold lineA at hW2
 simp only[] at hR
 have HP2:=hid hp2
 have HX12:=hid (And.intro hX1' hX2)
 have HLess:=hid (fun q o hq=>hl2 q o (hl1 q o hq))
 have HR:=hid hR
 have HW:=hid hw
 have HSP:=hid hsp
 have HK:=hid (And.intro hr hln)
 have HN2:=hid hn2
 clear hK hz hcell hp2 hX1 hX1' hX2 b1 b2 hl1 hl2 hR hw hsp hln hr h
 obtain⟨Pr2,hPr2⟩: ∃Pr2:Frm,((Pr.put X1 (.cells #[.int .i64 kf, .int .i64 kt] 42)).put X2 (.cells (lineA r) 51))=Pr2:=⟨_,rfl⟩
 have HX2P:=hid (Frm.put_eq (Pr.put X1 (.cells #[.int .i64 kf, .int .i64 kt] 42)) X2 (.cells (lineA r) 51))
 rw[hPr2] at HX2P HP2 HLess
 obtain⟨y0,y1⟩:=cells_span HX12.out.1
 have hlz2:LineBox W2 X2 r:=HX12.out.2
 obtain⟨l0,l1,l2,l3,l4,l5,l6,l7,l8,l9,_⟩:=hlz2.cells
 have hksp:k<sp.length:=by have:=HW.out.ls.1;omega
 have HKL:=hid hkl
 have HK1:=hid hk1l
 have HX1P:Hid (Pr2 X1=some (.cells #[.int .i64 kf, .int .i64 kt] 42)):=hid (by
  rw[←hPr2,Frm.put_ne _ _ (show X1≠X2 by have:=cell_it HX12.out.1;have h2:=cell_it HX12.out.2;intro e;have e1:=HX12.out.1;rw[e,HX12.out.2] at e1;injection e1 with e1;injection e1 with _ e1;exact absurd e1 (by decide))]
  exact Frm.put_eq _ _ _)
 clear hPr2 hlz2
 obtain⟨X3,hX3e⟩: ∃X,W2.heap.size=X:=⟨_,rfl⟩
 have b3:=below_alloc1 W2 (.cells #[.int .i64 2, .int .i64 r.ind, .int .i64 (k:Int), .int .i64 0, .int .i64 kf, .int .i64 kt, .int .i64 0, .int .i64 0, .slice none 0 0] 45)
 have hX3:=heap_alloc_new W2 (.cells #[.int .i64 2, .int .i64 r.ind, .int .i64 (k:Int), .int .i64 0, .int .i64 kf, .int .i64 kt, .int .i64 0, .int .i64 0, .slice none 0 0] 45)
 obtain⟨W3,hW3⟩: ∃W,W2.alloc (.cells #[.int .i64 2, .int .i64 r.ind, .int .i64 (k:Int), .int .i64 0, .int .i64 kf, .int .i64 kt, .int .i64 0, .int .i64 0, .slice none 0 0] 45)=W:=⟨_,rfl⟩
 rw[hW3] at b3 hX3
 rw[hX3e] at hX3
 have HPw:=hid (HP2.out.keep b3)
 have hlz3:LineBox W3 X2 r:=HPw.out.at_ HX2P.out
 obtain⟨m0,m1,m2,m3,m4,m5,m6,m7,m8,m9,_⟩:=hlz3.cells
 obtain⟨z0,z1⟩:=cells_span (HPw.out.at_ HX1P.out)
 have HB3:=hid b3
 have HX3:=hid hX3
 have HX3e:=hid hX3e
 clear b3 hX3 hlz3
 go_enter Tryz.func60,Tryz.ntmps60
 go_upto_region 2 with fail
 clear hW1 hX1e hW2 hX2f c2 g0 g1 g2 g3 g4 g5 g6 g7 g8 g9 hPl
 have HW3:=hid hW3
 clear hW3
 go_upto_region 3 with fail
 rw[HW3.out]
 go_upto_region 4 with fail
 clear hX3e l0 l1 l2 l3 l4 l5 l6 l7 l8 l9 y0 y1
 go_upto_block 0 with fail
 go_cut [31,32,40,41,42,43,44,45,12] (fun s31 s32 s40 s41 s42 s43 s44 s45 s12 wx=> ∃(map:Bool) (H:List Stp→World→Prop) (kd:Nat) (Pr3 PrB:Frm),Hid (YJ YP PrB w0 P txt sp st 0 0 wx)∧Hid (∀q o,Pr q=some o→Pr3 q=some o)∧Hid (∀q o,Pr3 q=some o→PrB q=some o)∧Hid (Pr3 X2=some (.cells (lineA r) 51))∧Hid (Pr3 X3=some (.cells #[.int .i64 (kd:Int), .int .i64 r.ind, .int .i64 (k:Int), .int .i64 0, .int .i64 kf, .int .i64 kt, .int .i64 0, .int .i64 0, .slice none 0 0] 45))∧Hid (∀m,lv=m+1→ ∀n,OneC w0 P txt sp V map Pr3 H s12 n r.ind (lev+1))∧Hid (∀(st2:YS) (a er:Int) (w2:World),YJ YP PrB w0 P txt sp st2 a er w2→H [] w2)∧Hid (∀(had:List Stp) (w w':World),H had w→Below w.heap.size w w'→H had w')∧Hid ((match addM ⟨kd,r.ind,k,0,kf,kt,0,0,[]⟩ lv (beginsM sp st k) st with | .bad a e=>YR.bad a e | .ok n s1=>ymLoop txt sp V map n r.ind r.kind (sp.length-k) [] k s1)=R))
 case first=>
  have b3:=HB3.out
  have hX3:=HX3.out
  have hX3e:=HX3e.out
  by_cases h5:r.kind=5
  ·have d5:(r.kind==5)=true:=by rw[h5];rfl
   have hR:=HR.out
   rw[if_pos h5] at hR
   obtain⟨Q,hQ⟩: ∃Q,restM txt lv k kf kt st=Q:=⟨_,rfl⟩
   rw[hQ] at hR
   have HRQ:Hid (Q=R):=hid hR
   have CL:Hid (∀w',YJ YP Pr2 w0 P txt sp st 0 0 w'→Calls Tryz.prog 108 #[.pointer (some ⟨P,0,none⟩), .int .i64 (k:Int), .int .i64 lev, .agg #[.int .i64 kf, .int .i64 kt]] w' (YRE YP Pr2 w0 P txt sp Q)):=hid (fun w' hj=>by
    have:=yrest_any k kf kt lv lev w' hj HKL.out HW.out hl hlv HSP.out hs hn hV
    rw[hQ] at this
    exact this)
   clear hR hQ h5 b3 hX3 hX3e
   go_wp2_with fail
   refine(CL.out _ (by first | exact HPw.out | exact HPw.out.keep (Below.refl _ _).drew)).mono ?_
   rintro e w7 hE
   have HE:=hid (hE.less HLess.out)
   clear hE
   cases Q with
   | bad a er=>
    obtain⟨⟨m,rfl⟩,hbad⟩:=HE.out
    have HF:=hid hbad
    clear hbad HE
    go_wp2_with fail
    go_ret2
    rw[←HRQ.out]
    exact⟨⟨_,rfl⟩,HF.out⟩
   | ok nn sq=>
    obtain⟨rfl,hj9⟩:=HE.out
    have HF:=hid hj9
    clear hj9 HE
    go_wp2_with fail
    go_ret2
    rw[←HRQ.out]
    exact⟨rfl,HF.out⟩
  ·have d5:(r.kind==5)=false:=beq_eq_false_iff_ne.2 h5
   by_cases hkd:r.kind=4
   ·have d4:(r.kind==4)=true:=by rw[hkd];rfl
    obtain⟨B,hBe⟩: ∃B,W3.heap.size=B:=⟨_,rfl⟩
    have b4:=below_alloc1 W3 (.map #[] 0)
    have hm4:HM B [] (W3.alloc (.map #[] 0)):=by rw[←hBe];exact World.ownsMap_made W3 _ _ _
    obtain⟨W4,hW4⟩: ∃W,W3.alloc (.map #[] 0)=W:=⟨_,rfl⟩
    have hB4:B<W4.heap.size:=by rw[←hW4,←hBe];simp
    rw[hW4] at b4 hm4
    obtain⟨CX,hCXe⟩: ∃X,W4.heap.size=X:=⟨_,rfl⟩
    have b5:=below_alloc1 W4 (.cells #[.pointer (some ⟨P,0,none⟩)] 73)
    have hX5:=heap_alloc_new W4 (.cells #[.pointer (some ⟨P,0,none⟩)] 73)
    have hs5:(W4.alloc (.cells #[.pointer (some ⟨P,0,none⟩)] 73)).heap.size=W4.heap.size+1:=by simp
    obtain⟨W5,hW5⟩: ∃W,W4.alloc (.cells #[.pointer (some ⟨P,0,none⟩)] 73)=W:=⟨_,rfl⟩
    rw[hW5] at b5 hX5 hs5
    have b6:=below_alloc1 W5 (.cells #[.map (some B)] 138)
    have hX6:=heap_alloc_new W5 (.cells #[.map (some B)] 138)
    obtain⟨W6,hW6⟩: ∃W,W5.alloc (.cells #[.map (some B)] 138)=W:=⟨_,rfl⟩
    rw[hW6] at b6 hX6
    rw[hs5,hCXe] at hX6
    rw[hCXe] at hX5
    have CM:=hid (ymemberF_any P B W4)
    rw[hW5,hW6,hCXe] at CM
    have b46:=below_of_new b5 b6
    have b26:=below_of_new (below_of_new b3 b4) b46
    have hX3l:X3<W3.heap.size:=cell_it hX3
    have hx36:W6.heap[X3]?=some (.cells #[.int .i64 2, .int .i64 r.ind, .int .i64 (k:Int), .int .i64 0, .int .i64 kf, .int .i64 kt, .int .i64 0, .int .i64 0, .slice none 0 0] 45):=(b46.block _ (by have:=b4.size;omega)).trans ((b4.block _ hX3l).trans hX3)
    have hm6:HM B [] W6:=hm4.same (b46.block B hB4)
    obtain⟨W7,hW7⟩: ∃W,W6.setCell ⟨X3,0,none⟩ (.int .i64 3)=W:=⟨_,rfl⟩
    have b27:Below W2.heap.size W2 W7:=by rw[←hW7];exact b26.setCell (show W2.heap.size≤X3 by omega) _
    have hoff: ∀q,q≠X3→W7.heap[q]?=W6.heap[q]?:=fun q hq=>by rw[←hW7];exact Below.heap_setCell W6 ⟨X3,0,none⟩ _ q hq
    have hx37:W7.heap[X3]?=some (.cells #[.int .i64 3, .int .i64 r.ind, .int .i64 (k:Int), .int .i64 0, .int .i64 kf, .int .i64 kt, .int .i64 0, .int .i64 0, .slice none 0 0] 45):=by rw[←hW7];exact set0_box hx36
    have hBX:B≠X3:=by omega
    have hCX3:CX≠X3:=by have:=b4.size;omega
    have hCY3:CX+1≠X3:=by have:=b4.size;omega
    have hCXB:CX≠B:=by omega
    have hCYB:CX+1≠B:=by omega
    have hX57:W7.heap[CX]?=some (.cells #[.pointer (some ⟨P,0,none⟩)] 73):=(hoff _ hCX3).trans ((b6.block _ (cell_it hX5)).trans hX5)
    have hX67:W7.heap[CX+1]?=some (.cells #[.map (some B)] 138):=(hoff _ hCY3).trans hX6
    have hm7:HM B [] W7:=hm6.same (hoff B hBX)
    obtain⟨es7,cm7,hobj7⟩:=hm7.obj
    obtain⟨Pr3,hPr3⟩: ∃Pr3:Frm,((Pr2.put X3 (.cells #[.int .i64 3, .int .i64 r.ind, .int .i64 (k:Int), .int .i64 0, .int .i64 kf, .int .i64 kt, .int .i64 0, .int .i64 0, .slice none 0 0] 45)).put CX (.cells #[.pointer (some ⟨P,0,none⟩)] 73)).put (CX+1) (.cells #[.map (some B)] 138)=Pr3:=⟨_,rfl⟩
    have hb34:=b3.size
    have hb45:=b4.size
    have hpu: ∀q o,Pr3 q=some o→Pr2 q=some o∨(W2.heap.size≤q∧W7.heap[q]?=some o):=fun q o hq=>by
     rw[←hPr3] at hq
     by_cases h1:q=CX+1
     ·subst h1
      rw[Frm.put_eq] at hq
      rw[←Option.some.inj hq]
      exact .inr ⟨by omega,hX67⟩
     ·rw[Frm.put_ne _ _ h1] at hq
      by_cases h2:q=CX
      ·subst h2
       rw[Frm.put_eq] at hq
       rw[←Option.some.inj hq]
       exact .inr ⟨by omega,hX57⟩
      ·rw[Frm.put_ne _ _ h2] at hq
       by_cases h3:q=X3
       ·subst h3
        rw[Frm.put_eq] at hq
        rw[←Option.some.inj hq]
        exact .inr ⟨by omega,hx37⟩
       ·rw[Frm.put_ne _ _ h3] at hq
        exact .inl hq
    have hp3:=HP2.out.puts b27 hpu
    have hx23: ∀q o,Pr2 q=some o→Pr3 q=some o:=fun q o hq=>by
     have:=HP2.out.frLt q o hq
     rw[←hPr3,Frm.put_ne _ _ (show q≠CX+1 by omega),Frm.put_ne _ _ (show q≠CX by omega),Frm.put_ne _ _ (show q≠X3 by omega)]
     exact hq
    have HLess3:=hid (fun q o hq=>hx23 q o (HLess.out q o hq))
    have HX2Q:=hid (hx23 _ _ HX2P.out)
    have HX3P:Hid (Pr3 X3=some (.cells #[.int .i64 3, .int .i64 r.ind, .int .i64 (k:Int), .int .i64 0, .int .i64 kf, .int .i64 kt, .int .i64 0, .int .i64 0, .slice none 0 0] 45)):=hid (by rw[←hPr3,Frm.put_ne _ _ (Ne.symm hCY3),Frm.put_ne _ _ (Ne.symm hCX3)];exact Frm.put_eq _ _ _)
    have hpc:Pr3 CX=some (.cells #[.pointer (some ⟨P,0,none⟩)] 73):=by rw[←hPr3,Frm.put_ne _ _ (by omega)];exact Frm.put_eq _ _ _
    have hpc1:Pr3 (CX+1)=some (.cells #[.map (some B)] 138):=by rw[←hPr3];exact Frm.put_eq _ _ _
    have hpB:Pr3 B=none:=by
     rw[←hPr3,Frm.put_ne _ _ (Ne.symm hCYB),Frm.put_ne _ _ (Ne.symm hCXB),Frm.put_ne _ _ hBX]
     cases hq:Pr2 B with
     | none=>rfl
     | some o=>have:=HP2.out.frLt _ _ hq;omega
    have hBw:w0.heap.size≤B:=by have:=HP2.out.bel.size;omega
    have HP3:=hid hp3
    have HCO:Hid (∀m,lv=m+1→ ∀n,OneC w0 P txt sp V true Pr3 (HM B) (.func (.func 156) #[] #[.pointer (some ⟨CX,0,none⟩), .pointer (some ⟨CX+1,0,none⟩)]) n r.ind (lev+1)):=hid (fun m hm n=>oneC_members HSP.out hs hn hV (hVG (by omega)) (IH m hm) Pr3 n r.ind (lev+1) (hid (by have:=hl.out;omega)) hBw hpB hpc hpc1)
    have HM7:=hid hm7
    have HPB:=hid hpB
    have HO7:=hid hobj7
    have hx0:W6.cell? ⟨X3,0,none⟩=some (.int .i64 2)∧W6.frozen? ⟨X3,0,none⟩=false:=by
     obtain⟨q0,_,_,_,_,_,_,_,_,f0,_⟩:=box9f hx36
     exact⟨q0,f0⟩
    obtain⟨hx0c,hx0f⟩:=hx0
    have hR:=HR.out
    rw[if_neg h5,if_pos hkd,decide_eq_true hkd] at hR
    have HR1:=hid hR
    have hmm:= @run_makeMap Tryz.prog
    have HPB0:=hid (hp3.putMap (b:=B) (es:=es7) (c:=cm7) hobj7)
    have HLB0:=hid (Frm.put_lessN (o:= .map es7 cm7) hpB)
    have HHB0:Hid (∀(st2:YS) (a er:Int) (w2:World),YJ YP (Pr3.put B (.map es7 cm7)) w0 P txt sp st2 a er w2→HM B [] w2):=hid (fun st2 a er w2 hj=>HM7.out.same ((hj.at_ (Frm.put_eq _ _ _)).trans HO7.out.symm))
    clear hkd h5 hR hX3 b3 b4 b5 b6 b46 b26 b27 hp3 hPr3 hm4 hm6 hm7 hobj7 hX5 hX6 hX57 hX67 hx36 hx37 hpu hx23 hpc hpc1 hpB hoff hBX hCX3 hCY3 hCXB hCYB hX3l hb34 hb45 hs5 hX3e
    go_wp2_with fail
    refine CM.out.mono ?_
    rintro e w5 ⟨rfl,rfl⟩
    go_wp2_with fail
    go_meet
    exact⟨true,HM B,3,Pr3,Pr3.put B (.map es7 cm7),HPB0,HLess3,HLB0,HX2Q,HX3P,HCO,HHB0,hid (fun had w w' h hb=>h.same (hb.block B h.lt)),HR1⟩
   ·have d4:(r.kind==4)=false:=beq_eq_false_iff_ne.2 hkd
    have hp3:=HP2.out.put b3 (show W2.heap.size≤X3 by omega) hX3
    have HLess3:=hid (fun q o hq=>Frm.put_less (Pr:=Pr2) (X:=X3) (o:= .cells #[.int .i64 2, .int .i64 r.ind, .int .i64 (k:Int), .int .i64 0, .int .i64 kf, .int .i64 kt, .int .i64 0, .int .i64 0, .slice none 0 0] 45) (fun q o' hq=>HP2.out.frLt q o' hq) (show W2.heap.size≤X3 by omega) q o (HLess.out q o hq))
    have HX23:=hid (fun q o hq=>Frm.put_less (Pr:=Pr2) (X:=X3) (o:= .cells #[.int .i64 2, .int .i64 r.ind, .int .i64 (k:Int), .int .i64 0, .int .i64 kf, .int .i64 kt, .int .i64 0, .int .i64 0, .slice none 0 0] 45) (fun q o' hq=>HP2.out.frLt q o' hq) (show W2.heap.size≤X3 by omega) q o hq)
    obtain⟨Pr3,hPr3⟩: ∃Pr3:Frm,Pr2.put X3 (.cells #[.int .i64 2, .int .i64 r.ind, .int .i64 (k:Int), .int .i64 0, .int .i64 kf, .int .i64 kt, .int .i64 0, .int .i64 0, .slice none 0 0] 45)=Pr3:=⟨_,rfl⟩
    have HX3P:=hid (Frm.put_eq Pr2 X3 (.cells #[.int .i64 2, .int .i64 r.ind, .int .i64 (k:Int), .int .i64 0, .int .i64 kf, .int .i64 kt, .int .i64 0, .int .i64 0, .slice none 0 0] 45))
    rw[hPr3] at hp3 HLess3 HX3P HX23
    have HX2Q:=hid (HX23.out _ _ HX2P.out)
    have HP3:=hid hp3
    have HCO:Hid (∀m,lv=m+1→ ∀n,OneC w0 P txt sp V false Pr3 HT (.func (.func 107) #[.pointer (some ⟨P,0,none⟩)] #[]) n r.ind (lev+1)):=hid (fun m hm n=>oneC_items HSP.out hs hn hV (hVG (by omega)) (IH m hm) Pr3 n r.ind (lev+1) (hid (by have:=hl.out;omega)))
    have HH0:Hid (∀w':World,YJ YP Pr3 w0 P txt sp st 0 0 w'→ ∀st2 a er w2,YJ YP Pr3 w0 P txt sp st2 a er w2→HT [] w2):=hid (fun _ _ _ _ _ _ _=>trivial)
    have hR:=HR.out
    rw[if_neg h5,if_neg hkd,decide_eq_false hkd] at hR
    have HR1:=hid hR
    clear hkd h5 hR hX3 b3 hp3 hPr3 hX3e
    go_wp2_with fail
    go_meet
    exact⟨false,HT,2,Pr3,Pr3,HP3,HLess3,hid (fun q o hq=>hq),HX2Q,HX3P,HCO,hid (fun _ _ _ _ _=>trivial),hid (fun _ _ _ _ _=>trivial),HR1⟩
 case rest=>
  obtain⟨map,H,kd,Pr3,PrB,HJc,HLess3,HLB,HX2Q,HX3P,HCO,HHB,HHK,HR1⟩:=hcut
  go_upto_region 9 with fail
  obtain⟨W9,hW9⟩: ∃W,wc.drew=W:=⟨_,rfl⟩
  have hj9:=HJc.out.keep (Below.refl _ wc).drew
  rw[hW9] at hj9
  have HJ9:=hid hj9
  obtain⟨bg,hbg⟩: ∃bg,beginsM sp st k=bg:=⟨_,rfl⟩
  have CB:Hid (∀w',YJ YP PrB w0 P txt sp st 0 0 w'→Calls Tryz.prog 62 #[.pointer (some ⟨P,0,none⟩), .int .i64 (k:Int)] w' fun e w2=>e= .returned (.int .i64 bg)∧Below w'.heap.size w' w2):=hid (fun w' hj=>by
   have:=ybegins_any (Pr:=PrB) k w' hj hksp HKL.out (HW.out.ls.2 k HKL.out) hs
   rw[←hbg]
   exact this)
  have hR1:=HR1.out
  rw[hbg] at hR1
  obtain⟨A,hA⟩: ∃A,addM ⟨kd,r.ind,k,0,kf,kt,0,0,[]⟩ lv bg st=A:=⟨_,rfl⟩
  rw[hA] at hR1
  have CA0:Hid (∀w',YJ YP PrB w0 P txt sp st 0 0 w'→Calls Tryz.prog 110 #[.pointer (some ⟨P,0,none⟩), .agg #[.int .i64 (kd:Int), .int .i64 r.ind, .int .i64 (k:Int), .int .i64 0, .int .i64 kf, .int .i64 kt, .int .i64 0, .int .i64 0, .slice none 0 0], .int .i64 lev, .int .i64 bg] w' (YRE0 YP PrB w0 P txt sp A)):=hid (fun w' hj=>by
   have:=yadd_in (Pr:=PrB) ⟨kd,r.ind,k,0,kf,kt,0,0,[]⟩ lv lev bg w' hj rfl hl hlv (by have:=HW.out.tot;omega)
   rw[hA] at this
   exact this)
  obtain⟨SA,hSA⟩: ∃S:World→Prop,(fun w'=>w'.cell? ⟨X3,0,none⟩=some (.int .i64 (kd:Int))∧w'.cell? ⟨X3,1,none⟩=some (.int .i64 r.ind)∧w'.cell? ⟨X3,2,none⟩=some (.int .i64 (k:Int))∧w'.cell? ⟨X3,3,none⟩=some (.int .i64 0)∧w'.cell? ⟨X3,4,none⟩=some (.int .i64 kf)∧w'.cell? ⟨X3,5,none⟩=some (.int .i64 kt)∧w'.cell? ⟨X3,6,none⟩=some (.int .i64 0)∧w'.cell? ⟨X3,7,none⟩=some (.int .i64 0)∧w'.cell? ⟨X3,8,none⟩=some (.slice none 0 0))=S:=⟨_,rfl⟩
  have HSA:Hid (∀w',Below W9.heap.size W9 w'→SA w'):=hid (fun w' hb=>by
   rw[←hSA]
   exact box9 ((HJ9.out.keep hb).at_ (HLB.out _ _ HX3P.out)))
  have HA:=hid hA
  have HR2:=hid hR1
  clear hR1 hA hbg hj9
  cases A with
  | bad a e=>
   have HRb:Hid (YR.bad a e=R):=hid HR2.out
   obtain⟨OUT,hOUT⟩: ∃O:World→Prop,(fun w'=>YBad YP PrB w0 P txt sp a e w')=O:=⟨_,rfl⟩
   have CA:Hid (∀w',YJ YP PrB w0 P txt sp st 0 0 w'→Calls Tryz.prog 110 #[.pointer (some ⟨P,0,none⟩), .agg #[.int .i64 (kd:Int), .int .i64 r.ind, .int .i64 (k:Int), .int .i64 0, .int .i64 kf, .int .i64 kt, .int .i64 0, .int .i64 0, .slice none 0 0], .int .i64 lev, .int .i64 bg] w' fun e w2=>e= .returned (.tuple #[.int .i64 0, .bool false])∧OUT w2):=hid (fun w' hj=>by rw[←hOUT];exact CA0.out w' hj)
   clear CA0
   have hfol:Tryz.prog.follows .mixedOrders=true:=by kernel_rfl
   refine wp_region_rcf3 hfol [some 47,some 48,some 49,some 50,some 51,some 52,some 53,some 46,some 54,some 55,some 13,some 14] [47,48,49,50,51,52,53,46,54,55,13,14] [6] 1000000 (fun _ _=>True) 100 rfl (by kernel_rfl) (by kernel_rfl) (by kernel_rfl) (fun iz=>match iz with | 0=> .pointer (some ⟨P,0,none⟩) | 1=> .agg #[.int .i64 (kd:Int), .int .i64 r.ind, .int .i64 (k:Int), .int .i64 0, .int .i64 kf, .int .i64 kt, .int .i64 0, .int .i64 0, .slice none 0 0] | 2=> .int .i64 lev | 3=> .pointer (some ⟨P,0,none⟩) | 4=> .int .i64 (k:Int) | 5=> .int .i64 bg | 7=> .tuple #[.int .i64 0, .bool false] | 8=> .int .i64 0 | 9=> .bool false | 10=> .int .i64 0 | 11=> .bool false | _=>undef) SA (PhQ W9 (.tuple #[.int .i64 0, .bool false]) OUT) (by rw[hW9];exact HSA.out _ (Below.refl _ _)) (by rw[hW9];exact Below.refl _ _) ?_ ?_
   ·intro d a w' iq o' ho hi hall hfr hF R' hR
    have hiN:iq<12:=(Array.getElem?_eq_some_iff.1 ho).1
    have q0:a.tmps[0]?.getD undef= .pointer (some ⟨P,0,none⟩):=fr_q hfr 0 (by decide)
    have q1:a.tmps[1]?.getD undef= .int .i64 (k:Int):=fr_q hfr 1 (by decide)
    have q2:a.tmps[2]?.getD undef= .int .i64 lev:=fr_q hfr 2 (by decide)
    have q11:a.tmps[11]?.getD undef= .pointer (some ⟨X3,0,none⟩):=fr_q hfr 11 (by decide)
    have hc:=hF.all [(7,46),(0,47),(1,48),(2,49),(3,50),(4,51),(5,52),(8,54),(9,55)] (by decide)
    dsimp only[AllP] at hc
    clear hfr
    have ha:=hall
    have hoo:=ho
    have hcs:iq=5∨iq=6∨iq=7∨iq=0∨iq=2∨iq=3∨iq=4∨iq=8∨iq=9∨iq=10∨iq=11∨iq=1:=by omega
    clear hiN
    rcases hcs with rfl | rfl | rfl | rfl | rfl | rfl | rfl | rfl | rfl | rfl | rfl | rfl<;>simp only[List.getElem?_toArray,List.getElem?_cons_zero,List.getElem?_cons_succ,Option.some.injEq] at ho<;>subst ho<;>(try simp[Region.binds] at hall)
    ·have c50:=hF.g 3 50 rfl (by decide) (by decide) (by decide) (by simp[hall])
     have c51:=hF.g 4 51 rfl (by decide) (by decide) (by decide) (by simp[hall])
     have hA:Below W9.heap.size W9 w':=hF.at2 (j:=0) rfl (hF.lastNot (f:=12) (i:=5) (by kernel_rfl) hi) (.inl rfl)
     go_simp
     go_at_call 62
     refine(CB.out _ (HJ9.out.keep hA)).mono ?_
     rintro e w5 ⟨rfl,hb5⟩
     exact hR _ _ (hF.quiet (by kernel_rfl) hoo ha rfl (by decide) (by decide) (by decide) rfl (hF.lastNot (f:=12) (i:=5) (by kernel_rfl) hi) (fun _=>HSA.out _ (below_of_new hA hb5)) (fun k c hk hp=>by obtain rfl:k=0:=(by simp at hk;omega);exact below_of_new (show Below W9.heap.size W9 w' from hp) hb5) (fun x hx=>hx))
    ·have c47:=hF.g 0 47 rfl (by decide) (by decide) (by decide) (by simp[hall])
     have c48:=hF.g 1 48 rfl (by decide) (by decide) (by decide) (by simp[hall])
     have c49:=hF.g 2 49 rfl (by decide) (by decide) (by decide) (by simp[hall])
     have c52:=hF.g 5 52 rfl (by decide) (by decide) (by decide) (by simp[hall])
     have hP0:=hF.at2 (j:=0) rfl hi (.inl rfl)
     have hA:Below W9.heap.size W9 w':=hP0
     go_simp
     go_at_call 110
     refine(CA.out _ (HJ9.out.keep hA)).mono ?_
     rintro e w5 ⟨rfl,hO⟩
     exact hR _ _ (hF.eff2 (by kernel_rfl) (by decide) 0 hoo ha rfl hi (.inl rfl) rfl (by decide) (fun _ _ _=>trivial) (fun h=>absurd rfl h) ⟨rfl,hO⟩)
    ·have hph:PhQ W9 (.tuple #[.int .i64 0, .bool false]) OUT 1 (a.tmps.getD 53 undef) w':=hF.fin (fun e he=>by simp at he;subst he;exact(by simp[hall]))
     have c53:a.tmps[53]?.getD undef= .tuple #[.int .i64 0, .bool false]:=by rw[←Array.getD_eq_getD_getElem?];exact hph.1
     go_simp
     exact hR _ _ (hF.pure (by kernel_rfl) hoo ha rfl (by decide) (by decide) (by decide) rfl)
    iterate 8 (go_simp;exact hR _ _ (hF.pure (by kernel_rfl) hoo ha rfl (by decide) (by decide) (by decide) rfl))
    all_goals
     have hS0:=hF.early (f:=12) (by kernel_rfl) hi
     rw[←hSA] at hS0
     obtain⟨b0,b1,b2,b3,b4,b5,b6,b7,b8⟩:=hS0
     go_simp
     exact hR _ _ (hF.pure (by kernel_rfl) hoo ha rfl (by decide) (by decide) (by decide) rfl)
   intro v wz hcl hP1
   have hv53:v 53= .tuple #[.int .i64 0, .bool false]:=hP1.1
   have hv46:v 46= .tuple #[.int .i64 0, .bool false]:=hcl 7 (by decide) (by decide) (by decide) (by decide)
   have hv54:v 54= .int .i64 0:=hcl 8 (by decide) (by decide) (by decide) (by decide)
   have hv55:v 55= .bool false:=hcl 9 (by decide) (by decide) (by decide) (by decide)
   have hv13:v 13= .int .i64 0:=hcl 10 (by decide) (by decide) (by decide) (by decide)
   have hv14:v 14= .bool false:=hcl 11 (by decide) (by decide) (by decide) (by decide)
   have hO:=hP1.2
   rw[←hOUT] at hO
   have HF:=hid (show YBad YP PrB w0 P txt sp a e wz from hO)
   clear hP1 hO hcl hSA HSA
   simp only[fillT,List.setIfInBounds_toArray,List.set_cons_succ,List.set_cons_zero,hv53,hv46,hv54,hv55,hv13,hv14]
   clear hv53 hv46 hv54 hv55 hv13 hv14
   go_wp2_with fail
   go_loopw [14] (fun s14 wr=>s14= .bool false∧wz=wr) (fun _ _=>0)
   case atStart=>exact⟨rfl,rfl⟩
   case round=>
    obtain⟨rfl,rfl⟩:=hrel
    go_upto_region 10 with fail
    obtain⟨W3,hW3⟩: ∃W,wz.drew=W:=⟨_,rfl⟩
    have HF3:=hid ((HF.out.less (fun q o hq=>HLB.out q o (HLess3.out q o hq))).keep (Below.refl _ wz).drew)
    rw[hW3] at HF3
    have hfol:Tryz.prog.follows .mixedOrders=true:=by kernel_rfl
    refine wp_region_gf hfol [56,57,58,59,60,61,62,63,64,65,66,67,68,69,70,71,72,73,74,75,76,77,78,79,80,81,82,83,84,85,86,87] 100 rfl (by kernel_rfl) (by kernel_rfl) (fun iz=>match iz with | 0=> .bool false | 1=> .bool false | 2=>undef | 3=>undef | 4=>undef | 5=> .bool false | 6=> .bool false | 7=>undef | 8=>undef | 9=>undef | 10=>undef | 11=>undef | 12=>undef | 13=>undef | 14=>undef | 15=>undef | 16=>undef | 17=>undef | 18=> .bool false | 19=> .bool false | 20=>undef | 21=>undef | 22=>undef | 23=>undef | 24=>undef | 25=>undef | 26=>undef | 27=>undef | 28=>undef | 29=>undef | 30=>undef | 31=> .bool false | _=>undef) (fun w'=>Below W3.heap.size W3 w') (by rw[hW3];exact Below.refl _ _) ?_ ?_
    ·intro d a w' iq o' ho hi hall hfr hF R' hR
     have hiN:iq<32:=(Array.getElem?_eq_some_iff.1 ho).1
     have q0:a.tmps[0]?.getD undef= .pointer (some ⟨P,0,none⟩):=fr_q hfr 0 (by decide)
     have q10:a.tmps[10]?.getD undef= .pointer (some ⟨X2,0,none⟩):=fr_q hfr 10 (by decide)
     have q14:a.tmps[14]?.getD undef= .bool false:=fr_q hfr 14 (by decide)
     have hc:=hF.all [(0,56),(1,57),(4,60),(5,61),(6,62),(17,73),(18,74),(19,75),(30,86)] (by decide)
     dsimp only[AllP] at hc
     clear hfr
     have hcs:iq=0∨iq=1∨iq=5∨iq=6∨iq=18∨iq=19∨iq=31∨iq=2∨iq=3∨iq=4∨iq=7∨iq=8∨iq=9∨iq=10∨iq=11∨iq=12∨iq=13∨iq=14∨iq=15∨iq=16∨iq=17∨iq=20∨iq=21∨iq=22∨iq=23∨iq=24∨iq=25∨iq=26∨iq=27∨iq=28∨iq=29∨iq=30:=by omega
     clear hiN
     rcases hcs with rfl | rfl | rfl | rfl | rfl | rfl | rfl | rfl | rfl | rfl | rfl | rfl | rfl | rfl | rfl | rfl | rfl | rfl | rfl | rfl | rfl | rfl | rfl | rfl | rfl | rfl | rfl | rfl | rfl | rfl | rfl | rfl<;>simp only[List.getElem?_toArray,List.getElem?_cons_zero,List.getElem?_cons_succ,Option.some.injEq] at ho<;>subst ho<;>(try simp[Region.binds] at hall)
     iterate 7 (refine gf_run (gf_none rfl) ?_;go_simp;exact hR _ _ (hF.step (by decide) rfl (by first | rfl | simp) hF.st))
     iterate 25 exact gf_skip (hF.off rfl rfl rfl rfl (by simp[hall]) rfl) (hR _ _ (hF.step (by decide) rfl rfl hF.st))
    intro v wz hcl hS
    have hv:=allV (l:= [56,57,58,59,60,61,62,63,64,65,66,67,68,69,70,71,72,73,74,75,76,77,78,79,80,81,82,83,84,85,86,87]) hcl (by decide)
    dsimp only[AllV] at hv
    simp only[fillT,List.setIfInBounds_toArray,List.set_cons_succ,List.set_cons_zero,hv]
    clear hcl hv
    have HF4:=hid (HF3.out.keep hS)
    clear hS
    go_wp2_with fail
    go_ret2
    rw[←HRb.out]
    exact⟨⟨_,rfl⟩,HF4.out⟩
  | ok nn s1=>
   obtain⟨e1,e2,h0lv,h4t⟩:=addM_ok HA.out
   subst e2
   obtain⟨m,hm⟩: ∃m,lv=m+1:=⟨lv-1,by omega⟩
   have hR:=HR2.out
   simp only[] at hR
   have HRk:=hid hR
   have hVG1:=hVG h0lv
   have hco:=HCO.out m hm nn
   obtain⟨lev1,hlev1⟩: ∃l,lev+1=l:=⟨_,rfl⟩
   have hlev1w:IntKind.i64.wrap lev1=lev1:=by rw[IntKind.wrap_i64];have:=hl.out;omega
   rw[hlev1] at hco
   have HOne:=hid hco
   obtain⟨OUT,hOUT⟩: ∃O:World→Prop,(fun w'=>YJ YP PrB w0 P txt sp ⟨st.lines,st.nodes++ [⟨kd,r.ind,k,0,kf,kt,0,0,[]⟩],st.total+1⟩ 0 0 w')=O:=⟨_,rfl⟩
   have CA:Hid (∀w',YJ YP PrB w0 P txt sp st 0 0 w'→Calls Tryz.prog 110 #[.pointer (some ⟨P,0,none⟩), .agg #[.int .i64 (kd:Int), .int .i64 r.ind, .int .i64 (k:Int), .int .i64 0, .int .i64 kf, .int .i64 kt, .int .i64 0, .int .i64 0, .slice none 0 0], .int .i64 lev, .int .i64 bg] w' fun e w2=>e= .returned (.tuple #[.int .i64 (nn:Int), .bool true])∧OUT w2):=hid (fun w' hj=>by rw[←hOUT];exact CA0.out w' hj)
   have HN1:=hid e1
   clear CA0 hR hco e1 HCO
   have hfol:Tryz.prog.follows .mixedOrders=true:=by kernel_rfl
   refine wp_region_rcf3 hfol [some 47,some 48,some 49,some 50,some 51,some 52,some 53,some 46,some 54,some 55,some 13,some 14] [47,48,49,50,51,52,53,46,54,55,13,14] [6] 1000000 (fun _ _=>True) 100 rfl (by kernel_rfl) (by kernel_rfl) (by kernel_rfl) (fun iz=>match iz with | 0=> .pointer (some ⟨P,0,none⟩) | 1=> .agg #[.int .i64 (kd:Int), .int .i64 r.ind, .int .i64 (k:Int), .int .i64 0, .int .i64 kf, .int .i64 kt, .int .i64 0, .int .i64 0, .slice none 0 0] | 2=> .int .i64 lev | 3=> .pointer (some ⟨P,0,none⟩) | 4=> .int .i64 (k:Int) | 5=> .int .i64 bg | 7=> .tuple #[.int .i64 (nn:Int), .bool true] | 8=> .int .i64 (nn:Int) | 9=> .bool true | 10=> .int .i64 (nn:Int) | 11=> .bool true | _=>undef) SA (PhQ W9 (.tuple #[.int .i64 (nn:Int), .bool true]) OUT) (by rw[hW9];exact HSA.out _ (Below.refl _ _)) (by rw[hW9];exact Below.refl _ _) ?_ ?_
   ·intro d a w' iq o' ho hi hall hfr hF R' hR
    have hiN:iq<12:=(Array.getElem?_eq_some_iff.1 ho).1
    have q0:a.tmps[0]?.getD undef= .pointer (some ⟨P,0,none⟩):=fr_q hfr 0 (by decide)
    have q1:a.tmps[1]?.getD undef= .int .i64 (k:Int):=fr_q hfr 1 (by decide)
    have q2:a.tmps[2]?.getD undef= .int .i64 lev:=fr_q hfr 2 (by decide)
    have q11:a.tmps[11]?.getD undef= .pointer (some ⟨X3,0,none⟩):=fr_q hfr 11 (by decide)
    have hc:=hF.all [(7,46),(0,47),(1,48),(2,49),(3,50),(4,51),(5,52),(8,54),(9,55)] (by decide)
    dsimp only[AllP] at hc
    clear hfr
    have ha:=hall
    have hoo:=ho
    have hcs:iq=5∨iq=6∨iq=7∨iq=0∨iq=2∨iq=3∨iq=4∨iq=8∨iq=9∨iq=10∨iq=11∨iq=1:=by omega
    clear hiN
    rcases hcs with rfl | rfl | rfl | rfl | rfl | rfl | rfl | rfl | rfl | rfl | rfl | rfl<;>simp only[List.getElem?_toArray,List.getElem?_cons_zero,List.getElem?_cons_succ,Option.some.injEq] at ho<;>subst ho<;>(try simp[Region.binds] at hall)
    ·have c50:=hF.g 3 50 rfl (by decide) (by decide) (by decide) (by simp[hall])
     have c51:=hF.g 4 51 rfl (by decide) (by decide) (by decide) (by simp[hall])
     have hA:Below W9.heap.size W9 w':=hF.at2 (j:=0) rfl (hF.lastNot (f:=12) (i:=5) (by kernel_rfl) hi) (.inl rfl)
     go_simp
     go_at_call 62
     refine(CB.out _ (HJ9.out.keep hA)).mono ?_
     rintro e w5 ⟨rfl,hb5⟩
     exact hR _ _ (hF.quiet (by kernel_rfl) hoo ha rfl (by decide) (by decide) (by decide) rfl (hF.lastNot (f:=12) (i:=5) (by kernel_rfl) hi) (fun _=>HSA.out _ (below_of_new hA hb5)) (fun k c hk hp=>by obtain rfl:k=0:=(by simp at hk;omega);exact below_of_new (show Below W9.heap.size W9 w' from hp) hb5) (fun x hx=>hx))
    ·have c47:=hF.g 0 47 rfl (by decide) (by decide) (by decide) (by simp[hall])
     have c48:=hF.g 1 48 rfl (by decide) (by decide) (by decide) (by simp[hall])
     have c49:=hF.g 2 49 rfl (by decide) (by decide) (by decide) (by simp[hall])
     have c52:=hF.g 5 52 rfl (by decide) (by decide) (by decide) (by simp[hall])
     have hP0:=hF.at2 (j:=0) rfl hi (.inl rfl)
     have hA:Below W9.heap.size W9 w':=hP0
     go_simp
     go_at_call 110
     refine(CA.out _ (HJ9.out.keep hA)).mono ?_
     rintro e w5 ⟨rfl,hO⟩
     exact hR _ _ (hF.eff2 (by kernel_rfl) (by decide) 0 hoo ha rfl hi (.inl rfl) rfl (by decide) (fun _ _ _=>trivial) (fun h=>absurd rfl h) ⟨rfl,hO⟩)
    ·have hph:PhQ W9 (.tuple #[.int .i64 (nn:Int), .bool true]) OUT 1 (a.tmps.getD 53 undef) w':=hF.fin (fun e he=>by simp at he;subst he;exact(by simp[hall]))
     have c53:a.tmps[53]?.getD undef= .tuple #[.int .i64 (nn:Int), .bool true]:=by rw[←Array.getD_eq_getD_getElem?];exact hph.1
     go_simp
     exact hR _ _ (hF.pure (by kernel_rfl) hoo ha rfl (by decide) (by decide) (by decide) rfl)
    iterate 8 (go_simp;exact hR _ _ (hF.pure (by kernel_rfl) hoo ha rfl (by decide) (by decide) (by decide) rfl))
    all_goals
     have hS0:=hF.early (f:=12) (by kernel_rfl) hi
     rw[←hSA] at hS0
     obtain⟨b0,b1,b2,b3,b4,b5,b6,b7,b8⟩:=hS0
     go_simp
     exact hR _ _ (hF.pure (by kernel_rfl) hoo ha rfl (by decide) (by decide) (by decide) rfl)
   intro v wz hcl hP1
   have hv53:v 53= .tuple #[.int .i64 (nn:Int), .bool true]:=hP1.1
   have hv46:v 46= .tuple #[.int .i64 (nn:Int), .bool true]:=hcl 7 (by decide) (by decide) (by decide) (by decide)
   have hv54:v 54= .int .i64 (nn:Int):=hcl 8 (by decide) (by decide) (by decide) (by decide)
   have hv55:v 55= .bool true:=hcl 9 (by decide) (by decide) (by decide) (by decide)
   have hv13:v 13= .int .i64 (nn:Int):=hcl 10 (by decide) (by decide) (by decide) (by decide)
   have hv14:v 14= .bool true:=hcl 11 (by decide) (by decide) (by decide) (by decide)
   have hO:=hP1.2
   rw[←hOUT] at hO
   have hj1:YJ YP Pr3 w0 P txt sp ⟨st.lines,st.nodes++ [⟨kd,r.ind,k,0,kf,kt,0,0,[]⟩],st.total+1⟩ 0 0 wz:=YJ.less hO HLB.out
   have hh1:(H) [] wz:=HHB.out _ _ _ _ hO
   have hw1:WfS txt sp ⟨st.lines,st.nodes++ [⟨kd,r.ind,k,0,kf,kt,0,0,[]⟩],st.total+1⟩:=⟨HW.out.ls,by have:=HW.out.tot;simp only[List.length_append,List.length_singleton];omega⟩
   have HLp:Hid (LpI w0 P txt sp V map Pr3 (H) nn r.ind r.kind R true k wz):=hid ⟨sp.length-k,[],_,HRk.out,hj1,hh1,hw1,fun _=>HK1.out,by omega,by omega,⟨⟨kd,r.ind,k,0,kf,kt,0,0,[]⟩,by rw[HN1.out];simp,rfl,by simp only[List.length_append,List.length_singleton,List.length_nil];have:=HN1.out;omega⟩,Nat.zero_le _⟩
   clear hP1 hO hcl hSA HSA hj1 hh1 hw1 HRk HR2 HR1 HR CA hOUT CB HJ9 hW9
   simp only[fillT,List.setIfInBounds_toArray,List.set_cons_succ,List.set_cons_zero,hv53,hv46,hv54,hv55,hv13,hv14]
   clear hv53 hv46 hv54 hv55 hv13 hv14
   go_wp2_with fail
   go_loopw [1,14] (fun s1 s14 wr=>(∃k:Nat,s14= .bool true∧s1= .int .i64 (k:Int)∧k≤sp.length∧Hid (LpI w0 P txt sp V map Pr3 (H) nn r.ind r.kind R true k wr))∨(∃m:Int,s14= .bool false∧s1= .int .i64 m∧Hid (LpI w0 P txt sp V map Pr3 (H) nn r.ind r.kind R false 0 wr))) (fun s1 s14 _=>ltM sp.length s1 s14)
   case atStart=>exact .inl ⟨k,rfl,rfl,by omega,HLp⟩
   case round=>
    clear HLp HK HK1 HKL hksp hkl hk0 hk1 hk1l
    rcases hrel with⟨k,rfl,rfl,hks,HLi⟩ | ⟨m,rfl,rfl,HLi⟩
    rotate_left
    ·obtain⟨a,e,hRe,hbad⟩:=(show ∃a e,R= .bad a e∧YBad YP Pr3 w0 P txt sp a e wr from HLi.out)
     have HRe:=hid hRe
     go_upto_region 10 with fail
     obtain⟨W3,hW3⟩: ∃W,wr.drew=W:=⟨_,rfl⟩
     have hf3:=(hbad.less HLess3.out).keep (Below.refl _ wr).drew
     rw[hW3] at hf3
     have HF3:=hid hf3
     clear hf3 hbad hRe
     have hfol:Tryz.prog.follows .mixedOrders=true:=by kernel_rfl
     refine wp_region_gf hfol [56,57,58,59,60,61,62,63,64,65,66,67,68,69,70,71,72,73,74,75,76,77,78,79,80,81,82,83,84,85,86,87] 100 rfl (by kernel_rfl) (by kernel_rfl) (fun iz=>match iz with | 0=> .bool false | 1=> .bool false | 2=>undef | 3=>undef | 4=>undef | 5=> .bool false | 6=> .bool false | 7=>undef | 8=>undef | 9=>undef | 10=>undef | 11=>undef | 12=>undef | 13=>undef | 14=>undef | 15=>undef | 16=>undef | 17=>undef | 18=> .bool false | 19=> .bool false | 20=>undef | 21=>undef | 22=>undef | 23=>undef | 24=>undef | 25=>undef | 26=>undef | 27=>undef | 28=>undef | 29=>undef | 30=>undef | 31=> .bool false | _=>undef) (fun w'=>Below W3.heap.size W3 w') (by rw[hW3];exact Below.refl _ _) ?_ ?_
     ·intro d a w' iq o' ho hi hall hfr hF R' hR
      have hiN:iq<32:=(Array.getElem?_eq_some_iff.1 ho).1
      have q0:a.tmps[0]?.getD undef= .pointer (some ⟨P,0,none⟩):=fr_q hfr 0 (by decide)
      have q10:a.tmps[10]?.getD undef= .pointer (some ⟨X2,0,none⟩):=fr_q hfr 10 (by decide)
      have q14:a.tmps[14]?.getD undef= .bool false:=fr_q hfr 14 (by decide)
      have hc:=hF.all [(0,56),(1,57),(4,60),(5,61),(6,62),(17,73),(18,74),(19,75),(30,86)] (by decide)
      dsimp only[AllP] at hc
      clear hfr
      have hcs:iq=0∨iq=1∨iq=5∨iq=6∨iq=18∨iq=19∨iq=31∨iq=2∨iq=3∨iq=4∨iq=7∨iq=8∨iq=9∨iq=10∨iq=11∨iq=12∨iq=13∨iq=14∨iq=15∨iq=16∨iq=17∨iq=20∨iq=21∨iq=22∨iq=23∨iq=24∨iq=25∨iq=26∨iq=27∨iq=28∨iq=29∨iq=30:=by omega
      clear hiN
      rcases hcs with rfl | rfl | rfl | rfl | rfl | rfl | rfl | rfl | rfl | rfl | rfl | rfl | rfl | rfl | rfl | rfl | rfl | rfl | rfl | rfl | rfl | rfl | rfl | rfl | rfl | rfl | rfl | rfl | rfl | rfl | rfl | rfl<;>simp only[List.getElem?_toArray,List.getElem?_cons_zero,List.getElem?_cons_succ,Option.some.injEq] at ho<;>subst ho<;>(try simp[Region.binds] at hall)
      iterate 7 (refine gf_run (gf_none rfl) ?_;go_simp;exact hR _ _ (hF.step (by decide) rfl (by first | rfl | simp) hF.st))
      iterate 25 exact gf_skip (hF.off rfl rfl rfl rfl (by simp[hall]) rfl) (hR _ _ (hF.step (by decide) rfl rfl hF.st))
     intro v wz hcl hS
     have hv:=allV (l:= [56,57,58,59,60,61,62,63,64,65,66,67,68,69,70,71,72,73,74,75,76,77,78,79,80,81,82,83,84,85,86,87]) hcl (by decide)
     dsimp only[AllV] at hv
     simp only[fillT,List.setIfInBounds_toArray,List.set_cons_succ,List.set_cons_zero,hv]
     clear hcl hv
     have HF4:=hid (HF3.out.keep hS)
     clear hS
     go_wp2_with fail
     go_ret2
     rw[HRe.out]
     exact⟨⟨_,rfl⟩,HF4.out⟩
    ·obtain⟨f,had,sr,hLr,hjr,hhr,hwr,hkr,hkl2,hfr2,⟨x,hx,hxi,hxk⟩,hhl⟩:=(show ∃f had st,ymLoop txt sp V map nn r.ind r.kind f had k st=R∧YJ YP Pr3 w0 P txt sp st 0 0 wr∧(H) had wr∧WfS txt sp st∧(k<sp.length→k+1=st.lines.length)∧k≤sp.length∧sp.length≤k+f∧(∃x,st.nodes[nn]?=some x∧x.ind=r.ind∧x.kids.length+nn<st.nodes.length)∧had.length≤k from HLi.out)
     have hki:(0:Int)≤(k:Int):=by omega
     go_upto_region 10 with fail
     obtain⟨W3,hW3⟩: ∃W,wr.drew=W:=⟨_,rfl⟩
     have hj3:=hjr.keep (Below.refl _ wr).drew
     have hh3:=HHK.out had wr _ hhr (Below.refl _ wr).drew
     rw[hW3] at hj3 hh3
     have HJ3:=hid hj3
     have HH3:=hid hh3
     have CT0:Hid (∀w',Below W3.heap.size W3 w'→Calls Tryz.prog 59 #[.pointer (some ⟨P,0,none⟩), .int .i64 (k:Int)] w' fun e w2=>e= .returned (.bool (decide (k<sp.length)))∧Below w'.heap.size w' w2):=hid (fun w' hb=>ythere_any k w' (HJ3.out.keep hb))
     have HLr:=hid hLr
     have HX:=hid (And.intro hx (And.intro hxi hxk))
     have HWr:=hid hwr
     clear hjr hhr hj3 hh3 hLr hx hxi hxk hwr HLi
     by_cases hlt:k<sp.length
     rotate_left
     ·have hRR:=HLr.out
      rw[ymLoop_out (fun h=>hlt h.1)] at hRR
      have HRR:=hid hRR
      have CT:Hid (∀w',Below W3.heap.size W3 w'→Calls Tryz.prog 59 #[.pointer (some ⟨P,0,none⟩), .int .i64 (k:Int)] w' fun e w2=>e= .returned (.bool false)∧Below w'.heap.size w' w2):=hid (fun w' hb=>by have:=CT0.out w' hb;rw[decide_eq_false hlt] at this;exact this)
      clear hRR CT0 hlt hkr
      have hfol:Tryz.prog.follows .mixedOrders=true:=by kernel_rfl
      refine wp_region_gf hfol [56,57,58,59,60,61,62,63,64,65,66,67,68,69,70,71,72,73,74,75,76,77,78,79,80,81,82,83,84,85,86,87] 100 rfl (by kernel_rfl) (by kernel_rfl) (fun iz=>match iz with | 0=> .bool true | 1=> .bool true | 2=> .pointer (some ⟨P,0,none⟩) | 3=> .int .i64 (k:Int) | 4=> .bool false | 5=> .bool false | 6=> .bool false | 7=>undef | 8=>undef | 9=>undef | 10=>undef | 11=>undef | 12=>undef | 13=>undef | 14=>undef | 15=>undef | 16=>undef | 17=>undef | 18=> .bool false | 19=> .bool false | 20=>undef | 21=>undef | 22=>undef | 23=>undef | 24=>undef | 25=>undef | 26=>undef | 27=>undef | 28=>undef | 29=>undef | 30=>undef | 31=> .bool false | _=>undef) (fun w'=>Below W3.heap.size W3 w') (by rw[hW3];exact Below.refl _ _) ?_ ?_
      ·intro d a w' iq o' ho hi hall hfr hF R' hR
       have hiN:iq<32:=(Array.getElem?_eq_some_iff.1 ho).1
       have q0:a.tmps[0]?.getD undef= .pointer (some ⟨P,0,none⟩):=fr_q hfr 0 (by decide)
       have q1:a.tmps[1]?.getD undef= .int .i64 (k:Int):=fr_q hfr 1 (by decide)
       have q10:a.tmps[10]?.getD undef= .pointer (some ⟨X2,0,none⟩):=fr_q hfr 10 (by decide)
       have q14:a.tmps[14]?.getD undef= .bool true:=fr_q hfr 14 (by decide)
       have hc:=hF.all [(0,56),(1,57),(2,58),(3,59),(4,60),(5,61),(6,62),(17,73),(18,74),(19,75),(30,86)] (by decide)
       dsimp only[AllP] at hc
       clear hfr
       have hcs:iq=4∨iq=0∨iq=1∨iq=5∨iq=6∨iq=18∨iq=19∨iq=31∨iq=2∨iq=3∨iq=7∨iq=8∨iq=9∨iq=10∨iq=11∨iq=12∨iq=13∨iq=14∨iq=15∨iq=16∨iq=17∨iq=20∨iq=21∨iq=22∨iq=23∨iq=24∨iq=25∨iq=26∨iq=27∨iq=28∨iq=29∨iq=30:=by omega
       clear hiN
       rcases hcs with rfl | rfl | rfl | rfl | rfl | rfl | rfl | rfl | rfl | rfl | rfl | rfl | rfl | rfl | rfl | rfl | rfl | rfl | rfl | rfl | rfl | rfl | rfl | rfl | rfl | rfl | rfl | rfl | rfl | rfl | rfl | rfl<;>simp only[List.getElem?_toArray,List.getElem?_cons_zero,List.getElem?_cons_succ,Option.some.injEq] at ho<;>subst ho<;>(try simp[Region.binds] at hall)
       ·have c57:=hF.g 1 57 rfl (by simp[hall])
        have c58:=hF.g 2 58 rfl (by simp[hall])
        have c59:=hF.g 3 59 rfl (by simp[hall])
        refine gf_run (gf_on rfl rfl rfl c57) ?_
        go_simp
        go_at_call 59
        refine(CT.out _ hF.st).mono ?_
        rintro e w5 ⟨rfl,hb5⟩
        exact hR _ _ (hF.step (by decide) rfl rfl (below_of_new hF.st hb5))
       iterate 7 (refine gf_run (gf_none rfl) ?_;go_simp;exact hR _ _ (hF.step (by decide) rfl (by first | rfl | simp) hF.st))
       iterate 2 (refine gf_run (hF.on rfl rfl rfl rfl (by simp[hall]) rfl) ?_;go_simp;exact hR _ _ (hF.step (by decide) rfl (by first | rfl | simp) hF.st))
       iterate 22 exact gf_skip (hF.off rfl rfl rfl rfl (by simp[hall]) rfl) (hR _ _ (hF.step (by decide) rfl rfl hF.st))
      intro v wz hcl hS
      have hv:=allV (l:= [56,57,58,59,60,61,62,63,64,65,66,67,68,69,70,71,72,73,74,75,76,77,78,79,80,81,82,83,84,85,86,87]) hcl (by decide)
      dsimp only[AllV] at hv
      simp only[fillT,List.setIfInBounds_toArray,List.set_cons_succ,List.set_cons_zero,hv]
      clear hcl hv
      have HJ4:=hid ((HJ3.out.keep hS).less HLess3.out)
      clear hS
      go_wp2_with fail
      go_ret2
      rw[←HRR.out]
      exact⟨rfl,HJ4.out⟩
     ·have hk1l:=hkr hlt
      have CT:Hid (∀w',Below W3.heap.size W3 w'→Calls Tryz.prog 59 #[.pointer (some ⟨P,0,none⟩), .int .i64 (k:Int)] w' fun e w2=>e= .returned (.bool true)∧Below w'.heap.size w' w2):=hid (fun w' hb=>by have:=CT0.out w' hb;rw[decide_eq_true hlt] at this;exact this)
      have hln2:=lnAt_get (show k<sr.lines.length by omega)
      obtain⟨r2,hr2⟩: ∃r2,lnAt sr.lines k=r2:=⟨_,rfl⟩
      rw[hr2] at hln2
      obtain⟨z5,sv5,lv5,nv5,hz5,hK5⟩:=HJ3.out
      obtain⟨g2,cz2,e9,_,hcell⟩:=hK5.lineAt hln2
      subst e9
      obtain⟨i2,hi2⟩: ∃i2,r2.ind=i2:=⟨_,rfl⟩
      obtain⟨k2,hk2⟩: ∃k2,r2.kind=k2:=⟨_,rfl⟩
      obtain⟨m2,hm2⟩: ∃m2,sr.lines.length=m2:=⟨_,rfl⟩
      have HSC:Hid (∀w',Below W3.heap.size W3 w'→w'.cell? ⟨P,2,none⟩=some (.slice (some ⟨g2,0,none⟩) m2 cz2)∧w'.cell? ⟨g2,k*10+3,none⟩=some (.int .i64 i2)∧w'.cell? ⟨g2,k*10,none⟩=some (.int .i64 k2)∧w'.cell? ⟨X2,3,none⟩=some (.int .i64 r.ind)∧w'.cell? ⟨X2,0,none⟩=some (.int .i64 r.kind)):=hid (fun w' hb=>by
       have hK2:=hK5.keep hb
       obtain⟨⟨_,_,c2,_⟩,_⟩:=hK2.cells
       obtain⟨g3,cz3,e3,_,hcell3⟩:=hK2.lineAt hln2
       have e4:=(Value.slice.inj e3).1
       injection e4 with e4
       injection e4 with e4
       subst e4
       have h3:=hcell3 3 _ (by omega) rfl
       have h0:=hcell3 0 _ (by omega) rfl
       simp only[Nat.add_zero] at h0
       rw[hi2] at h3
       rw[hk2] at h0
       simp only[hm2] at c2
       have hlz:LineBox w' X2 r:=(HJ3.out.keep hb).at_ HX2Q.out
       obtain⟨q0,_,_,q3,_⟩:=hlz.cells
       exact⟨c2,h3,h0,q3,q0⟩)
      have hkm:(k:Int)<(m2:Int):=by omega
      have HK2:=hid (And.intro hi2 (And.intro hk2 (And.intro hr2 hk1l)))
      have HLT:=hid hlt
      have HFR:=hid hfr2
      clear hK5 hz5 hcell hln2 hm2 hi2 hk2 hr2 CT0 hkr hk1l hfr2 hlt
      by_cases hie:i2=r.ind
      rotate_left
      ·have d73:(i2==r.ind)=false:=beq_eq_false_iff_ne.2 hie
       have hRR:=HLr.out
       rw[ymLoop_out (fun h=>hie (by rw[←HK2.out.1,←HK2.out.2.2.1];exact h.2.1))] at hRR
       have HRR:=hid hRR
       clear hRR hie
       have hfol:Tryz.prog.follows .mixedOrders=true:=by kernel_rfl
       refine wp_region_gf hfol [56,57,58,59,60,61,62,63,64,65,66,67,68,69,70,71,72,73,74,75,76,77,78,79,80,81,82,83,84,85,86,87] 100 rfl (by kernel_rfl) (by kernel_rfl) (fun iz=>match iz with | 0=> .bool true | 1=> .bool true | 2=> .pointer (some ⟨P,0,none⟩) | 3=> .int .i64 (k:Int) | 4=> .bool true | 5=> .bool true | 6=> .bool true | 7=> .pointer (some ⟨P,0,none⟩) | 8=> .pointer (some ⟨P,0,none⟩) | 9=> .pointer (some ⟨P,2,none⟩) | 10=> .slice (some ⟨g2,0,none⟩) m2 cz2 | 11=> .int .i64 (k:Int) | 12=> .pointer (some ⟨g2,k*10,none⟩) | 13=> .pointer (some ⟨g2,k*10+3,none⟩) | 14=> .int .i64 i2 | 15=> .pointer (some ⟨X2,3,none⟩) | 16=> .int .i64 r.ind | 17=> .bool false | 18=> .bool false | 19=> .bool false | 20=>undef | 21=>undef | 22=>undef | 23=>undef | 24=>undef | 25=>undef | 26=>undef | 27=>undef | 28=>undef | 29=>undef | 30=>undef | 31=> .bool false | _=>undef) (fun w'=>Below W3.heap.size W3 w') (by rw[hW3];exact Below.refl _ _) ?_ ?_
       ·intro d a w' iq o' ho hi hall hfr hF R' hR
        have hiN:iq<32:=(Array.getElem?_eq_some_iff.1 ho).1
        have q0:a.tmps[0]?.getD undef= .pointer (some ⟨P,0,none⟩):=fr_q hfr 0 (by decide)
        have q1:a.tmps[1]?.getD undef= .int .i64 (k:Int):=fr_q hfr 1 (by decide)
        have q10:a.tmps[10]?.getD undef= .pointer (some ⟨X2,0,none⟩):=fr_q hfr 10 (by decide)
        have q14:a.tmps[14]?.getD undef= .bool true:=fr_q hfr 14 (by decide)
        have hc:=hF.all [(0,56),(1,57),(2,58),(3,59),(4,60),(5,61),(6,62),(7,63),(8,64),(9,65),(10,66),(11,67),(12,68),(13,69),(14,70),(15,71),(16,72),(17,73),(18,74),(19,75),(30,86)] (by decide)
        dsimp only[AllP] at hc
        clear hfr
        obtain⟨p2,l3,l0,x3,x0⟩:=HSC.out _ hF.st
        have hcs:iq=4∨iq=17∨iq=0∨iq=1∨iq=5∨iq=6∨iq=18∨iq=19∨iq=31∨iq=2∨iq=3∨iq=7∨iq=8∨iq=9∨iq=10∨iq=11∨iq=12∨iq=13∨iq=14∨iq=15∨iq=16∨iq=20∨iq=21∨iq=22∨iq=23∨iq=24∨iq=25∨iq=26∨iq=27∨iq=28∨iq=29∨iq=30:=by omega
        clear hiN
        rcases hcs with rfl | rfl | rfl | rfl | rfl | rfl | rfl | rfl | rfl | rfl | rfl | rfl | rfl | rfl | rfl | rfl | rfl | rfl | rfl | rfl | rfl | rfl | rfl | rfl | rfl | rfl | rfl | rfl | rfl | rfl | rfl | rfl<;>simp only[List.getElem?_toArray,List.getElem?_cons_zero,List.getElem?_cons_succ,Option.some.injEq] at ho<;>subst ho<;>(try simp[Region.binds] at hall)
        ·have c57:=hF.g 1 57 rfl (by simp[hall])
         have c58:=hF.g 2 58 rfl (by simp[hall])
         have c59:=hF.g 3 59 rfl (by simp[hall])
         refine gf_run (gf_on rfl rfl rfl c57) ?_
         go_simp
         go_at_call 59
         refine(CT.out _ hF.st).mono ?_
         rintro e w5 ⟨rfl,hb5⟩
         exact hR _ _ (hF.step (by decide) rfl rfl (below_of_new hF.st hb5))
        ·have c62:=hF.g 6 62 rfl (by simp[hall])
         have c70:=hF.g 14 70 rfl (by simp[hall])
         have c72:=hF.g 16 72 rfl (by simp[hall])
         refine gf_run (gf_on rfl rfl rfl c62) ?_
         have dd:=d73
         go_simp
         exact hR _ _ (hF.step (by decide) rfl (by first | rfl | simp) hF.st)
        iterate 7 (refine gf_run (gf_none rfl) ?_;go_simp;exact hR _ _ (hF.step (by decide) rfl (by first | rfl | simp) hF.st))
        iterate 12 (refine gf_run (hF.on rfl rfl rfl rfl (by simp[hall]) rfl) ?_;go_simp;exact hR _ _ (hF.step (by decide) rfl (by first | rfl | simp) hF.st))
        iterate 11 exact gf_skip (hF.off rfl rfl rfl rfl (by simp[hall]) rfl) (hR _ _ (hF.step (by decide) rfl rfl hF.st))
       intro v wz hcl hS
       have hv:=allV (l:= [56,57,58,59,60,61,62,63,64,65,66,67,68,69,70,71,72,73,74,75,76,77,78,79,80,81,82,83,84,85,86,87]) hcl (by decide)
       dsimp only[AllV] at hv
       simp only[fillT,List.setIfInBounds_toArray,List.set_cons_succ,List.set_cons_zero,hv]
       clear hcl hv
       have HJ4:=hid ((HJ3.out.keep hS).less HLess3.out)
       clear hS
       go_wp2_with fail
       go_ret2
       rw[←HRR.out]
       exact⟨rfl,HJ4.out⟩
      ·have d73:(i2==r.ind)=true:=by simpa using hie
       obtain⟨bb,d86⟩: ∃bb,(k2==r.kind)=bb:=⟨_,rfl⟩
       have HIE:=hid hie
       have HBB:=hid d86
       clear hie
       have hfol:Tryz.prog.follows .mixedOrders=true:=by kernel_rfl
       refine wp_region_gf hfol [56,57,58,59,60,61,62,63,64,65,66,67,68,69,70,71,72,73,74,75,76,77,78,79,80,81,82,83,84,85,86,87] 100 rfl (by kernel_rfl) (by kernel_rfl) (fun iz=>match iz with | 0=> .bool true | 1=> .bool true | 2=> .pointer (some ⟨P,0,none⟩) | 3=> .int .i64 (k:Int) | 4=> .bool true | 5=> .bool true | 6=> .bool true | 7=> .pointer (some ⟨P,0,none⟩) | 8=> .pointer (some ⟨P,0,none⟩) | 9=> .pointer (some ⟨P,2,none⟩) | 10=> .slice (some ⟨g2,0,none⟩) m2 cz2 | 11=> .int .i64 (k:Int) | 12=> .pointer (some ⟨g2,k*10,none⟩) | 13=> .pointer (some ⟨g2,k*10+3,none⟩) | 14=> .int .i64 i2 | 15=> .pointer (some ⟨X2,3,none⟩) | 16=> .int .i64 r.ind | 17=> .bool true | 18=> .bool true | 19=> .bool true | 20=> .pointer (some ⟨P,0,none⟩) | 21=> .pointer (some ⟨P,0,none⟩) | 22=> .pointer (some ⟨P,2,none⟩) | 23=> .slice (some ⟨g2,0,none⟩) m2 cz2 | 24=> .int .i64 (k:Int) | 25=> .pointer (some ⟨g2,k*10,none⟩) | 26=> .pointer (some ⟨g2,k*10,none⟩) | 27=> .int .i64 k2 | 28=> .pointer (some ⟨X2,0,none⟩) | 29=> .int .i64 r.kind | 30=> .bool bb | 31=> .bool bb | _=>undef) (fun w'=>Below W3.heap.size W3 w') (by rw[hW3];exact Below.refl _ _) ?_ ?_
       ·intro d a w' iq o' ho hi hall hfr hF R' hR
        have hiN:iq<32:=(Array.getElem?_eq_some_iff.1 ho).1
        have q0:a.tmps[0]?.getD undef= .pointer (some ⟨P,0,none⟩):=fr_q hfr 0 (by decide)
        have q1:a.tmps[1]?.getD undef= .int .i64 (k:Int):=fr_q hfr 1 (by decide)
        have q10:a.tmps[10]?.getD undef= .pointer (some ⟨X2,0,none⟩):=fr_q hfr 10 (by decide)
        have q14:a.tmps[14]?.getD undef= .bool true:=fr_q hfr 14 (by decide)
        have hc:=hF.all [(0,56),(1,57),(2,58),(3,59),(4,60),(5,61),(6,62),(7,63),(8,64),(9,65),(10,66),(11,67),(12,68),(13,69),(14,70),(15,71),(16,72),(17,73),(18,74),(19,75),(20,76),(21,77),(22,78),(23,79),(24,80),(25,81),(26,82),(27,83),(28,84),(29,85),(30,86)] (by decide)
        dsimp only[AllP] at hc
        clear hfr
        obtain⟨p2,l3,l0,x3,x0⟩:=HSC.out _ hF.st
        have hcs:iq=4∨iq=17∨iq=30∨iq=0∨iq=1∨iq=5∨iq=6∨iq=18∨iq=19∨iq=31∨iq=2∨iq=3∨iq=7∨iq=8∨iq=9∨iq=10∨iq=11∨iq=12∨iq=13∨iq=14∨iq=15∨iq=16∨iq=20∨iq=21∨iq=22∨iq=23∨iq=24∨iq=25∨iq=26∨iq=27∨iq=28∨iq=29:=by omega
        clear hiN
        rcases hcs with rfl | rfl | rfl | rfl | rfl | rfl | rfl | rfl | rfl | rfl | rfl | rfl | rfl | rfl | rfl | rfl | rfl | rfl | rfl | rfl | rfl | rfl | rfl | rfl | rfl | rfl | rfl | rfl | rfl | rfl | rfl | rfl<;>simp only[List.getElem?_toArray,List.getElem?_cons_zero,List.getElem?_cons_succ,Option.some.injEq] at ho<;>subst ho<;>(try simp[Region.binds] at hall)
        ·have c57:=hF.g 1 57 rfl (by simp[hall])
         have c58:=hF.g 2 58 rfl (by simp[hall])
         have c59:=hF.g 3 59 rfl (by simp[hall])
         refine gf_run (gf_on rfl rfl rfl c57) ?_
         go_simp
         go_at_call 59
         refine(CT.out _ hF.st).mono ?_
         rintro e w5 ⟨rfl,hb5⟩
         exact hR _ _ (hF.step (by decide) rfl rfl (below_of_new hF.st hb5))
        ·have c62:=hF.g 6 62 rfl (by simp[hall])
         have c70:=hF.g 14 70 rfl (by simp[hall])
         have c72:=hF.g 16 72 rfl (by simp[hall])
         refine gf_run (gf_on rfl rfl rfl c62) ?_
         have dd:=d73
         go_simp
         exact hR _ _ (hF.step (by decide) rfl (by first | rfl | simp) hF.st)
        ·have c75:=hF.g 19 75 rfl (by simp[hall])
         have c83:=hF.g 27 83 rfl (by simp[hall])
         have c85:=hF.g 29 85 rfl (by simp[hall])
         refine gf_run (gf_on rfl rfl rfl c75) ?_
         have dd:=d86
         go_simp
         exact hR _ _ (hF.step (by decide) rfl (by first | rfl | simp) hF.st)
        iterate 7 (refine gf_run (gf_none rfl) ?_;go_simp;exact hR _ _ (hF.step (by decide) rfl (by first | rfl | simp) hF.st))
        iterate 22 (refine gf_run (hF.on rfl rfl rfl rfl (by simp[hall]) rfl) ?_;go_simp;exact hR _ _ (hF.step (by decide) rfl (by first | rfl | simp) hF.st))
       intro v wz hcl hS
       have hv:=allV (l:= [56,57,58,59,60,61,62,63,64,65,66,67,68,69,70,71,72,73,74,75,76,77,78,79,80,81,82,83,84,85,86,87]) hcl (by decide)
       dsimp only[AllV] at hv
       simp only[fillT,List.setIfInBounds_toArray,List.set_cons_succ,List.set_cons_zero,hv]
       clear hcl hv
       have HJ4:=hid (HJ3.out.keep hS)
       have HH4:=hid (HHK.out had _ _ HH3.out hS)
       clear hS d73 d86
       cases bb with
       | false=>
        have hRR:=HLr.out
        rw[ymLoop_out (fun h=>by have h1:=HBB.out;rw[beq_eq_false_iff_ne] at h1;exact h1 (by rw[←HK2.out.2.1,←HK2.out.2.2.1];exact h.2.2))] at hRR
        have HRR:=hid hRR
        have HJ5:=hid (HJ4.out.less HLess3.out)
        clear hRR
        go_wp2_with fail
        go_ret2
        rw[←HRR.out]
        exact⟨rfl,HJ5.out⟩
       | true=>
        obtain⟨f1,hf1⟩: ∃f1,f=f1+1:=⟨f-1,by have:=HFR.out;have:=HLT.out;omega⟩
        subst hf1
        have hRR:=HLr.out
        unfold ymLoop at hRR
        rw[if_pos ⟨HLT.out,by rw[HK2.out.2.2.1,HK2.out.1];exact HIE.out,by rw[HK2.out.2.2.1,HK2.out.2.1];exact eq_of_beq HBB.out⟩] at hRR
        obtain⟨Q,hQ⟩: ∃Q,ymOne txt sp V map nn r.ind had k sr=Q:=⟨_,rfl⟩
        rw[hQ] at hRR
        have CO:Hid (∀w',YJ YP Pr3 w0 P txt sp sr 0 0 w'→(H) had w'→Calls Tryz.prog 111 #[.pointer (some ⟨P,0,none⟩), .int .i64 (nn:Int), .int .i64 (k:Int), .int .i64 lev1,u12] w' (OneE Pr3 w0 P txt sp (H) Q)):=hid (fun w' hj hh=>by
         have:=HOne.out k sr had w' hj hh HK2.out.2.2.2 HWr.out ⟨x,HX.out⟩ (by omega)
         rw[hQ] at this
         exact this)
        have HRR:=hid hRR
        have HQ:=hid hQ
        clear hRR hQ
        go_wp2_with fail
        refine(CO.out _ (by first | exact HJ4.out | exact HJ4.out.keep (Below.refl _ _).drew) (by first | exact HH4.out | exact HHK.out _ _ _ HH4.out (Below.refl _ _).drew)).mono ?_
        rintro e w7 hE
        have HE:=hid hE
        clear hE
        cases Q with
        | bad a er=>
         obtain⟨⟨m,rfl⟩,hbad⟩:=HE.out
         have HB:=hid hbad
         clear hbad HE
         go_wp2_with fail
         go_roundw
         ·exact .inr ⟨m,rfl,rfl,hid ⟨a,er,HRR.out.symm,HB.out⟩⟩
         ·simp only[ltM];omega
        | ok nx s2 had2=>
         obtain⟨rfl,hj9,hh9⟩:=(show e= .returned (.tuple #[.int .i64 (nx:Int), .bool true])∧YJ YP Pr3 w0 P txt sp s2 0 0 w7∧(H) had2 w7 from HE.out)
         have HB:=hid (And.intro hj9 hh9)
         clear hj9 hh9 HE
         obtain⟨⟨x2,t1,t2,t3⟩,t4,t5,t6,t7,t8,t9⟩:=ymOne_step hsp0 hVG1 HWr.out HK2.out.2.2.2 HX.out.1 HQ.out
         have HLn:Hid (LpI w0 P txt sp V map Pr3 (H) nn r.ind r.kind R true nx w7):=hid ⟨f1,had2,s2,HRR.out,HB.out.1,HB.out.2,t6,t9,t7,by have:=HFR.out;omega,⟨x2,t1,t2.trans HX.out.2.1,by rw[t3];have:=HX.out.2.2;omega⟩,by omega⟩
         clear t1 t2 t3 t4 t5 t6 t9
         go_wp2_with fail
         go_roundw
         ·exact .inl ⟨nx,rfl,rfl,t7,HLn⟩
         ·simp only[ltM,RowKit.intOf];omega
theorem yblockS_any (w0:World) (P:Nat) (txt:Stp) (sp:List (Nat×Nat)) (hsp0:SpOk txt sp) (hs:txt.length≤65536) (hn:sp.length≤131072) (hV:AVar w0) (lv:Nat) (hlv:lv≤32) (V:YB) (hVG:lv≠0→VGood txt sp V) (IH: ∀m,lv=m+1→YBC 154 w0 P txt sp V m):YBC 60 w0 P txt sp (ymBlockS txt sp V lv) lv:=by
 intro Pr k kf kt st lev w h hk hw hl
 exact yblock_at w0 P txt sp hsp0 hs hn hV lv hlv V hVG IH Pr k kf kt st lev w h hk hw hl
theorem yblock_any (w0:World) (P:Nat) (txt:Stp) (sp:List (Nat×Nat)) (hsp0:SpOk txt sp) (hs:txt.length≤65536) (hn:sp.length≤131072) (hV:AVar w0): ∀(lv:Nat),lv≤32→YBC 60 w0 P txt sp (ymBlock txt sp lv) lv
 | 0,hl=>yblockS_any w0 P txt sp hsp0 hs hn hV 0 hl _ (fun h=>absurd rfl h) (fun m h=>by omega)
 | lv+1,hl=>yblockS_any w0 P txt sp hsp0 hs hn hV (lv+1) hl _ (fun _=>ymValue_good hsp0 (ymBlock_good hsp0 lv) lv) (fun m h=>by
   obtain rfl:m=lv:=by omega
   exact yvalue_any w0 P txt sp hsp0 hs hn hV m (by omega) _ (ymBlock_good hsp0 m) (yblock_any w0 P txt sp hsp0 hs hn hV m (by omega)))
end Go.Proofs.YtlibkhbachmcgaaGreatDoor
