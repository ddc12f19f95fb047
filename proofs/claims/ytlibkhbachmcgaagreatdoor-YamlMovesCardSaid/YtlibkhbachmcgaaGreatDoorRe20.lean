import Derived.Test.YtlibkhbachmcgaaGreatDoorRe19
import Derived.Test.YtlibkhbachmcgaaGreatDoorRe12
set_option maxRecDepth 100000
set_option maxHeartbeats 4000000
namespace Go.Proofs.YtlibkhbachmcgaaGreatDoor
set_option linter.unusedSimpArgs false
set_option linter.unusedVariables false
open Go.RowKit
open Go.Lib hiding intOf
theorem slI_line (s:Stp) (x:Nat×Nat):slI s (x.1:Int) (x.2:Int)=lineT s x:=rfl
theorem trim_len (t:Stp):(Lib.trimLeftB t 32).length=t.length-spL t:=by
 have h:Lib.trimLeftB t 32=t.drop (spL t):=by
  refine Lib.trimLeftB_drop t 32 (spL t) (spL_le t) (fun j b hj hb=>?_) (fun b hb=>?_)
  ·have:=spL_at t j hj
   rw[hb] at this
   exact Option.some.inj this
  ·intro e
   subst e
   exact spL_end t hb
 rw[h,List.length_drop]
theorem trimY_any (t:Stp) (w:World): ∃r:Stp,r.length=t.length-spL t∧Calls Tryz.prog 38 #[.string (bs t), .string ⟨#[32]⟩] w fun e w'=>e= .returned (.string (bs r))∧w=w':=by
 refine⟨Lib.trimLeftB t 32,trim_len t,?_⟩
 have h:=Tryz.strings_TrimLeft_one (bs t) 32 (by decide) w
 rw[bs_data] at h
 exact h.mono fun _ _ ⟨a,b⟩=>⟨a,b.symm⟩
section
variable {Pr:Frm}{w0:World}{P:Nat}{txt:Stp}{sp:List (Nat×Nat)}{st:YS}{a0 e0:Int}
theorem yblanks_any (k:Nat) (x:Nat×Nat) (w:World) (h:YJ YP Pr w0 P txt sp st a0 e0 w) (hx:sp[k]?=some x) (hsp:SpOk txt sp) (hs:txt.length≤65536):
  Calls Tryz.prog 255 #[.pointer (some ⟨P,0,none⟩), .int .i64 (k:Int)] w fun e w'=>e= .returned (.tuple #[.int .i64 (spL (lineT txt x):Int), .bool (decide (spL (lineT txt x)=(lineT txt x).length))])∧Below w.heap.size w w':=by
 obtain⟨x1,x2⟩:=hsp x (List.mem_of_getElem? hx)
 have hk:=(List.getElem?_eq_some_iff.1 hx).1
 obtain⟨t,ht⟩: ∃t,lineT txt x=t:=⟨_,rfl⟩
 have htl:=lineT_len x1 x2
 have hsl:=spL_le t
 rw[ht] at htl ⊢
 have CB:Hid (∀w',Below w.heap.size w w'→Calls Tryz.prog 155 #[.pointer (some ⟨P,0,none⟩), .agg #[.int .i64 (x.1:Int), .int .i64 (x.2:Int)]] w' fun e w2=>e= .returned (.string (bs t))∧Below w'.heap.size w' w2):=hid (fun w' hb=>by
  have:=ybytes_any (x.1:Int) (x.2:Int) w' (h.keep hb) (by omega) (by omega) (by omega) (by omega)
  rw[slI_line,ht] at this
  exact this)
 obtain⟨z,sv,lv,nv,_,hK⟩:=h
 obtain⟨gs,cs,rfl,hcs,s0,s1⟩:=hK.spanAt hx
 obtain⟨⟨_,c1,_⟩,_⟩:=hK.cells
 have hPl:=hK.lt
 have st:=bs_size t
 have hk0:(0:Int)≤(k:Int):=by omega
 have hk1:(k:Int)<(sp.length:Int):=by omega
 have htl2:t.length≤65536:=by omega
 obtain⟨nb,hnb⟩: ∃nb,spL t=nb:=⟨_,rfl⟩
 rw[hnb] at hsl ⊢
 have CT:Hid (∀w,∃r:Stp,r.length=t.length-nb∧Calls Tryz.prog 38 #[.string (bs t), .string ⟨#[32]⟩] w fun e w'=>e= .returned (.string (bs r))∧w=w'):=hid (fun w=>by rw[←hnb];exact trimY_any t w)
 clear hK hx hsp ht htl hnb x1 x2 hs hcs
 go_enter Tryz.func255,Tryz.ntmps255
 go_wp2_with fail
 refine(CB.out _ (by first | exact Below.refl _ _ | exact(Below.refl _ _).drew)).mono ?_
 rintro e w2 ⟨rfl,hb2⟩
 have HB2:=hid (show Below w.heap.size w w2 from by first | exact hb2 | exact below_of_new (Below.refl _ _).drew hb2)
 clear hb2
 obtain⟨r,hrl,hcr⟩:=CT.out w2
 have sr:=bs_size r
 have CR:=hid hcr
 clear hcr
 go_wp2_with fail
 refine CR.out.mono ?_
 rintro e w3 ⟨rfl,rfl⟩
 have e1:(t.length:Int)-(r.length:Int)=(nb:Int):=by omega
 have hwr:IntKind.i64.wrap ((t.length:Int)-(r.length:Int))=(nb:Int):=by rw[e1,IntKind.wrap_i64];omega
 clear hrl
 go_wp2_with fail
 go_ret2
 refine⟨?_,HB2.out⟩
 simp[e1]
 rw[Bool.eq_iff_iff,beq_iff_eq,decide_eq_true_eq]
 omega
end
def mayR (r n:Int):Bool:=!(r==65533&&n==1)&&(r==9||(decide (32≤r)&&r !=127))
theorem badM_may (d:Nat×Nat):badM d=!mayR (d.1:Int) (d.2:Int):=by
 unfold badM mayR
 have h1:((d.1:Int)==65533)=(d.1==65533):=by rw[Bool.eq_iff_iff,beq_iff_eq,beq_iff_eq];omega
 have h2:((d.2:Int)==1)=(d.2==1):=by rw[Bool.eq_iff_iff,beq_iff_eq,beq_iff_eq];omega
 have h3:((d.1:Int)==9)=(d.1==9):=by rw[Bool.eq_iff_iff,beq_iff_eq,beq_iff_eq];omega
 have h4:decide ((32:Int)≤(d.1:Int))=decide (32≤d.1):=by rw[Bool.eq_iff_iff,decide_eq_true_eq,decide_eq_true_eq];omega
 have h5:((d.1:Int) !=127)=(d.1 !=127):=by rw[Bool.eq_iff_iff,bne_iff_ne,bne_iff_ne];omega
 rw[h1,h2,h3,h4,h5]
 cases (d.1==65533&&d.2==1)<;>cases (d.1==9||decide (32≤d.1)&&d.1 !=127)<;>rfl
theorem ymay_any (r n:Int) (w:World):Calls Tryz.prog 257 #[.int .i32 r, .int .i64 n] w fun e w'=>e= .returned (.bool (mayR r n))∧w=w':=by
 unfold mayR
 by_cases h1:r=65533
 ·subst h1
  by_cases h2:n=1
  ·subst h2
   go_enter Tryz.func257,Tryz.ntmps257
   go_wp2_with fail
   go_ret
   exact⟨rfl,rfl⟩
  ·have d2:(n==1)=false:=beq_eq_false_iff_ne.2 h2
   rw[d2]
   clear h2
   go_enter Tryz.func257,Tryz.ntmps257
   go_wp2_with fail
   go_ret
   exact⟨rfl,rfl⟩
 ·have d1:(r==65533)=false:=beq_eq_false_iff_ne.2 h1
  rw[d1]
  clear h1
  by_cases h3:r=9
  ·subst h3
   go_enter Tryz.func257,Tryz.ntmps257
   go_wp2_with fail
   go_ret
   exact⟨rfl,rfl⟩
  ·have d3:(r==9)=false:=beq_eq_false_iff_ne.2 h3
   rw[d3]
   clear h3
   by_cases h4:32≤r
   ·have d4:decide (32≤r)=true:=decide_eq_true h4
    rw[d4]
    clear h4
    by_cases h5:r=127
    ·subst h5
     go_enter Tryz.func257,Tryz.ntmps257
     go_wp2_with fail
     go_ret
     exact⟨rfl,rfl⟩
    ·have d5:(r !=127)=true:=bne_iff_ne.2 h5
     rw[d5]
     clear h5
     go_enter Tryz.func257,Tryz.ntmps257
     go_wp2_with fail
     go_ret
     exact⟨rfl,rfl⟩
   ·have d4:decide (32≤r)=false:=decide_eq_false h4
    rw[d4]
    clear h4
    go_enter Tryz.func257,Tryz.ntmps257
    go_wp2_with fail
    go_ret
    exact⟨rfl,rfl⟩
theorem decodeL_at (l:Stp) (i:Nat):decodeL (l.drop i)=((Utf8.decode (bs l) i).1,(Utf8.decode (bs l) i).2):=by
 have hd:=decodeL_drop (bs l) i
 rw[bs_data] at hd
 exact hd
theorem yrune_any (l:Stp) (i:Nat) (w:World) (hi:i<l.length) (hs:l.length≤1073741824) (hT:Tabs w):
  Calls Tryz.prog 256 #[.string (bs l), .int .i64 (i:Int)] w fun e w'=>e= .returned (.tuple #[.int .i32 ((decodeL (l.drop i)).1:Int), .int .i64 ((decodeL (l.drop i)).2:Int)])∧Below w.heap.size w w':=by
 rw[decodeL_at]
 have sl:=bs_size l
 have CD:=hid (fun w=>dec_l l i w hi)
 have HT:=hid hT
 have hi1:(i:Int)<(l.length:Int):=by omega
 clear hT
 go_enter Tryz.func256,Tryz.ntmps256
 go_wp2_with (go_at_call 85;refine(CD.out _ HT.out).mono ?_;rintro e w' ⟨rfl,hb⟩)
 go_ret2
 exact⟨rfl,hb⟩
def tlR (x:Nat×Nat) (nb:Nat):LineR:=⟨6,x.1,x.2,nb,0,0,0,0,0,0⟩
theorem tlR_eq (s:Stp) (x:Nat×Nat):tlR x (spL (lineT s x))=textLine s x:=rfl
def TakeE (Pr:Frm) (w0:World) (P:Nat) (txt:Stp) (sp:List (Nat×Nat)) (st:YS) (x:Nat×Nat) (e:Ending) (w':World):Prop:=
 (mayA txt x<x.2∧e= .returned (.bool false)∧YBad YP Pr w0 P txt sp (mayA txt x:Int) 2 w')∨(¬mayA txt x<x.2∧e= .returned (.bool true)∧YJ YP Pr w0 P txt sp ⟨st.lines++ [textLine txt x],st.nodes,st.total⟩ 0 0 w')
theorem mayGo_zero (s:Stp) (e:Nat) (f i:Nat) (h:e≤i):mayGo s e f i=i:=by
 cases f with
 | zero=>rfl
 | succ f=>unfold mayGo;rw[if_pos h]
theorem ytakes_any {Pr:Frm}{w0:World}{P:Nat}{txt:Stp}{sp:List (Nat×Nat)}{st:YS} (q:Nat) (x:Nat×Nat) (w:World) (h:YJ YP Pr w0 P txt sp st 0 0 w) (hx:sp[q]?=some x) (hsp:SpOk txt sp) (hl:st.lines.length≤sp.length) (hs:txt.length≤65536) (hn:sp.length≤131072) (hV:AVar w0):
  Calls Tryz.prog 228 #[.pointer (some ⟨P,0,none⟩), .int .i64 (q:Int)] w (TakeE Pr w0 P txt sp st x):=by
 obtain⟨x1,x2⟩:=hsp x (List.mem_of_getElem? hx)
 have hq:=(List.getElem?_eq_some_iff.1 hx).1
 obtain⟨i0,hi0,hz0,hz1,hz2⟩:=info_parts Tryz.infoLine
 have HSP:=hid hsp
 have HX:=hid hx
 obtain⟨k,hk⟩: ∃k,st.lines.length=k:=⟨_,rfl⟩
 rw[hk] at hl
 have HKL:=hid hk
 have HJ:=hid h
 have HV:Hid (∀w',Below w.heap.size w w'→Tabs w'):=hid (fun w' hb=>((hV.keep h.bel).keep hb).tabs)
 have b0:=below_alloc1 w (.cells #[.int .i64 (x.1:Int), .int .i64 (x.2:Int)] 42)
 obtain⟨M,hM⟩: ∃M,mayA txt x=M:=⟨_,rfl⟩
 unfold TakeE
 rw[hM]
 have HM:Hid (mayGo txt x.2 (x.2-x.1) x.1=M):=hid hM
 obtain⟨z,sv,lv,nv,hz,hK⟩:=h
 obtain⟨gs,cs,rfl,hcs,s0,s1⟩:=hK.spanAt hx
 obtain⟨⟨_,c1,_⟩,_⟩:=hK.cells
 have hPl:=hK.lt
 have hq0:(0:Int)≤(q:Int):=by omega
 have hq1:(q:Int)<(sp.length:Int):=by omega
 have sl:=bs_size txt
 have hX0:=heap_alloc_new w (.cells #[.int .i64 (x.1:Int), .int .i64 (x.2:Int)] 42)
 obtain⟨X,hXe⟩: ∃X,w.heap.size=X:=⟨_,rfl⟩
 have HXe:=hid hXe
 clear hK hz hx hsp hk hV hM hcs
 go_enter Tryz.func228,Tryz.ntmps228
 go_upto_region 2 with fail
 have hput:=HJ.out.put b0 (Nat.le_refl _) hX0
 have hless: ∀k o,Pr k=some o→(Pr.put w.heap.size (.cells #[.int .i64 (x.1:Int), .int .i64 (x.2:Int)] 42)) k=some o:=Frm.put_less (fun k o hk=>HJ.out.frLt k o hk) (Nat.le_refl _)
 obtain⟨W1,hW1⟩: ∃W,w.alloc (.cells #[.int .i64 (x.1:Int), .int .i64 (x.2:Int)] 42)=W:=⟨_,rfl⟩
 rw[hW1] at hput b0 hX0
 rw[hXe] at hput hless hX0
 rw[hW1]
 have HP1:=hid hput
 have HX1:=hid hX0
 have HLess:=hid hless
 have HB1:=hid b0
 obtain⟨y0,y1⟩:=cells_at2 hX0
 clear hput hless hX0 b0 hW1 hXe s0 s1 c1 HJ
 go_wp2_with fail
 go_loopw [6] (fun s6 wr=> ∃(i f:Nat),s6= .int .i64 (i:Int)∧i≤65536∧Hid (x.2≤i+f∧mayGo txt x.2 f i=M)∧Hid (Below W1.heap.size W1 wr)) (fun s6 _=>x.2-(RowKit.intOf s6).toNat)
 case atStart=>exact⟨x.1,x.2-x.1,rfl,by omega,hid ⟨by omega,HM.out⟩,hid (Below.refl _ _)⟩
 case round=>
  obtain⟨i,f,rfl,hi,HF,HBr⟩:=hrel
  have HPr:=hid (HP1.out.keep HBr.out)
  have HXr:=hid (HPr.out.at_ (Frm.put_eq _ _ _))
  obtain⟨y0,y1⟩:=cells_at2 HXr.out
  obtain⟨z,sv,lvv,nv,hz,hK⟩:=HPr.out
  obtain⟨⟨c0,c1,c2,_⟩,_⟩:=hK.cells
  have hPl:=hK.lt
  have hXl:=cell_it HXr.out
  have hii:(0:Int)≤(i:Int):=by omega
  by_cases hix:i<x.2
  ·have d1:decide ((i:Int)<(x.2:Int))=true:=decide_eq_true (by omega)
   have d1n:decide (i<x.2)=true:=decide_eq_true hix
   have hit:i<txt.length:=by omega
   have CN:Hid (∀w',Below wr.heap.size wr w'→Calls Tryz.prog 256 #[.string (bs txt), .int .i64 (i:Int)] w' fun e w2=>e= .returned (.tuple #[.int .i32 ((decodeL (txt.drop i)).1:Int), .int .i64 ((decodeL (txt.drop i)).2:Int)])∧Below w'.heap.size w' w2):=hid (fun w' hb=>yrune_any txt i w' hit (by omega) (HV.out w' (HB1.out.trans ((below_of_new HBr.out hb).mono HB1.out.size))))
   have hne:txt.drop i≠ []:=fun e=>by have:=congrArg List.length e;rw[List.length_drop] at this;simp at this;omega
   have hdw:=decodeL_le (txt.drop i) hne
   have hdw2:1≤(decodeL (txt.drop i)).2:=by
    cases hd:txt.drop i with
    | nil=>exact absurd hd hne
    | cons c t=>exact decodeL_width (c::t)
   rw[List.length_drop] at hdw
   obtain⟨g,hg⟩: ∃g,f=g+1:=⟨f-1,by have:=HF.out.1;omega⟩
   subst hg
   have hM:=HF.out.2
   have hfi:=HF.out.1
   unfold mayGo at hM
   rw[if_neg (by omega)] at hM
   obtain⟨d,hd⟩: ∃d,decodeL (txt.drop i)=d:=⟨_,rfl⟩
   rw[hd] at CN hdw hdw2 hM
   obtain⟨r,n⟩:=d
   rw[badM_may] at hM
   simp only[] at CN hdw hdw2 hM
   have CM:=hid (fun w=>ymay_any (r:Int) (n:Int) w)
   obtain⟨m,hm⟩: ∃m,mayR (r:Int) (n:Int)=m:=⟨_,rfl⟩
   rw[hm] at CM hM
   clear hd hm hne HF hK hz
   cases m with
   | false=>
    rw[if_pos (by rfl)] at hM
    have HMi:=hid hM
    have HIX:=hid hix
    have CF:=hid (fun w' hj=>yfail_any (Pr:=Pr.put X (.cells #[.int .i64 (x.1:Int), .int .i64 (x.2:Int)] 42)) (w0:=w0) (P:=P) (txt:=txt) (sp:=sp) (st:=st) (a0:=0) (e0:=0) (i:Int) 2 w' hj)
    clear hM hix
    go_wp2_with fail
    refine(CN.out _ (by first | exact Below.refl _ _ | exact(Below.refl _ _).drew)).mono ?_
    rintro e w2 ⟨rfl,hb2⟩
    have HP2:=hid (HPr.out.keep (by first | exact hb2 | exact below_of_new (Below.refl _ _).drew hb2))
    clear hb2
    go_wp2_with fail
    refine(CM.out _).mono ?_
    rintro e w3 ⟨rfl,rfl⟩
    go_wp2_with fail
    refine(CF.out _ (by first | exact HP2.out | exact HP2.out.keep (Below.refl _ _).drew)).mono ?_
    rintro e w4 ⟨rfl,hj⟩
    have HFi:=hid (hj.less HLess.out).bad
    clear hj
    go_wp2_with fail
    go_ret
    exact .inl ⟨by rw[←HMi.out];exact HIX.out,rfl,by rw[←HMi.out];exact HFi.out⟩
   | true=>
    rw[if_neg (by simp)] at hM
    have HMi:=hid hM
    obtain⟨i1,hi1⟩: ∃i1,i+n=i1:=⟨_,rfl⟩
    have HI1:=hid hi1
    have hi1z:(i:Int)+(n:Int)=(i1:Int):=by omega
    have hlt1:i<i1:=by omega
    have hi1b:i1≤65536:=by omega
    have hgi:x.2≤i1+g:=by omega
    have HG:=hid hgi
    clear hM hi1 hgi hfi hdw
    go_wp2_with fail
    refine(CN.out _ (by first | exact Below.refl _ _ | exact(Below.refl _ _).drew)).mono ?_
    rintro e w2 ⟨rfl,hb2⟩
    have HB2:=hid (below_of_new HBr.out (by first | exact hb2 | exact below_of_new (Below.refl _ _).drew hb2))
    clear hb2
    go_wp2_with fail
    refine(CM.out _).mono ?_
    rintro e w3 ⟨rfl,rfl⟩
    go_wp2_with fail
    go_roundw
    ·exact⟨i1,g,by first | rfl | rw[←hi1z],hi1b,hid ⟨HG.out,by rw[←HI1.out];exact HMi.out⟩,HB2⟩
    ·(try simp only[RowKit.intOf]);omega
  ·have d1:decide ((i:Int)<(x.2:Int))=false:=decide_eq_false (by omega)
   have d1n:decide (i<x.2)=false:=decide_eq_false hix
   have hM:=HF.out.2
   rw[mayGo_zero _ _ _ _ (by omega)] at hM
   have HNM:=hid (show ¬M<x.2 by omega)
   have CB:=hid (fun w' hj=>yblanks_any (Pr:=Pr.put X (.cells #[.int .i64 (x.1:Int), .int .i64 (x.2:Int)] 42)) (w0:=w0) (P:=P) (txt:=txt) (sp:=sp) (st:=st) (a0:=0) (e0:=0) q x w' hj HX.out HSP.out hs)
   obtain⟨nb,hnb⟩: ∃nb,spL (lineT txt x)=nb:=⟨_,rfl⟩
   obtain⟨bb,hbb⟩: ∃bb,decide (spL (lineT txt x)=(lineT txt x).length)=bb:=⟨_,rfl⟩
   rw[hbb,hnb] at CB
   have HNB:=hid hnb
   clear hM hix hnb hbb HF hK hz
   go_wp2_with fail
   refine(CB.out _ (by first | exact HPr.out | exact HPr.out.keep (Below.refl _ _).drew)).mono ?_
   rintro e w2 ⟨rfl,hb2⟩
   have HP2:=hid (HPr.out.keep (by first | exact hb2 | exact below_of_new (Below.refl _ _).drew hb2))
   clear hb2 y0 y1 c0 c1 c2
   go_upto_region 9 with fail
   obtain⟨W2,hW2⟩: ∃W,w2.drew=W:=⟨_,rfl⟩
   obtain⟨z,sv,lvv,nv,hz,hK2⟩:=HP2.out.keep (Below.refl _ w2).drew
   rw[hW2] at hK2
   obtain⟨pl,cl,rfl⟩:=hK2.lnSlice
   rw[HKL.out] at hK2
   have HZ:=hid hz
   have HK2:=hid hK2
   have hrow:=hK2.lnr
   rw[HKL.out] at hrow
   have HROW:=hid hrow
   have HB0:=hid hK2.bel.size
   obtain⟨SB,hSB⟩: ∃S:World→Prop,(fun w'=>(w'.cell? ⟨P,2,none⟩=some (.slice pl k cl)∧w'.frozen? ⟨P,2,none⟩=false)∧w'.cell? ⟨X,0,none⟩=some (.int .i64 (x.1:Int))∧w'.cell? ⟨X,1,none⟩=some (.int .i64 (x.2:Int)))=S:=⟨_,rfl⟩
   have HSB:Hid (∀q c w',q<3→PhA 51 w0.heap.size (.slice pl k cl) k (lnCells st.lines) (lineA (tlR x nb)) P 2 W2 q c w'→SB w'):=hid (fun q c w' hq hp=>by
    rw[←hSB]
    have hs:=HK2.out.seenA HROW.out (by decide) (fun j o hj=>(HK2.out.fr j o hj).2.2.1) hq hp
    obtain⟨c2,f2⟩:=hs.c2
    obtain⟨b0,b1⟩:=cells_at2 (hs.fr X _ (Frm.put_eq _ _ _))
    exact⟨⟨c2,f2⟩,b0,b1⟩)
   clear hK2 hrow hz
   have hfol:Tryz.prog.follows .mixedOrders=true:=by kernel_rfl
   refine wp_region_rcf3 hfol [some 49,some 50,some 51,some 52,some 53,some 54,some 55,some 56,some 57,some 58,some 59,some 60,none] [49,50,51,52,53,54,55,56,57,58,59,60] [8,9,12] 1000000 (fun _ _=>True) 61 rfl (by kernel_rfl) (by kernel_rfl) (by kernel_rfl) (fun iz=>match iz with | 0=> .pointer (some ⟨P,0,none⟩) | 1=> .pointer (some ⟨P,0,none⟩) | 2=> .pointer (some ⟨P,0,none⟩) | 3=> .pointer (some ⟨P,2,none⟩) | 4=> .slice pl k cl | 5=> .agg #[.int .i64 (x.1:Int), .int .i64 (x.2:Int)] | 6=> .int .i64 (nb:Int) | 7=> .agg #[.int .i64 6, .int .i64 (x.1:Int), .int .i64 (x.2:Int), .int .i64 (nb:Int), .int .i64 0, .int .i64 0, .int .i64 0, .int .i64 0, .int .i64 0, .int .i64 0] | 10=> .pointer (some ⟨P,0,none⟩) | 11=> .pointer (some ⟨P,2,none⟩) | _=>undef) SB (PhA 51 w0.heap.size (.slice pl k cl) k (lnCells st.lines) (lineA (tlR x nb)) P 2 W2) (by rw[hW2];exact HSB.out 0 undef _ (by decide) (Below.refl _ _)) (by rw[hW2];exact Below.refl _ _) ?_ ?_
   ·intro d a w' iq o' ho hi hall hfr hF R' hR
    have hiN:iq<13:=(Array.getElem?_eq_some_iff.1 ho).1
    have q0:a.tmps[0]?.getD undef= .pointer (some ⟨P,0,none⟩):=fr_q hfr 0 (by decide)
    have q5:a.tmps[5]?.getD undef= .pointer (some ⟨X,0,none⟩):=fr_q hfr 5 (by decide)
    have q9:a.tmps[9]?.getD undef= .int .i64 (nb:Int):=fr_q hfr 9 (by decide)
    have hc:=hF.all [(0,49),(1,50),(2,51),(3,52),(4,53),(5,54),(6,55),(7,56),(10,59),(11,60)] (by decide)
    dsimp only[AllP] at hc
    clear hfr
    have ha:=hall
    have hoo:=ho
    have hcs:iq=8∨iq=9∨iq=12∨iq=0∨iq=1∨iq=2∨iq=3∨iq=6∨iq=7∨iq=10∨iq=11∨iq=4∨iq=5:=by omega
    clear hiN
    rcases hcs with rfl | rfl | rfl | rfl | rfl | rfl | rfl | rfl | rfl | rfl | rfl | rfl | rfl<;>simp only[List.getElem?_toArray,List.getElem?_cons_zero,List.getElem?_cons_succ,Option.some.injEq] at ho<;>subst ho<;>(try simp[Region.binds] at hall)
    ·have c56:=hF.g 7 56 rfl (by decide) (by decide) (by decide) (by simp[hall])
     have hP0:=hF.at2 (j:=0) rfl hi (.inl rfl)
     have hA:Below W2.heap.size W2 w':=hP0
     go_simp
     exact hR _ _ (hF.eff2 (by kernel_rfl) (by decide) 0 hoo ha rfl hi (.inl rfl) rfl (by decide) (fun _ _ _=>trivial) (fun _=>HSB.out 1 _ _ (by decide) ⟨w',hA,rfl,rfl⟩) ⟨w',hA,rfl,rfl⟩)
    ·have c53:=hF.g 4 53 rfl (by decide) (by decide) (by decide) (by simp[hall])
     have hpv:d 8=true:=by simp[hall]
     have hP0:=hF.at2 (j:=1) rfl hi (.inr ⟨8,rfl,hpv⟩)
     have ca':a.tmps.getD 53 undef= .slice pl k cl:=by rw[Array.getD_eq_getD_getElem?];exact c53
     exact PhA.app rfl (.tmp 53) (.tmp 57) 23 rfl Tryz.underlying23 hi0 hz0 hz1 hz2 rfl (by decide) rfl (lineA_one (tlR x nb)) HROW.out (by omega) (by decide) HB0.out hP0 ca' rfl (fun v' w2 hp=>hR _ _ (hF.eff2 (by kernel_rfl) (by decide) 1 hoo ha rfl hi (.inr ⟨8,rfl,hpv⟩) rfl (by decide) (fun _ _ _=>trivial) (fun _=>HSB.out 2 _ _ (by decide) hp) hp))
    ·have c60:=hF.g 11 60 rfl (by decide) (by decide) (by decide) (by simp[hall])
     have hpv:d 9=true:=by simp[hall]
     have hP0:=hF.at2 (j:=2) rfl hi (.inr ⟨9,rfl,hpv⟩)
     have hS0:=hF.st hi
     rw[←hSB] at hS0
     obtain⟨⟨p2,p2f⟩,b0,b1⟩:=hS0
     have hP2:PhA 51 w0.heap.size (.slice pl k cl) k (lnCells st.lines) (lineA (tlR x nb)) P 2 W2 2 (a.tmps.getD 58 undef) w':=hP0
     obtain⟨gz,cz,hz⟩:=hP2.form
     rw[hz] at hP2
     have c58:a.tmps[58]?.getD undef= .slice (some ⟨gz,0,none⟩) (k+1) cz:=by rw[←Array.getD_eq_getD_getElem?];exact hz
     go_simp
     exact hR undef _ (hF.eff2 (by kernel_rfl) (by decide) 2 hoo ha rfl hi (.inr ⟨9,rfl,hpv⟩) rfl (by decide) (fun _ _ _=>trivial) (fun h=>absurd rfl h) ⟨_,_,hP2,rfl⟩)
    iterate 8 (go_simp;exact hR _ _ (hF.pure (by kernel_rfl) hoo ha rfl (by decide) (by decide) (by decide) rfl))
    all_goals
     have hS0:=hF.early (f:=13) (by kernel_rfl) hi
     rw[←hSB] at hS0
     obtain⟨⟨p2,p2f⟩,b0,b1⟩:=hS0
     go_simp
     exact hR _ _ (hF.pure (by kernel_rfl) hoo ha rfl (by decide) (by decide) (by decide) rfl)
   intro v wy hcl hP3
   obtain⟨cz,hcz⟩: ∃c,PhA 51 w0.heap.size (.slice pl k cl) st.lines.length (lnCells st.lines) (lineA (tlR x nb)) P 2 W2 3 c wy:=⟨_,by rw[HKL.out];exact hP3⟩
   obtain⟨lv',hK3⟩:=HK2.out.lineA hcz
   have hK4:=hK3.less HLess.out
   rw[show tlR x nb=textLine txt x by rw[←tlR_eq txt x,HNB.out]] at hK4
   have HFi:=hid hK4
   clear hP3 hK3 hK4 hcz hcl HSB hSB hW2
   simp only[fillT,List.setIfInBounds_toArray,List.set_cons_succ,List.set_cons_zero]
   go_wp2_with fail
   go_ret
   exact .inr ⟨HNM.out,rfl,z,_,_,_,HZ.out,HFi.out⟩
theorem yreach_any {Pr:Frm}{w0:World}{P:Nat}{txt:Stp}{sp:List (Nat×Nat)}{st:YS} (k:Nat) (ind:Int) (w:World) (h:YJ YP Pr w0 P txt sp st 0 0 w) (hk:k<st.lines.length) (hl:st.lines.length≤sp.length) (hi:(lnAt st.lines k).ind=ind) (hsp:SpOk txt sp) (hs:txt.length≤65536) (hn:sp.length≤131072):
  Calls Tryz.prog 227 #[.pointer (some ⟨P,0,none⟩), .int .i64 (k:Int)] w fun e w'=>e= .returned (.int .i64 (reachM txt sp ind k:Int))∧Below w.heap.size w w':=by
 obtain⟨R,hR⟩: ∃R,reachM txt sp ind k=R:=⟨_,rfl⟩
 rw[hR]
 unfold reachM at hR
 have HR:=hid hR
 have HJ:=hid h
 have HSP:=hid hsp
 have hks:k+1≤sp.length:=by omega
 have hln:=lnAt_get hk
 obtain⟨r,hr⟩: ∃r,lnAt st.lines k=r:=⟨_,rfl⟩
 rw[hr] at hln hi
 have HLN:=hid hln
 have hri:r.ind=ind:=hi
 obtain⟨n,hnn⟩: ∃n,st.lines.length=n:=⟨_,rfl⟩
 rw[hnn] at hk hl
 have HN:=hid hnn
 obtain⟨k1,hk1⟩: ∃k1,k+1=k1:=⟨_,rfl⟩
 rw[hk1] at HR hks
 have hk1z:(k:Int)+1=(k1:Int):=by omega
 have hk0:(0:Int)≤(k:Int):=by omega
 have hkn:(k:Int)<(n:Int):=by omega
 clear h hR hsp hln hr hi hnn hk1 hk
 go_enter Tryz.func227,Tryz.ntmps227
 go_wp2_with fail
 go_loopw [5,6,7] (fun s5 s6 s7 wr=> ∃(til first i:Nat),s5= .int .i64 (til:Int)∧s6= .int .i64 (first:Int)∧s7= .int .i64 (i:Int)∧i≤sp.length∧Hid (reachG txt ind (sp.drop i) i til first=R)∧Hid (Below w.heap.size w wr)) (fun _ _ s7 _=>sp.length+1-(RowKit.intOf s7).toNat)
 case atStart=>exact⟨k1,0,k1,by first | rfl | rw[←hk1z],rfl,by first | rfl | rw[←hk1z],hks,HR,hid (Below.refl _ _)⟩
 case round=>
  obtain⟨til,first,i,rfl,rfl,rfl,hi,HG,HB⟩:=hrel
  have HJr:=hid (HJ.out.keep HB.out)
  have CT:Hid (∀w',Below wr.heap.size wr w'→Calls Tryz.prog 59 #[.pointer (some ⟨P,0,none⟩), .int .i64 (i:Int)] w' fun e w2=>e= .returned (.bool (decide (i<sp.length)))∧Below w'.heap.size w' w2):=hid (fun w' hb=>ythere_any i w' (HJr.out.keep hb))
  have hii:(0:Int)≤(i:Int):=by omega
  by_cases hil:i<sp.length
  ·rw[decide_eq_true hil] at CT
   obtain⟨x,hx⟩: ∃x,sp[i]?=some x:=⟨_,List.getElem?_eq_getElem hil⟩
   have hdr:sp.drop i=x::sp.drop (i+1):=by
    rw[List.drop_eq_getElem_cons hil]
    rw[List.getElem?_eq_getElem hil] at hx
    rw[Option.some.inj hx]
   have hg:=HG.out
   rw[hdr] at hg
   unfold reachG at hg
   obtain⟨x1,x2⟩:=HSP.out x (List.mem_of_getElem? hx)
   have htl:=lineT_len x1 x2
   have CB:Hid (∀w',Below wr.heap.size wr w'→Calls Tryz.prog 255 #[.pointer (some ⟨P,0,none⟩), .int .i64 (i:Int)] w' fun e w2=>e= .returned (.tuple #[.int .i64 (spL (lineT txt x):Int), .bool (decide (spL (lineT txt x)=(lineT txt x).length))])∧Below w'.heap.size w' w2):=hid (fun w' hb=>yblanks_any i x w' (HJr.out.keep hb) hx HSP.out hs)
   obtain⟨nb,hnb⟩: ∃nb,spL (lineT txt x)=nb:=⟨_,rfl⟩
   have hnbl:nb≤65536:=by have:=spL_le (lineT txt x);omega
   rw[hnb] at CB hg
   obtain⟨i1,hi1⟩: ∃i1,i+1=i1:=⟨_,rfl⟩
   have hi1z:(i:Int)+1=(i1:Int):=by omega
   have hi1s:i1≤sp.length:=by omega
   rw[hi1] at hg
   obtain⟨z,sv,lv,nv,hz,hK⟩:=HJr.out
   obtain⟨gl,cl,e9,_,hcell⟩:=hK.lineAt HLN.out
   rw[HN.out] at e9
   subst e9
   have hcl: ∀w',Below wr.heap.size wr w'→w'.cell? ⟨P,2,none⟩=some (.slice (some ⟨gl,0,none⟩) n cl)∧w'.cell? ⟨gl,k*10+2+1,none⟩=some (.int .i64 ind):=fun w' hb=>by
    have hK2:=hK.keep hb
    obtain⟨⟨_,_,c2,_⟩,_⟩:=hK2.cells
    obtain⟨g2,c2',e2,_,hcell2⟩:=hK2.lineAt HLN.out
    have e3:=(Value.slice.inj e2).1
    injection e3 with e3
    injection e3 with e3
    subst e3
    have:=hcell2 3 _ (by omega) rfl
    rw[hri] at this
    exact⟨c2,this⟩
   have HCL:=hid hcl
   have hPl:=hK.lt
   clear hcl hK hz hcell hdr x1 x2 htl hi1 hx
   by_cases hbl:nb=(lineT txt x).length
   ·rw[if_pos hbl] at hg
    rw[decide_eq_true hbl] at CB
    have HG2:=hid hg
    clear hbl hg hnb
    go_wp2_with fail
    refine(CT.out _ (by first | exact Below.refl _ _ | exact(Below.refl _ _).drew)).mono ?_
    rintro e w2 ⟨rfl,hb2⟩
    have HB2:=hid hb2
    clear hb2
    go_wp2_with fail
    refine(CB.out _ HB2.out).mono ?_
    rintro e w3 ⟨rfl,hb3⟩
    have HB3:=hid (below_of_new HB.out (below_of_new HB2.out hb3))
    clear hb3
    go_wp2_with fail
    go_roundw
    ·exact⟨til,first,i1,rfl,rfl,by first | rfl | rw[←hi1z],hi1s,HG2,HB3⟩
    ·(try simp only[RowKit.intOf]);omega
   rw[if_neg hbl] at hg
   rw[decide_eq_false hbl] at CB
   clear hbl hnb
   by_cases h1:(nb:Int)≤ind
   ·rw[if_pos (.inl h1)] at hg
    have d1:decide ((nb:Int)≤ind)=true:=decide_eq_true h1
    have HG2:=hid hg
    clear h1 hg
    go_wp2_with fail
    refine(CT.out _ (by first | exact Below.refl _ _ | exact(Below.refl _ _).drew)).mono ?_
    rintro e w2 ⟨rfl,hb2⟩
    have HB2:=hid hb2
    clear hb2
    go_wp2_with fail
    refine(CB.out _ HB2.out).mono ?_
    rintro e w3 ⟨rfl,hb3⟩
    have hb4:=below_of_new HB2.out hb3
    obtain⟨c2,b3⟩:=HCL.out w3 hb4
    have HB3:=hid (below_of_new HB.out hb4)
    clear hb3 hb4
    go_wp2_with fail
    go_ret
    rw[←HG2.out]
    exact⟨rfl,HB3.out⟩
   have d1:decide ((nb:Int)≤ind)=false:=decide_eq_false h1
   by_cases h2:nb<first
   ·rw[if_pos (.inr h2)] at hg
    have d2:decide ((nb:Int)<(first:Int))=true:=decide_eq_true (by omega)
    have d2n:decide (nb<first)=true:=decide_eq_true h2
    have HG2:=hid hg
    clear h1 h2 hg
    go_wp2_with fail
    refine(CT.out _ (by first | exact Below.refl _ _ | exact(Below.refl _ _).drew)).mono ?_
    rintro e w2 ⟨rfl,hb2⟩
    have HB2:=hid hb2
    clear hb2
    go_wp2_with fail
    refine(CB.out _ HB2.out).mono ?_
    rintro e w3 ⟨rfl,hb3⟩
    have hb4:=below_of_new HB2.out hb3
    obtain⟨c2,b3⟩:=HCL.out w3 hb4
    have HB3:=hid (below_of_new HB.out hb4)
    clear hb3 hb4
    go_wp2_with fail
    go_ret
    rw[←HG2.out]
    exact⟨rfl,HB3.out⟩
   rw[if_neg (by rintro(h | h);exact h1 h;exact h2 h)] at hg
   have d2:decide ((nb:Int)<(first:Int))=false:=decide_eq_false (by omega)
   have d2n:decide (nb<first)=false:=decide_eq_false h2
   obtain⟨f2,hf2⟩: ∃f2,(if first=0 then nb else first)=f2:=⟨_,rfl⟩
   rw[hf2] at hg
   have HG2:=hid hg
   clear h1 h2 hg
   by_cases h3:first=0
   ·rw[if_pos h3] at hf2
    subst hf2 h3
    go_wp2_with fail
    refine(CT.out _ (by first | exact Below.refl _ _ | exact(Below.refl _ _).drew)).mono ?_
    rintro e w2 ⟨rfl,hb2⟩
    have HB2:=hid hb2
    clear hb2
    go_wp2_with fail
    refine(CB.out _ HB2.out).mono ?_
    rintro e w3 ⟨rfl,hb3⟩
    have hb4:=below_of_new HB2.out hb3
    obtain⟨c2,b3⟩:=HCL.out w3 hb4
    have HB3:=hid (below_of_new HB.out hb4)
    clear hb3 hb4
    go_wp2_with fail
    go_roundw
    ·exact⟨i1,nb,i1,by first | rfl | rw[←hi1z],rfl,by first | rfl | rw[←hi1z],hi1s,HG2,HB3⟩
    ·(try simp only[RowKit.intOf]);omega
   ·rw[if_neg h3] at hf2
    subst hf2
    have d3:((first:Int)==0)=false:=beq_eq_false_iff_ne.2 (by omega)
    have d3n:(first==0)=false:=beq_eq_false_iff_ne.2 h3
    clear h3
    go_wp2_with fail
    refine(CT.out _ (by first | exact Below.refl _ _ | exact(Below.refl _ _).drew)).mono ?_
    rintro e w2 ⟨rfl,hb2⟩
    have HB2:=hid hb2
    clear hb2
    go_wp2_with fail
    refine(CB.out _ HB2.out).mono ?_
    rintro e w3 ⟨rfl,hb3⟩
    have hb4:=below_of_new HB2.out hb3
    obtain⟨c2,b3⟩:=HCL.out w3 hb4
    have HB3:=hid (below_of_new HB.out hb4)
    clear hb3 hb4
    go_wp2_with fail
    go_roundw
    ·exact⟨i1,first,i1,by first | rfl | rw[←hi1z],rfl,by first | rfl | rw[←hi1z],hi1s,HG2,HB3⟩
    ·(try simp only[RowKit.intOf]);omega
  ·have hie:i=sp.length:=by omega
   subst hie
   rw[decide_eq_false hil] at CT
   have hg:=HG.out
   rw[List.drop_length] at hg
   unfold reachG at hg
   have HG2:=hid hg
   clear hg hil
   go_wp2_with fail
   refine(CT.out _ (by first | exact Below.refl _ _ | exact(Below.refl _ _).drew)).mono ?_
   rintro e w2 ⟨rfl,hb2⟩
   have HB2:=hid (below_of_new HB.out hb2)
   clear hb2
   go_wp2_with fail
   go_ret
   rw[←HG2.out]
   exact⟨rfl,HB2.out⟩
def zeroND:YND:=⟨0,0,0,0,0,0,0,0,[]⟩
theorem box9f {w:World}{X:Nat}{a0 a1 a2 a3 a4 a5 a6 a7 a8:Value}{t:TypeId} (hb:w.heap[X]?=some (.cells #[a0,a1,a2,a3,a4,a5,a6,a7,a8] t (0,0))):w.cell? ⟨X,0,none⟩=some a0∧w.cell? ⟨X,1,none⟩=some a1∧w.cell? ⟨X,2,none⟩=some a2∧w.cell? ⟨X,3,none⟩=some a3∧w.cell? ⟨X,4,none⟩=some a4∧w.cell? ⟨X,5,none⟩=some a5∧w.cell? ⟨X,6,none⟩=some a6∧w.cell? ⟨X,7,none⟩=some a7∧w.cell? ⟨X,8,none⟩=some a8∧
  w.frozen? ⟨X,0,none⟩=false∧w.frozen? ⟨X,1,none⟩=false∧w.frozen? ⟨X,2,none⟩=false∧w.frozen? ⟨X,3,none⟩=false∧w.frozen? ⟨X,4,none⟩=false∧w.frozen? ⟨X,5,none⟩=false∧w.frozen? ⟨X,6,none⟩=false∧w.frozen? ⟨X,7,none⟩=false∧w.frozen? ⟨X,8,none⟩=false:=by
 refine⟨?_,?_,?_,?_,?_,?_,?_,?_,?_,?_,?_,?_,?_,?_,?_,?_,?_,?_⟩<;>simp[World.cell?,World.frozen?,hb]
def putN (w:World) (X:Nat) (a0 a1 a2 a3 a4 a5 a6 a7 a8:Value):World:=
 ((((((((w.setCell ⟨X,0,none⟩ a0).setCell ⟨X,1,none⟩ a1).setCell ⟨X,2,none⟩ a2).setCell ⟨X,3,none⟩ a3).setCell ⟨X,4,none⟩ a4).setCell ⟨X,5,none⟩ a5).setCell ⟨X,6,none⟩ a6).setCell ⟨X,7,none⟩ a7).setCell ⟨X,8,none⟩ a8
theorem putN_box {w:World}{X:Nat}{o0 o1 o2 o3 o4 o5 o6 o7 o8 a0 a1 a2 a3 a4 a5 a6 a7 a8:Value}{t:TypeId} (h:w.heap[X]?=some (.cells #[o0,o1,o2,o3,o4,o5,o6,o7,o8] t (0,0))):(putN w X a0 a1 a2 a3 a4 a5 a6 a7 a8).heap[X]?=some (.cells #[a0,a1,a2,a3,a4,a5,a6,a7,a8] t (0,0)):=by
 unfold putN
 simp[World.setCell,Array.getElem?_modify,h]
theorem below_putN {W0 w':World}{Y:Nat}{a0 a1 a2 a3 a4 a5 a6 a7 a8:Value} (h:Below W0.heap.size W0 w') (hY:W0.heap.size≤Y):Below W0.heap.size W0 (putN w' Y a0 a1 a2 a3 a4 a5 a6 a7 a8):=by
 unfold putN
 (repeat (refine Below.setCell ?_ (by first | exact hY) _))
 exact h
theorem cells_span {w:World}{X:Nat}{a b:Value}{t:TypeId} (h:w.heap[X]?=some (.cells #[a,b] t)):w.cell? ⟨X,0,none⟩=some a∧w.cell? ⟨X,1,none⟩=some b:=by
 refine⟨?_,?_⟩<;>simp[World.cell?,h]
def LitI (Pr:Frm) (w0:World) (P:Nat) (txt:Stp) (sp:List (Nat×Nat)) (n til:Nat) (ns:List YND) (tot:Nat) (R:YR) (b:Bool) (i:Nat) (w:World):Prop:=match b with
 | true=>i≤til∧ ∃ls,ls.length=i∧(match takesG txt ((sp.drop i).take (til-i)) ls with | .inr a=>YR.bad a 2 | .inl ls=> .ok n ⟨ls,ns,tot⟩)=R∧YJ YP Pr w0 P txt sp ⟨ls,ns,tot⟩ 0 0 w
 | false=> ∃a e,R= .bad a e∧YBad YP Pr w0 P txt sp a e w
theorem yliteral_any {Pr:Frm}{w0:World}{P:Nat}{txt:Stp}{sp:List (Nat×Nat)}{st:YS} (k:Nat) (kf kt:Int) (lv:Nat) (lev:Int) (w:World) (h:YJ YP Pr w0 P txt sp st 0 0 w) (hk:k+1=st.lines.length) (hw:WfS txt sp st) (hl:Hid (lev=33-(lv:Int))) (hlv:lv≤32) (hsp:SpOk txt sp) (hs:txt.length≤65536) (hn:sp.length≤131072) (hV:AVar w0):
  Calls Tryz.prog 191 #[.pointer (some ⟨P,0,none⟩), .int .i64 (k:Int), .int .i64 lev, .agg #[.int .i64 kf, .int .i64 kt]] w (YRE YP Pr w0 P txt sp (literalM txt sp lv k kf kt st)):=by
 obtain⟨R,hR⟩: ∃R,literalM txt sp lv k kf kt st=R:=⟨_,rfl⟩
 rw[hR]
 unfold literalM at hR
 have hln:=lnAt_get (show k<st.lines.length by omega)
 obtain⟨r,hr⟩: ∃r,lnAt st.lines k=r:=⟨_,rfl⟩
 rw[hr] at hln hR
 have hks:k<sp.length:=by have:=hw.ls.1;omega
 obtain⟨t1,t2⟩:=reachM_le (s:=txt) r.ind hks
 have hll:=hw.ls.1
 have hnt:=hw.tot
 obtain⟨n,hn2⟩: ∃n,st.lines.length=n:=⟨_,rfl⟩
 have b1:=below_alloc1 w (.cells #[.int .i64 kf, .int .i64 kt] 42)
 have hX1:=heap_alloc_new w (.cells #[.int .i64 kf, .int .i64 kt] 42)
 have hp1:=h.put b1 (Nat.le_refl _) hX1
 have hl1: ∀q o,Pr q=some o→(Pr.put w.heap.size (.cells #[.int .i64 kf, .int .i64 kt] 42)) q=some o:=Frm.put_less (fun q o hq=>h.frLt q o hq) (Nat.le_refl _)
 obtain⟨X1,hX1e⟩: ∃X,w.heap.size=X:=⟨_,rfl⟩
 obtain⟨W1,hW1⟩: ∃W,w.alloc (.cells #[.int .i64 kf, .int .i64 kt] 42)=W:=⟨_,rfl⟩
 rw[hW1] at hX1 hp1
 rw[hX1e] at hX1 hp1 hl1
 have b2:=below_alloc1 W1 (.cells (lineA r) 51)
 have hX2:=heap_alloc_new W1 (.cells (lineA r) 51)
 have hp2:=hp1.put b2 (Nat.le_refl _) hX2
 have hl2: ∀q o,(Pr.put X1 (.cells #[.int .i64 kf, .int .i64 kt] 42)) q=some o→((Pr.put X1 (.cells #[.int .i64 kf, .int .i64 kt] 42)).put W1.heap.size (.cells (lineA r) 51)) q=some o:=Frm.put_less (fun q o hq=>hp1.frLt q o hq) (Nat.le_refl _)
 have hX1':(W1.alloc (.cells (lineA r) 51)).heap[X1]?=some (.cells #[.int .i64 kf, .int .i64 kt] 42):=(b2.block _ (cell_it hX1)).trans hX1
 obtain⟨z,sv,lvv,nv,hz,hK⟩:=hp1
 obtain⟨gl,cl,e9,_,hcell⟩:=hK.lineAt hln
 subst e9
 obtain⟨⟨_,_,c2,_⟩,_⟩:=hK.cells
 have hPl:=hK.lt
 have g0:=hcell 0 _ (by omega) rfl
 have g1:=hcell 1 _ (by omega) rfl
 have g2:=hcell 2 _ (by omega) rfl
 have g3:=hcell 3 _ (by omega) rfl
 have g4:=hcell 4 _ (by omega) rfl
 have g5:=hcell 5 _ (by omega) rfl
 have g6:=hcell 6 _ (by omega) rfl
 have g7:=hcell 7 _ (by omega) rfl
 have g8:=hcell 8 _ (by omega) rfl
 have g9:=hcell 9 _ (by omega) rfl
 simp only[Nat.add_zero] at g0
 rw[hn2] at c2
 have hk0:(0:Int)≤(k:Int):=by omega
 have hk1:(k:Int)<(n:Int):=by omega
 obtain⟨X2,hX2f⟩: ∃X,W1.heap.size=X:=⟨_,rfl⟩
 obtain⟨W2,hW2⟩: ∃W,W1.alloc (.cells (lineA r) 51)=W:=⟨_,rfl⟩
 rw[hW2] at hp2 hX2 hX1'
 rw[hX2f] at hp2 hX2 hl2
 unfold lineA at hW2
 have HP2:=hid hp2
 have HX12:=hid (And.intro hX1' hX2)
 have HLess:=hid (fun q o hq=>hl2 q o (hl1 q o hq))
 have HR:=hid hR
 have HW:=hid hw
 have HSP:=hid hsp
 have HK:=hid (And.intro hk (And.intro hr hln))
 have HN2:=hid hn2
 have HT:=hid (And.intro t1 t2)
 clear hK hz hcell hp2 hX1 hX1' hX2 b1 b2 hl1 hl2 hR hw hsp hk hln hr t1 t2 h
 go_enter Tryz.func191,Tryz.ntmps191
 go_upto_region 2 with fail
 clear hW1 hX1e hW2 hX2f c2 g0 g1 g2 g3 g4 g5 g6 g7 g8 g9 hPl
 obtain⟨W0,hW0⟩: ∃W,W2.drew=W:=⟨_,rfl⟩
 have hp0:=HP2.out.keep (Below.refl _ W2).drew
 rw[hW0] at hp0
 have HP0:=hid hp0
 obtain⟨til,htil⟩: ∃til,reachM txt sp r.ind k=til:=⟨_,rfl⟩
 have HTil:=hid htil
 have CRe:Hid (∀w',Below W0.heap.size W0 w'→Calls Tryz.prog 227 #[.pointer (some ⟨P,0,none⟩), .int .i64 (k:Int)] w' fun e w2=>e= .returned (.int .i64 (til:Int))∧Below w'.heap.size w' w2):=hid (fun w' hb=>by
  have:=yreach_any k r.ind w' (HP0.out.keep hb) (by have:=HK.out.1;omega) hll (by rw[HK.out.2.1]) HSP.out hs hn
  rw[htil] at this
  exact this)
 obtain⟨nd,hnd⟩: ∃nd:YND,(⟨4,r.ind,k,til,kf,kt,r.rf,r.rt,[]⟩:YND)=nd:=⟨_,rfl⟩
 obtain⟨SA,hSA⟩: ∃S:World→Prop,(fun w'=>w'.cell? ⟨X2,3,none⟩=some (.int .i64 r.ind)∧w'.cell? ⟨X2,6,none⟩=some (.int .i64 r.rf)∧w'.cell? ⟨X2,7,none⟩=some (.int .i64 r.rt)∧w'.cell? ⟨X1,0,none⟩=some (.int .i64 kf)∧w'.cell? ⟨X1,1,none⟩=some (.int .i64 kt))=S:=⟨_,rfl⟩
 have HSA:Hid (∀w',Below W0.heap.size W0 w'→SA w'):=hid (fun w' hb=>by
  rw[←hSA]
  have hq:=HP0.out.keep hb
  have hl:LineBox w' X2 r:=hq.at_ (Frm.put_eq _ _ _)
  have h1:w'.heap[X1]?=some (.cells #[.int .i64 kf, .int .i64 kt] 42):=by
   have e0:W2.heap[X1]?=_:=HX12.out.1
   have e1:W0.heap[X1]?=W2.heap[X1]?:=by rw[←hW0];rfl
   exact(hb.block X1 (by rw[←hW0];exact cell_it e0)).trans (e1.trans e0)
  obtain⟨_,_,_,b3,_,_,b6,b7,_⟩:=hl.cells
  exact⟨b3,b6,b7,cells_span h1⟩)
 clear htil hp0
 subst hnd
 have hfol:Tryz.prog.follows .mixedOrders=true:=by kernel_rfl
 refine wp_region_rcf3 hfol [some 22,some 23,some 24,some 25,some 26,some 27,some 28,some 29,some 30,some 31,some 11,none] [22,23,24,25,26,27,28,29,30,31,11] [11] 10 (FbB W0 45 (yndA zeroND)) 58 rfl (by kernel_rfl) (by kernel_rfl) (by kernel_rfl) (fun iz=>match iz with | 0=> .pointer (some ⟨X2,3,none⟩) | 1=> .int .i64 r.ind | 2=> .int .i64 (k:Int) | 3=> .pointer (some ⟨P,0,none⟩) | 4=> .int .i64 (k:Int) | 5=> .int .i64 (til:Int) | 6=> .agg #[.int .i64 kf, .int .i64 kt] | 7=> .pointer (some ⟨X2,6,none⟩) | 8=> .agg #[.int .i64 r.rf, .int .i64 r.rt] | 9=> .agg #[.int .i64 4, .int .i64 r.ind, .int .i64 (k:Int), .int .i64 (til:Int), .int .i64 kf, .int .i64 kt, .int .i64 r.rf, .int .i64 r.rt, .slice none 0 0] | _=>undef) SA (PhBox W0 45 (yndA ⟨4,r.ind,k,til,kf,kt,r.rf,r.rt,[]⟩)) (by rw[hW0];exact HSA.out _ (Below.refl _ _)) (by rw[hW0];exact Below.refl _ _) ?_ ?_
 ·intro d a w' iq o' ho hi hall hfr hF R' hR
  have hiN:iq<12:=(Array.getElem?_eq_some_iff.1 ho).1
  have q0:a.tmps[0]?.getD undef= .pointer (some ⟨P,0,none⟩):=fr_q hfr 0 (by decide)
  have q1:a.tmps[1]?.getD undef= .int .i64 (k:Int):=fr_q hfr 1 (by decide)
  have q7:a.tmps[7]?.getD undef= .pointer (some ⟨X1,0,none⟩):=fr_q hfr 7 (by decide)
  have q10:a.tmps[10]?.getD undef= .pointer (some ⟨X2,0,none⟩):=fr_q hfr 10 (by decide)
  have hc:=hF.all [(0,22),(1,23),(2,24),(3,25),(4,26),(5,27),(6,28),(7,29),(8,30),(9,31)] (by decide)
  dsimp only[AllP] at hc
  clear hfr
  have ha:=hall
  have hoo:=ho
  have hcs:iq=5∨iq=10∨iq=11∨iq=0∨iq=2∨iq=3∨iq=4∨iq=7∨iq=9∨iq=1∨iq=6∨iq=8:=by omega
  clear hiN
  rcases hcs with rfl | rfl | rfl | rfl | rfl | rfl | rfl | rfl | rfl | rfl | rfl | rfl<;>simp only[List.getElem?_toArray,List.getElem?_cons_zero,List.getElem?_cons_succ,Option.some.injEq] at ho<;>subst ho<;>(try simp[Region.binds] at hall)
  ·have c25:=hF.g 3 25 rfl (by decide) (by decide) (by decide) (by simp[hall])
   have c26:=hF.g 4 26 rfl (by decide) (by decide) (by decide) (by simp[hall])
   have hA:Below W0.heap.size W0 w':=hF.at2 (j:=0) rfl (hF.lastNot (f:=12) (i:=5) (by kernel_rfl) hi) (.inl rfl)
   go_simp
   go_at_call 227
   refine(CRe.out _ hA).mono ?_
   rintro e w5 ⟨rfl,hb5⟩
   exact hR _ _ (hF.quiet (by kernel_rfl) hoo ha rfl (by decide) (by decide) (by decide) rfl (hF.lastNot (f:=12) (i:=5) (by kernel_rfl) hi) (fun _=>HSA.out _ (below_of_new hA hb5)) (fun k c _ hp=>hp.keep hb5) (fun x hx=>hx.keep hb5))
  ·have hA:Below W0.heap.size W0 w':=hF.at2 (j:=0) rfl (hF.lastNot (f:=12) (i:=10) (by kernel_rfl) hi) (.inl rfl)
   have hA2:=below_alloc1 w' (.cells (yndA zeroND) 45)
   go_simp
   exact hR _ _ (hF.free (by kernel_rfl) hoo ha rfl (by decide) rfl (by decide) (by kernel_rfl) (by decide) (hF.lastNot (f:=12) (i:=10) (by kernel_rfl) hi) (fun _=>HSA.out _ (below_of_new hA hA2)) (fun k c hp=>hp.keep hA2) (FbB.new hA.size))
  ·have c31:=hF.g 9 31 rfl (by decide) (by decide) (by decide) (by simp[hall])
   have hP0:=hF.at2 (j:=0) rfl hi (.inl rfl)
   obtain⟨Y,hY,hYW,hYb⟩:=hF.fb hi (by simp[hall])
   have hY:a.tmps.getD 11 undef= .pointer (some ⟨Y,0,none⟩):=hY
   have c11:a.tmps[11]?.getD undef= .pointer (some ⟨Y,0,none⟩):=by rw[←Array.getD_eq_getD_getElem?];exact hY
   obtain⟨z0,z1,z2,z3,z4,z5,z6,z7,z8,h0,h1,h2,h3,h4,h5,h6,h7,h8⟩:=box9f hYb
   have hA:Below W0.heap.size W0 w':=hP0
   go_simp
   exact hR undef _ (hF.eff2 (by kernel_rfl) (by decide) 0 hoo ha rfl hi (.inl rfl) rfl (by decide) (fun h=>absurd rfl h) (fun h=>absurd rfl h) ⟨Y,hY,hYW,putN_box hYb,below_putN hA hYW⟩)
  iterate 6 (go_simp;exact hR _ _ (hF.pure (by kernel_rfl) hoo ha rfl (by decide) (by decide) (by decide) rfl))
  all_goals
   have hS0:=hF.early (f:=12) (by kernel_rfl) hi
   rw[←hSA] at hS0
   obtain⟨b3,b6,b7,y0,y1⟩:=hS0
   go_simp
   exact hR _ _ (hF.pure (by kernel_rfl) hoo ha rfl (by decide) (by decide) (by decide) rfl)
 intro v wz hcl hP1
 obtain⟨Y,hY,hYW,hYb,hbz⟩:=hP1
 have hv11:v 11= .pointer (some ⟨Y,0,none⟩):=hY
 simp only[fillT,List.setIfInBounds_toArray,List.set_cons_succ,List.set_cons_zero,hv11]
 have hp3:=HP0.out.put hbz hYW hYb
 have HLess3:=hid (fun q o hq=>Frm.put_less (Pr:=(Pr.put X1 (.cells #[.int .i64 kf, .int .i64 kt] 42)).put X2 (.cells (lineA r) 51)) (o:= .cells (yndA ⟨4,r.ind,k,til,kf,kt,r.rf,r.rt,[]⟩) 45) (fun q o' hq=>HP0.out.frLt q o' hq) hYW q o (HLess.out q o hq))
 obtain⟨Pr3,hPr3⟩: ∃Pr3:Frm,((Pr.put X1 (.cells #[.int .i64 kf, .int .i64 kt] 42)).put X2 (.cells (lineA r) 51)).put Y (.cells (yndA ⟨4,r.ind,k,til,kf,kt,r.rf,r.rt,[]⟩) 45)=Pr3:=⟨_,rfl⟩
 have HY3:=hid (Frm.put_eq ((Pr.put X1 (.cells #[.int .i64 kf, .int .i64 kt] 42)).put X2 (.cells (lineA r) 51)) Y (.cells (yndA ⟨4,r.ind,k,til,kf,kt,r.rf,r.rt,[]⟩) 45))
 rw[hPr3] at hp3 HLess3 HY3
 have HP3:=hid hp3
 have hlz:LineBox wz X2 r:=(HP0.out.keep hbz).at_ (Frm.put_eq _ _ _)
 obtain⟨_,_,_,_,_,_,b6,_⟩:=hlz.cells
 obtain⟨z0,z1,z2,z3,z4,z5,z6,z7,z8⟩:=box9 hYb
 obtain⟨A,hA⟩: ∃A,addM ⟨4,r.ind,k,til,kf,kt,r.rf,r.rt,[]⟩ lv r.rf st=A:=⟨_,rfl⟩
 have CA:Hid (∀w',YJ YP Pr3 w0 P txt sp st 0 0 w'→Calls Tryz.prog 110 #[.pointer (some ⟨P,0,none⟩), .agg #[.int .i64 4, .int .i64 r.ind, .int .i64 (k:Int), .int .i64 (til:Int), .int .i64 kf, .int .i64 kt, .int .i64 r.rf, .int .i64 r.rt, .slice none 0 0], .int .i64 lev, .int .i64 r.rf] w' (YRE YP Pr3 w0 P txt sp A)):=hid (fun w' hj=>by
  have:=yadd_any (Pr:=Pr3) ⟨4,r.ind,k,til,kf,kt,r.rf,r.rt,[]⟩ lv lev r.rf w' hj rfl hl hlv (by omega)
  rw[hA] at this
  exact this)
 have HA:=hid hA
 clear hA hp3 hPr3 hcl hY hYW hYb hbz hv11 HSA hSA CRe hlz
 cases A with
 | bad a e=>
  have hR:=HR.out
  rw[HTil.out,HA.out] at hR
  have HR2:Hid (YR.bad a e=R):=hid hR
  clear hR
  go_wp2_with fail
  refine(CA.out _ (by first | exact HP3.out | exact HP3.out.keep (Below.refl _ _).drew)).mono ?_
  rintro e w4 ⟨⟨m,rfl⟩,hbad⟩
  have HF:=hid (hbad.less HLess3.out)
  clear hbad
  go_wp2_with fail
  go_loopw [13] (fun s13 wr=>s13= .bool false∧w4=wr) (fun _ _=>0)
  case atStart=>exact⟨rfl,rfl⟩
  case round=>
   obtain⟨rfl,rfl⟩:=hrel
   go_wp2_with fail
   go_ret2
   rw[←HR2.out]
   exact⟨⟨_,rfl⟩,HF.out⟩
 | ok nn s1=>
  obtain⟨e1,e2,_,h4t⟩:=addM_ok HA.out
  subst e2
  have hR:=HR.out
  rw[HTil.out,HA.out] at hR
  simp only[] at hR
  have HNN:=hid e1
  clear e1
  have HR3:=hid hR
  clear hR
  obtain⟨k1,hk1e⟩: ∃k1,k+1=k1:=⟨_,rfl⟩
  have hk1z:(k:Int)+1=(k1:Int):=by omega
  have HK1:=hid hk1e
  have htl:til≤sp.length:=by have:=HT.out.2;rw[HTil.out] at this;exact this
  have htl1:k1≤til:=by have:=HT.out.1;rw[HTil.out] at this;omega
  clear hk1e
  go_wp2_with fail
  refine(CA.out _ (by first | exact HP3.out | exact HP3.out.keep (Below.refl _ _).drew)).mono ?_
  rintro e w4 ⟨rfl,hj4⟩
  have HLI:Hid (LitI Pr3 w0 P txt sp nn til (st.nodes++ [⟨4,r.ind,k,til,kf,kt,r.rf,r.rt,[]⟩]) (st.total+1) R true k1 w4):=hid ⟨htl1,st.lines,by rw[←HK1.out];exact HK.out.1.symm,by rw[←HK1.out];exact HR3.out,hj4⟩
  clear hj4 z0 z1 z2 z3 z4 z5 z6 z7 z8 b6
  go_wp2_with fail
  go_loopw [13,14] (fun s13 s14 wr=> ∃(b:Bool) (i:Nat),s13= .bool b∧s14= .int .i64 (i:Int)∧i≤sp.length+1∧Hid (LitI Pr3 w0 P txt sp nn til (st.nodes++ [⟨4,r.ind,k,til,kf,kt,r.rf,r.rt,[]⟩]) (st.total+1) R b i wr)) (fun _ s14 _=>sp.length+2-(RowKit.intOf s14).toNat)
  case atStart=>exact⟨true,k1,rfl,by first | rfl | rw[←hk1z],by omega,HLI⟩
  case round=>
   obtain⟨b,i,rfl,rfl,hi,HLi⟩:=hrel
   have hii:(0:Int)≤(i:Int):=by omega
   cases b with
   | false=>
    obtain⟨a,e,hRe,hbad⟩:=(show ∃a e,R= .bad a e∧YBad YP Pr3 w0 P txt sp a e wr from HLi.out)
    have HF:=hid (hbad.less HLess3.out)
    clear hbad
    go_wp2_with fail
    go_ret2
    rw[hRe]
    exact⟨⟨_,rfl⟩,HF.out⟩
   | true=>
    obtain⟨hit,ls,hlsl,hG,hj⟩:=(show i≤til∧ ∃ls,ls.length=i∧(match takesG txt ((sp.drop i).take (til-i)) ls with | .inr a=>YR.bad a 2 | .inl ls=> .ok nn ⟨ls,st.nodes++ [⟨4,r.ind,k,til,kf,kt,r.rf,r.rt,[]⟩],st.total+1⟩)=R∧YJ YP Pr3 w0 P txt sp ⟨ls,st.nodes++ [⟨4,r.ind,k,til,kf,kt,r.rf,r.rt,[]⟩],st.total+1⟩ 0 0 wr from HLi.out)
    have hYr:=hj.at_ HY3.out
    obtain⟨z0,z1,z2,z3,z4,z5,z6,z7,z8⟩:=box9 hYr
    have HJr:=hid hj
    have HLS:=hid hlsl
    clear hj hYr hlsl
    by_cases hilt:i<til
    ·have d1:decide ((i:Int)<(til:Int))=true:=decide_eq_true (by omega)
     have d1n:decide (i<til)=true:=decide_eq_true hilt
     obtain⟨x,hx⟩: ∃x,sp[i]?=some x:=⟨_,List.getElem?_eq_getElem (by omega)⟩
     have hdr:(sp.drop i).take (til-i)=x::(sp.drop (i+1)).take (til-(i+1)):=by
      rw[List.drop_eq_getElem_cons (by omega)]
      rw[List.getElem?_eq_getElem (by omega)] at hx
      rw[Option.some.inj hx,show til-i=(til-(i+1))+1 by omega,List.take_succ_cons]
     rw[hdr] at hG
     unfold takesG at hG
     have CTk:=hid (fun w' hj=>ytakes_any (Pr:=Pr3) (P:=P) (st:=⟨ls,st.nodes++ [⟨4,r.ind,k,til,kf,kt,r.rf,r.rt,[]⟩],st.total+1⟩) i x w' hj hx HSP.out (by simp only[];have:=HLS.out;omega) hs hn hV)
     unfold TakeE at CTk
     obtain⟨i1,hi1⟩: ∃i1,i+1=i1:=⟨_,rfl⟩
     have hi1z:(i:Int)+1=(i1:Int):=by omega
     have HI1:=hid hi1
     have HDX:=hid hx
     clear hdr hx hi1
     by_cases hm:mayA txt x<x.2
     ·rw[if_pos hm] at hG
      simp only[] at hG
      have HGR:Hid (YR.bad (mayA txt x:Int) 2=R):=hid hG
      have CT2:Hid (∀w',YJ YP Pr3 w0 P txt sp ⟨ls,st.nodes++ [⟨4,r.ind,k,til,kf,kt,r.rf,r.rt,[]⟩],st.total+1⟩ 0 0 w'→Calls Tryz.prog 228 #[.pointer (some ⟨P,0,none⟩), .int .i64 (i:Int)] w' fun e w2=>e= .returned (.bool false)∧YBad YP Pr3 w0 P txt sp (mayA txt x:Int) 2 w2):=hid (fun w' hj=>(CTk.out w' hj).mono (fun e w2 hE=>by
       rcases hE with⟨_,h1,h2⟩ | ⟨h1,_⟩
       ·exact⟨h1,h2⟩
       ·exact absurd hm h1))
      clear hG CTk hm
      go_wp2_with fail
      refine(CT2.out _ (by first | exact HJr.out | exact HJr.out.keep (Below.refl _ _).drew)).mono ?_
      rintro e w5 ⟨rfl,hbad⟩
      have HB5:=hid hbad
      clear hbad
      go_wp2_with fail
      go_roundw
      ·exact⟨false,i1,rfl,by first | rfl | rw[←hi1z],by omega,hid ⟨_,_,HGR.out.symm,HB5.out⟩⟩
      ·(try simp only[RowKit.intOf]);omega
     ·rw[if_neg hm] at hG
      have HG2:=hid hG
      have CT2:Hid (∀w',YJ YP Pr3 w0 P txt sp ⟨ls,st.nodes++ [⟨4,r.ind,k,til,kf,kt,r.rf,r.rt,[]⟩],st.total+1⟩ 0 0 w'→Calls Tryz.prog 228 #[.pointer (some ⟨P,0,none⟩), .int .i64 (i:Int)] w' fun e w2=>e= .returned (.bool true)∧YJ YP Pr3 w0 P txt sp ⟨ls++ [textLine txt x],st.nodes++ [⟨4,r.ind,k,til,kf,kt,r.rf,r.rt,[]⟩],st.total+1⟩ 0 0 w2):=hid (fun w' hj=>(CTk.out w' hj).mono (fun e w2 hE=>by
       rcases hE with⟨h1,_⟩ | ⟨_,h1,h2⟩
       ·exact absurd h1 hm
       ·exact⟨h1,h2⟩))
      clear hG CTk hm
      go_wp2_with fail
      refine(CT2.out _ (by first | exact HJr.out | exact HJr.out.keep (Below.refl _ _).drew)).mono ?_
      rintro e w5 ⟨rfl,hj5⟩
      have HJ5:=hid hj5
      clear hj5
      go_wp2_with fail
      go_roundw
      ·exact⟨true,i1,rfl,by first | rfl | rw[←hi1z],by omega,hid ⟨by have:=HI1.out;omega,ls++ [textLine txt x],by rw[List.length_append,List.length_singleton,HLS.out];exact HI1.out,by rw[←HI1.out];exact HG2.out,HJ5.out⟩⟩
      ·(try simp only[RowKit.intOf]);omega
    ·have d1:decide ((i:Int)<(til:Int))=false:=decide_eq_false (by omega)
     have d1n:decide (i<til)=false:=decide_eq_false hilt
     rw[show til-i=0 by omega,List.take_zero] at hG
     unfold takesG at hG
     simp only[] at hG
     have HG2:=hid hG
     have HF:=hid (HJr.out.less HLess3.out)
     clear hG hilt
     go_wp2_with fail
     go_ret2
     rw[←HG2.out,HNN.out]
     exact⟨rfl,HF.out⟩
end Go.Proofs.YtlibkhbachmcgaaGreatDoor
