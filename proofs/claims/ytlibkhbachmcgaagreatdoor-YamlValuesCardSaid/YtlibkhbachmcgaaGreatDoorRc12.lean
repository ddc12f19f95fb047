import Derived.Test.YtlibkhbachmcgaaGreatDoorRc4
import Derived.Test.YtlibkhbachmcgaaGreatDoorRc5
import Derived.Test.YtlibkhbachmcgaaGreatDoorRc11
import Derived.Test.YtlibkhbachmcgaaGreatDoorRc8
import Derived.Test.YtlibkhbachmcgaaGreatDoorRc3
import Derived.Deep.RegionHeld3
import Derived.BigQuiet
import Derived.Deep.DeepCutAuto
set_option maxRecDepth 100000
set_option maxHeartbeats 4000000
namespace Go.Proofs.YtlibkhbachmcgaaGreatDoor
set_option linter.unusedSimpArgs false
set_option linter.unusedVariables false
open Go.RowKit Go.Maps Go.WideMaps
open Go.Lib hiding intOf
def VVar (w:World):Prop:=Tabs w∧PTab w
theorem VVar.keep {w w':World} (h:VVar w) (hb:Below w.heap.size w w'):VVar w':=⟨h.1.keep hb,h.2.keep hb⟩
theorem vplain_any (s:Stp) (w:World) (hs:s.length≤4294967296) (hV:VVar w):
  Calls Tryz.prog 82 #[.string (bs s)] w fun e w'=>e= .returned (.bool (Lib.validD s))∧Below w.heap.size w w':=by
 have C:=valid_any (bs s) w (by rw[bs_size];omega) hV.1
 rw[validRes_snd,bs_data] at C
 obtain⟨N,hN⟩: ∃N,(validRes (bs s)).1=N:=⟨_,rfl⟩
 obtain⟨b,hb⟩: ∃b,Lib.validD s=b:=⟨_,rfl⟩
 rw[hN,hb] at C
 rw[hb]
 have HC:=hid C
 clear C hN hb hV
 go_enter Tryz.func82,Tryz.ntmps82
 go_wp2_with fail
 refine HC.out.mono ?_
 rintro e w1 ⟨rfl,hb1⟩
 have HB1:=hid hb1
 clear hb1
 go_wp2_with fail
 go_ret
 exact⟨rfl,HB1.out⟩
def NbBox (w:World) (X:Nat) (n:Num):Prop:=w.heap[X]?=some (.cells #[.bool n.neg, .string (bs n.dig), .int .i64 n.exp] 88 (0,0))
abbrev NbCells (w:World) (X:Nat) (n:Num):Prop:=w.cell? ⟨X,0,none⟩=some (.bool n.neg)∧w.cell? ⟨X,1,none⟩=some (.string (bs n.dig))∧w.cell? ⟨X,2,none⟩=some (.int .i64 n.exp)∧w.frozen? ⟨X,0,none⟩=false∧w.frozen? ⟨X,1,none⟩=false∧w.frozen? ⟨X,2,none⟩=false
theorem NbBox.cells {w:World}{X:Nat}{n:Num} (h:NbBox w X n):NbCells w X n:=by
 unfold NbBox at h
 refine⟨?_,?_,?_,?_,?_,?_⟩<;>simp[World.cell?,World.frozen?,h]
theorem NbBox.lt {w:World}{X:Nat}{n:Num} (h:NbBox w X n):X<w.heap.size:=cell_it h
theorem NbBox.keep {w w':World}{X:Nat}{n:Num} (h:NbBox w X n) (hb:Below w.heap.size w w'):NbBox w' X n:=(hb.block X h.lt).trans h
theorem NbBox.new (w:World) (n:Num):NbBox (w.alloc (.cells #[.bool n.neg, .string (bs n.dig), .int .i64 n.exp] 88)) w.heap.size n:=heap_alloc_new w _
def putNb (w:World) (X:Nat) (n:Num):World:=((w.setCell ⟨X,0,none⟩ (.bool n.neg)).setCell ⟨X,1,none⟩ (.string (bs n.dig))).setCell ⟨X,2,none⟩ (.int .i64 n.exp)
theorem NbBox.put {w:World}{X:Nat}{n n2:Num} (h:NbBox w X n):NbBox (putNb w X n2) X n2:=by
 unfold NbBox at h ⊢
 unfold putNb
 simp[World.setCell,h,Array.getElem?_modify]
theorem below_putNb {B:Nat}{w w':World}{X:Nat}{n:Num} (h:Below B w w') (hX:B≤X):Below B w (putNb w' X n):=by
 unfold putNb
 exact((h.setCell (p:=⟨X,0,none⟩) hX _).setCell (p:=⟨X,1,none⟩) hX _).setCell (p:=⟨X,2,none⟩) hX _
def NbAny (w:World) (X:Nat) (n:Num) (w':World):Prop:=(∃n0,NbBox w' w.heap.size n0)∧NbBox w' X n∧w.heap.size<X∧Below w.heap.size w w'
abbrev NbTwo (w:World) (X:Nat) (n:Num) (w':World):Prop:=w'.cell? ⟨X,0,none⟩=some (.bool n.neg)∧w'.cell? ⟨X,1,none⟩=some (.string (bs n.dig))∧w'.cell? ⟨X,2,none⟩=some (.int .i64 n.exp)∧Hid (NbAny w X n w')
section
variable {w w1 w2:World}{X:Nat}{n:Num}
theorem NbTwo.of (h:NbAny w X n w1):NbTwo w X n w1:=⟨h.2.1.cells.1,h.2.1.cells.2.1,h.2.1.cells.2.2.1,hid h⟩
theorem NbTwo.drew (h:NbTwo w X n w1):NbTwo w X n w1.drew:=by
 obtain⟨h1,h2,h3,h4⟩:=h.2.2.2.out
 exact NbTwo.of ⟨h1,h2,h3,h4.drew⟩
theorem NbTwo.step (h:NbTwo w X n w1) (hb:Below w1.heap.size w1 w2):NbTwo w X n w2:=by
 obtain⟨⟨n0,h1⟩,h2,h3,h4⟩:=h.2.2.2.out
 exact NbTwo.of ⟨⟨n0,h1.keep hb⟩,h2.keep hb,h3,h4.trans (hb.mono h4.size)⟩
theorem NbTwo.bel (h:NbTwo w X n w1):Below w.heap.size w w1:=h.2.2.2.out.2.2.2
theorem NbTwo.free (h:NbTwo w X n w1): ∃n0,NbCells w1 w.heap.size n0:=by
 obtain⟨⟨n0,h1⟩,_⟩:=h.2.2.2.out
 exact⟨n0,h1.cells⟩
theorem NbTwo.putG (h:NbTwo w X n w1):NbBox (putNb w1 w.heap.size n) w.heap.size n∧Below w.heap.size w (putNb w1 w.heap.size n):=by
 obtain⟨⟨n0,h1⟩,h2,h3,h4⟩:=h.2.2.2.out
 exact⟨h1.put,below_putNb h4 (Nat.le_refl _)⟩
theorem NbTwo.put (h:NbTwo w X n w1):NbTwo w X n (((w1.setCell ⟨w.heap.size,0,none⟩ (.bool n.neg)).setCell ⟨w.heap.size,1,none⟩ (.string (bs n.dig))).setCell ⟨w.heap.size,2,none⟩ (.int .i64 n.exp)):=by
 obtain⟨g1,g2⟩:=h.putG
 obtain⟨h1,h2,h3,h4⟩:=h.2.2.2.out
 refine NbTwo.of ⟨⟨_,g1⟩,?_,h3,g2⟩
 have hn:X≠w.heap.size:=by omega
 unfold NbBox at h2 ⊢
 rw[Below.heap_setCell _ _ _ X hn,Below.heap_setCell _ _ _ X hn,Below.heap_setCell _ _ _ X hn]
 exact h2
end
def decB (s:Stp):Bool:=decide ((parseL s).2=0)&&decide (textL (parseL s).1=s)
def DecE (s:Stp):Ending:= .returned (.tuple #[numV (parseL s).1, .bool (decB s)])
theorem parse_dig (s:Stp) (h:(parseL s).2=0):(parseL s).1.dig.length≤1000:=by
 have h':parseL s=((parseL s).1,0):=by rw[←h]
 exact(rightB_bd (parseL_right h')).1
theorem vdecimal_any (s:Stp) (w:World) (hs:s.length≤4294967296) (hV:VVar w):
  Calls Tryz.prog 81 #[.string (bs s)] w fun e w'=>e=DecE s∧Below w.heap.size w w':=by
 have sl:=bs_size s
 have CP:=hid (fun w=>parse_any s w hs)
 have hdg:=parse_dig s
 unfold DecE decB
 obtain⟨P,hP⟩: ∃P,parseL s=P:=⟨_,rfl⟩
 rw[hP] at CP hdg
 rw[hP]
 obtain⟨n,er⟩:=P
 simp only[] at hdg ⊢
 have CT:Hid (er=0→ ∀w',VVar w'→Calls Tryz.prog 50 #[.agg #[.bool n.neg, .string (bs n.dig), .int .i64 n.exp]] w' fun e w2=>e= .returned (.string (bs (textL n)))∧Below w'.heap.size w' w2):=hid (fun h w' hv=>text_any n w' (by have:=hdg h;omega) hv.2)
 have ba:=below_alloc1 w (.cells #[.bool false, .string (bs []), .int .i64 0] 88)
 have hB0:=NbBox.new w ⟨false,[],0⟩
 have HV:=hid hV
 obtain⟨R,hR⟩: ∃R,(decide (er=0)&&decide (textL n=s))=R:=⟨_,rfl⟩
 rw[hR]
 have HR:=hid hR
 clear hV hP hdg hR
 go_enter Tryz.func81,Tryz.ntmps81
 go_wp2_with fail
 refine(CP.out _).mono ?_
 unfold Parsed numV
 rintro e w1 ⟨rfl,hb1⟩
 have hB1:=hB0.keep hb1
 have HB1:=below_of_new (Below.refl w.heap.size w) (ba.trans (hb1.mono (by simp)))
 have ba1:=below_alloc1 w1 (.cells #[.bool n.neg, .string (bs n.dig), .int .i64 n.exp] 88)
 have hS:NbTwo w w1.heap.size n (w1.alloc (.cells #[.bool n.neg, .string (bs n.dig), .int .i64 n.exp] 88)):=NbTwo.of ⟨⟨_,hB1.keep ba1⟩,NbBox.new w1 n,hB1.lt,HB1.trans (ba1.mono HB1.size)⟩
 clear hb1 hB0 hB1 ba1 HB1 ba
 go_upto_region 2 with fail
 obtain⟨n0,y0,y1,y2,f0,f1,f2⟩:=hS.free
 by_cases he:er=0
 ·subst he
  have HT:=hid (CT.out rfl)
  have hb:decide (textL n=s)=R:=by rw[←HR.out];simp
  have hqz:((bs (textL n)).toList==(bs s).toList)=R:=by
   rw[Lib.toList_data,Lib.toList_data,bs_data,bs_data,←hb]
   by_cases h:textL n=s
   ·rw[decide_eq_true h,h];simp
   ·rw[decide_eq_false h];simpa using h
  have hqz2:decide (bs (textL n)=bs s)=R:=by
   rw[←hb,decide_eq_decide]
   exact⟨fun h=>bs_inj h,fun h=>by rw[h]⟩
  clear y0 y1 y2 f0 f1 f2 hb CT HR
  go_region_held3 (fun w'=>NbTwo w w1.heap.size n w') ((first | exact NbTwo.drew (by assumption) | exact NbTwo.step (by assumption) (by assumption) | exact NbTwo.put (by assumption) | assumption))
   ((go_at_call 50;(with_reducible refine(HT.out _ (HV.out.keep (NbTwo.bel (by assumption:NbTwo w w1.heap.size n _)))).mono ?_);rintro e w5 ⟨rfl,hb5⟩;have hn5:NbTwo w w1.heap.size n w5:=NbTwo.step (by assumption) hb5;obtain⟨g5,y0,y1,y2,f0,f1,f2⟩:=hn5.free))
  have HG:=hid hn5.putG
  go_wp2_with fail
  obtain⟨hP,hPB⟩:=HG.out
  obtain⟨WF,hWF⟩: ∃W,putNb w5 w.heap.size n=W:=⟨_,rfl⟩
  rw[hWF] at hP hPB
  have hWF':((w5.setCell ⟨w.heap.size,0,none⟩ (.bool n.neg)).setCell ⟨w.heap.size,1,none⟩ (.string (bs n.dig))).setCell ⟨w.heap.size,2,none⟩ (.int .i64 n.exp)=WF:=hWF
  rw[hWF']
  obtain⟨d0,d1,d2,_⟩:=hP.cells
  clear hWF hWF' HG
  refine bodyPost_ret (v:= .tuple #[.agg #[.bool n.neg, .string (bs n.dig), .int .i64 n.exp], .bool R]) ?_ rfl ⟨rfl,hPB⟩
  simp[results,Tryz.results81,go_sem,d0,d1,d2]
 ·have de:(er==0)=false:=beq_eq_false_iff_ne.2 he
  have de2:decide (er=0)=false:=decide_eq_false he
  have HG:=hid hS.putG
  obtain⟨z0,z1,z2,_⟩:=hS
  obtain rfl:R=false:=by rw[←HR.out,de2];rfl
  clear CT CP HR
  go_region
  go_wp2_with fail
  obtain⟨hP,hPB⟩:=HG.out
  obtain⟨WF,hWF⟩: ∃W,putNb (w1.alloc (.cells #[.bool n.neg, .string (bs n.dig), .int .i64 n.exp] 88)) w.heap.size n=W:=⟨_,rfl⟩
  rw[hWF] at hP hPB
  have hWF':(((w1.alloc (.cells #[.bool n.neg, .string (bs n.dig), .int .i64 n.exp] 88)).setCell ⟨w.heap.size,0,none⟩ (.bool n.neg)).setCell ⟨w.heap.size,1,none⟩ (.string (bs n.dig))).setCell ⟨w.heap.size,2,none⟩ (.int .i64 n.exp)=WF:=hWF
  rw[hWF']
  obtain⟨d0,d1,d2,_⟩:=hP.cells
  clear hWF hWF' HG
  refine bodyPost_ret (v:= .tuple #[.agg #[.bool n.neg, .string (bs n.dig), .int .i64 n.exp], .bool false]) ?_ rfl ⟨rfl,hPB.drew⟩
  simp[results,Tryz.results81,go_sem,d0,d1,d2]
def keysGo (had:List Stp):List Stp→Bool
 | []=>true
 | k::l=>!decide (k∈had)&&Lib.validD k&&keysGo (k::had) l
def keyedB (ks:List Stp) (n:Nat):Bool:=keysGo [] ks&&decide (ks.length=n)
theorem run_makeMap_n (n:Int) (w:World):(Instr.makeMap 138 (some (.int .i64 n))).run Tryz.prog w= .ok (.map (some w.heap.size)) (w.alloc (.map #[] 0)):=by
 simp[Instr.makeMap,run_underlying Tryz.underlying138,asInt,asIntOf,Result.andThen]
theorem vkeyed_any (kv:Value) (ks:List Stp) (n:Nat) (w:World) (hv:SV w kv ks) (hk:totS ks+ks.length≤1073741824) (hn:n≤1099511627776) (hV:VVar w):
  Calls Tryz.prog 80 #[kv, .int .i64 (n:Int)] w fun e w'=>e= .returned (.bool (keyedB ks n))∧Below w.heap.size w w':=by
 obtain⟨p,c,rfl,hc,hp⟩:=hv
 obtain⟨R,hR⟩: ∃R,keyedB ks n=R:=⟨_,rfl⟩
 rw[hR]
 unfold keyedB at hR
 obtain⟨W1,hW1⟩: ∃W,w.alloc (.map #[] 0)=W:=⟨_,rfl⟩
 obtain⟨B,hB⟩: ∃B,w.heap.size=B:=⟨_,rfl⟩
 have hb1:Below w.heap.size w W1:=by rw[←hW1];exact below_alloc1 _ _
 have hm1:HM B [] W1:=by rw[←hW1,←hB];exact World.ownsMap_made w _ _ _
 have HB1:=hid hb1
 have HM1:=hid hm1
 have HP:=hid hp
 have HV:=hid hV
 have HR:=hid hR
 have hkl:ks.length≤1073741824:=by omega
 have hmk:=fun n=>run_makeMap_n n w
 have HBB:=hid hB
 have hBB:B≤w.heap.size:=by omega
 clear hb1 hm1 hp hV hR
 go_enter Tryz.func80,Tryz.ntmps80
 go_upto_region 2 with fail
 clear hW1 hB
 go_wp2_with fail
 go_loopw [13] (fun s13 wr=> ∃(i:Nat) (had:List Stp),s13= .int .i64 (i:Int)∧i≤ks.length∧had.length=i∧Hid ((keysGo had (ks.drop i)&&decide (ks.length=n))=R)∧Hid (HM B had wr)∧Hid (Below B w wr)) (fun s13 _=>ks.length-(RowKit.intOf s13).toNat)
 case atStart=>exact⟨0,[],rfl,Nat.zero_le _,rfl,HR,HM1,hid (HB1.out.mono hBB)⟩
 case round=>
  obtain⟨i,had,rfl,hi,hhl,HRi,HMr,HBr⟩:=hrel
  have HBw:Hid (Below w.heap.size w wr):=hid (by rw[HBB.out];exact HBr.out)
  by_cases hil:i<ks.length
  ·obtain⟨x,hx⟩: ∃x,ks[i]?=some x:=⟨_,List.getElem?_eq_getElem hil⟩
   obtain⟨g,o,rfl,hc0⟩:=(HP.out.keep HBw.out).at_ hx
   have hi1:(i:Int)<(ks.length:Int):=by omega
   have dk:decide ((i:Int)<(ks.length:Int))=true:=decide_eq_true hi1
   have hxl:x.length≤1073741824:=by have:=totS_mem (List.mem_of_getElem? hx);omega
   have hdr:ks.drop i=x::ks.drop (i+1):=by
    rw[List.drop_eq_getElem_cons hil]
    congr 1
    exact(List.getElem?_eq_some_iff.1 hx).2
   have hRi:=HRi.out
   rw[hdr,keysGo] at hRi
   have hlook:=HMr.out.look x hxl
   have HXL:=hid hxl
   by_cases hmem:x∈had
   ·rw[decide_eq_true hmem] at hlook hRi
    have HR2:Hid (R=false):=hid (by rw[←hRi];rfl)
    clear hRi HRi hdr hx hmem
    go_wp2_with fail
    go_ret
    exact⟨by rw[HR2.out];rfl,HBw.out⟩
   ·rw[decide_eq_false hmem] at hlook hRi
    have HC:=hid (vplain_any x wr (by omega) (HV.out.keep HBw.out))
    obtain⟨b,hb⟩: ∃b,Lib.validD x=b:=⟨_,rfl⟩
    rw[hb] at HC hRi
    clear HRi hdr hx hmem hb
    cases b with
    | false=>
     have HR2:Hid (R=false):=hid (by rw[←hRi];rfl)
     clear hRi
     go_wp2_with fail
     refine HC.out.mono ?_
     rintro e w2 ⟨rfl,hb2⟩
     have HB2:=hid (below_of_new HBw.out hb2)
     clear hb2
     go_wp2_with fail
     go_ret
     exact⟨by rw[HR2.out];rfl,HB2.out⟩
    | true=>
     have HR2:Hid ((keysGo (x::had) (ks.drop (i+1))&&decide (ks.length=n))=R):=hid (by rw[←hRi];rfl)
     have HKEY:Hid (keyOf Tryz.prog 9 (.string (bs x))=some (.string x)):=hid (by
      have:=keyOf_string_mk (P:=Tryz.prog) Tryz.underlying9 (s:=bs x) (by rw[bs_size];unfold maxLen;have:=HXL.out;omega)
      rw[bs_data] at this
      exact this)
     have HBl:=hid HMr.out.lt
     clear hRi
     go_wp2_with fail
     refine HC.out.mono ?_
     rintro e w2 ⟨rfl,hb2⟩
     clear hc0 hlook
     have HM2:Hid (HM B had w2):=hid (HM.same HMr.out (hb2.block B HBl.out))
     have HB2:=hid (HBr.out.trans (hb2.mono (Nat.le_trans hBB HBr.out.size)))
     have hown:w2.ownsMap Tryz.prog 9 (plainElem Tryz.prog 4) B had.length (hadD had):=HM2.out
     clear hb2
     go_wp2_with (at_mapUpdate;refine wpList_mapUpdate_own _ rfl _ _ _ 138 rfl 9 4 lawK Tryz.underlying138 _ B had.length _ rfl hown (by unfold maxLen;omega) _ _ (.string x) rfl rfl HKEY.out _ [] (plainElem_bool Tryz.underlying4 true) ?_;intro w6 hown6 hg6)
     have HM6:Hid (HM B (x::had) w6):=hid hown6
     have HB6:Hid (Below B w w6):=hid (HB2.out.grown hg6 (Nat.le_trans hBB HB2.out.size) (fun k hk=>by cases hk;exact Nat.le_refl _))
     clear hown hown6 hg6
     go_wp2_with fail
     go_roundw
     ·exact⟨i+1,x::had,rfl,hil,by rw[List.length_cons,hhl],HR2,HM6,HB6⟩
     ·simp only[RowKit.intOf]
      omega
  ·have dk:decide ((i:Int)<(ks.length:Int))=false:=decide_eq_false (by omega)
   have hRi:=HRi.out
   rw[List.drop_eq_nil_of_le (by omega),keysGo,Bool.true_and] at hRi
   have dn:((ks.length:Int)==(n:Int))=R:=by
    rw[←hRi]
    by_cases h:ks.length=n
    ·rw[decide_eq_true h,h];simp
    ·rw[decide_eq_false h];exact beq_eq_false_iff_ne.2 (by omega)
   have dn2:decide ((ks.length:Int)=(n:Int))=R:=by
    rw[←hRi,decide_eq_decide];omega
   clear hRi HRi
   go_wp2_with fail
   go_ret
   exact⟨rfl,HBw.out⟩
def trueL:Stp:= [116,114,117,101]
def falseL:Stp:= [102,97,108,115,101]
def nodeF (k:Int) (s:Stp) (ks:List Stp) (n:Nat):Bool:=
 if k=5 then !decide (0<ks.length)&&s.isEmpty
 else if k=6 then keyedB ks n&&s.isEmpty
 else if(decide (0<ks.length)||decide (0<n))=true then false
 else if k=1 then s.isEmpty
 else if k=2 then decide (s=trueL)||decide (s=falseL)
 else if k=3 then decB s
 else if k=4 then Lib.validD s
 else false
def nodeB (t:VT):Bool:=nodeF t.kind t.text t.keys t.items.length
theorem str_lit (s l:Stp):((bs s).toList==l)=decide (s=l):=by
 rw[Lib.toList_data,bs_data]
 by_cases h:s=l
 ·rw[decide_eq_true h,h];simp
 ·rw[decide_eq_false h];simpa using h
theorem str_nil (s:Stp):((bs s).toList== [])=s.isEmpty:=by
 rw[str_lit]
 cases s<;>simp
theorem str_nil2 (s:Stp):(bs s).toList.isEmpty=s.isEmpty:=by rw[Lib.toList_data,bs_data]
theorem vnode_any (t:VT) (kv:Value) (p:Option Addr) (c:Nat) (w:World) (hks:SV w kv t.keys) (hbk:t.bulk≤1073741824) (hk7:t.kind≠7) (hV:VVar w):
  Calls Tryz.prog 46 #[vv t kv (.slice p t.items.length c)] w fun e w'=>e= .returned (.bool (nodeB t))∧Below w.heap.size w w':=by
 obtain⟨k,s,ks,l⟩:=t
 simp only[VT.items,VT.keys] at hks ⊢
 obtain⟨pk,ck,rfl,hck,hlies⟩:=hks
 obtain⟨R,hR⟩: ∃R,nodeB (VT.mk k s ks l)=R:=⟨_,rfl⟩
 rw[hR]
 have hR:nodeF k s ks l.length=R:=hR
 simp only[VT.kind] at hk7
 unfold nodeF at hR
 have hsl:s.length≤1073741824:=by rw[VT.bulk] at hbk;omega
 have htk:totS ks+ks.length≤1073741824:=by rw[VT.bulk] at hbk;omega
 have hll:l.length≤1073741824:=by have:=len_le_bulks l;rw[VT.bulk] at hbk;omega
 have hkl:ks.length≤1073741824:=by omega
 obtain⟨W1,hW1⟩: ∃W,w.alloc (.cells #[.int .i64 k, .string (bs s), .slice pk ks.length ck, .slice p l.length c] 36)=W:=⟨_,rfl⟩
 obtain⟨B,hB⟩: ∃B,w.heap.size=B:=⟨_,rfl⟩
 have HB1:Hid (Below w.heap.size w W1):=hid (by rw[←hW1];exact below_alloc1 _ _)
 have HX:Hid (VBox W1 B (.mk k s ks l) (.slice pk ks.length ck) (.slice p l.length c)):=hid (by rw[←hW1,←hB];exact VBox.new w (.mk k s ks l) _ _)
 have HV:=hid (hV.keep HB1.out)
 have HSV:=hid (show SV W1 (.slice pk ks.length ck) ks from ⟨pk,ck,rfl,hck,hlies.keep HB1.out⟩)
 have HK7:=hid hk7
 have HTK:=hid htk
 have sl:=bs_size s
 have e0:=str_nil s
 have e0b:=str_nil2 s
 have dkz:decide ((0:Int)<(ks.length:Int))=decide (0<ks.length):=by rw[decide_eq_decide];omega
 have dlz:decide ((0:Int)<(l.length:Int))=decide (0<l.length):=by rw[decide_eq_decide];omega
 obtain⟨bk,dks⟩: ∃b,decide (0<ks.length)=b:=⟨_,rfl⟩
 obtain⟨bl,dl⟩: ∃b,decide (0<l.length)=b:=⟨_,rfl⟩
 obtain⟨bt,hbt2⟩: ∃b,s.isEmpty=b:=⟨_,rfl⟩
 rw[dks] at dkz hR
 rw[dl] at dlz hR
 rw[hbt2] at e0 e0b hR
 have HRb:=hid hR
 clear hV hR hbk hlies htk hk7 hbt2
 unfold vv
 simp only[VT.kind,VT.text,VT.items,VT.keys]
 go_enter Tryz.func46,Tryz.ntmps46
 go_upto_region 1 with fail
 clear hW1
 obtain⟨b0,b1,b2,b3⟩:=HX.out.cells
 simp only[VT.kind,VT.text] at b0 b1
 clear b0 b1 b2 b3
 obtain⟨b0,b1,b2,b3⟩:=HX.out.cells
 simp only[VT.kind,VT.text] at b0 b1
 go_quiet (fail)
 obtain⟨W2,hW2⟩: ∃W,W1.drewN nq=W:=⟨_,rfl⟩
 have hbq:Below W1.heap.size W1 W2:=by rw[←hW2];exact below_drewN (Below.refl _ _) _
 rw[hW2]
 have HX2:=hid (HX.out.keep hbq)
 have HV2:=hid (HV.out.keep hbq)
 have HSV2:=hid (HSV.out.keep hbq)
 have HBq:=hid (below_of_new HB1.out hbq)
 clear hbq hW2 b0 b1 b2 b3 HX HV HSV HB1
 obtain⟨b0,b1,b2,b3⟩:=HX2.out.cells
 simp only[VT.kind,VT.text] at b0 b1
 by_cases h5:k=5
 ·subst h5
  have hr:=HRb.out
  rw[if_pos rfl] at hr
  have HR:=hid hr
  clear hr HRb HK7
  cases bk<;>cases bt
  all_goals
   go_wp2_with fail
   go_ret
   exact⟨by rw[←HR.out];rfl,by first | exact HBq.out | (rw[←hB];exact HBq.out)⟩
 ·have d5:(k==5)=false:=beq_eq_false_iff_ne.2 h5
  have hr:=HRb.out
  rw[if_neg h5] at hr
  by_cases h6:k=6
  ·subst h6
   rw[if_pos rfl] at hr
   have HC:=hid (vkeyed_any _ ks l.length W2 HSV2.out HTK.out (by omega) HV2.out)
   obtain⟨by_,hby⟩: ∃b,keyedB ks l.length=b:=⟨_,rfl⟩
   rw[hby] at HC hr
   have HR:=hid hr
   clear hr HRb HK7 hby h5
   go_wp2_with fail
   refine HC.out.mono ?_
   rintro e w2 ⟨rfl,hb2⟩
   obtain⟨b0',b1',b2',b3'⟩:=(HX2.out.keep hb2).cells
   simp only[VT.kind,VT.text] at b0' b1'
   have HB2:=hid (below_of_new HBq.out hb2)
   clear hb2 b0 b1 b2 b3
   cases by_<;>cases bt
   all_goals
    go_wp2_with fail
    go_ret
    exact⟨by rw[←HR.out];rfl,by first | exact HB2.out | (rw[←hB];exact HB2.out)⟩
  ·have d6:(k==6)=false:=beq_eq_false_iff_ne.2 h6
   rw[if_neg h6] at hr
   have HR0:=hid hr
   clear hr HRb
   by_cases hbb:(bk||bl)=true
   ·rw[if_pos hbb] at HR0
    obtain rfl:false=R:=HR0.out
    cases bk<;>cases bl
    ·cases hbb
    all_goals
     go_wp2_with fail
     go_ret
     exact⟨rfl,by first | exact HBq.out | (rw[←hB];exact HBq.out)⟩
   ·rw [if_neg hbb] at HR0
    obtain⟨rfl,rfl⟩:bk=false∧bl=false:=by cases bk<;>cases bl<;>simp at hbb ⊢
    clear hbb
    by_cases h1:k=1
    ·subst h1
     have hr:=HR0.out
     rw[if_pos rfl] at hr
     subst hr
     clear HR0
     go_wp2_with fail
     go_ret
     exact⟨by simp[e0,e0b],by first | exact HBq.out | (rw[←hB];exact HBq.out)⟩
    ·have d1:(k==1)=false:=beq_eq_false_iff_ne.2 h1
     rw[if_neg h1] at HR0
     by_cases h2:k=2
     ·subst h2
      have hr:=HR0.out
      rw[if_pos rfl] at hr
      have t1:=str_lit s trueL
      have t2:=str_lit s falseL
      unfold trueL at t1
      unfold falseL at t2
      obtain⟨y1,hy1⟩: ∃b,decide (s=trueL)=b:=⟨_,rfl⟩
      obtain⟨y2,hy2⟩: ∃b,decide (s=falseL)=b:=⟨_,rfl⟩
      rw[hy1,hy2] at hr
      have t1:((bs s).toList== [116,114,117,101])=y1:=t1.trans hy1
      have t2:((bs s).toList== [102,97,108,115,101])=y2:=t2.trans hy2
      have t3:decide (s= [116,117,114,101])=decide (s= [116,117,114,101]):=rfl
      have hy1:decide (s= [116,114,117,101])=y1:=hy1
      have hy2:decide (s= [102,97,108,115,101])=y2:=hy2
      subst hr
      clear HR0 t3
      cases y1<;>cases y2
      all_goals
       go_wp2_with fail
       go_ret
       exact⟨by simp[t1,t2,hy1,hy2,Act.put],by first | exact HBq.out | (rw[←hB];exact HBq.out)⟩
     ·have d2:(k==2)=false:=beq_eq_false_iff_ne.2 h2
      rw[if_neg h2] at HR0
      by_cases h3:k=3
      ·subst h3
       have hr:=HR0.out
       rw[if_pos rfl] at hr
       have HC:=hid (vdecimal_any s W2 (by omega) HV2.out)
       unfold DecE numV at HC
       rw[hr] at HC
       obtain⟨nn,hnn⟩: ∃n,(parseL s).1=n:=⟨_,rfl⟩
       rw[hnn] at HC
       clear HR0 hr hnn
       go_wp2_with fail
       refine HC.out.mono ?_
       rintro e w2 ⟨rfl,hb2⟩
       have HB2:=hid (below_of_new HBq.out hb2)
       clear hb2 b0 b1 b2 b3
       go_wp2_with fail
       go_ret
       exact⟨rfl,HB2.out.trans ((below_alloc1 w2 _).mono HB2.out.size)⟩
      ·have d3:(k==3)=false:=beq_eq_false_iff_ne.2 h3
       rw[if_neg h3] at HR0
       by_cases h4:k=4
       ·subst h4
        have hr:=HR0.out
        rw[if_pos rfl] at hr
        have HC:=hid (vplain_any s W2 (by omega) HV2.out)
        rw[hr] at HC
        clear HR0 hr
        go_wp2_with fail
        refine HC.out.mono ?_
        rintro e w2 ⟨rfl,hb2⟩
        have HB2:=hid (below_of_new HBq.out hb2)
        clear hb2 b0 b1 b2 b3
        go_wp2_with fail
        go_ret
        exact⟨rfl,HB2.out⟩
       ·have d4:(k==4)=false:=beq_eq_false_iff_ne.2 h4
        have d7:(k==7)=false:=beq_eq_false_iff_ne.2 HK7.out
        rw[if_neg h4] at HR0
        obtain rfl:false=R:=HR0.out
        go_wp2_with fail
        go_ret
        exact⟨rfl,by first | exact HBq.out | (rw[←hB];exact HBq.out)⟩
def rnodeB (t:VT):Bool:=decide (t.kind≠7)&&nodeB t
def RightB (t:VT):Bool:=(decide (t.size≤4096)&&decide (t.depth≤32))&&everyB rnodeB t
theorem vRight1_any (n:Nat) (t:VT) (kv iv:Value) (w:World) (h:VD w n t kv iv) (hbk:t.bulk≤1073741824) (hV:VVar w):
  Calls Tryz.prog 45 #[vv t kv iv] w fun e w'=>e= .returned (.bool (rnodeB t))∧Below w.heap.size w w':=by
 obtain⟨m',hm,⟨pk,ck,rfl,hck,hlies⟩,p,c,rfl,hlc,hit⟩:=h.parts
 obtain⟨R,hR⟩: ∃R,rnodeB t=R:=⟨_,rfl⟩
 rw[hR]
 unfold rnodeB at hR
 obtain⟨W1,hW1⟩: ∃W,w.alloc (.cells #[.int .i64 t.kind, .string (bs t.text), .slice pk t.keys.length ck, .slice p t.items.length c] 36)=W:=⟨_,rfl⟩
 obtain⟨B,hB⟩: ∃B,w.heap.size=B:=⟨_,rfl⟩
 have HB1:Hid (Below w.heap.size w W1):=hid (by rw[←hW1];exact below_alloc1 _ _)
 have HX:Hid (VBox W1 B t (.slice pk t.keys.length ck) (.slice p t.items.length c)):=hid (by rw[←hW1,←hB];exact VBox.new w t _ _)
 have hsv:SV W1 (.slice pk t.keys.length ck) t.keys:=⟨pk,ck,rfl,hck,hlies.keep HB1.out⟩
 have hV1:=hV.keep HB1.out
 have HR:=hid hR
 unfold vv
 by_cases h7:t.kind=7
 ·have d7:(t.kind !=7)=false:=by simp[h7]
  have hr:=HR.out
  rw[decide_eq_false (by simpa using h7),Bool.false_and] at hr
  subst hr
  clear hit hlies hsv hV1 hV h hR h7
  go_enter Tryz.func45,Tryz.ntmps45
  go_upto_region 1 with fail
  clear hW1
  obtain⟨b0,b1,b2,b3⟩:=HX.out.cells
  go_wp2_with fail
  go_ret
  exact⟨rfl,by first | exact HB1.out | (rw[←hB];exact HB1.out)⟩
 ·have d7:(t.kind !=7)=true:=by simp[h7]
  have hr:=HR.out
  rw[decide_eq_true (by simpa using h7),Bool.true_and] at hr
  have HC:=hid (vnode_any t _ p c W1 hsv hbk h7 hV1)
  unfold vv at HC
  rw[hr] at HC
  clear hit hlies hsv hV1 hV h hR h7 hr
  go_enter Tryz.func45,Tryz.ntmps45
  go_upto_region 1 with fail
  clear hW1
  obtain⟨b0,b1,b2,b3⟩:=HX.out.cells
  go_wp2_with fail
  refine HC.out.mono ?_
  rintro e w2 ⟨rfl,hb2⟩
  have HB2:=hid (below_of_new HB1.out hb2)
  clear hb2 b0 b1 b2 b3
  go_wp2_with fail
  go_ret
  exact⟨rfl,by first | exact HB2.out | (rw[←hB];exact HB2.out)⟩
def rightF:Value:= .func (.func 45) #[] #[]
def evF (X:Nat):Value:= .func (.func 79) #[] #[.pointer (some ⟨X,0,none⟩)]
def VEv (n:Nat):Prop:= ∀(t:VT) (kv iv:Value) (w:World),VD w n t kv iv→t.bulk≤1073741824→VVar w→
 Calls Tryz.prog 44 #[vv t kv iv,rightF] w fun e w'=>e= .returned (.bool (everyB rnodeB t))∧Below w.heap.size w w'
theorem vevery1_any (n:Nat) (IH:VEv n) (t:VT) (kv iv:Value) (X:Nat) (w:World) (h:VD w n t kv iv) (hbk:t.bulk≤1073741824) (hV:VVar w) (hX:w.cell? ⟨X,0,none⟩=some rightF):
  Calls Tryz.prog 79 #[vv t kv iv, .pointer (some ⟨X,0,none⟩)] w fun e w'=>e= .returned (.bool (!everyB rnodeB t))∧Below w.heap.size w w':=by
 obtain⟨pk,ck,p,c,rfl,rfl⟩:=h.form
 obtain⟨R,hR⟩: ∃R,everyB rnodeB t=R:=⟨_,rfl⟩
 rw[hR]
 obtain⟨W1,hW1⟩: ∃W,w.alloc (.cells #[.int .i64 t.kind, .string (bs t.text), .slice pk t.keys.length ck, .slice p t.items.length c] 36)=W:=⟨_,rfl⟩
 obtain⟨B,hB⟩: ∃B,w.heap.size=B:=⟨_,rfl⟩
 have HB1:Hid (Below w.heap.size w W1):=hid (by rw[←hW1];exact below_alloc1 _ _)
 have HXB:Hid (VBox W1 B t (.slice pk t.keys.length ck) (.slice p t.items.length c)):=hid (by rw[←hW1,←hB];exact VBox.new w t _ _)
 have hx1:W1.cell? ⟨X,0,none⟩=some rightF:=by rw[HB1.out.cell (p:=⟨X,0,none⟩) (cell_lt hX)];exact hX
 have HC:=hid (IH t _ _ W1 (h.keep HB1.out) hbk (hV.keep HB1.out))
 unfold vv at HC ⊢
 unfold rightF at HC hx1
 rw[hR] at HC
 clear h hbk hV hX hR IH
 go_enter Tryz.func79,Tryz.ntmps79
 go_upto_region 1 with fail
 clear hW1
 obtain⟨b0,b1,b2,b3⟩:=HXB.out.cells
 go_wp2_with fail
 refine HC.out.mono ?_
 rintro e w2 ⟨rfl,hb2⟩
 have HB2:=hid (below_of_new HB1.out hb2)
 clear hb2 b0 b1 b2 b3 hx1
 go_wp2_with fail
 go_ret
 exact⟨rfl,by first | exact HB2.out | (rw[←hB];exact HB2.out)⟩
def badI (l:List VT):Int:=if l.all (everyB rnodeB) then -1 else((l.findIdx (fun x=>!everyB rnodeB x):Nat):Int)
theorem badI_hit {l:List VT}{i:Nat}{x:VT} (hx:l[i]?=some x) (hq:everyB rnodeB x=false) (hn: ∀(j:Nat) (y:VT),j<i→l[j]?=some y→everyB rnodeB y=true):badI l=(i:Int):=by
 obtain⟨hi,he⟩:=List.getElem?_eq_some_iff.1 hx
 have hf:l.findIdx (fun x=>!everyB rnodeB x)=i:=by
  rw[List.findIdx_eq hi]
  refine⟨by rw[he,hq];rfl,fun j hj=>?_⟩
  rw[hn j _ hj (List.getElem?_eq_getElem (by omega))]
  rfl
 unfold badI
 rw[if_neg,hf]
 intro h
 have:=List.all_eq_true.1 h x (List.mem_of_getElem? hx)
 rw[hq] at this
 cases this
theorem badI_miss {l:List VT} (hn: ∀(j:Nat) (y:VT),l[j]?=some y→everyB rnodeB y=true):badI l= -1:=by
 unfold badI
 rw[if_pos]
 rw[List.all_eq_true]
 intro x hx
 obtain⟨j,hj⟩:=List.getElem?_of_mem hx
 exact hn j x hj
theorem vindex_any (n:Nat) (IH:VEv n) (X:Nat) (p:Option Addr) (c:Nat) (l:List VT) (w:World) (hit:Items w n p l) (hbk:bulks l≤1073741824) (hV:VVar w) (hX:w.cell? ⟨X,0,none⟩=some rightF):
  Calls Tryz.prog 127 #[.slice p l.length c,evF X] w fun e w'=>e= .returned (.int .i64 (badI l))∧Below w.heap.size w w':=by
 have HIT:=hid hit
 have HV:=hid hV
 have HX:=hid hX
 have hlen:=Nat.le_trans (len_le_bulks l) hbk
 obtain⟨R,hR⟩: ∃R,badI l=R:=⟨_,rfl⟩
 rw[hR]
 have HR:=hid hR
 clear hit hV hX hR
 unfold evF
 go_enter Tryz.func127,Tryz.ntmps127
 go_wp2_with fail
 go_loopw [8] (fun s8 wr=> ∃i:Nat,s8= .int .i64 i∧i≤l.length∧Hid (∀j y,j<i→l[j]?=some y→everyB rnodeB y=true)∧Hid (Below w.heap.size w wr)) (fun s8 _=>l.length-(RowKit.intOf s8).toNat)
 case atStart=>exact⟨0,rfl,by omega,hid (fun j y hj=>by omega),hid (Below.refl _ _)⟩
 case round=>
  obtain⟨i,rfl,hi,HN,HB⟩:=hrel
  by_cases hlt:i<l.length
  ·have hiz:(i:Int)<(l.length:Int):=by omega
   obtain⟨x,hx⟩: ∃x,l[i]?=some x:=⟨_,List.getElem?_eq_getElem hlt⟩
   obtain⟨g,o,kv',iv',rfl,hg,n0,n1,n2,n3,hvd⟩:=HIT.out.keep HB.out i x hx
   obtain⟨pk2,ck2,px,cx,rfl,rfl⟩:=hvd.form
   have hx2:wr.cell? ⟨X,0,none⟩=some rightF:=by rw[HB.out.cell (p:=⟨X,0,none⟩) (cell_lt HX.out)];exact HX.out
   have C:=vevery1_any n IH x _ _ X wr hvd (Nat.le_trans (bulk_mem (List.mem_of_getElem? hx)) hbk) (HV.out.keep HB.out) hx2
   obtain⟨b,hb⟩: ∃b,everyB rnodeB x=b:=⟨_,rfl⟩
   rw[hb] at C
   unfold vv at C
   have HC:=hid C
   clear C hx2 hvd
   cases b with
   | false=>
    have HF:=hid (HR.out.symm.trans (badI_hit hx hb HN.out))
    clear hx hb
    go_wp2_with fail
    refine HC.out.mono ?_
    rintro e w1 ⟨rfl,hb1⟩
    have HB1:=hid (below_of_new HB.out hb1)
    clear hb1
    go_wp2_with fail
    go_ret
    exact⟨by rw[HF.out]<;>rfl,HB1.out⟩
   | true=>
    have HN2:Hid (∀j y,j<i+1→l[j]?=some y→everyB rnodeB y=true):=hid (fun j y hj hy=>by
     by_cases hji:j<i
     ·exact HN.out j y hji hy
     ·obtain rfl:j=i:=by omega
      rw[hx] at hy
      obtain rfl:=Option.some.inj hy
      exact hb)
    clear hx hb
    go_wp2_with fail
    refine HC.out.mono ?_
    rintro e w1 ⟨rfl,hb1⟩
    have HB1:=hid (below_of_new HB.out hb1)
    clear hb1
    go_wp2_with fail
    go_roundw
    case rel=>exact⟨i+1,by go_num,by omega,HN2,HB1⟩
    case measure=>simp[RowKit.intOf];omega
  ·have hiz: ¬(i:Int)<(l.length:Int):=by omega
   have HF:=hid (HR.out.symm.trans (badI_miss (fun j y hy=>HN.out j y (by have:=(List.getElem?_eq_some_iff.1 hy).1;omega) hy)))
   go_wp2_with fail
   go_ret
   exact⟨by rw[HF.out]<;>rfl,HB.out⟩
theorem vcontains_any (n:Nat) (IH:VEv n) (X:Nat) (p:Option Addr) (c:Nat) (l:List VT) (w:World) (hit:Items w n p l) (hbk:bulks l≤1073741824) (hV:VVar w) (hX:w.cell? ⟨X,0,none⟩=some rightF):
  Calls Tryz.prog 78 #[.slice p l.length c,evF X] w fun e w'=>e= .returned (.bool (!everyL rnodeB l))∧Below w.heap.size w w':=by
 have C:=vindex_any n IH X p c l w hit hbk hV hX
 have hlen:=Nat.le_trans (len_le_bulks l) hbk
 rw[everyL_eq]
 unfold badI at C
 obtain⟨b,hb⟩: ∃b,l.all (everyB rnodeB)=b:=⟨_,rfl⟩
 obtain⟨F,hF⟩: ∃F,l.findIdx (fun x=>!everyB rnodeB x)=F:=⟨_,rfl⟩
 rw[hb,hF] at C
 rw[hb]
 have HC:=hid C
 clear C hb hF hit hV hX
 unfold evF at HC ⊢
 cases b with
 | true=>
  go_enter Tryz.func78,Tryz.ntmps78
  go_wp2_with fail
  refine HC.out.mono ?_
  rintro e w1 ⟨rfl,hb1⟩
  have HB1:=hid hb1
  clear hb1
  go_wp2_with fail
  go_ret
  exact⟨rfl,HB1.out⟩
 | false=>
  have hF0:decide ((0:Int)≤(F:Int))=true:=decide_eq_true (by omega)
  go_enter Tryz.func78,Tryz.ntmps78
  go_wp2_with fail
  refine HC.out.mono ?_
  rintro e w1 ⟨rfl,hb1⟩
  have HB1:=hid hb1
  clear hb1
  go_wp2_with fail
  go_ret
  exact⟨rfl,HB1.out⟩
theorem vevery_step (m:Nat) (IH:VEv m):VEv (m+1):=by
 intro t kv iv w h hbk hV
 have hmf: ∀(fn:Fn) (first cap:Array Value) (w:World),(Instr.makeFunc fn first cap).run Tryz.prog w= .ok (.func fn first cap) w:=fun _ _ _ _=>rfl
 obtain⟨m',hm,⟨pk,ck,rfl,hck,hlies⟩,p,c,rfl,hlc,hit⟩:=h.parts
 obtain rfl:m=m':=by omega
 obtain⟨R,hR⟩: ∃R,everyB rnodeB t=R:=⟨_,rfl⟩
 rw[hR]
 have hR2:(rnodeB t&&everyL rnodeB t.items)=R:=by rw[←hR];cases t;rw[everyB];rfl
 have hbl:bulks t.items≤1073741824:=by cases t;rw[VT.bulk] at hbk;simp only[VT.items];omega
 obtain⟨B,hB⟩: ∃B,w.heap.size=B:=⟨_,rfl⟩
 obtain⟨W1,hW1⟩: ∃W,(w.alloc (.cells #[.int .i64 t.kind, .string (bs t.text), .slice pk t.keys.length ck, .slice p t.items.length c] 36)).alloc (.cells #[.func (.func 45) #[] #[]] 54)=W:=⟨_,rfl⟩
 have b1:=below_alloc1 w (.cells #[.int .i64 t.kind, .string (bs t.text), .slice pk t.keys.length ck, .slice p t.items.length c] 36)
 have b2:=below_alloc1 (w.alloc (.cells #[.int .i64 t.kind, .string (bs t.text), .slice pk t.keys.length ck, .slice p t.items.length c] 36)) (.cells #[.func (.func 45) #[] #[]] 54)
 have HB1:Hid (Below w.heap.size w W1):=hid (by rw[←hW1];exact below_of_new b1 b2)
 have HXB:Hid (VBox W1 B t (.slice pk t.keys.length ck) (.slice p t.items.length c)):=hid (by rw[←hW1,←hB];exact(VBox.new w t _ _).keep b2)
 have hh:W1.heap[B+1]?=some (.cells #[.func (.func 45) #[] #[]] 54 (0,0)):=by
  rw[←hW1,←hB]
  have hh:=heap_alloc_new (w.alloc (.cells #[.int .i64 t.kind, .string (bs t.text), .slice pk t.keys.length ck, .slice p t.items.length c] 36)) (.cells #[.func (.func 45) #[] #[]] 54)
  simp only[World.size_alloc] at hh
  exact hh
 have HXF:Hid (W1.cell? ⟨B+1,0,none⟩=some (.func (.func 45) #[] #[])∧B+1<W1.heap.size):=hid ⟨by simp[World.cell?,hh],cell_it hh⟩
 clear hh
 have HIT:=hid (hit.keep HB1.out)
 have HV:=hid (hV.keep HB1.out)
 have HC1:=hid (vRight1_any _ t _ _ W1 (h.keep HB1.out) hbk HV.out)
 unfold vv at HC1 ⊢
 unfold rightF
 obtain⟨y,hy⟩: ∃y,rnodeB t=y:=⟨_,rfl⟩
 rw[hy] at HC1 hR2
 have HR:=hid hR2
 clear b1 b2 hit hlies hV h hR hR2 hy
 go_enter Tryz.func44,Tryz.ntmps44
 go_upto_region 1 with fail
 clear hW1
 obtain⟨b0,b1,b2,b3⟩:=HXB.out.cells
 obtain⟨x0,_⟩:=HXF.out
 go_wp2_with fail
 refine HC1.out.mono ?_
 rintro e w2 ⟨rfl,hb2⟩
 have HB2:=hid hb2
 have hx2:w2.cell? ⟨B+1,0,none⟩=some rightF:=by rw[hb2.cell (p:=⟨B+1,0,none⟩) HXF.out.2];exact HXF.out.1
 clear hb2 b0 b1 b2 b3 x0
 obtain⟨b0,b1,b2,b3⟩:=(HXB.out.keep HB2.out).cells
 cases y with
 | false=>
  go_wp2_with fail
  go_ret
  exact⟨by rw[←HR.out];rfl,by first | exact below_of_new HB1.out HB2.out | (rw[←hB];exact below_of_new HB1.out HB2.out)⟩
 | true=>
  have HC2:=hid (vcontains_any m IH (B+1) p c t.items w2 (HIT.out.keep HB2.out) hbl (HV.out.keep HB2.out) hx2)
  obtain⟨z,hz⟩: ∃z,everyL rnodeB t.items=z:=⟨_,rfl⟩
  have hr:=HR.out
  rw[hz] at HC2 hr
  unfold evF at HC2
  rw[Bool.true_and] at hr
  subst hr
  clear hz HR hx2
  go_wp2_with fail
  refine HC2.out.mono ?_
  rintro e w3 ⟨rfl,hb3⟩
  have HB3:=hid (below_of_new HB2.out hb3)
  clear hb3 b0 b1 b2 b3
  cases z
  all_goals
   go_wp2_with fail
   go_ret
   exact⟨rfl,by first | exact below_of_new HB1.out HB3.out | (rw[←hB];exact below_of_new HB1.out HB3.out)⟩
theorem vevery_any: ∀n,VEv n
 | 0=>fun t kv iv w h=>h.elim
 | n+1=>vevery_step n (vevery_any n)
theorem vsized_any (n:Nat) (t:VT) (kv iv:Value) (w:World) (h:VD w n t kv iv) (hbk:t.bulk≤1073741824):
  Calls Tryz.prog 43 #[vv t kv iv] w fun e w'=>e= .returned (.bool (decide (t.size≤4096)&&decide (t.depth≤32)))∧Below w.heap.size w w':=by
 obtain⟨pk,ck,p,c,rfl,rfl⟩:=h.form
 obtain⟨B,hB⟩: ∃B,w.heap.size=B:=⟨_,rfl⟩
 obtain⟨W1,hW1⟩: ∃W,w.alloc (.cells #[.int .i64 t.kind, .string (bs t.text), .slice pk t.keys.length ck, .slice p t.items.length c] 36)=W:=⟨_,rfl⟩
 have HB1:Hid (Below w.heap.size w W1):=hid (by rw[←hW1];exact below_alloc1 _ _)
 have HXB:Hid (VBox W1 B t (.slice pk t.keys.length ck) (.slice p t.items.length c)):=hid (by rw[←hW1,←hB];exact VBox.new w t _ _)
 have HV:=hid (h.keep HB1.out)
 have HC1:=hid (vsize_any n t _ _ W1 HV.out (by omega))
 have hs:=size_le_bulk t
 have hd:=depth_le_size t
 have HDp:=hid (fun w' hb=>vdepth_any n t _ _ w' (HV.out.keep hb) (by omega))
 unfold vv at HC1 HDp ⊢
 obtain⟨S,hS⟩: ∃S,t.size=S:=⟨_,rfl⟩
 obtain⟨D,hD⟩: ∃D,t.depth=D:=⟨_,rfl⟩
 rw[hS] at HC1 hs hd ⊢
 rw[hD] at HDp hd ⊢
 obtain⟨R,hR⟩: ∃R,(decide (S≤4096)&&decide (D≤32))=R:=⟨_,rfl⟩
 rw[hR]
 have HR:=hid hR
 have d1:decide ((S:Int)≤4096)=decide (S≤4096):=by rw[decide_eq_decide];omega
 have d2:decide ((D:Int)≤32)=decide (D≤32):=by rw[decide_eq_decide];omega
 clear h hS hD hR
 go_enter Tryz.func43,Tryz.ntmps43
 go_upto_region 1 with fail
 clear hW1
 obtain⟨b0,b1,b2,b3⟩:=HXB.out.cells
 go_wp2_with fail
 refine HC1.out.mono ?_
 rintro e w2 ⟨rfl,hb2⟩
 have HB2:=hid hb2
 clear hb2 b0 b1 b2 b3
 obtain⟨b0,b1,b2,b3⟩:=(HXB.out.keep HB2.out).cells
 by_cases hS:S≤4096
 ·rw[decide_eq_true hS] at d1
  have hS2:decide (S≤4096)=true:=decide_eq_true hS
  have HC2:=hid (HDp.out w2 HB2.out)
  go_wp2_with fail
  refine HC2.out.mono ?_
  rintro e w3 ⟨rfl,hb3⟩
  have HB3:=hid (below_of_new HB2.out hb3)
  clear hb3 b0 b1 b2 b3
  obtain⟨y,hy⟩: ∃y,decide (D≤32)=y:=⟨_,rfl⟩
  rw[hy] at d2
  have hr:=HR.out
  rw[hS2,hy,Bool.true_and] at hr
  subst hr
  go_wp2_with fail
  go_ret
  exact⟨by simp[hy,Act.put],by first | exact below_of_new HB1.out HB3.out | (rw[←hB];exact below_of_new HB1.out HB3.out)⟩
 ·rw[decide_eq_false hS] at d1
  have hS2:decide (S≤4096)=false:=decide_eq_false hS
  have hr:=HR.out
  rw[hS2,Bool.false_and] at hr
  subst hr
  go_wp2_with fail
  go_ret
  exact⟨rfl,by first | exact below_of_new HB1.out HB2.out | (rw[←hB];exact below_of_new HB1.out HB2.out)⟩
theorem vright_any (n:Nat) (t:VT) (kv iv:Value) (w:World) (h:VD w n t kv iv) (hbk:t.bulk≤1073741824) (hV:VVar w):
  Calls Tryz.prog 21 #[vv t kv iv] w fun e w'=>e= .returned (.bool (RightB t))∧Below w.heap.size w w':=by
 obtain⟨pk,ck,p,c,rfl,rfl⟩:=h.form
 obtain⟨R,hR⟩: ∃R,RightB t=R:=⟨_,rfl⟩
 rw[hR]
 unfold RightB at hR
 obtain⟨B,hB⟩: ∃B,w.heap.size=B:=⟨_,rfl⟩
 obtain⟨W1,hW1⟩: ∃W,w.alloc (.cells #[.int .i64 t.kind, .string (bs t.text), .slice pk t.keys.length ck, .slice p t.items.length c] 36)=W:=⟨_,rfl⟩
 have HB1:Hid (Below w.heap.size w W1):=hid (by rw[←hW1];exact below_alloc1 _ _)
 have HXB:Hid (VBox W1 B t (.slice pk t.keys.length ck) (.slice p t.items.length c)):=hid (by rw[←hW1,←hB];exact VBox.new w t _ _)
 have HVd:=hid (h.keep HB1.out)
 have HV:=hid (hV.keep HB1.out)
 have HC1:=hid (vsized_any n t _ _ W1 HVd.out hbk)
 unfold vv at HC1 ⊢
 obtain⟨y,hy⟩: ∃y,(decide (t.size≤4096)&&decide (t.depth≤32))=y:=⟨_,rfl⟩
 rw[hy] at HC1 hR
 have HR:=hid hR
 clear h hV hR hy
 go_enter Tryz.func21,Tryz.ntmps21
 go_upto_region 1 with fail
 clear hW1
 obtain⟨b0,b1,b2,b3⟩:=HXB.out.cells
 go_wp2_with fail
 refine HC1.out.mono ?_
 rintro e w2 ⟨rfl,hb2⟩
 have HB2:=hid hb2
 clear hb2 b0 b1 b2 b3
 obtain⟨b0,b1,b2,b3⟩:=(HXB.out.keep HB2.out).cells
 cases y with
 | false=>
  go_wp2_with fail
  go_ret
  exact⟨by rw[←HR.out];rfl,by first | exact below_of_new HB1.out HB2.out | (rw[←hB];exact below_of_new HB1.out HB2.out)⟩
 | true=>
  have HC2:=hid (vevery_any n t _ _ w2 (HVd.out.keep HB2.out) hbk (HV.out.keep HB2.out))
  unfold vv rightF at HC2
  have hr:=HR.out
  rw[Bool.true_and] at hr
  rw[hr] at HC2
  clear hr HR
  go_wp2_with fail
  refine HC2.out.mono ?_
  rintro e w3 ⟨rfl,hb3⟩
  have HB3:=hid (below_of_new HB2.out hb3)
  clear hb3 b0 b1 b2 b3
  go_wp2_with fail
  go_ret
  exact⟨rfl,by first | exact below_of_new HB1.out HB3.out | (rw[←hB];exact below_of_new HB1.out HB3.out)⟩
end Go.Proofs.YtlibkhbachmcgaaGreatDoor
