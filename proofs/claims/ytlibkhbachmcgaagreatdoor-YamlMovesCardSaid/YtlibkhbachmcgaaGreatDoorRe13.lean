import Derived.Test.YtlibkhbachmcgaaGreatDoorRe12
import Derived.Test.YtlibkhbachmcgaaGreatDoorRe4
import Derived.Test.YtlibkhbachmcgaaGreatDoorRe6
import Derived.Lib.IndexMore
import Derived.Lib.ReplaceLaws
import Derived.Lib.SplitLaws
import Derived.Test.YtlibkhbachmcgaaGreatDoorRe7
import Derived.Deep.RegionLaw
import Derived.Deep.RegionHeld3
import Derived.Deep.DeepCutAuto
set_option maxRecDepth 100000
set_option maxHeartbeats 4000000
namespace Go.Proofs.YtlibkhbachmcgaaGreatDoor
set_option linter.unusedSimpArgs false
set_option linter.unusedVariables false
open Go.RowKit
open Go.Lib hiding intOf
def cleanGo:Nat→List UInt8→Bool
 | 0,_=>true
 | _,[]=>true
 | f+1,c::r=>if(decide ((decodeL (c::r)).1<32)||((decodeL (c::r)).1==127))=true then false else cleanGo f ((c::r).drop (decodeL (c::r)).2)
def cleanB (s:Stp):Bool:=cleanGo s.length s&&validD s
def Cl (l:List UInt8) (p:Nat) (Q:Bool):Prop:= ∃f,l.length≤p+f∧cleanGo f (l.drop p)=Q
theorem Cl.zero (l:List UInt8):Cl l 0 (cleanGo l.length l):=⟨l.length,by omega,by rw[List.drop_zero]⟩
theorem Cl.fin {l:List UInt8}{p:Nat}{Q:Bool} (h:Cl l p Q) (hp:l.length≤p):Q=true:=by
 obtain⟨f,_,h2⟩:=h
 rw[List.drop_of_length_le hp] at h2
 rw[←h2]
 cases f<;>rfl
theorem Cl.rune {l:List UInt8}{p:Nat}{Q:Bool} (h:Cl l p Q) (hp:p<l.length):
  ((runeI (bs l) p<32∨runeI (bs l) p=127)→Q=false)∧(¬(runeI (bs l) p<32∨runeI (bs l) p=127)→Cl l (p+widN (bs l) p) Q):=by
 obtain⟨f,h1,h2⟩:=h
 obtain⟨g,rfl⟩: ∃g,f=g+1:=⟨f-1,by omega⟩
 have hd:=List.drop_eq_getElem_cons hp
 have hdr:=decodeL_drop (bs l) p
 rw[bs_data] at hdr
 rw[hd] at h2
 rw[cleanGo,←hd,hdr] at h2
 have e1:runeI (bs l) p=((Utf8.decode (bs l) p).1:Int):=rfl
 have e2:widN (bs l) p=(Utf8.decode (bs l) p).2:=rfl
 rw[e1,e2]
 have hw:=decodeL_width (l[p]'hp::l.drop (p+1))
 rw[←hd,hdr] at hw
 refine⟨fun hb=>?_,fun hb=>?_⟩
 ·rw[if_pos] at h2
  ·exact h2.symm
  ·simp only[Bool.or_eq_true,decide_eq_true_eq,beq_iff_eq]
   omega
 ·rw[if_neg] at h2
  ·rw[List.drop_drop] at h2
   exact⟨g,by omega,h2⟩
  ·simp only[Bool.or_eq_true,decide_eq_true_eq,beq_iff_eq]
   omega
def YVar (w:World):Prop:=VVar w∧DTab w∧MVar w
theorem YVar.keep {w w':World} (h:YVar w) (hb:Below w.heap.size w w'):YVar w':=⟨h.1.keep hb,h.2.1.keep hb,h.2.2.keep hb⟩
theorem yclean_any (l:List UInt8) (w:World) (hs:l.length≤1073741824) (hV:YVar w):
  Calls Tryz.prog 86 #[.string (bs l)] w fun e w'=>e= .returned (.bool (cleanB l))∧Below w.heap.size w w':=by
 have sl:=bs_size l
 obtain⟨R,hR⟩: ∃R,cleanB l=R:=⟨_,rfl⟩
 rw[hR]
 unfold cleanB at hR
 have HR:=hid hR;have HV:=hid hV;clear hR hV
 go_enter Tryz.func86,Tryz.ntmps86
 go_wp2_with fail
 go_loopw [4] (fun _ wr=> ∃p:Nat,p≤l.length∧Hid (Cl l p (cleanGo l.length l))∧Hid (wr.heap[w.heap.size]?=some (.stringIter (bs l) p))∧Hid (Below w.heap.size w wr)) (fun _ wr=>l.length-wr.iterPos w.heap.size)
 case atStart=>exact⟨0,by omega,Cl.zero l,World.iter_heap w (bs l) 0,(Below.refl _ _).alloc (Nat.le_refl _) _⟩
 case round=>
  obtain⟨p,hp,HB,HI,HW⟩:=hrel
  by_cases hlt:p<l.length
  ·have hlt':p<(bs l).size:=by omega
   have hw:=widN_bd (bs l) p hlt'
   have hrb:=runeI_bd (bs l) p
   have hnx: ∀ty,(Instr.next (.pointer (some ⟨w.heap.size,0,none⟩)) true ty).run Tryz.prog wr= .ok (.tuple #[.bool true, .int .i64 p, .int .i32 (runeI (bs l) p)]) (wr.iterAt w.heap.size (bs l) (p+widN (bs l) p)):=fun ty=>Lib.run_next_any_at wr _ (bs l) p ty HI.out hlt'
   have HI2:=hid (Lib.iterAt_heap wr w.heap.size (bs l) p (p+widN (bs l) p) HI.out)
   have HW2:=hid (Lib.below_iterAt HW.out (Nat.le_refl w.heap.size) (bs l) (p+widN (bs l) p))
   have HM:=hid (iterPos_of HI.out)
   have HM2:=hid (iterPos_of HI2.out)
   obtain⟨hyes,hno⟩:=HB.out.rune hlt
   obtain⟨r,hr⟩: ∃r,runeI (bs l) p=r:=⟨_,rfl⟩
   obtain⟨n,hn⟩: ∃n,widN (bs l) p=n:=⟨_,rfl⟩
   rw[hr] at hnx hrb hyes hno
   rw[hn] at hnx hw HI2 HW2 HM2 hno
   clear hr hn
   by_cases h3:r<32
   ·have HG:=hid (hyes (.inl h3))
    have hd3:decide (r<32)=true:=decide_eq_true h3
    have HF:Hid (R=false):=hid (by rw[←HR.out,HG.out,Bool.false_and])
    clear hyes hno
    go_wp2_with fail
    go_ret
    exact⟨by rw[HF.out];rfl,HW2.out⟩
   ·have hd3:decide (r<32)=false:=decide_eq_false h3
    by_cases h4:r=127
    ·have HG:=hid (hyes (.inr h4))
     have h4B:(r==127)=true:=beq_iff_eq.2 h4
     have HF:Hid (R=false):=hid (by rw[←HR.out,HG.out,Bool.false_and])
     clear hyes hno h4
     go_wp2_with fail
     go_ret
     exact⟨by rw[HF.out];rfl,HW2.out⟩
    ·have HG:=hid (hno (by omega))
     have h4B:(r==127)=false:=beq_eq_false_iff_ne.2 h4
     clear h4 hyes hno
     go_wp2_with fail
     go_roundw
     case rel=>exact⟨p+n,by omega,HG.out,HI2.out,HW2.out⟩
     case measure=>rw[HM2.out,HM.out];omega
  ·have hnx: ∀ty,(Instr.next (.pointer (some ⟨w.heap.size,0,none⟩)) true ty).run Tryz.prog wr= .ok (.tuple #[.bool false]) wr:=fun ty=>Lib.run_next_end_at wr _ (bs l) p ty HI.out (by omega)
   have HG:=hid (HB.out.fin (by omega))
   have HF:Hid (validD l=R):=hid (by rw[←HR.out,HG.out,Bool.true_and])
   have C:=valid_any (bs l) wr (by omega) (HV.out.keep HW.out).1.1
   rw[validRes_snd,bs_data,HF.out] at C
   obtain⟨N,hN⟩: ∃N,(validRes (bs l)).1=N:=⟨_,rfl⟩
   rw[hN] at C
   have HC:=hid C
   clear C hN
   go_wp2_with fail
   refine HC.out.mono ?_
   rintro e w1 ⟨rfl,hb1⟩
   have HB1:=hid (below_of_new HW.out hb1)
   clear hb1
   go_wp2_with fail
   go_ret
   exact⟨rfl,HB1.out⟩
theorem str_eq (x y:Stp):((bs x).toList==(bs y).toList)=decide (x=y):=by
 rw[show (bs y).toList=y from by rw[Lib.toList_data,bs_data]]
 exact str_lit x y
theorem str_eq2 (x y:Stp):decide (bs x=bs y)=decide (x=y):=by
 rw[decide_eq_decide]
 exact⟨fun h=>bs_inj h,fun h=>by rw[h]⟩
def signsL:Stp:= [63,58,44,91,93,123,125,35,38,42,33,124,62,39,34,37,64,96]
def bareB (s:Stp):Bool:=match s with
 | []=>false
 | c::_=>cleanB s&&decide (Lib.trimB s 32=s)&&!decide (0≤Lib.indexByte signsL c)&&!decide (s= [45])&&!Lib.hasPrefix s [45,32]&&!Lib.hasSuffix s [58]&&!Lib.contains s [58,32]&&!Lib.contains s [32,35]
theorem ybare_any (s:Stp) (w:World) (hs:s.length≤1073741824) (hV:YVar w):
  Calls Tryz.prog 48 #[.string (bs s)] w fun e w'=>e= .returned (.bool (bareB s))∧Below w.heap.size w w':=by
 have sl:=bs_size s
 have C1:=yclean_any s w hs hV
 obtain⟨R,hR⟩: ∃R,bareB s=R:=⟨_,rfl⟩
 rw[hR]
 cases s with
 | nil=>
  have HR:=hid hR
  clear hR C1
  have e0:((bs ([]:Stp)).toList== [])=true:=str_nil []
  have e0b:(bs ([]:Stp)).toList.isEmpty=true:=str_nil2 []
  go_enter Tryz.func48,Tryz.ntmps48
  go_wp2_with fail
  go_ret
  exact⟨by rw[←HR.out];rfl,Below.refl _ _⟩
 | cons c r=>
  obtain⟨s,hse⟩: ∃s,c::r=s:=⟨_,rfl⟩
  have hR2:(cleanB s&&decide (Lib.trimB s 32=s)&&!decide (0≤Lib.indexByte signsL c)&&!decide (s= [45])&&!Lib.hasPrefix s [45,32]&&!Lib.hasSuffix s [58]&&!Lib.contains s [58,32]&&!Lib.contains s [32,35])=R:=by
   rw[←hR,←hse]
   rfl
  have hlen:0<s.length:=by rw[←hse];simp
  have hc0:(bs s)[0]'(by rw[bs_size];exact hlen)=c:=by
   subst hse
   rfl
  rw[hse] at hs sl C1 ⊢
  have hne:s≠ []:=by rw[←hse];simp
  have e0:((bs s).toList== [])=false:=by rw[str_nil];cases s<;>simp at hne ⊢
  have e0b:(bs s).toList.isEmpty=false:=by rw[str_nil2];cases s<;>simp at hne ⊢
  have e0c:decide (s= [])=false:=decide_eq_false hne
  clear hR hse
  have HC1:=hid C1
  have HR:=hid hR2
  have HV:=hid hV
  clear C1 hR2 hV
  have CT:Hid (∀w,Calls Tryz.prog 87 #[.string (bs s), .string ⟨#[32]⟩] w fun e w'=>e= .returned (.string (bs (Lib.trimB s 32)))∧Below w.heap.size w w'):=hid (fun w=>by
   have h:=Tryz.strings_Trim_one (bs s) 32 (by decide) w (by omega)
   rw[bs_data] at h
   refine h.mono ?_
   rintro e w' ⟨rfl,rfl | rfl⟩
   ·exact⟨rfl,Below.refl _ _⟩
   ·exact⟨rfl,(Below.refl _ _).drew⟩)
  have CI:Hid (∀w,Calls Tryz.prog 57 #[.string ⟨#[63,58,44,91,93,123,125,35,38,42,33,124,62,39,34,37,64,96]⟩, .int .u8 (c.toNat:Int)] w fun e w'=>e= .returned (.int .i64 (Lib.indexByte signsL c))∧w'=w):=hid (fun w=>by
   have h:=Tryz.strings_IndexByte ⟨#[63,58,44,91,93,123,125,35,38,42,33,124,62,39,34,37,64,96]⟩ (c.toNat:Int) w
   rw[show ((c.toNat:Int).toNat.toUInt8)=c from by simp] at h
   exact h)
  have CP:Hid (∀w,Calls Tryz.prog 88 #[.string (bs s), .string ⟨#[45,32]⟩] w fun e w'=>e= .returned (.bool (Lib.hasPrefix s [45,32]))∧w'=w):=hid (fun w=>by
   have h:=Tryz.strings_HasPrefix (bs s) ⟨#[45,32]⟩ w
   rw[bs_data] at h
   exact h)
  have CS:Hid (∀w,Calls Tryz.prog 89 #[.string (bs s), .string ⟨#[58]⟩] w fun e w'=>e= .returned (.bool (Lib.hasSuffix s [58]))∧w'=w):=hid (fun w=>by
   have h:=Tryz.strings_HasSuffix (bs s) ⟨#[58]⟩ w (by omega)
   rw[bs_data] at h
   exact h)
  have CC:Hid (∀(a b:UInt8) w,YVar w→Calls Tryz.prog 90 #[.string (bs s), .string ⟨#[a,b]⟩] w fun e w'=>e= .returned (.bool (Lib.contains s [a,b]))∧w'=w):=hid (fun a b w hv=>by
   obtain⟨m,hm⟩:=hv.2.2
   have h:=Tryz.strings_Contains (bs s) ⟨#[a,b]⟩ m w (by omega) hm
   rw[bs_data] at h
   exact h)
  have CC1:Hid (∀w,YVar w→Calls Tryz.prog 90 #[.string (bs s), .string ⟨#[58,32]⟩] w fun e w'=>e= .returned (.bool (Lib.contains s [58,32]))∧w'=w):=hid (CC.out 58 32)
  have CC2:Hid (∀w,YVar w→Calls Tryz.prog 90 #[.string (bs s), .string ⟨#[32,35]⟩] w fun e w'=>e= .returned (.bool (Lib.contains s [32,35]))∧w'=w):=hid (CC.out 32 35)
  have t1:=str_eq (Lib.trimB s 32) s
  have t2:=str_eq2 (Lib.trimB s 32) s
  have m1:=str_lit s [45]
  obtain⟨q1,h1⟩: ∃q,cleanB s=q:=⟨_,rfl⟩
  obtain⟨T,hT⟩: ∃T,Lib.trimB s 32=T:=⟨_,rfl⟩
  rw[hT] at CT t1 t2
  obtain⟨q2,h2⟩: ∃q,decide (T=s)=q:=⟨_,rfl⟩
  obtain⟨I,hI⟩: ∃I,Lib.indexByte signsL c=I:=⟨_,rfl⟩
  rw[hI] at CI
  obtain⟨q3,h3⟩: ∃q,decide (0≤I)=q:=⟨_,rfl⟩
  obtain⟨q4,h4⟩: ∃q,decide (s= [45])=q:=⟨_,rfl⟩
  obtain⟨q5,h5⟩: ∃q,Lib.hasPrefix s [45,32]=q:=⟨_,rfl⟩
  obtain⟨q6,h6⟩: ∃q,Lib.hasSuffix s [58]=q:=⟨_,rfl⟩
  obtain⟨q7,h7⟩: ∃q,Lib.contains s [58,32]=q:=⟨_,rfl⟩
  obtain⟨q8,h8⟩: ∃q,Lib.contains s [32,35]=q:=⟨_,rfl⟩
  rw[h1] at HC1
  rw[h2] at t1 t2
  rw[h4] at m1
  rw[h5] at CP
  rw[h6] at CS
  rw[h7] at CC1
  rw[h8] at CC2
  have HR2:Hid ((q1&&q2&&!q3&&!q4&&!q5&&!q6&&!q7&&!q8)=R):=hid (by rw[←HR.out,h1,hT,h2,hI,h3,h4,h5,h6,h7,h8])
  have t3:decide (s= [45])=q4:=h4
  clear h1 h2 h4 h5 h6 h7 h8 hI hT HR CC
  go_enter Tryz.func48,Tryz.ntmps48
  go_wp2_with fail
  refine HC1.out.mono ?_
  rintro e w1 ⟨rfl,hb1⟩
  have HB1:=hid hb1
  clear hb1
  cases q1 with
  | false=>
   go_wp2_with fail
   go_ret
   exact⟨by rw[←HR2.out];rfl,HB1.out⟩
  | true =>
   go_wp2_with fail
   refine(CT.out _).mono ?_
   rintro e w2 ⟨rfl,hb2⟩
   have HB2:=hid (below_of_new HB1.out hb2)
   clear hb2
   cases q2 with
   | false=>
    go_wp2_with fail
    go_ret
    exact⟨by rw[←HR2.out];rfl,HB2.out⟩
   | true =>
    go_wp2_with fail
    refine(CI.out _).mono ?_
    rintro e w3 ⟨rfl,rfl⟩
    cases q3 with
    | true=>
     go_wp2_with fail
     go_ret
     exact⟨by rw[←HR2.out];rfl,HB2.out⟩
    | false=>
     cases q4 with
     | true=>
      go_wp2_with fail
      go_ret
      exact⟨by rw[←HR2.out];rfl,HB2.out⟩
     | false=>
      go_wp2_with fail
      refine(CP.out _).mono ?_
      rintro e w4 ⟨rfl,rfl⟩
      cases q5 with
      | true=>
       go_wp2_with fail
       go_ret
       exact⟨by rw[←HR2.out];rfl,HB2.out⟩
      | false=>
       go_wp2_with fail
       refine(CS.out _).mono ?_
       rintro e w5 ⟨rfl,rfl⟩
       cases q6 with
       | true=>
        go_wp2_with fail
        go_ret
        exact⟨by rw[←HR2.out];rfl,HB2.out⟩
       | false=>
        go_wp2_with fail
        refine(CC1.out _ (HV.out.keep HB2.out)).mono ?_
        rintro e w6 ⟨rfl,rfl⟩
        cases q7 with
        | true=>
         go_wp2_with fail
         go_ret
         exact⟨by rw[←HR2.out];rfl,HB2.out⟩
        | false=>
         go_wp2_with fail
         refine(CC2.out _ (HV.out.keep HB2.out)).mono ?_
         rintro e w7 ⟨rfl,rfl⟩
         cases q8
         all_goals
          go_wp2_with fail
          go_ret
          exact⟨by rw[←HR2.out];rfl,HB2.out⟩
def nullL:Stp:= [110,117,108,108]
def resP (s:Stp):Int×Stp:=
 if s= []∨s=nullL∨s= [126] then(1,[])
 else if s=trueL∨s=falseL then(2,s)
 else if(parseL s).2=0 then(3,textL (parseL s).1)
 else(4,s)
def ResE (s:Stp):Ending:= .returned (.agg #[.int .i64 (resP s).1, .string (bs (resP s).2), .slice none 0 0, .slice none 0 0])
def RsBox (w:World) (X:Nat) (k:Int) (t:Stp):Prop:=w.heap[X]?=some (.cells #[.int .i64 k, .string (bs t), .slice none 0 0, .slice none 0 0] 36 (0,0))
abbrev RsCells (w:World) (X:Nat) (k:Int) (t:Stp):Prop:=w.cell? ⟨X,0,none⟩=some (.int .i64 k)∧w.cell? ⟨X,1,none⟩=some (.string (bs t))∧w.cell? ⟨X,2,none⟩=some (.slice none 0 0)∧w.cell? ⟨X,3,none⟩=some (.slice none 0 0)∧w.frozen? ⟨X,0,none⟩=false∧w.frozen? ⟨X,1,none⟩=false∧w.frozen? ⟨X,2,none⟩=false∧w.frozen? ⟨X,3,none⟩=false
theorem RsBox.cells {w:World}{X:Nat}{k:Int}{t:Stp} (h:RsBox w X k t):RsCells w X k t:=by
 unfold RsBox at h
 refine⟨?_,?_,?_,?_,?_,?_,?_,?_⟩<;>simp[World.cell?,World.frozen?,h]
theorem RsBox.keep {w w':World}{X:Nat}{k:Int}{t:Stp} (h:RsBox w X k t) (hb:Below w.heap.size w w'):RsBox w' X k t:=(hb.block X (cell_it h)).trans h
theorem RsBox.new (w:World) (k:Int) (t:Stp):RsBox (w.alloc (.cells #[.int .i64 k, .string (bs t), .slice none 0 0, .slice none 0 0] 36)) w.heap.size k t:=heap_alloc_new w _
def putRs (w:World) (X:Nat) (k:Int) (t:Stp):World:=(((w.setCell ⟨X,0,none⟩ (.int .i64 k)).setCell ⟨X,1,none⟩ (.string (bs t))).setCell ⟨X,2,none⟩ (.slice none 0 0)).setCell ⟨X,3,none⟩ (.slice none 0 0)
theorem RsBox.put {w:World}{X:Nat}{k k2:Int}{t t2:Stp} (h:RsBox w X k t):RsBox (putRs w X k2 t2) X k2 t2:=by
 unfold RsBox at h ⊢
 unfold putRs
 simp[World.setCell,h,Array.getElem?_modify]
theorem below_putRs {B:Nat}{w w':World}{X:Nat}{k:Int}{t:Stp} (h:Below B w w') (hX:B≤X):Below B w (putRs w' X k t):=by
 unfold putRs
 exact(((h.setCell (p:=⟨X,0,none⟩) hX _).setCell (p:=⟨X,1,none⟩) hX _).setCell (p:=⟨X,2,none⟩) hX _).setCell (p:=⟨X,3,none⟩) hX _
theorem vof_any (s:Stp) (w:World):
  Calls Tryz.prog 27 #[.string (bs s)] w fun e w'=>e= .returned (.agg #[.int .i64 4, .string (bs s), .slice none 0 0, .slice none 0 0])∧Below w.heap.size w w':=by
 have ba:=below_alloc1 w (.cells #[.int .i64 0, .string (bs []), .slice none 0 0, .slice none 0 0] 36)
 have hB0:=RsBox.new w 0 []
 obtain⟨W1,hW1⟩: ∃W,w.alloc (.cells #[.int .i64 0, .string (bs []), .slice none 0 0, .slice none 0 0] 36)=W:=⟨_,rfl⟩
 rw[hW1] at ba hB0
 obtain⟨y0,y1,y2,y3,f0,f1,f2,f3⟩:=hB0.cells
 have hW1':w.alloc (.cells #[.int .i64 0, .string ⟨#[]⟩, .slice none 0 0, .slice none 0 0] 36)=W1:=hW1
 go_enter Tryz.func27,Tryz.ntmps27
 go_wp2_with fail
 clear y0 y1 y2 y3 f0 f1 f2 f3
 have hP:=(hB0).put (k2:=4) (t2:=s)
 have hPB:=below_putRs (k:=4) (t:=s) (ba) (Nat.le_refl w.heap.size)
 obtain⟨WF,hWF⟩: ∃W,putRs W1 w.heap.size 4 s=W:=⟨_,rfl⟩
 rw[hWF] at hP hPB
 have hWF':(((W1.setCell ⟨w.heap.size,0,none⟩ (.int .i64 4)).setCell ⟨w.heap.size,1,none⟩ (.string (bs s))).setCell ⟨w.heap.size,2,none⟩ (.slice none 0 0)).setCell ⟨w.heap.size,3,none⟩ (.slice none 0 0)=WF:=hWF
 rw[hWF']
 obtain⟨d0,d1,d2,d3,_⟩:=hP.cells
 clear hWF hWF'
 refine bodyPost_ret (v:= .agg #[.int .i64 4, .string (bs s), .slice none 0 0, .slice none 0 0]) ?_ rfl ⟨rfl,hPB⟩
 simp[results,Tryz.results27,go_sem,d0,d1,d2,d3]
theorem yresolve_any (s:Stp) (w:World) (hs:s.length≤1073741824) (hV:YVar w):
  Calls Tryz.prog 112 #[.string (bs s)] w fun e w'=>e=ResE s∧Below w.heap.size w w':=by
 have sl:=bs_size s
 have ba:=below_alloc1 w (.cells #[.int .i64 0, .string (bs []), .slice none 0 0, .slice none 0 0] 36)
 have hB0:=RsBox.new w 0 []
 obtain⟨W1,hW1⟩: ∃W,w.alloc (.cells #[.int .i64 0, .string (bs []), .slice none 0 0, .slice none 0 0] 36)=W:=⟨_,rfl⟩
 rw[hW1] at ba hB0
 have HBa:=hid ba
 have HB0:=hid hB0
 have HV:=hid (hV.keep ba)
 obtain⟨y0,y1,y2,y3,f0,f1,f2,f3⟩:=hB0.cells
 have hW1':w.alloc (.cells #[.int .i64 0, .string ⟨#[]⟩, .slice none 0 0, .slice none 0 0] 36)=W1:=hW1
 have CP:=hid (fun w=>parse_any s w (by omega))
 have hdg:=parse_dig s
 have m0:=str_lit s []
 have m1:=str_lit s nullL
 have m2:=str_lit s [126]
 have m3:=str_lit s trueL
 have m4:=str_lit s falseL
 have e0:=str_nil2 s
 unfold nullL at m1
 unfold trueL at m3
 unfold falseL at m4
 unfold ResE resP
 obtain⟨q0,h0⟩: ∃q,decide (s= [])=q:=⟨_,rfl⟩
 obtain⟨q1,h1⟩: ∃q,decide (s=nullL)=q:=⟨_,rfl⟩
 obtain⟨q2,h2⟩: ∃q,decide (s= [126])=q:=⟨_,rfl⟩
 obtain⟨q3,h3⟩: ∃q,decide (s=trueL)=q:=⟨_,rfl⟩
 obtain⟨q4,h4⟩: ∃q,decide (s=falseL)=q:=⟨_,rfl⟩
 have m0:=m0.trans h0
 have m1:=m1.trans h1
 have m2:=m2.trans h2
 have m3:=m3.trans h3
 have m4:=m4.trans h4
 have n1:decide (s= [110,117,108,108])=q1:=h1
 have n3:decide (s= [116,114,117,101])=q3:=h3
 have n4:decide (s= [102,97,108,115,101])=q4:=h4
 have e0b:s.isEmpty=q0:=by rw[←h0];cases s<;>simp
 rw[e0b] at e0
 have z0:s= []↔q0=true:=by rw[←h0];simp
 have z1:s=nullL↔q1=true:=by rw[←h1];simp
 have z2:s= [126]↔q2=true:=by rw[←h2];simp
 have z3:s=trueL↔q3=true:=by rw[←h3];simp
 have z4:s=falseL↔q4=true:=by rw[←h4];simp
 have HZ:=hid (And.intro z0 (And.intro z1 (And.intro z2 (And.intro z3 z4))))
 clear z0 z1 z2 z3 z4 h1 h3 h4 hV ba hB0 hW1
 obtain⟨P,hP⟩: ∃P,parseL s=P:=⟨_,rfl⟩
 rw[hP] at CP hdg ⊢
 obtain⟨n,er⟩:=P
 simp only[] at hdg ⊢
 by_cases c1:(q0||q1||q2)=true
 ·have HC:Hid ((s= []∨s=nullL∨s= [126])):=hid (by
   obtain⟨a0,a1,a2,_⟩:=HZ.out
   simp only[Bool.or_eq_true] at c1
   rcases c1 with(h | h) | h
   ·exact .inl (a0.2 h)
   ·exact .inr (.inl (a1.2 h))
   ·exact .inr (.inr (a2.2 h)))
  rw[if_pos HC.out]
  cases q0<;>cases q1<;>cases q2
  ·cases c1
  all_goals
   go_enter Tryz.func112,Tryz.ntmps112
   go_wp2_with fail
   clear y0 y1 y2 y3 f0 f1 f2 f3
   have hP:=(HB0.out).put (k2:=1) (t2:=([]:Stp))
   have hPB:=below_putRs (k:=1) (t:=([]:Stp)) (HBa.out) (Nat.le_refl w.heap.size)
   obtain⟨WF,hWF⟩: ∃W,putRs W1 w.heap.size 1 ([]:Stp)=W:=⟨_,rfl⟩
   rw[hWF] at hP hPB
   have hWF':(((W1.setCell ⟨w.heap.size,0,none⟩ (.int .i64 1)).setCell ⟨w.heap.size,1,none⟩ (.string ⟨#[]⟩)).setCell ⟨w.heap.size,2,none⟩ (.slice none 0 0)).setCell ⟨w.heap.size,3,none⟩ (.slice none 0 0)=WF:=hWF
   rw[hWF']
   obtain⟨d0,d1,d2,d3,_⟩:=hP.cells
   clear hWF hWF'
   refine bodyPost_ret (v:= .agg #[.int .i64 1, .string (bs ([]:Stp)), .slice none 0 0, .slice none 0 0]) ?_ rfl ⟨rfl,hPB⟩
   simp[results,Tryz.results112,go_sem,d0,d1,d2,d3]
 ·obtain⟨rfl,rfl,rfl⟩:q0=false∧q1=false∧q2=false:=by cases q0<;>cases q1<;>cases q2<;>simp at c1 ⊢
  rw[if_neg (by
   obtain⟨a0,a1,a2,_⟩:=HZ.out
   rintro(h | h | h)
   ·exact absurd (a0.1 h) (by decide)
   ·exact absurd (a1.1 h) (by decide)
   ·exact absurd (a2.1 h) (by decide))]
  by_cases c2:(q3||q4)=true
  ·rw[if_pos (by
    obtain⟨_,_,_,a3,a4⟩:=HZ.out
    simp only[Bool.or_eq_true] at c2
    rcases c2 with h | h
    ·exact .inl (a3.2 h)
    ·exact .inr (a4.2 h))]
   cases q3<;>cases q4
   ·cases c2
   all_goals
    go_enter Tryz.func112,Tryz.ntmps112
    go_wp2_with fail
    clear y0 y1 y2 y3 f0 f1 f2 f3
    have hP:=(HB0.out).put (k2:=2) (t2:=s)
    have hPB:=below_putRs (k:=2) (t:=s) (HBa.out) (Nat.le_refl w.heap.size)
    obtain⟨WF,hWF⟩: ∃W,putRs W1 w.heap.size 2 s=W:=⟨_,rfl⟩
    rw[hWF] at hP hPB
    have hWF':(((W1.setCell ⟨w.heap.size,0,none⟩ (.int .i64 2)).setCell ⟨w.heap.size,1,none⟩ (.string (bs s))).setCell ⟨w.heap.size,2,none⟩ (.slice none 0 0)).setCell ⟨w.heap.size,3,none⟩ (.slice none 0 0)=WF:=hWF
    rw[hWF']
    obtain⟨d0,d1,d2,d3,_⟩:=hP.cells
    clear hWF hWF'
    refine bodyPost_ret (v:= .agg #[.int .i64 2, .string (bs s), .slice none 0 0, .slice none 0 0]) ?_ rfl ⟨rfl,hPB⟩
    simp[results,Tryz.results112,go_sem,d0,d1,d2,d3]
  ·obtain⟨rfl,rfl⟩:q3=false∧q4=false:=by cases q3<;>cases q4<;>simp at c2 ⊢
   rw[if_neg (by
    obtain⟨_,_,_,a3,a4⟩:=HZ.out
    rintro(h | h)
    ·exact absurd (a3.1 h) (by decide)
    ·exact absurd (a4.1 h) (by decide))]
   clear c1 c2 HZ
   by_cases he:er=0
   ·subst he
    rw[if_pos rfl]
    have CT:Hid (∀w',YVar w'→Calls Tryz.prog 50 #[.agg #[.bool n.neg, .string (bs n.dig), .int .i64 n.exp]] w' fun e w2=>e= .returned (.string (bs (textL n)))∧Below w'.heap.size w' w2):=hid (fun w' hv=>text_any n w' (by have:=hdg rfl;omega) hv.1.2)
    clear hdg
    obtain⟨Z,hZ⟩: ∃Z,textL n=Z:=⟨_,rfl⟩
    rw[hZ] at CT ⊢
    go_enter Tryz.func112,Tryz.ntmps112
    go_wp2_with fail
    refine(CP.out _).mono ?_
    unfold Parsed numV
    rintro e w2 ⟨rfl,hb2⟩
    have HR2:=hid (HB0.out.keep hb2)
    have HB2:=hid (below_of_new HBa.out hb2)
    have HV2:=hid (HV.out.keep hb2)
    clear hb2 y0 y1 y2 y3 f0 f1 f2 f3
    have ba3:=below_alloc1 w2 (.cells #[.bool n.neg, .string (bs n.dig), .int .i64 n.exp] 88)
    have hN:=NbBox.new w2 n
    obtain⟨W3,hW3⟩: ∃W,w2.alloc (.cells #[.bool n.neg, .string (bs n.dig), .int .i64 n.exp] 88)=W:=⟨_,rfl⟩
    rw[hW3] at ba3 hN
    obtain⟨x0,x1,x2,_⟩:=hN.cells
    have HR3:=hid (HR2.out.keep ba3)
    have HB3:=hid (below_of_new HB2.out ba3)
    have HV3:=hid (HV2.out.keep ba3)
    clear ba3 hN
    go_wp2_with fail
    refine(CT.out _ HV3.out).mono ?_
    rintro e w4 ⟨rfl,hb4⟩
    have HR4:=hid (HR3.out.keep hb4)
    have HB4:=hid (below_of_new HB3.out hb4)
    clear hb4 x0 x1 x2 hW3
    obtain⟨y0,y1,y2,y3,f0,f1,f2,f3⟩:=HR4.out.cells
    go_wp2_with fail
    clear y0 y1 y2 y3 f0 f1 f2 f3
    have hP:=(HR4.out).put (k2:=3) (t2:=Z)
    have hPB:=below_putRs (k:=3) (t:=Z) (HB4.out) (Nat.le_refl w.heap.size)
    obtain⟨WF,hWF⟩: ∃W,putRs w4 w.heap.size 3 Z=W:=⟨_,rfl⟩
    rw[hWF] at hP hPB
    have hWF':(((w4.setCell ⟨w.heap.size,0,none⟩ (.int .i64 3)).setCell ⟨w.heap.size,1,none⟩ (.string (bs Z))).setCell ⟨w.heap.size,2,none⟩ (.slice none 0 0)).setCell ⟨w.heap.size,3,none⟩ (.slice none 0 0)=WF:=hWF
    rw[hWF']
    obtain⟨d0,d1,d2,d3,_⟩:=hP.cells
    clear hWF hWF'
    refine bodyPost_ret (v:= .agg #[.int .i64 3, .string (bs Z), .slice none 0 0, .slice none 0 0]) ?_ rfl ⟨rfl,hPB⟩
    simp[results,Tryz.results112,go_sem,d0,d1,d2,d3]
   ·rw[if_neg he]
    have de:(er==0)=false:=beq_eq_false_iff_ne.2 he
    have CO:=hid (fun w=>vof_any s w)
    clear hdg
    go_enter Tryz.func112,Tryz.ntmps112
    go_wp2_with fail
    refine(CP.out _).mono ?_
    unfold Parsed numV
    rintro e w2 ⟨rfl,hb2⟩
    have HR2:=hid (HB0.out.keep hb2)
    have HB2:=hid (below_of_new HBa.out hb2)
    clear hb2 y0 y1 y2 y3 f0 f1 f2 f3
    have ba3:=below_alloc1 w2 (.cells #[.bool n.neg, .string (bs n.dig), .int .i64 n.exp] 88)
    have HR3:=hid (HR2.out.keep ba3)
    have HB3:=hid (below_of_new HB2.out ba3)
    clear ba3
    go_wp2_with fail
    refine(CO.out _).mono ?_
    rintro e w4 ⟨rfl,hb4⟩
    have HR4:=hid (HR3.out.keep hb4)
    have HB4:=hid (below_of_new HB3.out hb4)
    clear hb4
    obtain⟨y0,y1,y2,y3,f0,f1,f2,f3⟩:=HR4.out.cells
    go_wp2_with fail
    clear y0 y1 y2 y3 f0 f1 f2 f3
    have hP:=(HR4.out).put (k2:=4) (t2:=s)
    have hPB:=below_putRs (k:=4) (t:=s) (HB4.out) (Nat.le_refl w.heap.size)
    obtain⟨WF,hWF⟩: ∃W,putRs w4 w.heap.size 4 s=W:=⟨_,rfl⟩
    rw[hWF] at hP hPB
    have hWF':(((w4.setCell ⟨w.heap.size,0,none⟩ (.int .i64 4)).setCell ⟨w.heap.size,1,none⟩ (.string (bs s))).setCell ⟨w.heap.size,2,none⟩ (.slice none 0 0)).setCell ⟨w.heap.size,3,none⟩ (.slice none 0 0)=WF:=hWF
    rw[hWF']
    obtain⟨d0,d1,d2,d3,_⟩:=hP.cells
    clear hWF hWF'
    refine bodyPost_ret (v:= .agg #[.int .i64 4, .string (bs s), .slice none 0 0, .slice none 0 0]) ?_ rfl ⟨rfl,hPB⟩
    simp[results,Tryz.results112,go_sem,d0,d1,d2,d3]
def putV (w:World) (X:Nat) (k:Int) (t:Stp) (kv iv:Value):World:=(((w.setCell ⟨X,0,none⟩ (.int .i64 k)).setCell ⟨X,1,none⟩ (.string (bs t))).setCell ⟨X,2,none⟩ kv).setCell ⟨X,3,none⟩ iv
theorem below_putV {B:Nat}{w w':World}{X:Nat}{k:Int}{t:Stp}{kv iv:Value} (h:Below B w w') (hX:B≤X):Below B w (putV w' X k t kv iv):=by
 unfold putV
 exact(((h.setCell (p:=⟨X,0,none⟩) hX _).setCell (p:=⟨X,1,none⟩) hX _).setCell (p:=⟨X,2,none⟩) hX _).setCell (p:=⟨X,3,none⟩) hX _
theorem putV_other {w:World}{X:Nat}{k:Int}{t:Stp}{kv iv:Value}{q:Nat} (hq:q≠X):(putV w X k t kv iv).heap[q]?=w.heap[q]?:=by
 unfold putV
 rw[Below.heap_setCell _ ⟨X,3,none⟩ _ q hq,Below.heap_setCell _ ⟨X,2,none⟩ _ q hq,Below.heap_setCell _ ⟨X,1,none⟩ _ q hq,Below.heap_setCell _ ⟨X,0,none⟩ _ q hq]
theorem putV_cells {w:World}{X:Nat}{k0 k:Int}{t0 t:Stp}{a b kv iv:Value} (h:w.heap[X]?=some (.cells #[.int .i64 k0, .string (bs t0),a,b] 36)):(putV w X k t kv iv).heap[X]?=some (.cells #[.int .i64 k, .string (bs t),kv,iv] 36):=by
 unfold putV
 have h1:=box_setT h 0 (.int .i64 k)
 have h2:=box_setT h1 1 (.string (bs t))
 have h3:=box_setT h2 2 kv
 exact box_setT h3 3 iv
theorem box4 {w:World}{X:Nat}{a b c e:Value} (hb:w.heap[X]?=some (.cells #[a,b,c,e] 36)):w.cell? ⟨X,0,none⟩=some a∧w.cell? ⟨X,1,none⟩=some b∧w.cell? ⟨X,2,none⟩=some c∧w.cell? ⟨X,3,none⟩=some e∧
  w.frozen? ⟨X,0,none⟩=false∧w.frozen? ⟨X,1,none⟩=false∧w.frozen? ⟨X,2,none⟩=false∧w.frozen? ⟨X,3,none⟩=false:=by
 refine⟨?_,?_,?_,?_,?_,?_,?_,?_⟩<;>simp[World.cell?,World.frozen?,hb]
def NewE (t:VT) (w:World) (e:Ending) (w':World):Prop:=(∃kv iv,e= .returned (vv t kv iv)∧VDf w.heap.size w' t.depth t kv iv)∧Below w.heap.size w w'
theorem CS.put {W w:World}{Y R:Nat}{k:Int}{s:Stp}{ks:List Stp}{l:List VT}{kv ov:Value} (h:CS W Y k s ks l kv ov w) (hR:R<W.heap.size):VDx (fun q=>W.heap.size≤q) (putV w R k s kv ov) (VT.mk k s ks l).depth (VT.mk k s ks l) kv ov:=
 h.tree.agree (fun q hq _=>⟨putV_other (by omega),hq⟩)
section
variable {W w w2:World}{X:Nat}{k:Int}{s:ByteArray}{kv:Value}
end
def FbC (W0:World) (x:Value) (w':World):Prop:= ∃Y,x= .pointer (some ⟨Y,0,none⟩)∧W0.heap.size≤Y∧w'.heap[Y]?=some (.cells #[.int .i64 0, .string (bs []), .slice none 0 0, .slice none 0 0] 36)
theorem FbC.new {W0 w':World} (h:W0.heap.size≤w'.heap.size):FbC W0 (.pointer (some ⟨w'.heap.size,0,none⟩)) (w'.alloc (.cells #[.int .i64 0, .string ⟨#[]⟩, .slice none 0 0, .slice none 0 0] 36)):=⟨_,rfl,h,heap_alloc_new w' _⟩
theorem FbC.keep {W0 w' w2:World}{x:Value} (h:FbC W0 x w') (hb:Below w'.heap.size w' w2):FbC W0 x w2:=by
 obtain⟨Y,h1,h2,h3⟩:=h
 exact⟨Y,h1,h2,(hb.block Y (cell_it h3)).trans h3⟩
theorem CS.ofStore {W2 W0 w':World}{Y:Nat}{k:Int}{s:Stp}{ks:List Stp}{p2:Option Addr}{n2 c2:Nat} (hb:Below W2.heap.size W2 W0) (hA:Below W0.heap.size W0 w') (ho:OwnsS W0.heap.size ks (.slice p2 n2 c2) w') (hY:W0.heap.size≤Y) (hYb:w'.heap[Y]?=some (.cells #[.int .i64 0, .string (bs []), .slice none 0 0, .slice none 0 0] 36)):CS W2 Y k s ks [] (.slice p2 n2 c2) (.slice none 0 0) (putV w' Y k s (.slice p2 n2 c2) (.slice none 0 0)):=by
 have hne:some Y≠(Value.slice p2 n2 c2).ownBlock:=fun e=>by
  rcases ho.2 with⟨h,_⟩ | ⟨g,cap,cur,h,_,hg,_⟩
  ·rw[h] at e;cases e
  ·rw[h] at e
   injection e with e
   subst e
   rw[hYb] at hg
   injection hg with hg
   injection hg with _ hg
   exact absurd hg (by decide)
 refine⟨putV_cells hYb,?_,hne,OwnsV.nil _ _ _,below_putV (below_of_new hb hA) (Nat.le_trans hb.size hY),Nat.le_trans hb.size hY⟩
 exact(ho.mono hb.size).keepB (fun q _ hq _=>putV_other (fun e=>hne (by rw[←e];exact hq)))
end Go.Proofs.YtlibkhbachmcgaaGreatDoor
