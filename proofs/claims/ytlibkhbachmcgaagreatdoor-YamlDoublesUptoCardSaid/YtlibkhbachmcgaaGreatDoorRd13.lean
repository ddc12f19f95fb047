import Derived.Test.YtlibkhbachmcgaaGreatDoorRd12
import Derived.Test.YtlibkhbachmcgaaGreatDoorRd3
import Derived.Test.YtlibkhbachmcgaaGreatDoorRd4
import Derived.Deep.RegionLaw
import Derived.Test.YtlibkhbachmcgaaGreatDoorRd2
import Derived.Test.YtlibkhbachmcgaaGreatDoorRd6
import Derived.Test.YtlibkhbachmcgaaGreatDoorRd9
import Derived.Deep.RegionHeld3
import Derived.BigQuiet
import Derived.Deep.DeepCutAuto
import Derived.Lib.IndexMore
import Derived.Lib.ReplaceLaws
import Derived.Lib.SplitLaws
set_option maxRecDepth 100000
set_option maxHeartbeats 4000000
namespace Go.Proofs.YtlibkhbachmcgaaGreatDoor
set_option linter.unusedSimpArgs false
set_option linter.unusedVariables false
open Go.RowKit
open Go.Lib hiding intOf
theorem valid_any (s:ByteArray) (w:World) (hs:s.size≤4611686018427387904) (hT:Tabs w):
  Calls Tryz.prog 47 #[.string s] w fun e w'=>e= .returned (.tuple #[.int .i64 (validRes s).1, .bool (validRes s).2])∧Below w.heap.size w w':=by
 obtain⟨R,hR⟩: ∃R,validRes s=R:=⟨_,rfl⟩
 rw[hR]
 have HR:=hid hR;clear hR
 cases hv:Lib.validD s.data.toList with
 | true=>
  have h0:=validRes_yes hv
  have hc:=Tryz.utf8_ValidString s w (by omega) hT
  rw[hv] at hc;clear hv
  have HC:=hid hc;clear hc
  have H0:=hid h0;clear h0
  go_enter Tryz.func47,Tryz.ntmps47
  go_wp2_with (go_at_call 84;refine HC.out.mono ?_;rintro e w' ⟨rfl,hb⟩)
  go_ret2
  exact⟨ret_vb (HR.out.symm.trans H0.out),hb⟩
 | false=>
  have hc:=Tryz.utf8_ValidString s w (by omega) hT
  rw[hv] at hc;clear hv
  have HC:=hid hc;clear hc
  go_enter Tryz.func47,Tryz.ntmps47
  go_wp2_with (go_at_call 84;refine HC.out.mono ?_;rintro e w1 ⟨rfl,hb1⟩)
  have hT1:=hT.keep hb1
  have hz:=hb1.size
  have hw1:Hid (Below w.heap.size w w1):=hb1
  obtain⟨hc1,hf1⟩:=bcell hb1
  clear hb1 hc1 hf1
  go_loopw [4] (fun _ wr=> ∃pos:Nat,pos≤s.size∧Hid (Bads s pos)∧Hid (wr.heap[w1.heap.size]?=some (.stringIter s pos))∧Hid (Below w1.heap.size w1 wr)) (fun _ wr=>s.size-wr.iterPos w1.heap.size)
  case atStart=>exact⟨0,by omega,Bads.zero s,World.iter_heap w1 s 0,(Below.refl _ _).alloc (Nat.le_refl _) _⟩
  case round=>
   obtain⟨pos,hp,HB,HI,HW⟩:=hrel
   by_cases hlt:pos<s.size
   ·have hw:=widN_bd s pos hlt
    have hrb:=runeI_bd s pos
    have hnx: ∀ty,(Instr.next (.pointer (some ⟨w1.heap.size,0,none⟩)) true ty).run Tryz.prog wr= .ok (.tuple #[.bool true, .int .i64 pos, .int .i32 (runeI s pos)]) (wr.iterAt w1.heap.size s (pos+widN s pos)):=fun ty=>Lib.run_next_any_at wr _ s pos ty HI.out hlt
    have HI2:=hid (Lib.iterAt_heap wr w1.heap.size s pos (pos+widN s pos) HI.out)
    have HW2:=hid (Lib.below_iterAt HW.out (Nat.le_refl w1.heap.size) s (pos+widN s pos))
    have hT2:Tabs (wr.iterAt w1.heap.size s (pos+widN s pos)):=hT1.keep HW2.out
    have HM:=hid (iterPos_of HI.out)
    have HM2:=hid (iterPos_of HI2.out)
    by_cases hr:runeI s pos=65533
    ·by_cases h1:widN s pos=1
     ·have HG:=hid (goodB_no hr h1)
      have hrB:(runeI s pos !=65533)=false:=by rw[hr];rfl
      have h1B:(((widN s pos:Nat):Int)==1)=true:=by rw[h1];rfl
      clear hr h1
      go_wp2_with (go_at_call 85;refine(dec_at s pos _ hlt hT2).mono ?_;rintro e w' ⟨rfl,hb⟩)
      go_ret2
      exact⟨ret_vb (HR.out.symm.trans (HB.out.bad hlt HG.out)),hw1.out.trans ((HW2.out.trans (hb.mono HW2.out.size)).mono hw1.out.size)⟩
     ·have HG:=hid (goodB_wide h1)
      have hrB:(runeI s pos !=65533)=false:=by rw[hr];rfl
      have h1B:(((widN s pos:Nat):Int)==1)=false:=beq_eq_false_iff_ne.2 (by omega)
      clear hr h1
      go_wp2_with (go_at_call 85;refine(dec_at s pos _ hlt hT2).mono ?_;rintro e w' ⟨rfl,hb⟩)
      have HI3:=(hb.block w1.heap.size (cell_it HI2.out)).trans HI2.out
      go_roundw
      case rel=>exact⟨pos+widN s pos,by omega,HB.out.next hlt HG.out,HI3,HW2.out.trans (hb.mono HW2.out.size)⟩
      case measure=>rw[iterPos_of HI3,HM.out];omega
    ·have HG:=hid (goodB_rune hr)
     have hrB:(runeI s pos !=65533)=true:=bne_iff_ne.2 hr
     clear hr
     go_wp2
     go_roundw
     case rel=>exact⟨pos+widN s pos,by omega,HB.out.next hlt HG.out,HI2.out,HW2.out⟩
     case measure=>rw[HM2.out,HM.out];omega
   ·have hnx: ∀ty,(Instr.next (.pointer (some ⟨w1.heap.size,0,none⟩)) true ty).run Tryz.prog wr= .ok (.tuple #[.bool false]) wr:=fun ty=>Lib.run_next_end_at wr _ s pos ty HI.out hlt
    go_wp2
    go_ret2
    exact⟨ret_vb (HR.out.symm.trans (HB.out.fin (by omega))),hw1.out.trans (HW.out.mono hw1.out.size)⟩
def QuoteE (r:List UInt8×Int):Ending:= .returned (.tuple #[.string (bs r.1), .int .i64 r.2])
theorem validRes_snd (s:ByteArray):(validRes s).2=validD s.data.toList:=by
 rw[validD_bad]
 unfold validRes
 cases badAt s<;>rfl
theorem rune_step (l:List UInt8) (p:Nat) (hp:p<l.length) (hv:validD (l.drop p)=true):
  ∃r,okRune r∧runeI (bs l) p=r∧widN (bs l) p=(encodeRune r).length∧validD (l.drop (p+widN (bs l) p))=true∧qBs (l.take (p+widN (bs l) p))=qBs (l.take p)++qBs (encodeRune r):=by
 have hne:l.drop p≠ []:=by
  intro h
  have:=congrArg List.length h
  rw[List.length_drop] at this
  simp at this;omega
 obtain⟨r,t,hr,he,ht,hd⟩:=valid_cut _ hne hv
 have hdd:=decodeL_drop (bs l) p
 rw[bs_data,hd] at hdd
 have hw:widN (bs l) p=(encodeRune r).length:=by unfold widN;rw[←hdd]
 refine⟨r,hr,?_,hw,?_,?_⟩
 ·unfold runeI
  rw[←hdd]
  exact Int.toNat_of_nonneg hr.1
 ·rw[hw,←List.drop_drop,he,List.drop_left]
  exact ht
 ·rw[hw,←qBs_append]
  congr 1
  rw[List.take_add,he,List.take_left]
def Kind (r:Int):Prop:=(∃L:UInt8,letterI r=(L.toNat:Int)∧(L.toNat:Int)≠0∧qBs (encodeRune r)= [92,L])∨(∃c:Nat,r=c∧c<32∧letterI r=0∧qBs (encodeRune r)= [92,117]++(List.replicate (4-(hexS c).length) 48++hexS c))∨(32≤r∧letterI r=0∧qBs (encodeRune r)=encodeRune r)
theorem kind_low: ∀n:Fin 128,let c:=UInt8.ofNat n.val
  ((letterI n.val).toNat<256∧0≤letterI n.val)∧
  (letterI n.val≠0∧qB c= [92,UInt8.ofNat (letterI n.val).toNat])∨
  (n.val<32∧letterI n.val=0∧qB c= [92,117]++(List.replicate (4-(hexS n.val).length) 48++hexS n.val))∨
  (32≤n.val∧letterI n.val=0∧qB c= [c]):=by decide+kernel
theorem letter_bd (n:Int):0≤letterI n∧letterI n<256:=by
 unfold letterI
 repeat' split
 all_goals simp
theorem kind_of (r:Int) (h:okRune r):Kind r:=by
 by_cases h128:r<128
 ·have h0:=h.1
  obtain⟨n,hn⟩: ∃n:Nat,r=n:=⟨r.toNat,by omega⟩
  subst hn
  have hc:encodeRune (n:Int)= [UInt8.ofNat n]:=by
   have:=encode_one (UInt8.ofNat n) (by rw[UInt8.toNat_ofNat'];omega)
   rw[UInt8.toNat_ofNat',Nat.mod_eq_of_lt (show n<256 by omega)] at this
   exact this
  have hk:=kind_low ⟨n,by omega⟩
  simp only[] at hk
  unfold Kind
  rw[hc,show qBs [UInt8.ofNat n]=qB (UInt8.ofNat n) by simp[qBs]]
  rcases hk with⟨_,h1,h2⟩ | ⟨h1,h2,h3⟩ | ⟨h1,h2,h3⟩
  ·have hb:=letter_bd (n:Int)
   have e:(letterI (n:Int))=((UInt8.ofNat (letterI (n:Int)).toNat).toNat:Int):=by rw[UInt8.toNat_ofNat'];omega
   exact .inl ⟨UInt8.ofNat (letterI (n:Int)).toNat,e,by rw[←e];exact h1,h2⟩
  ·exact .inr (.inl ⟨n,rfl,h1,h2,h3⟩)
  ·exact .inr (.inr ⟨by omega,h2,h3⟩)
 ·refine .inr (.inr ⟨by omega,?_,qBs_high _ (encode_high r h (by omega))⟩)
  unfold letterI
  rw[if_neg (by omega),if_neg (by omega),if_neg (by omega),if_neg (by omega),if_neg (by omega),if_neg (by omega),if_neg (by omega)]
theorem cat3_ (Z X:List UInt8):(⟨([92,117]++(Z++X)).toArray⟩:ByteArray)=(⟨#[92,117]⟩:ByteArray)++bs Z++bs X:=by
 have h1:(⟨#[92,117]⟩:ByteArray)=bs [92,117]:=rfl
 have h2:(⟨([92,117]++(Z++X)).toArray⟩:ByteArray)=bs ([92,117]++(Z++X)):=rfl
 rw[h1,h2,bs_append,bs_append,List.append_assoc]
def Rv (l:List UInt8) (p:Nat) (o:List UInt8):Prop:=o=34::qBs (l.take p)∧validD (l.drop p)=true
theorem rv_next {l:List UInt8}{p:Nat}{o:List UInt8} (h:Rv l p o) (hp:p<l.length): ∃r,okRune r∧Kind r∧runeI (bs l) p=r∧widN (bs l) p=(encodeRune r).length∧Rv l (p+widN (bs l) p) (o++qBs (encodeRune r)):=by
 obtain⟨r,h1,h2,h3,h4,h5⟩:=rune_step l p hp h.2
 exact⟨r,h1,kind_of r h1,h2,h3,by rw[h.1,h5];rfl,h4⟩
theorem quote_any (l:List UInt8) (w:World) (hs:l.length≤536870912) (hT:Tabs w) (hD:DTab w):
  Calls Tryz.prog 93 #[.string (bs l)] w fun e w'=>e=QuoteE (quoteL l)∧Below w.heap.size w w':=by
 have sl:=bs_size l
 have C:=valid_any (bs l) w (by omega) hT
 rw[validRes_snd,bs_data] at C
 obtain⟨N,hN⟩: ∃N,(validRes (bs l)).1=N:=⟨_,rfl⟩
 rw[hN] at C
 clear hN
 obtain⟨R,hR⟩: ∃R,quoteL l=R:=⟨_,rfl⟩
 rw[hR]
 unfold quoteL at hR
 have HD:=hid hD;clear hD hT
 cases hv:validD l with
 | false=>
  rw[hv] at C hR
  rw[if_neg (by simp)] at hR
  subst hR
  have HC:=hid C
  clear C hv
  go_enter Tryz.func93,Tryz.ntmps93
  go_wp2_with fail
  refine HC.out.mono ?_
  rintro e w1 ⟨rfl,hb1⟩
  go_wp2_with fail
  go_ret2
  exact⟨rfl,hb1⟩
 | true=>
  rw[hv] at C hR
  rw[if_pos rfl] at hR
  have HR:=hid hR
  have HC:=hid C
  have HV:=hid hv
  clear C hv hR
  go_enter Tryz.func93,Tryz.ntmps93
  go_wp2_with fail
  refine HC.out.mono ?_
  rintro e w1 ⟨rfl,hb1⟩
  have HB1:=hid hb1;clear hb1
  go_wp2_with fail
  refine(writeByte_any w1.heap.size w1.heap.size [] 34 _ (Bld.new w1) (by simp) (by simp)).mono ?_
  rintro e w2 ⟨rfl,h2,b2,_⟩
  have HBd2:=hid h2
  have HW2:=hid ((below_alloc1 w1 _).trans b2)
  have hz2:w1.heap.size<w2.heap.size:=by have:=b2.size;simp at this;omega
  clear h2 b2
  go_wp2_with fail
  go_loopw [8] (fun _ wr=> ∃(p:Nat) (o:List UInt8),p≤l.length∧o.length≤6*p+1∧Hid (Rv l p o)∧Hid (wr.heap[w2.heap.size]?=some (.stringIter (bs l) p))∧Hid (Bld w1.heap.size w1.heap.size o wr)∧Hid (Below w1.heap.size w1 wr)) (fun _ wr=>l.length-wr.iterPos w2.heap.size)
  case atStart=>exact⟨0,[34],by omega,by simp,⟨rfl,HV.out⟩,World.iter_heap w2 (bs l) 0,HBd2.out.keep (below_alloc1 _ _),HW2.out.trans ((below_alloc1 w2 _).mono (Nat.le_of_lt hz2))⟩
  case round=>
   obtain⟨p,o,hp,hol,HQ,HI,HBd,HW⟩:=hrel
   by_cases hlt:p<l.length
   ·have hlt':p<(bs l).size:=by omega
    obtain⟨r,hro,hk,hr,hwid,hq⟩:=rv_next HQ.out hlt
    have hwb:=widN_bd (bs l) p hlt'
    have hnx: ∀ty,(Instr.next (.pointer (some ⟨w2.heap.size,0,none⟩)) true ty).run Tryz.prog wr= .ok (.tuple #[.bool true, .int .i64 p, .int .i32 r]) (wr.iterAt w2.heap.size (bs l) (p+widN (bs l) p)):=fun ty=>by
     have:=Lib.run_next_any_at (P:=Tryz.prog) wr _ (bs l) p ty HI.out hlt'
     unfold runeI at hr
     rw[hr] at this
     exact this
    have HI2:=hid (Lib.iterAt_heap wr w2.heap.size (bs l) p (p+widN (bs l) p) HI.out)
    have HBd2:Hid (Bld w1.heap.size w1.heap.size o (wr.iterAt w2.heap.size (bs l) (p+widN (bs l) p))):=hid (Lib.IsBuilderF.iterAt HBd.out HI.out _)
    have HW2:=hid (Lib.below_iterAt HW.out (Nat.le_of_lt hz2) (bs l) (p+widN (bs l) p))
    have HM:=hid (iterPos_of HI.out)
    obtain⟨wd,hwd⟩: ∃wd,widN (bs l) p=wd:=⟨_,rfl⟩
    rw[hwd] at hwid hq hwb hnx HI2 HBd2 HW2
    have HQ2:=hid hq
    clear hr hq HQ HI HBd HW hwd
    have hlen:(encodeRune r).length≤4:=by rw[←hwid];exact hwb.2.1
    have hql:=qBs_len (encodeRune r)
    rw[←hwid] at hql
    have hr0:=hro.1
    have hr1:=hro.2.1
    have CL:=hid (fun w=>letter_any r w)
    clear hro hwid
    rcases hk with⟨L,hL,hL0,hq⟩ | ⟨c,hc,hc32,hL,hq⟩ | ⟨h32,hL,hq⟩
    ·rw[hL] at CL
     rw[hq] at HQ2 hql
     have hLb:(((L.toNat:Nat):Int) !=0)=true:=bne_iff_ne.2 hL0
     clear hL hq hL0
     go_wp2_with fail
     refine(CL.out _).mono ?_
     rintro e w' ⟨rfl,rfl⟩
     go_wp2_with fail
     refine(writeByte_any w1.heap.size w1.heap.size o 92 _ HBd2.out (by omega) HW2.out.size).mono ?_
     rintro e w3 ⟨rfl,h3,b3,k3⟩
     have HI3:=hid (k3.iter HI2.out (by omega))
     have HBd3:=hid h3
     have HW3:=hid (HW2.out.trans b3)
     clear h3 b3 k3
     go_wp2_with fail
     refine(writeByte_any w1.heap.size w1.heap.size (o++ [92]) L _ HBd3.out (by simp;omega) HW3.out.size).mono ?_
     rintro e w4 ⟨rfl,h4,b4,k4⟩
     have HI4:=hid (k4.iter HI3.out (by omega))
     have HBd4:=hid h4
     have HW4:=hid (HW3.out.trans b4)
     clear h4 b4 k4
     go_wp2_with fail
     go_roundw
     case rel=>exact⟨p+wd,o++ [92,L],by omega,by simp at *;omega,HQ2.out,HI4.out,by have:=HBd4.out;rw[List.append_assoc] at this;exact this,HW4.out⟩
     case measure=>rw[iterPos_of HI4.out,HM.out];omega
    ·rw[hL] at CL
     rw[hq] at HQ2 hql
     subst hc
     have hge:decide ((32:Int)≤(c:Int))=false:=decide_eq_false (by omega)
     have CF:=hid (fun w hT=>fmt16_any c hc32 w hT)
     obtain⟨hzl,hz4⟩:1≤(hexS c).length∧(hexS c).length≤4:=⟨by unfold hexS;split<;>simp,by unfold hexS;split<;>simp⟩
     obtain⟨X,hX⟩: ∃X,hexS c=X:=⟨_,rfl⟩
     rw[hX] at HQ2 hql CF hzl hz4
     obtain⟨Y,hY⟩: ∃Y,4-X.length=Y:=⟨_,rfl⟩
     rw[hY] at HQ2 hql
     have CZ:=hid (fun w=>zeros_any Y w (by omega))
     obtain⟨Z,hZ⟩: ∃Z,List.replicate Y (48:UInt8)=Z:=⟨_,rfl⟩
     have hZl:Z.length=Y:=by rw[←hZ,List.length_replicate]
     rw[hZ] at HQ2 hql CZ
     have hXs:=bs_size X
     have hZs:(bs Z).size=Y:=by rw[bs_size,hZl]
     have h4z:(4:Int)-(X.length:Int)=(Y:Int):=by omega
     have hY3:Y≤3:=by omega
     have HZl:=hid hZl
     have HY:=hid hY
     clear hL hq hX hZ hZl hY
     go_wp2_with fail
     refine(CL.out _).mono ?_
     rintro e w' ⟨rfl,rfl⟩
     go_wp2_with fail
     refine(CF.out _ (HD.out.keep (below_of_new HB1.out HW2.out))).mono ?_
     rintro e w3 ⟨rfl,b3⟩
     have HI3:=hid ((b3.block w2.heap.size (cell_it HI2.out)).trans HI2.out)
     have HBd3:=hid (HBd2.out.keep b3)
     have HW3:=hid (HW2.out.trans (b3.mono HW2.out.size))
     clear b3
     go_wp2_with fail
     with_reducible refine(CZ.out _).mono ?_
     rintro e w4 ⟨rfl,b4⟩
     have HI4:=hid ((b4.block w2.heap.size (cell_it HI3.out)).trans HI3.out)
     have HBd4:=hid (HBd3.out.keep b4)
     have HW4:=hid (HW3.out.trans (b4.mono HW3.out.size))
     clear b4
     have CW:=writeString_any w1.heap.size w1.heap.size o ([92,117]++(Z++X)) w4 HBd4.out (by simp only[List.length_append,List.length_cons,List.length_nil,HZl.out];omega) HW4.out.size
     rw[cat3_ Z X] at CW
     have HCW:=hid CW
     clear CW
     go_wp2_with fail
     with_reducible refine HCW.out.mono ?_
     rintro e w5 ⟨rfl,h5,b5,k5⟩
     have HI5:=hid (k5.iter HI4.out (by omega))
     have HBd5:=hid h5
     have HW5:=hid (HW4.out.trans b5)
     clear h5 b5 k5
     go_wp2_with fail
     go_roundw
     case rel=>exact⟨p+wd,o++([92,117]++(Z++X)),by omega,by rw[List.length_append];omega,HQ2.out,HI5.out,HBd5.out,HW5.out⟩
     case measure=>rw[iterPos_of HI5.out,HM.out];omega
    ·rw[hL] at CL
     rw[hq] at HQ2
     have hge:decide ((32:Int)≤r)=true:=decide_eq_true h32
     clear hL hq
     go_wp2_with fail
     refine(CL.out _).mono ?_
     rintro e w' ⟨rfl,rfl⟩
     go_wp2_with fail
     refine(writeRune_any w1.heap.size w1.heap.size o r _ HBd2.out ⟨hr0,hr1⟩ (by omega) HW2.out.size).mono ?_
     rintro e w3 ⟨rfl,h3,b3,k3⟩
     have HI3:=hid (k3.iter HI2.out (by omega))
     have HBd3:=hid h3
     have HW3:=hid (HW2.out.trans b3)
     clear h3 b3 k3
     go_wp2_with fail
     go_roundw
     case rel=>exact⟨p+wd,o++encodeRune r,by omega,by rw[List.length_append];omega,HQ2.out,HI3.out,HBd3.out,HW3.out⟩
     case measure=>rw[iterPos_of HI3.out,HM.out];omega
   ·have hnx: ∀ty,(Instr.next (.pointer (some ⟨w2.heap.size,0,none⟩)) true ty).run Tryz.prog wr= .ok (.tuple #[.bool false]) wr:=fun ty=>Lib.run_next_end_at wr _ (bs l) p ty HI.out (by omega)
    have HF:Hid (R=(o++ [34],0)):=by
     have h1:=HQ.out.1
     rw[show p=l.length by omega,List.take_length] at h1
     rw[←HR.out,h1]
     exact hid rfl
    go_wp2_with fail
    refine(writeByte_any w1.heap.size w1.heap.size o 34 _ HBd.out (by omega) HW.out.size).mono ?_
    rintro e w3 ⟨rfl,h3,b3,k3⟩
    have HBd3:=hid h3
    have HW3:=hid (HW.out.trans b3)
    clear h3 b3 k3
    go_wp2_with fail
    refine(Tryz.Builder_String_any_k w1.heap.size w1.heap.size (o++ [34]) _ HBd3.out HW3.out.size).mono ?_
    rintro e w4 ⟨rfl,_,b4,_⟩
    go_wp2_with fail
    go_ret2
    exact⟨by rw[HF.out];rfl,below_of_new HB1.out (HW3.out.trans b4)⟩
end Go.Proofs.YtlibkhbachmcgaaGreatDoor
namespace Go.Proofs.YtlibkhbachmcgaaGreatDoor
set_option linter.unusedSimpArgs false
set_option linter.unusedVariables false
open Go.RowKit Go.Maps Go.WideMaps
open Go.Lib hiding intOf
def VVar (w:World):Prop:=Tabs w∧PTab w
theorem VVar.keep {w w':World} (h:VVar w) (hb:Below w.heap.size w w'):VVar w':=⟨h.1.keep hb,h.2.keep hb⟩
def NbBox (w:World) (X:Nat) (n:Num):Prop:=w.heap[X]?=some (.cells #[.bool n.neg, .string (bs n.dig), .int .i64 n.exp] 88 (0,0))
abbrev NbCells (w:World) (X:Nat) (n:Num):Prop:=w.cell? ⟨X,0,none⟩=some (.bool n.neg)∧w.cell? ⟨X,1,none⟩=some (.string (bs n.dig))∧w.cell? ⟨X,2,none⟩=some (.int .i64 n.exp)∧w.frozen? ⟨X,0,none⟩=false∧w.frozen? ⟨X,1,none⟩=false∧w.frozen? ⟨X,2,none⟩=false
theorem NbBox.cells {w:World}{X:Nat}{n:Num} (h:NbBox w X n):NbCells w X n:=by
 unfold NbBox at h
 refine⟨?_,?_,?_,?_,?_,?_⟩<;>simp[World.cell?,World.frozen?,h]
theorem NbBox.new (w:World) (n:Num):NbBox (w.alloc (.cells #[.bool n.neg, .string (bs n.dig), .int .i64 n.exp] 88)) w.heap.size n:=heap_alloc_new w _
section
variable {w w1 w2:World}{X:Nat}{n:Num}
end
theorem parse_dig (s:Stp) (h:(parseL s).2=0):(parseL s).1.dig.length≤1000:=by
 have h':parseL s=((parseL s).1,0):=by rw[←h]
 exact(rightB_bd (parseL_right h')).1
def trueL:Stp:= [116,114,117,101]
def falseL:Stp:= [102,97,108,115,101]
theorem str_lit (s l:Stp):((bs s).toList==l)=decide (s=l):=by
 rw[Lib.toList_data,bs_data]
 by_cases h:s=l
 ·rw[decide_eq_true h,h];simp
 ·rw[decide_eq_false h];simpa using h
theorem str_nil (s:Stp):((bs s).toList== [])=s.isEmpty:=by
 rw[str_lit]
 cases s<;>simp
theorem str_nil2 (s:Stp):(bs s).toList.isEmpty=s.isEmpty:=by rw[Lib.toList_data,bs_data]
end Go.Proofs.YtlibkhbachmcgaaGreatDoor
namespace Go.Proofs.YtlibkhbachmcgaaGreatDoor
set_option linter.unusedSimpArgs false
set_option linter.unusedVariables false
open Go.RowKit
open Go.Lib hiding intOf
def cleanGo:Nat→List UInt8→Bool
 | 0,_=>true
 | _,[]=>true
 | f+1,c::r=>if(decide ((decodeL (c::r)).1<32)||((decodeL (c::r)).1==127))=true then false else cleanGo f ((c::r).drop (decodeL (c::r)).2)
def cleanB (s:Stp):Bool:=cleanGo s.length s&&validD s
def Cl (l:List UInt8) (p:Nat) (Q:Bool):Prop:= ∃f,l.length≤p+f∧cleanGo f (l.drop p)=Q
theorem Cl.zero (l:List UInt8):Cl l 0 (cleanGo l.length l):=⟨l.length,by omega,by rw[List.drop_zero]⟩
theorem Cl.fin {l:List UInt8}{p:Nat}{Q:Bool} (h:Cl l p Q) (hp:l.length≤p):Q=true:=by
 obtain⟨f,_,h2⟩:=h
 rw[List.drop_of_length_le hp] at h2
 rw[←h2]
 cases f<;>rfl
theorem Cl.rune {l:List UInt8}{p:Nat}{Q:Bool} (h:Cl l p Q) (hp:p<l.length):
  ((runeI (bs l) p<32∨runeI (bs l) p=127)→Q=false)∧(¬(runeI (bs l) p<32∨runeI (bs l) p=127)→Cl l (p+widN (bs l) p) Q):=by
 obtain⟨f,h1,h2⟩:=h
 obtain⟨g,rfl⟩: ∃g,f=g+1:=⟨f-1,by omega⟩
 have hd:=List.drop_eq_getElem_cons hp
 have hdr:=decodeL_drop (bs l) p
 rw[bs_data] at hdr
 rw[hd] at h2
 rw[cleanGo,←hd,hdr] at h2
 have e1:runeI (bs l) p=((Utf8.decode (bs l) p).1:Int):=rfl
 have e2:widN (bs l) p=(Utf8.decode (bs l) p).2:=rfl
 rw[e1,e2]
 have hw:=decodeL_width (l[p]'hp::l.drop (p+1))
 rw[←hd,hdr] at hw
 refine⟨fun hb=>?_,fun hb=>?_⟩
 ·rw[if_pos] at h2
  ·exact h2.symm
  ·simp only[Bool.or_eq_true,decide_eq_true_eq,beq_iff_eq]
   omega
 ·rw[if_neg] at h2
  ·rw[List.drop_drop] at h2
   exact⟨g,by omega,h2⟩
  ·simp only[Bool.or_eq_true,decide_eq_true_eq,beq_iff_eq]
   omega
def YVar (w:World):Prop:=VVar w∧DTab w∧MVar w
theorem YVar.keep {w w':World} (h:YVar w) (hb:Below w.heap.size w w'):YVar w':=⟨h.1.keep hb,h.2.1.keep hb,h.2.2.keep hb⟩
theorem yclean_any (l:List UInt8) (w:World) (hs:l.length≤1073741824) (hV:YVar w):
  Calls Tryz.prog 86 #[.string (bs l)] w fun e w'=>e= .returned (.bool (cleanB l))∧Below w.heap.size w w':=by
 have sl:=bs_size l
 obtain⟨R,hR⟩: ∃R,cleanB l=R:=⟨_,rfl⟩
 rw[hR]
 unfold cleanB at hR
 have HR:=hid hR;have HV:=hid hV;clear hR hV
 go_enter Tryz.func86,Tryz.ntmps86
 go_wp2_with fail
 go_loopw [4] (fun _ wr=> ∃p:Nat,p≤l.length∧Hid (Cl l p (cleanGo l.length l))∧Hid (wr.heap[w.heap.size]?=some (.stringIter (bs l) p))∧Hid (Below w.heap.size w wr)) (fun _ wr=>l.length-wr.iterPos w.heap.size)
 case atStart=>exact⟨0,by omega,Cl.zero l,World.iter_heap w (bs l) 0,(Below.refl _ _).alloc (Nat.le_refl _) _⟩
 case round=>
  obtain⟨p,hp,HB,HI,HW⟩:=hrel
  by_cases hlt:p<l.length
  ·have hlt':p<(bs l).size:=by omega
   have hw:=widN_bd (bs l) p hlt'
   have hrb:=runeI_bd (bs l) p
   have hnx: ∀ty,(Instr.next (.pointer (some ⟨w.heap.size,0,none⟩)) true ty).run Tryz.prog wr= .ok (.tuple #[.bool true, .int .i64 p, .int .i32 (runeI (bs l) p)]) (wr.iterAt w.heap.size (bs l) (p+widN (bs l) p)):=fun ty=>Lib.run_next_any_at wr _ (bs l) p ty HI.out hlt'
   have HI2:=hid (Lib.iterAt_heap wr w.heap.size (bs l) p (p+widN (bs l) p) HI.out)
   have HW2:=hid (Lib.below_iterAt HW.out (Nat.le_refl w.heap.size) (bs l) (p+widN (bs l) p))
   have HM:=hid (iterPos_of HI.out)
   have HM2:=hid (iterPos_of HI2.out)
   obtain⟨hyes,hno⟩:=HB.out.rune hlt
   obtain⟨r,hr⟩: ∃r,runeI (bs l) p=r:=⟨_,rfl⟩
   obtain⟨n,hn⟩: ∃n,widN (bs l) p=n:=⟨_,rfl⟩
   rw[hr] at hnx hrb hyes hno
   rw[hn] at hnx hw HI2 HW2 HM2 hno
   clear hr hn
   by_cases h3:r<32
   ·have HG:=hid (hyes (.inl h3))
    have hd3:decide (r<32)=true:=decide_eq_true h3
    have HF:Hid (R=false):=hid (by rw[←HR.out,HG.out,Bool.false_and])
    clear hyes hno
    go_wp2_with fail
    go_ret
    exact⟨by rw[HF.out];rfl,HW2.out⟩
   ·have hd3:decide (r<32)=false:=decide_eq_false h3
    by_cases h4:r=127
    ·have HG:=hid (hyes (.inr h4))
     have h4B:(r==127)=true:=beq_iff_eq.2 h4
     have HF:Hid (R=false):=hid (by rw[←HR.out,HG.out,Bool.false_and])
     clear hyes hno h4
     go_wp2_with fail
     go_ret
     exact⟨by rw[HF.out];rfl,HW2.out⟩
    ·have HG:=hid (hno (by omega))
     have h4B:(r==127)=false:=beq_eq_false_iff_ne.2 h4
     clear h4 hyes hno
     go_wp2_with fail
     go_roundw
     case rel=>exact⟨p+n,by omega,HG.out,HI2.out,HW2.out⟩
     case measure=>rw[HM2.out,HM.out];omega
  ·have hnx: ∀ty,(Instr.next (.pointer (some ⟨w.heap.size,0,none⟩)) true ty).run Tryz.prog wr= .ok (.tuple #[.bool false]) wr:=fun ty=>Lib.run_next_end_at wr _ (bs l) p ty HI.out (by omega)
   have HG:=hid (HB.out.fin (by omega))
   have HF:Hid (validD l=R):=hid (by rw[←HR.out,HG.out,Bool.true_and])
   have C:=valid_any (bs l) wr (by omega) (HV.out.keep HW.out).1.1
   rw[validRes_snd,bs_data,HF.out] at C
   obtain⟨N,hN⟩: ∃N,(validRes (bs l)).1=N:=⟨_,rfl⟩
   rw[hN] at C
   have HC:=hid C
   clear C hN
   go_wp2_with fail
   refine HC.out.mono ?_
   rintro e w1 ⟨rfl,hb1⟩
   have HB1:=hid (below_of_new HW.out hb1)
   clear hb1
   go_wp2_with fail
   go_ret
   exact⟨rfl,HB1.out⟩
theorem str_eq (x y:Stp):((bs x).toList==(bs y).toList)=decide (x=y):=by
 rw[show (bs y).toList=y from by rw[Lib.toList_data,bs_data]]
 exact str_lit x y
theorem str_eq2 (x y:Stp):decide (bs x=bs y)=decide (x=y):=by
 rw[decide_eq_decide]
 exact⟨fun h=>bs_inj h,fun h=>by rw[h]⟩
def signsL:Stp:= [63,58,44,91,93,123,125,35,38,42,33,124,62,39,34,37,64,96]
def bareB (s:Stp):Bool:=match s with
 | []=>false
 | c::_=>cleanB s&&decide (Lib.trimB s 32=s)&&!decide (0≤Lib.indexByte signsL c)&&!decide (s= [45])&&!Lib.hasPrefix s [45,32]&&!Lib.hasSuffix s [58]&&!Lib.contains s [58,32]&&!Lib.contains s [32,35]
theorem ybare_any (s:Stp) (w:World) (hs:s.length≤1073741824) (hV:YVar w):
  Calls Tryz.prog 48 #[.string (bs s)] w fun e w'=>e= .returned (.bool (bareB s))∧Below w.heap.size w w':=by
 have sl:=bs_size s
 have C1:=yclean_any s w hs hV
 obtain⟨R,hR⟩: ∃R,bareB s=R:=⟨_,rfl⟩
 rw[hR]
 cases s with
 | nil=>
  have HR:=hid hR
  clear hR C1
  have e0:((bs ([]:Stp)).toList== [])=true:=str_nil []
  have e0b:(bs ([]:Stp)).toList.isEmpty=true:=str_nil2 []
  go_enter Tryz.func48,Tryz.ntmps48
  go_wp2_with fail
  go_ret
  exact⟨by rw[←HR.out];rfl,Below.refl _ _⟩
 | cons c r=>
  obtain⟨s,hse⟩: ∃s,c::r=s:=⟨_,rfl⟩
  have hR2:(cleanB s&&decide (Lib.trimB s 32=s)&&!decide (0≤Lib.indexByte signsL c)&&!decide (s= [45])&&!Lib.hasPrefix s [45,32]&&!Lib.hasSuffix s [58]&&!Lib.contains s [58,32]&&!Lib.contains s [32,35])=R:=by
   rw[←hR,←hse]
   rfl
  have hlen:0<s.length:=by rw[←hse];simp
  have hc0:(bs s)[0]'(by rw[bs_size];exact hlen)=c:=by
   subst hse
   rfl
  rw[hse] at hs sl C1 ⊢
  have hne:s≠ []:=by rw[←hse];simp
  have e0:((bs s).toList== [])=false:=by rw[str_nil];cases s<;>simp at hne ⊢
  have e0b:(bs s).toList.isEmpty=false:=by rw[str_nil2];cases s<;>simp at hne ⊢
  have e0c:decide (s= [])=false:=decide_eq_false hne
  clear hR hse
  have HC1:=hid C1
  have HR:=hid hR2
  have HV:=hid hV
  clear C1 hR2 hV
  have CT:Hid (∀w,Calls Tryz.prog 87 #[.string (bs s), .string ⟨#[32]⟩] w fun e w'=>e= .returned (.string (bs (Lib.trimB s 32)))∧Below w.heap.size w w'):=hid (fun w=>by
   have h:=Tryz.strings_Trim_one (bs s) 32 (by decide) w (by omega)
   rw[bs_data] at h
   refine h.mono ?_
   rintro e w' ⟨rfl,rfl | rfl⟩
   ·exact⟨rfl,Below.refl _ _⟩
   ·exact⟨rfl,(Below.refl _ _).drew⟩)
  have CI:Hid (∀w,Calls Tryz.prog 57 #[.string ⟨#[63,58,44,91,93,123,125,35,38,42,33,124,62,39,34,37,64,96]⟩, .int .u8 (c.toNat:Int)] w fun e w'=>e= .returned (.int .i64 (Lib.indexByte signsL c))∧w'=w):=hid (fun w=>by
   have h:=Tryz.strings_IndexByte ⟨#[63,58,44,91,93,123,125,35,38,42,33,124,62,39,34,37,64,96]⟩ (c.toNat:Int) w
   rw[show ((c.toNat:Int).toNat.toUInt8)=c from by simp] at h
   exact h)
  have CP:Hid (∀w,Calls Tryz.prog 88 #[.string (bs s), .string ⟨#[45,32]⟩] w fun e w'=>e= .returned (.bool (Lib.hasPrefix s [45,32]))∧w'=w):=hid (fun w=>by
   have h:=Tryz.strings_HasPrefix (bs s) ⟨#[45,32]⟩ w
   rw[bs_data] at h
   exact h)
  have CS:Hid (∀w,Calls Tryz.prog 89 #[.string (bs s), .string ⟨#[58]⟩] w fun e w'=>e= .returned (.bool (Lib.hasSuffix s [58]))∧w'=w):=hid (fun w=>by
   have h:=Tryz.strings_HasSuffix (bs s) ⟨#[58]⟩ w (by omega)
   rw[bs_data] at h
   exact h)
  have CC:Hid (∀(a b:UInt8) w,YVar w→Calls Tryz.prog 90 #[.string (bs s), .string ⟨#[a,b]⟩] w fun e w'=>e= .returned (.bool (Lib.contains s [a,b]))∧w'=w):=hid (fun a b w hv=>by
   obtain⟨m,hm⟩:=hv.2.2
   have h:=Tryz.strings_Contains (bs s) ⟨#[a,b]⟩ m w (by omega) hm
   rw[bs_data] at h
   exact h)
  have CC1:Hid (∀w,YVar w→Calls Tryz.prog 90 #[.string (bs s), .string ⟨#[58,32]⟩] w fun e w'=>e= .returned (.bool (Lib.contains s [58,32]))∧w'=w):=hid (CC.out 58 32)
  have CC2:Hid (∀w,YVar w→Calls Tryz.prog 90 #[.string (bs s), .string ⟨#[32,35]⟩] w fun e w'=>e= .returned (.bool (Lib.contains s [32,35]))∧w'=w):=hid (CC.out 32 35)
  have t1:=str_eq (Lib.trimB s 32) s
  have t2:=str_eq2 (Lib.trimB s 32) s
  have m1:=str_lit s [45]
  obtain⟨q1,h1⟩: ∃q,cleanB s=q:=⟨_,rfl⟩
  obtain⟨T,hT⟩: ∃T,Lib.trimB s 32=T:=⟨_,rfl⟩
  rw[hT] at CT t1 t2
  obtain⟨q2,h2⟩: ∃q,decide (T=s)=q:=⟨_,rfl⟩
  obtain⟨I,hI⟩: ∃I,Lib.indexByte signsL c=I:=⟨_,rfl⟩
  rw[hI] at CI
  obtain⟨q3,h3⟩: ∃q,decide (0≤I)=q:=⟨_,rfl⟩
  obtain⟨q4,h4⟩: ∃q,decide (s= [45])=q:=⟨_,rfl⟩
  obtain⟨q5,h5⟩: ∃q,Lib.hasPrefix s [45,32]=q:=⟨_,rfl⟩
  obtain⟨q6,h6⟩: ∃q,Lib.hasSuffix s [58]=q:=⟨_,rfl⟩
  obtain⟨q7,h7⟩: ∃q,Lib.contains s [58,32]=q:=⟨_,rfl⟩
  obtain⟨q8,h8⟩: ∃q,Lib.contains s [32,35]=q:=⟨_,rfl⟩
  rw[h1] at HC1
  rw[h2] at t1 t2
  rw[h4] at m1
  rw[h5] at CP
  rw[h6] at CS
  rw[h7] at CC1
  rw[h8] at CC2
  have HR2:Hid ((q1&&q2&&!q3&&!q4&&!q5&&!q6&&!q7&&!q8)=R):=hid (by rw[←HR.out,h1,hT,h2,hI,h3,h4,h5,h6,h7,h8])
  have t3:decide (s= [45])=q4:=h4
  clear h1 h2 h4 h5 h6 h7 h8 hI hT HR CC
  go_enter Tryz.func48,Tryz.ntmps48
  go_wp2_with fail
  refine HC1.out.mono ?_
  rintro e w1 ⟨rfl,hb1⟩
  have HB1:=hid hb1
  clear hb1
  cases q1 with
  | false=>
   go_wp2_with fail
   go_ret
   exact⟨by rw[←HR2.out];rfl,HB1.out⟩
  | true =>
   go_wp2_with fail
   refine(CT.out _).mono ?_
   rintro e w2 ⟨rfl,hb2⟩
   have HB2:=hid (below_of_new HB1.out hb2)
   clear hb2
   cases q2 with
   | false=>
    go_wp2_with fail
    go_ret
    exact⟨by rw[←HR2.out];rfl,HB2.out⟩
   | true =>
    go_wp2_with fail
    refine(CI.out _).mono ?_
    rintro e w3 ⟨rfl,rfl⟩
    cases q3 with
    | true=>
     go_wp2_with fail
     go_ret
     exact⟨by rw[←HR2.out];rfl,HB2.out⟩
    | false=>
     cases q4 with
     | true=>
      go_wp2_with fail
      go_ret
      exact⟨by rw[←HR2.out];rfl,HB2.out⟩
     | false=>
      go_wp2_with fail
      refine(CP.out _).mono ?_
      rintro e w4 ⟨rfl,rfl⟩
      cases q5 with
      | true=>
       go_wp2_with fail
       go_ret
       exact⟨by rw[←HR2.out];rfl,HB2.out⟩
      | false=>
       go_wp2_with fail
       refine(CS.out _).mono ?_
       rintro e w5 ⟨rfl,rfl⟩
       cases q6 with
       | true=>
        go_wp2_with fail
        go_ret
        exact⟨by rw[←HR2.out];rfl,HB2.out⟩
       | false=>
        go_wp2_with fail
        refine(CC1.out _ (HV.out.keep HB2.out)).mono ?_
        rintro e w6 ⟨rfl,rfl⟩
        cases q7 with
        | true=>
         go_wp2_with fail
         go_ret
         exact⟨by rw[←HR2.out];rfl,HB2.out⟩
        | false=>
         go_wp2_with fail
         refine(CC2.out _ (HV.out.keep HB2.out)).mono ?_
         rintro e w7 ⟨rfl,rfl⟩
         cases q8
         all_goals
          go_wp2_with fail
          go_ret
          exact⟨by rw[←HR2.out];rfl,HB2.out⟩
def rubL:Stp:= [92,117,48,48,55,102]
def hashL:Stp:= [32,92,117,48,48,50,51]
def safe1 (t:Stp):Stp:=Lib.replaceAll t [127] rubL
def safeL (t:Stp):Stp:=Lib.replaceAll (safe1 t) [32,35] hashL
theorem repK_len (old new:Stp): ∀(k:Nat) (s:Stp),(Lib.replaceK old new k s).length≤s.length+k*new.length
 | 0,s=>by rw[Lib.replaceK];omega
 | k+1,s=>by
  rw[Lib.replaceK]
  split
  ·omega
  ·have ih:=repK_len old new k (s.drop ((Lib.index s old).toNat+old.length))
   have h1:=Lib.index_le s old
   simp only[List.length_append,List.length_take,List.length_drop] at ih ⊢
   have e:(k+1)*new.length=k*new.length+new.length:=by rw[Nat.add_mul,Nat.one_mul]
   rw[e]
   omega
theorem repA_len (s old new:Stp):(Lib.replaceAll s old new).length≤s.length+(s.length+1)*new.length:=by
 unfold Lib.replaceAll Lib.replace
 split
 ·omega
 ·have h:=repK_len old new (Lib.replaceNum s old (-1)) s
  have hn:Lib.replaceNum s old (-1)≤s.length+1:=by
   unfold Lib.replaceNum
   rw[if_pos (.inl (by decide))]
   exact Lib.count_le s old
  have:=Nat.mul_le_mul_right new.length hn
  omega
theorem safe1_len (t:Stp):(safe1 t).length≤7*t.length+6:=by
 have:=repA_len t [127] rubL
 unfold safe1
 have e:rubL.length=6:=rfl
 rw[e] at this
 omega
def SafeE (t:Stp) (er:Int):Ending:= .returned (.tuple #[.string (bs (safeL t)), .int .i64 er])
theorem ysafe_any (t:Stp) (er:Int) (w:World) (hs:t.length≤268435456) (hV:YVar w):
  Calls Tryz.prog 92 #[.string (bs t), .int .i64 er] w fun e w'=>e=SafeE t er∧Below w.heap.size w w':=by
 have sl:=bs_size t
 have h1:=safe1_len t
 have s1:=bs_size (safe1 t)
 have C1:Calls Tryz.prog 137 #[.string (bs t), .string ⟨#[127]⟩, .string ⟨#[92,117,48,48,55,102]⟩] w fun e w'=>e= .returned (.string (bs (safe1 t)))∧Below w.heap.size w w':=by
  obtain⟨m,hm⟩:=hV.2.2
  have hc:=Lib.countB_le ⟨#[127]⟩ (by decide) _ (bs t) (Nat.le_refl _)
  have h2:(⟨#[92,117,48,48,55,102]⟩:ByteArray).size=6:=rfl
  have:=Tryz.strings_ReplaceAll (bs t) ⟨#[127]⟩ ⟨#[92,117,48,48,55,102]⟩ m w (by omega) hm (by decide) (by rw[h2];omega)
  rw[bs_data] at this
  exact this
 have C2:Hid (∀w,YVar w→Calls Tryz.prog 137 #[.string (bs (safe1 t)), .string ⟨#[32,35]⟩, .string ⟨#[32,92,117,48,48,50,51]⟩] w fun e w'=>e= .returned (.string (bs (safeL t)))∧Below w.heap.size w w'):=hid (fun w hv=>by
  obtain⟨m,hm⟩:=hv.2.2
  have hc:=Lib.countB_le ⟨#[32,35]⟩ (by decide) _ (bs (safe1 t)) (Nat.le_refl _)
  have h2:(⟨#[32,92,117,48,48,50,51]⟩:ByteArray).size=7:=rfl
  have:=Tryz.strings_ReplaceAll (bs (safe1 t)) ⟨#[32,35]⟩ ⟨#[32,92,117,48,48,50,51]⟩ m w (by omega) hm (by decide) (by rw[h2];omega)
  rw[bs_data] at this
  exact this)
 have HC1:=hid C1
 have HV:=hid hV
 clear C1 hV
 unfold SafeE
 obtain⟨A1,hA1⟩: ∃A,safe1 t=A:=⟨_,rfl⟩
 obtain⟨A2,hA2⟩: ∃A,safeL t=A:=⟨_,rfl⟩
 rw[hA1] at HC1 C2
 rw[hA2] at C2
 rw[hA2]
 clear hA1 hA2 h1 s1
 go_enter Tryz.func92,Tryz.ntmps92
 go_wp2_with fail
 refine HC1.out.mono ?_
 rintro e w1 ⟨rfl,hb1⟩
 have HB1:=hid hb1
 clear hb1
 go_wp2_with fail
 refine(C2.out _ (HV.out.keep HB1.out)).mono ?_
 rintro e w2 ⟨rfl,hb2⟩
 have HB2:=hid (below_of_new HB1.out hb2)
 clear hb2
 go_wp2_with fail
 go_ret2
 exact⟨rfl,HB2.out⟩
def quotedY (s:Stp):Stp×Int:=if cleanB s then sqw s else(safeL (quoteL s).1,(quoteL s).2)
theorem quoteL_len (s:Stp):(quoteL s).1.length≤6*s.length+2:=by
 unfold quoteL
 split
 ·have:=(qBs_len s).2
  simp only[List.length_cons,List.length_append,List.length_nil]
  omega
 ·simp
theorem yquoted_any (s:Stp) (w:World) (hs:s.length≤33554432) (hV:YVar w):
  Calls Tryz.prog 49 #[.string (bs s)] w fun e w'=>e=QuotedE (quotedY s)∧Below w.heap.size w w':=by
 have C1:=yclean_any s w (by omega) hV
 have C2:Hid (∀w,YVar w→Calls Tryz.prog 91 #[.string (bs s)] w fun e w'=>e=QuotedE (sqw s)∧Below w.heap.size w w'):=hid (fun w hv=>quoted_any s w (by omega) hv.1.1 hv.2.2)
 have C3:Hid (∀w,YVar w→Calls Tryz.prog 93 #[.string (bs s)] w fun e w'=>e=QuoteE (quoteL s)∧Below w.heap.size w w'):=hid (fun w hv=>quote_any s w (by omega) hv.1.1 hv.2.1)
 have C4:Hid (∀w,YVar w→Calls Tryz.prog 92 #[.string (bs (quoteL s).1), .int .i64 (quoteL s).2] w fun e w'=>e=SafeE (quoteL s).1 (quoteL s).2∧Below w.heap.size w w'):=hid (fun w hv=>ysafe_any _ _ w (by have:=quoteL_len s;omega) hv)
 have HV:=hid hV
 clear hV
 unfold quotedY
 obtain⟨q,hq⟩: ∃q,cleanB s=q:=⟨_,rfl⟩
 rw[hq] at C1
 rw[hq]
 have HC1:=hid C1
 clear C1 hq
 cases q with
 | true=>
  rw[if_pos rfl]
  obtain⟨Q,hQ⟩: ∃Q,sqw s=Q:=⟨_,rfl⟩
  rw[hQ] at C2
  rw[hQ]
  obtain⟨qt,qe⟩:=Q
  clear C3 C4 hQ
  go_enter Tryz.func49,Tryz.ntmps49
  go_wp2_with fail
  refine HC1.out.mono ?_
  rintro e w1 ⟨rfl,hb1⟩
  have HB1:=hid hb1
  clear hb1
  go_wp2_with fail
  refine(C2.out _ (HV.out.keep HB1.out)).mono ?_
  unfold QuotedE
  rintro e w2 ⟨rfl,hb2⟩
  have HB2:=hid (below_of_new HB1.out hb2)
  clear hb2
  go_wp2_with fail
  go_ret2
  exact⟨rfl,HB2.out⟩
 | false=>
  rw[if_neg (by simp)]
  obtain⟨Q,hQ⟩: ∃Q,quoteL s=Q:=⟨_,rfl⟩
  rw[hQ] at C3 C4
  rw[hQ]
  obtain⟨qt,qe⟩:=Q
  simp only[] at C3 C4 ⊢
  obtain⟨Z,hZ⟩: ∃Z,safeL qt=Z:=⟨_,rfl⟩
  unfold SafeE at C4
  rw[hZ] at C4
  rw[hZ]
  clear C2 hQ hZ
  go_enter Tryz.func49,Tryz.ntmps49
  go_wp2_with fail
  refine HC1.out.mono ?_
  rintro e w1 ⟨rfl,hb1⟩
  have HB1:=hid hb1
  clear hb1
  go_wp2_with fail
  refine(C3.out _ (HV.out.keep HB1.out)).mono ?_
  unfold QuoteE
  rintro e w2 ⟨rfl,hb2⟩
  have HB2:=hid (below_of_new HB1.out hb2)
  clear hb2
  go_wp2_with fail
  refine(C4.out _ (HV.out.keep HB2.out)).mono ?_
  rintro e w3 ⟨rfl,hb3⟩
  have HB3:=hid (below_of_new HB2.out hb3)
  clear hb3
  go_wp2_with fail
  go_ret2
  exact⟨rfl,HB3.out⟩
def nullL:Stp:= [110,117,108,108]
def resP (s:Stp):Int×Stp:=
 if s= []∨s=nullL∨s= [126] then(1,[])
 else if s=trueL∨s=falseL then(2,s)
 else if(parseL s).2=0 then(3,textL (parseL s).1)
 else(4,s)
def ResE (s:Stp):Ending:= .returned (.agg #[.int .i64 (resP s).1, .string (bs (resP s).2), .slice none 0 0, .slice none 0 0])
def RsBox (w:World) (X:Nat) (k:Int) (t:Stp):Prop:=w.heap[X]?=some (.cells #[.int .i64 k, .string (bs t), .slice none 0 0, .slice none 0 0] 36 (0,0))
abbrev RsCells (w:World) (X:Nat) (k:Int) (t:Stp):Prop:=w.cell? ⟨X,0,none⟩=some (.int .i64 k)∧w.cell? ⟨X,1,none⟩=some (.string (bs t))∧w.cell? ⟨X,2,none⟩=some (.slice none 0 0)∧w.cell? ⟨X,3,none⟩=some (.slice none 0 0)∧w.frozen? ⟨X,0,none⟩=false∧w.frozen? ⟨X,1,none⟩=false∧w.frozen? ⟨X,2,none⟩=false∧w.frozen? ⟨X,3,none⟩=false
theorem RsBox.cells {w:World}{X:Nat}{k:Int}{t:Stp} (h:RsBox w X k t):RsCells w X k t:=by
 unfold RsBox at h
 refine⟨?_,?_,?_,?_,?_,?_,?_,?_⟩<;>simp[World.cell?,World.frozen?,h]
theorem RsBox.keep {w w':World}{X:Nat}{k:Int}{t:Stp} (h:RsBox w X k t) (hb:Below w.heap.size w w'):RsBox w' X k t:=(hb.block X (cell_it h)).trans h
theorem RsBox.new (w:World) (k:Int) (t:Stp):RsBox (w.alloc (.cells #[.int .i64 k, .string (bs t), .slice none 0 0, .slice none 0 0] 36)) w.heap.size k t:=heap_alloc_new w _
def putRs (w:World) (X:Nat) (k:Int) (t:Stp):World:=(((w.setCell ⟨X,0,none⟩ (.int .i64 k)).setCell ⟨X,1,none⟩ (.string (bs t))).setCell ⟨X,2,none⟩ (.slice none 0 0)).setCell ⟨X,3,none⟩ (.slice none 0 0)
theorem RsBox.put {w:World}{X:Nat}{k k2:Int}{t t2:Stp} (h:RsBox w X k t):RsBox (putRs w X k2 t2) X k2 t2:=by
 unfold RsBox at h ⊢
 unfold putRs
 simp[World.setCell,h,Array.getElem?_modify]
theorem below_putRs {B:Nat}{w w':World}{X:Nat}{k:Int}{t:Stp} (h:Below B w w') (hX:B≤X):Below B w (putRs w' X k t):=by
 unfold putRs
 exact(((h.setCell (p:=⟨X,0,none⟩) hX _).setCell (p:=⟨X,1,none⟩) hX _).setCell (p:=⟨X,2,none⟩) hX _).setCell (p:=⟨X,3,none⟩) hX _
theorem vof_any (s:Stp) (w:World):
  Calls Tryz.prog 27 #[.string (bs s)] w fun e w'=>e= .returned (.agg #[.int .i64 4, .string (bs s), .slice none 0 0, .slice none 0 0])∧Below w.heap.size w w':=by
 have ba:=below_alloc1 w (.cells #[.int .i64 0, .string (bs []), .slice none 0 0, .slice none 0 0] 36)
 have hB0:=RsBox.new w 0 []
 obtain⟨W1,hW1⟩: ∃W,w.alloc (.cells #[.int .i64 0, .string (bs []), .slice none 0 0, .slice none 0 0] 36)=W:=⟨_,rfl⟩
 rw[hW1] at ba hB0
 obtain⟨y0,y1,y2,y3,f0,f1,f2,f3⟩:=hB0.cells
 have hW1':w.alloc (.cells #[.int .i64 0, .string ⟨#[]⟩, .slice none 0 0, .slice none 0 0] 36)=W1:=hW1
 go_enter Tryz.func27,Tryz.ntmps27
 go_wp2_with fail
 clear y0 y1 y2 y3 f0 f1 f2 f3
 have hP:=(hB0).put (k2:=4) (t2:=s)
 have hPB:=below_putRs (k:=4) (t:=s) (ba) (Nat.le_refl w.heap.size)
 obtain⟨WF,hWF⟩: ∃W,putRs W1 w.heap.size 4 s=W:=⟨_,rfl⟩
 rw[hWF] at hP hPB
 have hWF':(((W1.setCell ⟨w.heap.size,0,none⟩ (.int .i64 4)).setCell ⟨w.heap.size,1,none⟩ (.string (bs s))).setCell ⟨w.heap.size,2,none⟩ (.slice none 0 0)).setCell ⟨w.heap.size,3,none⟩ (.slice none 0 0)=WF:=hWF
 rw[hWF']
 obtain⟨d0,d1,d2,d3,_⟩:=hP.cells
 clear hWF hWF'
 refine bodyPost_ret (v:= .agg #[.int .i64 4, .string (bs s), .slice none 0 0, .slice none 0 0]) ?_ rfl ⟨rfl,hPB⟩
 simp[results,Tryz.results27,go_sem,d0,d1,d2,d3]
theorem yresolve_any (s:Stp) (w:World) (hs:s.length≤1073741824) (hV:YVar w):
  Calls Tryz.prog 112 #[.string (bs s)] w fun e w'=>e=ResE s∧Below w.heap.size w w':=by
 have sl:=bs_size s
 have ba:=below_alloc1 w (.cells #[.int .i64 0, .string (bs []), .slice none 0 0, .slice none 0 0] 36)
 have hB0:=RsBox.new w 0 []
 obtain⟨W1,hW1⟩: ∃W,w.alloc (.cells #[.int .i64 0, .string (bs []), .slice none 0 0, .slice none 0 0] 36)=W:=⟨_,rfl⟩
 rw[hW1] at ba hB0
 have HBa:=hid ba
 have HB0:=hid hB0
 have HV:=hid (hV.keep ba)
 obtain⟨y0,y1,y2,y3,f0,f1,f2,f3⟩:=hB0.cells
 have hW1':w.alloc (.cells #[.int .i64 0, .string ⟨#[]⟩, .slice none 0 0, .slice none 0 0] 36)=W1:=hW1
 have CP:=hid (fun w=>parse_any s w (by omega))
 have hdg:=parse_dig s
 have m0:=str_lit s []
 have m1:=str_lit s nullL
 have m2:=str_lit s [126]
 have m3:=str_lit s trueL
 have m4:=str_lit s falseL
 have e0:=str_nil2 s
 unfold nullL at m1
 unfold trueL at m3
 unfold falseL at m4
 unfold ResE resP
 obtain⟨q0,h0⟩: ∃q,decide (s= [])=q:=⟨_,rfl⟩
 obtain⟨q1,h1⟩: ∃q,decide (s=nullL)=q:=⟨_,rfl⟩
 obtain⟨q2,h2⟩: ∃q,decide (s= [126])=q:=⟨_,rfl⟩
 obtain⟨q3,h3⟩: ∃q,decide (s=trueL)=q:=⟨_,rfl⟩
 obtain⟨q4,h4⟩: ∃q,decide (s=falseL)=q:=⟨_,rfl⟩
 have m0:=m0.trans h0
 have m1:=m1.trans h1
 have m2:=m2.trans h2
 have m3:=m3.trans h3
 have m4:=m4.trans h4
 have n1:decide (s= [110,117,108,108])=q1:=h1
 have n3:decide (s= [116,114,117,101])=q3:=h3
 have n4:decide (s= [102,97,108,115,101])=q4:=h4
 have e0b:s.isEmpty=q0:=by rw[←h0];cases s<;>simp
 rw[e0b] at e0
 have z0:s= []↔q0=true:=by rw[←h0];simp
 have z1:s=nullL↔q1=true:=by rw[←h1];simp
 have z2:s= [126]↔q2=true:=by rw[←h2];simp
 have z3:s=trueL↔q3=true:=by rw[←h3];simp
 have z4:s=falseL↔q4=true:=by rw[←h4];simp
 have HZ:=hid (And.intro z0 (And.intro z1 (And.intro z2 (And.intro z3 z4))))
 clear z0 z1 z2 z3 z4 h1 h3 h4 hV ba hB0 hW1
 obtain⟨P,hP⟩: ∃P,parseL s=P:=⟨_,rfl⟩
 rw[hP] at CP hdg ⊢
 obtain⟨n,er⟩:=P
 simp only[] at hdg ⊢
 by_cases c1:(q0||q1||q2)=true
 ·have HC:Hid ((s= []∨s=nullL∨s= [126])):=hid (by
   obtain⟨a0,a1,a2,_⟩:=HZ.out
   simp only[Bool.or_eq_true] at c1
   rcases c1 with(h | h) | h
   ·exact .inl (a0.2 h)
   ·exact .inr (.inl (a1.2 h))
   ·exact .inr (.inr (a2.2 h)))
  rw[if_pos HC.out]
  cases q0<;>cases q1<;>cases q2
  ·cases c1
  all_goals
   go_enter Tryz.func112,Tryz.ntmps112
   go_wp2_with fail
   clear y0 y1 y2 y3 f0 f1 f2 f3
   have hP:=(HB0.out).put (k2:=1) (t2:=([]:Stp))
   have hPB:=below_putRs (k:=1) (t:=([]:Stp)) (HBa.out) (Nat.le_refl w.heap.size)
   obtain⟨WF,hWF⟩: ∃W,putRs W1 w.heap.size 1 ([]:Stp)=W:=⟨_,rfl⟩
   rw[hWF] at hP hPB
   have hWF':(((W1.setCell ⟨w.heap.size,0,none⟩ (.int .i64 1)).setCell ⟨w.heap.size,1,none⟩ (.string ⟨#[]⟩)).setCell ⟨w.heap.size,2,none⟩ (.slice none 0 0)).setCell ⟨w.heap.size,3,none⟩ (.slice none 0 0)=WF:=hWF
   rw[hWF']
   obtain⟨d0,d1,d2,d3,_⟩:=hP.cells
   clear hWF hWF'
   refine bodyPost_ret (v:= .agg #[.int .i64 1, .string (bs ([]:Stp)), .slice none 0 0, .slice none 0 0]) ?_ rfl ⟨rfl,hPB⟩
   simp[results,Tryz.results112,go_sem,d0,d1,d2,d3]
 ·obtain⟨rfl,rfl,rfl⟩:q0=false∧q1=false∧q2=false:=by cases q0<;>cases q1<;>cases q2<;>simp at c1 ⊢
  rw[if_neg (by
   obtain⟨a0,a1,a2,_⟩:=HZ.out
   rintro(h | h | h)
   ·exact absurd (a0.1 h) (by decide)
   ·exact absurd (a1.1 h) (by decide)
   ·exact absurd (a2.1 h) (by decide))]
  by_cases c2:(q3||q4)=true
  ·rw[if_pos (by
    obtain⟨_,_,_,a3,a4⟩:=HZ.out
    simp only[Bool.or_eq_true] at c2
    rcases c2 with h | h
    ·exact .inl (a3.2 h)
    ·exact .inr (a4.2 h))]
   cases q3<;>cases q4
   ·cases c2
   all_goals
    go_enter Tryz.func112,Tryz.ntmps112
    go_wp2_with fail
    clear y0 y1 y2 y3 f0 f1 f2 f3
    have hP:=(HB0.out).put (k2:=2) (t2:=s)
    have hPB:=below_putRs (k:=2) (t:=s) (HBa.out) (Nat.le_refl w.heap.size)
    obtain⟨WF,hWF⟩: ∃W,putRs W1 w.heap.size 2 s=W:=⟨_,rfl⟩
    rw[hWF] at hP hPB
    have hWF':(((W1.setCell ⟨w.heap.size,0,none⟩ (.int .i64 2)).setCell ⟨w.heap.size,1,none⟩ (.string (bs s))).setCell ⟨w.heap.size,2,none⟩ (.slice none 0 0)).setCell ⟨w.heap.size,3,none⟩ (.slice none 0 0)=WF:=hWF
    rw[hWF']
    obtain⟨d0,d1,d2,d3,_⟩:=hP.cells
    clear hWF hWF'
    refine bodyPost_ret (v:= .agg #[.int .i64 2, .string (bs s), .slice none 0 0, .slice none 0 0]) ?_ rfl ⟨rfl,hPB⟩
    simp[results,Tryz.results112,go_sem,d0,d1,d2,d3]
  ·obtain⟨rfl,rfl⟩:q3=false∧q4=false:=by cases q3<;>cases q4<;>simp at c2 ⊢
   rw[if_neg (by
    obtain⟨_,_,_,a3,a4⟩:=HZ.out
    rintro(h | h)
    ·exact absurd (a3.1 h) (by decide)
    ·exact absurd (a4.1 h) (by decide))]
   clear c1 c2 HZ
   by_cases he:er=0
   ·subst he
    rw[if_pos rfl]
    have CT:Hid (∀w',YVar w'→Calls Tryz.prog 50 #[.agg #[.bool n.neg, .string (bs n.dig), .int .i64 n.exp]] w' fun e w2=>e= .returned (.string (bs (textL n)))∧Below w'.heap.size w' w2):=hid (fun w' hv=>text_any n w' (by have:=hdg rfl;omega) hv.1.2)
    clear hdg
    obtain⟨Z,hZ⟩: ∃Z,textL n=Z:=⟨_,rfl⟩
    rw[hZ] at CT ⊢
    go_enter Tryz.func112,Tryz.ntmps112
    go_wp2_with fail
    refine(CP.out _).mono ?_
    unfold Parsed numV
    rintro e w2 ⟨rfl,hb2⟩
    have HR2:=hid (HB0.out.keep hb2)
    have HB2:=hid (below_of_new HBa.out hb2)
    have HV2:=hid (HV.out.keep hb2)
    clear hb2 y0 y1 y2 y3 f0 f1 f2 f3
    have ba3:=below_alloc1 w2 (.cells #[.bool n.neg, .string (bs n.dig), .int .i64 n.exp] 88)
    have hN:=NbBox.new w2 n
    obtain⟨W3,hW3⟩: ∃W,w2.alloc (.cells #[.bool n.neg, .string (bs n.dig), .int .i64 n.exp] 88)=W:=⟨_,rfl⟩
    rw[hW3] at ba3 hN
    obtain⟨x0,x1,x2,_⟩:=hN.cells
    have HR3:=hid (HR2.out.keep ba3)
    have HB3:=hid (below_of_new HB2.out ba3)
    have HV3:=hid (HV2.out.keep ba3)
    clear ba3 hN
    go_wp2_with fail
    refine(CT.out _ HV3.out).mono ?_
    rintro e w4 ⟨rfl,hb4⟩
    have HR4:=hid (HR3.out.keep hb4)
    have HB4:=hid (below_of_new HB3.out hb4)
    clear hb4 x0 x1 x2 hW3
    obtain⟨y0,y1,y2,y3,f0,f1,f2,f3⟩:=HR4.out.cells
    go_wp2_with fail
    clear y0 y1 y2 y3 f0 f1 f2 f3
    have hP:=(HR4.out).put (k2:=3) (t2:=Z)
    have hPB:=below_putRs (k:=3) (t:=Z) (HB4.out) (Nat.le_refl w.heap.size)
    obtain⟨WF,hWF⟩: ∃W,putRs w4 w.heap.size 3 Z=W:=⟨_,rfl⟩
    rw[hWF] at hP hPB
    have hWF':(((w4.setCell ⟨w.heap.size,0,none⟩ (.int .i64 3)).setCell ⟨w.heap.size,1,none⟩ (.string (bs Z))).setCell ⟨w.heap.size,2,none⟩ (.slice none 0 0)).setCell ⟨w.heap.size,3,none⟩ (.slice none 0 0)=WF:=hWF
    rw[hWF']
    obtain⟨d0,d1,d2,d3,_⟩:=hP.cells
    clear hWF hWF'
    refine bodyPost_ret (v:= .agg #[.int .i64 3, .string (bs Z), .slice none 0 0, .slice none 0 0]) ?_ rfl ⟨rfl,hPB⟩
    simp[results,Tryz.results112,go_sem,d0,d1,d2,d3]
   ·rw[if_neg he]
    have de:(er==0)=false:=beq_eq_false_iff_ne.2 he
    have CO:=hid (fun w=>vof_any s w)
    clear hdg
    go_enter Tryz.func112,Tryz.ntmps112
    go_wp2_with fail
    refine(CP.out _).mono ?_
    unfold Parsed numV
    rintro e w2 ⟨rfl,hb2⟩
    have HR2:=hid (HB0.out.keep hb2)
    have HB2:=hid (below_of_new HBa.out hb2)
    clear hb2 y0 y1 y2 y3 f0 f1 f2 f3
    have ba3:=below_alloc1 w2 (.cells #[.bool n.neg, .string (bs n.dig), .int .i64 n.exp] 88)
    have HR3:=hid (HR2.out.keep ba3)
    have HB3:=hid (below_of_new HB2.out ba3)
    clear ba3
    go_wp2_with fail
    refine(CO.out _).mono ?_
    rintro e w4 ⟨rfl,hb4⟩
    have HR4:=hid (HR3.out.keep hb4)
    have HB4:=hid (below_of_new HB3.out hb4)
    clear hb4
    obtain⟨y0,y1,y2,y3,f0,f1,f2,f3⟩:=HR4.out.cells
    go_wp2_with fail
    clear y0 y1 y2 y3 f0 f1 f2 f3
    have hP:=(HR4.out).put (k2:=4) (t2:=s)
    have hPB:=below_putRs (k:=4) (t:=s) (HB4.out) (Nat.le_refl w.heap.size)
    obtain⟨WF,hWF⟩: ∃W,putRs w4 w.heap.size 4 s=W:=⟨_,rfl⟩
    rw[hWF] at hP hPB
    have hWF':(((w4.setCell ⟨w.heap.size,0,none⟩ (.int .i64 4)).setCell ⟨w.heap.size,1,none⟩ (.string (bs s))).setCell ⟨w.heap.size,2,none⟩ (.slice none 0 0)).setCell ⟨w.heap.size,3,none⟩ (.slice none 0 0)=WF:=hWF
    rw[hWF']
    obtain⟨d0,d1,d2,d3,_⟩:=hP.cells
    clear hWF hWF'
    refine bodyPost_ret (v:= .agg #[.int .i64 4, .string (bs s), .slice none 0 0, .slice none 0 0]) ?_ rfl ⟨rfl,hPB⟩
    simp[results,Tryz.results112,go_sem,d0,d1,d2,d3]
end Go.Proofs.YtlibkhbachmcgaaGreatDoor
