import Derived.Test.YtlibkhbachmcgaaGreatDoorRe1
import Derived.BigQuiet
import Derived.Deep.QuietTactic
import Derived.Deep.DeepCutAuto
import Derived.Deep.CutBlock
import Derived.Deep.RegionHeld3
import Derived.Lib.IndexBytes
import Derived.Lib.ConvBytes
import Derived.Lib.AtoiAllMem
import Derived.Laws.Closers25
import Derived.Laws.Closers25b
import Derived.BigCall
import Derived.BigGuard
import Derived.Test.YtlibkhbachmcgaaGreatDoorShelfC
import Derived.Lib.QuoteLoop
import Derived.WalkMore
import Derived.Shelf.Strings.BuilderK
import Derived.Shelf.Strings.BuilderRune
import Derived.Shelf.Strings.MapGrows
import Derived.Test.YtlibkhbachmcgaaGreatDoorProg
import Derived.KernelRfl
set_option maxRecDepth 100000
set_option maxHeartbeats 8000000
namespace Go.Proofs.YtlibkhbachmcgaaGreatDoor
set_option linter.unusedSimpArgs false
set_option linter.unusedVariables false
open Go.RowKit
open Go.Lib hiding intOf
def hexN (c:UInt8):Option Nat:=
 if 48≤c.toNat∧c.toNat≤57 then some (c.toNat-48) else if 97≤c.toNat∧c.toNat≤102 then some (c.toNat-87) else if 65≤c.toNat∧c.toNat≤70 then some (c.toNat-55) else none
def hexGo:Nat→List UInt8→Option Nat
 | acc,[]=>some acc
 | acc,c::r=>match hexN c with | none=>none | some d=>hexGo (16*acc+d) r
def hexEnd (r:Option Nat):Ending:=match r with
 | some n=> .returned (.tuple #[.int .u64 n, .nilIface])
 | none=> .returned (.tuple #[.int .u64 0, .iface 238 (.int .i64 2)])
theorem lower_all: ∀n:Fin 256,((65≤n.val∧n.val≤70→bits .or .u8 (n.val:Int) 32=(n.val:Int)+32)∧(97≤n.val∧n.val≤102→bits .or .u8 (n.val:Int) 32=(n.val:Int))∧
  (¬(65≤n.val∧n.val≤70)→ ¬(97≤n.val∧n.val≤102)→bits .or .u8 (n.val:Int) 32<97∨103≤bits .or .u8 (n.val:Int) 32)∧0≤bits .or .u8 (n.val:Int) 32∧bits .or .u8 (n.val:Int) 32≤255):=by decide+kernel
theorem lower_at (c:UInt8):(65≤c.toNat∧c.toNat≤70→bits .or .u8 (c.toNat:Int) 32=(c.toNat:Int)+32)∧(97≤c.toNat∧c.toNat≤102→bits .or .u8 (c.toNat:Int) 32=(c.toNat:Int))∧
  (¬(65≤c.toNat∧c.toNat≤70)→ ¬(97≤c.toNat∧c.toNat≤102)→bits .or .u8 (c.toNat:Int) 32<97∨103≤bits .or .u8 (c.toNat:Int) 32)∧0≤bits .or .u8 (c.toNat:Int) 32∧bits .or .u8 (c.toNat:Int) 32≤255:=
 lower_all ⟨c.toNat,c.toNat_lt⟩
theorem lower_any (c:Int) (w:World):
  Calls Tryz.prog 263 #[.int .u8 c] w fun e w'=>e= .returned (.int .u8 (bits .or .u8 c 32))∧w=w':=by
 go_enter Tryz.func263,Tryz.ntmps263
 go_wp2_with fail
 go_ret
 exact⟨rfl,rfl⟩
theorem parse16_any (t:ByteArray) (ht:t.size=4) (w:World):
  Calls Tryz.prog 242 #[.string t, .int .i64 16, .int .i64 32] w fun e w'=>e=hexEnd (hexGo 0 t.data.toList)∧Below w.heap.size w w':=by
 have hemp:t.toList.isEmpty=false:=by
  rw[←decide_eq_emptyBytes]
  exact decide_eq_false (fun h=>by rw[h] at ht;cases ht)
 have hcv:=Lib.run_convert_string_bytes (P:=Tryz.prog) w 9 83 5 t (u:= .string) Tryz.underlying9 Tryz.underlying83 Tryz.underlying5
 have hB: ∀j,j<t.size→(Lib.bytesWorld w 5 t).cell? ⟨w.heap.size,j,none⟩=some (.int .u8 (t.data.toList.getD j 0).toNat):=fun j hj=>Lib.bytesWorld_cell w 5 t j hj
 have hbel:=hid (Lib.bytesWorld_below w 5 t)
 obtain⟨W1,hW1⟩: ∃W1,W1=Lib.bytesWorld w 5 t:=⟨_,rfl⟩
 rw[←hW1] at hcv hB hbel
 clear hW1
 obtain⟨bl,hL⟩: ∃bl,bl=t.data.toList:=⟨_,rfl⟩
 have hLn:bl.length=t.size:=by rw[hL,Lib.size_eq]
 rw[←hL] at hB ⊢
 clear hL
 obtain⟨R,hR⟩: ∃R,hexEnd (hexGo 0 bl)=R:=⟨_,rfl⟩
 rw[hR]
 have HR:=hid hR;clear hR
 have hmv:IntKind.u64.wrap (IntKind.u64.wrap 4294967296-1)=4294967295:=by
  rw[IntKind.wrap_u64,IntKind.wrap_u64]
  decide
 go_enter Tryz.func242,Tryz.ntmps242
 go_wp2_with fail
 go_loop [12,13,101] (fun vu vn vi=> ∃(k acc:Nat) (a:Int),vu= .bool false∧vn= .int .u64 a∧vi= .int .i64 k∧k≤t.size∧a≤65535∧0≤a∧(k≤3→a≤4095)∧Hid (a=(acc:Int)∧acc<16 ^ k∧hexGo 0 bl=hexGo acc (bl.drop k)))
  (fun _ _ vi=>t.size-(RowKit.intOf vi).toNat)
 case atStart=>exact⟨0,0,0,rfl,rfl,rfl,by omega,by omega,by omega,fun _=>by omega,rfl,by decide,rfl⟩
 case round=>
  obtain⟨k,acc,a,rfl,rfl,rfl,hk,ha1,ha2,ha3,hh⟩:=hrel
  obtain⟨ha,hacc,hdec⟩:=hh.out
  clear hh
  by_cases hkn:k<t.size
  ·have hc:=hB k hkn
   have hdrop:bl.drop k=bl[k]'(by omega)::bl.drop (k+1):=List.drop_eq_getElem_cons (by omega)
   have hget:bl.getD k 0=bl[k]'(by omega):=by simp[List.getD,List.getElem?_eq_getElem (show k<bl.length by omega)]
   rw[hdrop] at hdec
   rw[hget] at hc
   generalize bl[k]'(by omega)=c at hc hdec
   have hc256:c.toNat<256:=c.toNat_lt
   have hk3:a≤4095:=ha3 (by omega)
   obtain⟨lw1,lw2,lw3,lw4,lw5⟩:=lower_at c
   have hpow:16 ^ (k+1)=16*16 ^ k:=by rw[Nat.pow_succ];omega
   have hk16:k≤2→(16:Nat) ^ (k+1)≤4096:=fun h=>Nat.le_trans (Nat.pow_le_pow_right (by decide) (show k+1≤3 by omega)) (by decide)
   clear hB hdrop hget ha3
   have hstep: ∀d:Nat,hexN c=some d→d<16→Hid (a*16+(d:Int)=((16*acc+d:Nat):Int)∧16*acc+d<16 ^ (k+1)∧hexGo 0 bl=hexGo (16*acc+d) (bl.drop (k+1)))∧(k+1≤3→a*16+(d:Int)≤4095):=fun d hd hd16=>by
    have h2:16*acc+d<16 ^ (k+1):=by rw[hpow];omega
    refine⟨⟨by omega,h2,?_⟩,fun h=>by have:=hk16 (by omega);omega⟩
    rw[hdec];simp only[hexGo,hd]
   by_cases hdig:48≤c.toNat∧c.toNat≤57
   ·obtain⟨hd0,hd1⟩:=hdig
    obtain⟨HN,h3⟩:=hstep (c.toNat-48) (by unfold hexN;rw[if_pos ⟨hd0,hd1⟩]) (by omega)
    rw[show ((c.toNat-48:Nat):Int)=(c.toNat:Int)-48 by omega] at HN h3
    clear hdec hstep lw1 lw2 lw3 lw4 lw5 hacc ha hpow hk16
    go_wp2_with fail
    refine⟨⟨k+1,16*acc+(c.toNat-48),a*16+((c.toNat:Int)-48),rfl,(by first | rfl | (congr 1;omega)),(by first | rfl | (congr 1;omega)),by omega,by omega,by omega,h3,HN⟩,by simp[RowKit.intOf];omega⟩
   ·by_cases hlo:97≤c.toNat∧c.toNat≤102
    ·have hl:=lw2 hlo
     obtain⟨hd0,hd1⟩:=hlo
     obtain⟨HN,h3⟩:=hstep (c.toNat-87) (by unfold hexN;rw[if_neg hdig,if_pos ⟨hd0,hd1⟩]) (by omega)
     rw[show ((c.toNat-87:Nat):Int)=(c.toNat:Int)-97+10 by omega] at HN h3
     have hnd: ¬c.toNat≤57:=by omega
     have HL:Hid (∀w,Calls Tryz.prog 263 #[.int .u8 (c.toNat:Int)] w fun e w'=>e= .returned (.int .u8 (c.toNat:Int))∧w=w'):=hid (fun w=>by have:=lower_any (c.toNat:Int) w;rw[hl] at this;exact this)
     clear hdec hstep lw1 lw2 lw3 lw4 lw5 hacc ha hpow hk16 hl hdig
     go_wp2_with (go_at_call 263;refine(HL.out _).mono ?_;rintro e w' ⟨rfl,rfl⟩)
     refine⟨⟨k+1,16*acc+(c.toNat-87),a*16+((c.toNat:Int)-97+10),rfl,(by first | rfl | (congr 1;omega)),(by first | rfl | (congr 1;omega)),by omega,by omega,by omega,h3,HN⟩,by simp[RowKit.intOf];omega⟩
    ·by_cases hup:65≤c.toNat∧c.toNat≤70
     ·have hl:=lw1 hup
      obtain⟨hd0,hd1⟩:=hup
      obtain⟨HN,h3⟩:=hstep (c.toNat-55) (by unfold hexN;rw[if_neg hdig,if_neg hlo,if_pos ⟨hd0,hd1⟩]) (by omega)
      rw[show ((c.toNat-55:Nat):Int)=(c.toNat:Int)+32-97+10 by omega] at HN h3
      have hnd: ¬c.toNat≤57:=by omega
      have HL:Hid (∀w,Calls Tryz.prog 263 #[.int .u8 (c.toNat:Int)] w fun e w'=>e= .returned (.int .u8 ((c.toNat:Int)+32))∧w=w'):=hid (fun w=>by have:=lower_any (c.toNat:Int) w;rw[hl] at this;exact this)
      clear hdec hstep lw1 lw2 lw3 lw4 lw5 hacc ha hpow hk16 hl hdig hlo
      go_wp2_with (go_at_call 263;refine(HL.out _).mono ?_;rintro e w' ⟨rfl,rfl⟩)
      refine⟨⟨k+1,16*acc+(c.toNat-55),a*16+((c.toNat:Int)+32-97+10),rfl,(by first | rfl | (congr 1;omega)),(by first | rfl | (congr 1;omega)),by omega,by omega,by omega,h3,HN⟩,by simp[RowKit.intOf];omega⟩
     ·have hF:hexGo acc (c::bl.drop (k+1))=none:=by simp only[hexGo];unfold hexN;rw[if_neg hdig,if_neg hlo,if_neg hup]
      rw[hF] at hdec
      have HF:=hid (HR.out.symm.trans (by rw[hdec]))
      have hv:=lw3 hup hlo
      obtain⟨v,hV⟩: ∃v,bits .or .u8 (c.toNat:Int) 32=v:=⟨_,rfl⟩
      have HL:Hid (∀w,Calls Tryz.prog 263 #[.int .u8 (c.toNat:Int)] w fun e w'=>e= .returned (.int .u8 v)∧w=w'):=hid (fun w=>by have:=lower_any (c.toNat:Int) w;rw[hV] at this;exact this)
      have h95v:c.toNat=95→v=127:=fun h=>by rw[←hV,h];decide+kernel
      rw[hV] at hv lw4 lw5
      have hnd:c.toNat<48∨57<c.toNat:=by omega
      clear hdec hstep lw1 lw2 lw3 hacc ha hpow hk16 hdig hlo hup hF hV
      by_cases h95:c.toNat=95
      ·obtain rfl:=h95v h95
       have h95b:((c.toNat:Int)==95)=true:=beq_iff_eq.2 (by omega)
       have hnd2:57<c.toNat:=by omega
       clear h95 h95v
       go_wp2_with (go_at_call 263;refine(HL.out _).mono ?_;rintro e w' ⟨rfl,rfl⟩)
       go_ret2
       exact⟨HF.out.symm,hbel.out⟩
      ·clear h95v
       have h95b:((c.toNat:Int)==95)=false:=beq_eq_false_iff_ne.2 (by omega)
       by_cases hv1:v<97
       ·rcases hnd with hnd | hnd
        all_goals
         go_wp2_with (go_at_call 263;refine(HL.out _).mono ?_;rintro e w' ⟨rfl,rfl⟩)
         go_ret2
         exact⟨HF.out.symm,hbel.out⟩
       ·have hv2:103≤v:=hv.resolve_left hv1
        by_cases hv3:v≤122
        ·rcases hnd with hnd | hnd
         all_goals
          go_wp2_with (go_at_call 263;refine(HL.out _).mono ?_;rintro e w' ⟨rfl,rfl⟩)
          go_ret2
          exact⟨HF.out.symm,hbel.out⟩
        ·rcases hnd with hnd | hnd
         all_goals
          go_wp2_with (go_at_call 263;refine(HL.out _).mono ?_;rintro e w' ⟨rfl,rfl⟩)
          go_ret2
          exact⟨HF.out.symm,hbel.out⟩
  ·obtain rfl:k=t.size:=by omega
   have hF:hexGo acc (bl.drop t.size)=some acc:=by rw[List.drop_eq_nil_of_le (by omega)];rfl
   rw[hF] at hdec
   have HF:=hid (HR.out.symm.trans (by rw[hdec]))
   have HA:=hid ha
   clear hacc hF hdec ha
   go_wp2_with fail
   go_ret2
   exact⟨by rw[HF.out,HA.out];rfl,hbel.out⟩
theorem quiet_add_left {P:Program}{f:FuncId}{args:Array Value}{w:World}{a n:Nat}{v:Value}
  (h:Calls P f args (w.drewN (a+n)) fun e w'=>e= .returned v∧w.drewN (a+n)=w'):
  Calls P f args (w.drewN (a+n)) fun e w''=>e= .returned v∧ ∃m,w''=w.drewN (a+m):=
 h.mono fun _ _ ⟨he,hm⟩=>⟨he,n,hm.symm⟩
theorem validRune_yes (r:Int) (w:World) (h1:128≤r) (h2:r≤1114111) (h3:r<55296∨57343<r):
  Calls Tryz.prog 199 #[.int .i32 r] w fun e w'=>e= .returned (.bool true)∧w=w':=by
 rcases h3 with h3 | h3
 all_goals
  go_enter Tryz.func199,Tryz.ntmps199
  go_wp2_with fail
  go_ret
  exact⟨rfl,rfl⟩
theorem indexByte_none: ∀(l:List UInt8) (b:UInt8),(∀c∈l,c≠b)→Lib.indexByte l b= -1
 | [],b,_=>rfl
 | c::t,b,h=>by
  have h1:(c==b)=false:=beq_eq_false_iff_ne.2 (h c (by simp))
  have h2:=indexByte_none t b (fun x hx=>h x (by simp[hx]))
  unfold Lib.indexByte
  simp[h1,h2]
theorem index_none (A:ByteArray) (i k:Nat) (b:UInt8) (hb:128≤b.toNat) (hA:A.data.toList.all (fun c=>decide (c.toNat<128))=true:=by decide) (w:World):
  Calls Tryz.prog 57 #[.string (A.extract i k), .int .u8 (b.toNat:Int)] w fun e w'=>e= .returned (.int .i64 (-1))∧w=w':=by
 have h:=index_in (A.extract i k) b w
 rw[indexByte_none] at h
 ·exact h
 ·intro c hc e
  rw[bs_extract,bs_data] at hc
  have hm:c∈A.data.toList:=List.mem_of_mem_drop (List.mem_of_mem_take hc)
  have:=of_decide_eq_true (List.all_eq_true.1 hA c hm)
  rw[e] at this;omega
theorem indexRune_bad (S:ByteArray) (w:World) (hS:S.data.toList.all (fun c=>decide (c.toNat<128))=true) (hsz:S.size≤4294967296):
  Calls Tryz.prog 161 #[.string S, .int .i32 65533] w fun e w'=>e= .returned (.int .i64 (-1))∧Below w.heap.size w w':=by
 have hall: ∀p (h:p<S.size),(S[p]'h).toNat<128:=fun p h=>of_decide_eq_true (List.all_eq_true.1 hS _ (Array.getElem_mem_toList _))
 have HA:=hid hall;clear hall hS
 go_enter Tryz.func161,Tryz.ntmps161
 go_wp2_with fail
 go_loopw [5,6] (fun _ _ wr=> ∃p:Nat,p≤S.size∧Hid (wr.heap[w.heap.size]?=some (.stringIter S p))∧Hid (Below w.heap.size w wr)) (fun _ _ wr=>S.size-wr.iterPos w.heap.size)
 case atStart=>exact⟨0,by omega,World.iter_heap w S 0,(Below.refl _ _).alloc (Nat.le_refl _) _⟩
 case round=>
  obtain⟨p,hp,HI,HW⟩:=hrel
  by_cases hlt:p<S.size
  ·have hb:=HA.out p hlt
   have hd:=decode_ascii S p hlt hb
   have e1:runeI S p=((S[p]'hlt).toNat:Int):=by unfold runeI;rw[hd]
   have e2:widN S p=1:=by unfold widN;rw[hd]
   have hnx: ∀ty,(Instr.next (.pointer (some ⟨w.heap.size,0,none⟩)) true ty).run Tryz.prog wr= .ok (.tuple #[.bool true, .int .i64 p, .int .i32 ((S[p]'hlt).toNat:Int)]) (wr.iterAt w.heap.size S (p+1)):=fun ty=>by
    have:=Lib.run_next_any_at (P:=Tryz.prog) wr w.heap.size S p ty HI.out hlt
    have h3:=e1;have h4:=e2
    unfold runeI at h3;unfold widN at h4
    rw[h3,h4] at this;exact this
   have HI2:=hid (Lib.iterAt_heap wr w.heap.size S p (p+1) HI.out)
   have HW2:=hid (Lib.below_iterAt HW.out (Nat.le_refl w.heap.size) S (p+1))
   have HM:=hid (iterPos_of HI.out)
   have t1:(((S[p]'hlt).toNat:Int)==65533)=false:=beq_eq_false_iff_ne.2 (by omega)
   clear e1 e2 hd
   go_wp2_with fail
   go_roundw
   case rel=>exact⟨p+1,by omega,HI2.out,HW2.out⟩
   case measure=>rw[iterPos_of HI2.out,HM.out];omega
  ·have hnx: ∀ty,(Instr.next (.pointer (some ⟨w.heap.size,0,none⟩)) true ty).run Tryz.prog wr= .ok (.tuple #[.bool false]) wr:=fun ty=>Lib.run_next_end_at wr _ S p ty HI.out hlt
   go_wp2_with fail
   go_ret
   exact⟨rfl,HW.out⟩
theorem indexRune_far (r:Int) (w:World) (h1:128≤r) (h2:r≤1114111) (h3:r<55296∨57343<r):
  Calls Tryz.prog 161 #[.string ⟨#[43,45,95]⟩, .int .i32 r] w fun e w'=>e= .returned (.int .i64 (-1))∧Below w.heap.size w w':=by
 by_cases h4:r=65533
 ·subst h4;exact indexRune_bad _ w (by decide) (by decide)
 ·have h5:(r==65533)=false:=beq_eq_false_iff_ne.2 h4
  go_enter Tryz.func161,Tryz.ntmps161
  go_wp2_with fail
  refine(validRune_yes r _ h1 h2 h3).mono ?_
  rintro e w' ⟨rfl,rfl⟩
  go_wp2_with fail
  go_step3
  obtain⟨n,hn,hsz,hlast⟩:=enc_far r h1 h2 h3
  obtain⟨E,hE⟩: ∃E,Utf8.encode r=E:=⟨_,rfl⟩
  rw[hE] at hsz hlast
  have HE:=hid hE;clear hE
  go_upto_region 1 with fail
  go_cut [7] (fun s7 wx=>s7= .string E∧w=wx)
  case first=>
   go_wp2_with fail
   go_meet
   exact⟨by rw[HE.out],rfl⟩
  obtain⟨rfl,rfl⟩:=hcut
  clear HE h3 h4 h5
  obtain rfl | rfl | rfl:n=2∨n=3∨n=4:=by omega
  ·have h1':1<E.size:=by omega
   have hb:=hlast (by omega)
   simp only[Nat.reduceSub] at hb
   have t1:((((⟨#[43,45,95]⟩:ByteArray)[1]'(by decide)).toNat:Int) !=((E[1]'h1').toNat:Int))=true:=bne_iff_ne.2 (by show ((45:Nat):Int)≠_;omega)
   have CI:=hid (index_none (⟨#[43,45,95]⟩:ByteArray) 2 3 (E[1]'h1') (by omega))
   have hs3:(⟨#[43,45,95]⟩:ByteArray).size=3:=rfl
   clear hlast hn
   go_wp2_with fail
   go_loopw [9] (fun s9 wr=>s9= .int .i64 1∧w=wr) (fun _ _=>0)
   case atStart=>exact⟨rfl,rfl⟩
   case round=>
    obtain⟨rfl,rfl⟩:=hrel
    go_wp2_with fail
    go_step3
    go_wp2_with fail
    go_quiet (fail)
    go_wp2_with fail
    go_quiet ((go_at_call 57;first | exact quiet_left (CI.out _) | exact quiet_add_left (CI.out _)))
    go_wp2_with fail
    show bodyPost Tryz.prog Tryz.f161 (fun e w'=>e=Ending.returned (Value.int IntKind.i64 (-1))∧Below w.heap.size w w') Exit.ret _ _
    go_ret
    exact⟨rfl,below_drewN (Below.refl _ _) _⟩
  ·have h1':2<E.size:=by omega
   have hb:=hlast (by omega)
   simp only[Nat.reduceSub] at hb
   have t1:((((⟨#[43,45,95]⟩:ByteArray)[2]'(by decide)).toNat:Int) !=((E[2]'h1').toNat:Int))=true:=bne_iff_ne.2 (by show ((95:Nat):Int)≠_;omega)
   have CI:=hid (index_none (⟨#[43,45,95]⟩:ByteArray) 3 3 (E[2]'h1') (by omega))
   have hs3:(⟨#[43,45,95]⟩:ByteArray).size=3:=rfl
   clear hlast hn
   go_wp2_with fail
   go_loopw [9] (fun s9 wr=>s9= .int .i64 2∧w=wr) (fun _ _=>0)
   case atStart=>exact⟨rfl,rfl⟩
   case round=>
    obtain⟨rfl,rfl⟩:=hrel
    go_wp2_with fail
    go_step3
    go_wp2_with fail
    go_quiet (fail)
    go_wp2_with fail
    go_quiet ((go_at_call 57;first | exact quiet_left (CI.out _) | exact quiet_add_left (CI.out _)))
    go_wp2_with fail
    show bodyPost Tryz.prog Tryz.f161 (fun e w'=>e=Ending.returned (Value.int IntKind.i64 (-1))∧Below w.heap.size w w') Exit.ret _ _
    go_ret
    exact⟨rfl,below_drewN (Below.refl _ _) _⟩
  ·have h3': ¬(3:Int)<3:=by omega
   clear hlast hn
   go_wp2_with fail
   go_loopw [9] (fun s9 wr=>s9= .int .i64 3∧w=wr) (fun _ _=>0)
   case atStart=>exact⟨rfl,rfl⟩
   case round=>
    obtain⟨rfl,rfl⟩:=hrel
    go_wp2_with fail
    rw[Exit.noGoto_ret]
    go_ret
    exact⟨rfl,Below.refl _ _⟩
theorem rune_ok (s:ByteArray) (p:Nat):runeI s p<55296∨57343<runeI s p:=by
 unfold runeI
 rw[decode_at]
 have:=decodeN_valid (s.size-p) (s.get! p).toNat (s.get! (p+1)).toNat (s.get! (p+2)).toNat (s.get! (p+3)).toNat (UInt8.toNat_lt _)
 omega
theorem indexByte_hit (l:List UInt8) (b:UInt8) (h:0≤Lib.indexByte l b):b∈l:=by
 apply Classical.byContradiction
 intro hn
 rw[indexByte_none l b (fun c hc e=>hn (e ▸ hc))] at h
 omega
def Rix (r:Int) (e:Ending):Prop:= ∃k:Int,e= .returned (.int .i64 k)∧(0≤k→r=43∨r=45∨r=95)
theorem indexRune_any (r:Int) (w:World) (h0:0≤r) (h2:r≤1114111) (h3:r<55296∨57343<r):
  Calls Tryz.prog 161 #[.string ⟨#[43,45,95]⟩, .int .i32 r] w fun e w'=>Rix r e∧Below w.heap.size w w':=by
 by_cases h1:r<128
 ·refine(Tryz.strings_IndexRune_ascii ⟨#[43,45,95]⟩ r w h0 h1).mono ?_
  rintro e w' ⟨rfl,hw⟩
  rw[hw]
  refine⟨⟨_,rfl,fun h=>?_⟩,Below.refl _ _⟩
  have hm:=indexByte_hit _ _ h
  have hr:r.toNat.toUInt8.toNat=r.toNat:=by
   rw[show r.toNat.toUInt8=UInt8.ofNat r.toNat from rfl,UInt8.toNat_ofNat']
   exact Nat.mod_eq_of_lt (by omega)
  simp only[List.mem_cons,List.not_mem_nil,or_false] at hm
  rcases hm with hm | hm | hm
  all_goals
   have h4:=congrArg UInt8.toNat hm
   rw[hr] at h4
   first | (left;have:r.toNat=43:=h4;omega) | (right;left;have:r.toNat=45:=h4;omega) | (right;right;have:r.toNat=95:=h4;omega)
 ·refine(indexRune_far r w (by omega) h2 h3).mono ?_
  rintro e w' ⟨rfl,hb⟩
  exact⟨⟨_,rfl,fun h=>by omega⟩,hb⟩
def Cont (t:ByteArray) (e:Ending):Prop:= ∃B,e= .returned (.bool B)∧(B=true→ ∃c∈t.data.toList,c.toNat=43∨c.toNat=45∨c.toNat=95)
def Idx (t:ByteArray) (e:Ending):Prop:= ∃k:Int,e= .returned (.int .i64 k)∧(0≤k→ ∃c∈t.data.toList,c.toNat=43∨c.toNat=45∨c.toNat=95)
theorem indexAny_any (t:ByteArray) (w:World) (hs:t.size≤8):
  Calls Tryz.prog 281 #[.string t, .string ⟨#[43,45,95]⟩] w fun e w'=>Idx t e∧Below w.heap.size w w':=by
 go_enter Tryz.func281,Tryz.ntmps281
 go_wp2_with fail
 refine(Tryz.strings_shouldUseASCIISet _ _).mono ?_
 rintro e w' ⟨rfl,hw⟩
 rw[hw]
 clear hw
 have hn8:decide (8<(t.size:Int))=false:=decide_eq_false (by omega)
 rw[hn8]
 go_wp2_with fail
 go_loopw [9,10] (fun _ _ wr=> ∃p:Nat,p≤t.size∧Hid (wr.heap[w.heap.size]?=some (.stringIter t p))∧Hid (Below w.heap.size w wr)) (fun _ _ wr=>t.size-wr.iterPos w.heap.size)
 case atStart=>exact⟨0,by omega,World.iter_heap w t 0,(Below.refl _ _).alloc (Nat.le_refl _) _⟩
 case round=>
  obtain⟨p,hp,HI,HW⟩:=hrel
  by_cases hlt:p<t.size
  ·have hw:=widN_bd t p hlt
   have hrb:=runeI_bd t p
   have hok:=rune_ok t p
   have hnx: ∀ty,(Instr.next (.pointer (some ⟨w.heap.size,0,none⟩)) true ty).run Tryz.prog wr= .ok (.tuple #[.bool true, .int .i64 p, .int .i32 (runeI t p)]) (wr.iterAt w.heap.size t (p+widN t p)):=fun ty=>Lib.run_next_any_at wr _ t p ty HI.out hlt
   have hz:w.heap.size<wr.heap.size:=cell_it HI.out
   have HI2:=hid (Lib.iterAt_heap wr w.heap.size t p (p+widN t p) HI.out)
   have HW2:=hid (Lib.below_iterAt HW.out (Nat.le_refl w.heap.size) t (p+widN t p))
   have HM:=hid (iterPos_of HI.out)
   have hhit:(runeI t p=43∨runeI t p=45∨runeI t p=95)→ ∃c∈t.data.toList,c.toNat=43∨c.toNat=45∨c.toNat=95:=fun h=>by
    refine⟨t[p]'hlt,Array.getElem_mem_toList _,?_⟩
    by_cases hb:(t[p]'hlt).toNat<128
    ·have hd:=decode_ascii t p hlt hb
     unfold runeI at h;rw[hd] at h;simp only[] at h;omega
    ·have hd:=(decode_high t p hlt (by omega)).1
     unfold runeI at h;omega
   have HH:=hid hhit;clear hhit
   generalize runeI t p=r at *
   generalize widN t p=wd at *
   go_wp2_with fail
   refine(indexRune_any r _ hrb.1 hrb.2 hok).mono ?_
   rintro e w2 ⟨⟨k,rfl,hk⟩,hb2⟩
   have HK:=hid hk;clear hk
   have HI3:=hid ((hb2.block w.heap.size (cell_it HI2.out)).trans HI2.out)
   have HW3:=hid (HW2.out.trans (hb2.mono HW2.out.size))
   clear hb2
   by_cases hk0:0≤k
   ·have HF:=hid (HH.out (HK.out hk0))
    go_wp2_with fail
    go_ret
    exact⟨⟨_,rfl,fun _=>HF.out⟩,HW3.out⟩
   ·go_wp2_with fail
    go_roundw
    case rel=>exact⟨p+wd,by omega,HI3.out,HW3.out⟩
    case measure=>rw[iterPos_of HI3.out,HM.out];omega
  ·have hnx: ∀ty,(Instr.next (.pointer (some ⟨w.heap.size,0,none⟩)) true ty).run Tryz.prog wr= .ok (.tuple #[.bool false]) wr:=fun ty=>Lib.run_next_end_at wr _ t p ty HI.out hlt
   go_wp2_with fail
   go_ret
   exact⟨⟨_,rfl,fun h=>by omega⟩,HW.out⟩
theorem containsAny_any (t:ByteArray) (w:World) (hs:t.size≤8):
  Calls Tryz.prog 279 #[.string t, .string ⟨#[43,45,95]⟩] w fun e w'=>Cont t e∧Below w.heap.size w w':=by
 go_enter Tryz.func279,Tryz.ntmps279
 go_wp2_with fail
 refine(indexAny_any t w hs).mono ?_
 rintro e w1 ⟨⟨k,rfl,hk⟩,hb1⟩
 have HK:=hid hk;clear hk
 by_cases hk0:0≤k
 ·have HF:=hid (HK.out hk0)
  have hd:decide (0≤k)=true:=decide_eq_true hk0
  go_wp2_with fail
  go_ret
  exact⟨⟨_,rfl,fun _=>HF.out⟩,hb1⟩
 ·have hd:decide (0≤k)=false:=decide_eq_false hk0
  go_wp2_with fail
  go_ret
  exact⟨⟨_,rfl,fun h=>by cases h⟩,hb1⟩
def SVar (w:World):Prop:= ∃tp p,w.var? Tryz.prog "strconv.ErrSyntax" =some #[.iface tp p]
theorem SVar.keep {w w':World} (h:SVar w) (hb:Below w.heap.size w w'):SVar w':=let ⟨tp,p,h⟩:=h;⟨tp,p,var_keep h hb⟩
theorem SVar.cell {w:World} (h:SVar w): ∃tp p,w.cell? ⟨4,0,none⟩=some (.iface tp p):=by
 obtain⟨tp,p,h⟩:=h
 have:=World.var?_cell (P:=Tryz.prog) (show Tryz.prog.globalNamed "strconv.ErrSyntax" =some 4 by kernel_rfl) h 0
 exact⟨tp,p,by simpa using this⟩
theorem hexGo_bad: ∀(l:List UInt8) (acc:Nat),(∃c∈l,c.toNat=43∨c.toNat=45∨c.toNat=95)→hexGo acc l=none
 | [],_,h=>by obtain⟨c,hc,_⟩:=h;cases hc
 | d::t,acc,h=>by
  obtain⟨c,hc,h3⟩:=h
  unfold hexGo
  rcases List.mem_cons.1 hc with rfl | hc
  ·have:hexN c=none:=by unfold hexN;rw[if_neg (by omega),if_neg (by omega),if_neg (by omega)]
   rw[this]
  ·cases hexN d with
   | none=>rfl
   | some e=>exact hexGo_bad t _ ⟨c,hc,h3⟩
theorem hexN_lt {c:UInt8}{d:Nat} (h:hexN c=some d):d<16:=by
 unfold hexN at h
 split at h
 ·injection h with h;omega
 ·split at h
  ·injection h with h;omega
  ·split at h
   ·injection h with h;omega
   ·cases h
theorem hexGo_lt: ∀(l:List UInt8) (acc n:Nat),hexGo acc l=some n→n<(acc+1)*16 ^ l.length
 | [],acc,n,h=>by simp only[hexGo,Option.some.injEq] at h;simp;omega
 | c::t,acc,n,h=>by
  unfold hexGo at h
  cases hc:hexN c with
  | none=>rw[hc] at h;cases h
  | some d=>
   rw[hc] at h
   have h1:=hexGo_lt t _ n h
   have h2:=hexN_lt hc
   have h3:(16*acc+d+1)*16 ^ t.length≤(16*(acc+1))*16 ^ t.length:=Nat.mul_le_mul_right _ (by omega)
   rw[List.length_cons,Nat.pow_succ]
   have h4:(16*(acc+1))*16 ^ t.length=(acc+1)*(16 ^ t.length*16):=by
    rw[Nat.mul_comm 16 (acc+1),Nat.mul_assoc,Nat.mul_comm 16]
   omega
def UintE (r:Option Nat) (e:Ending):Prop:=match r with
 | some n=>e= .returned (.tuple #[.int .u64 n, .nilIface])
 | none=> ∃N:Nat,e= .returned (.tuple #[.int .u64 0, .iface 241 (.pointer (some ⟨N,0,none⟩))])
theorem parseUint4_any (t:ByteArray) (ht:t.size=4) (w:World) (hV:SVar w):
  Calls Tryz.prog 280 #[.string t, .int .i64 16, .int .i64 32] w fun e w'=>UintE (hexGo 0 t.data.toList) e∧Below w.heap.size w w':=by
 have C:=parse16_any t ht w
 cases hx:hexGo 0 t.data.toList with
 | some n=>
  rw[hx] at C
  unfold hexEnd at C
  have HC:=hid C;clear C hx
  go_enter Tryz.func280,Tryz.ntmps280
  go_wp2_with fail
  refine HC.out.mono ?_
  rintro e w1 ⟨rfl,hb1⟩
  go_wp2_with fail
  go_ret2
  exact⟨rfl,hb1⟩
 | none=>
  rw[hx] at C
  unfold hexEnd at C
  have HC:=hid C;have HV:=hid hV;clear C hx hV
  go_enter Tryz.func280,Tryz.ntmps280
  go_wp2_with fail
  refine HC.out.mono ?_
  rintro e w1 ⟨rfl,hb1⟩
  have HB1:=hid hb1
  obtain⟨tp,p,hc⟩:=(HV.out.keep hb1).cell
  have HT:=hid (Tryz.strconv_toError_syntax ⟨#[80,97,114,115,101,85,105,110,116]⟩ t 16 32 (.iface tp p) w1 (by omega) hc (.inr ⟨tp,p,rfl⟩))
  clear hb1 hc
  go_wp2_with fail
  refine HT.out.mono ?_
  rintro e w2 ⟨N,rfl,_,_,hb2⟩
  go_wp2_with fail
  go_ret2
  exact⟨⟨N,rfl⟩,below_of_new HB1.out hb2⟩
def fourL (l:List UInt8):Option Nat:=if l.length<4 then none else hexGo 0 (l.take 4)
theorem fourL_lt {l:List UInt8}{n:Nat} (h:fourL l=some n):n<65536∧4≤l.length:=by
 unfold fourL at h
 split at h
 ·cases h
 ·have:=hexGo_lt _ _ _ h
  rw[List.length_take,Nat.min_eq_left (by omega)] at this
  omega
def FourE (r:Option Nat):Ending:=match r with
 | some n=> .returned (.tuple #[.int .i32 n, .bool true])
 | none=> .returned (.tuple #[.int .i32 0, .bool false])
theorem four_any (l:List UInt8) (w:World) (hs:l.length≤4294967296) (hV:SVar w):
  Calls Tryz.prog 277 #[.string (bs l)] w fun e w'=>e=FourE (fourL l)∧Below w.heap.size w w':=by
 have sl:=bs_size l
 have HV:=hid hV;clear hV
 by_cases h4:l.length<4
 ·have hr:fourL l=none:=by unfold fourL;rw[if_pos h4]
  rw[hr]
  go_enter Tryz.func277,Tryz.ntmps277
  go_wp2_with fail
  go_ret2
  exact⟨rfl,Below.refl _ _⟩
 ·obtain⟨R,hR⟩: ∃R,hexGo 0 (l.take 4)=R:=⟨_,rfl⟩
  have hr:fourL l=R:=by unfold fourL;rw[if_neg h4,hR]
  have ht:(bs (l.take 4)).size=4:=by rw[bs_size,List.length_take];omega
  have hbf:(bs l).extract 0 4=bs (l.take 4):=by rw[bs_front,bs_data]
  have CA:Hid (∀w,Calls Tryz.prog 279 #[.string ((bs l).extract 0 4), .string ⟨#[43,45,95]⟩] w fun e w'=>Cont (bs (l.take 4)) e∧Below w.heap.size w w'):=hid (fun w=>by rw[hbf];exact containsAny_any (bs (l.take 4)) w (by omega))
  have CP:Hid (∀w,SVar w→Calls Tryz.prog 280 #[.string ((bs l).extract 0 4), .int .i64 16, .int .i64 32] w fun e w'=>UintE R e∧Below w.heap.size w w'):=hid (fun w hV=>by
   have:=parseUint4_any (bs (l.take 4)) ht w hV
   rw[bs_data,hR] at this
   rw[hbf];exact this)
  have hlt: ∀n,R=some n→n<65536:=fun n h=>(fourL_lt (hr.trans h)).1
  rw[hr]
  have HC:Hid ((∃c∈l.take 4,c.toNat=43∨c.toNat=45∨c.toNat=95)→R=none):=fun h=>by rw[←hR];exact hexGo_bad _ _ h
  have HLt:=hid hlt
  clear hr hR ht hbf hlt
  go_enter Tryz.func277,Tryz.ntmps277
  go_wp2_with fail
  refine(CA.out _).mono ?_
  rintro e w1 ⟨⟨B,rfl,hB⟩,hb1⟩
  have HB:=hid hB;clear hB
  have HB1:=hid hb1;clear hb1
  cases B with
  | true=>
   have hn:R=none:=HC.out (by have:=HB.out rfl;rw[bs_data] at this;exact this)
   subst hn
   go_wp2_with fail
   go_ret2
   exact⟨rfl,HB1.out⟩
  | false=>
   clear HB HC
   go_wp2_with fail
   refine(CP.out _ (HV.out.keep HB1.out)).mono ?_
   rintro e w2 ⟨hE,hb2⟩
   have HB2:=hid (below_of_new HB1.out hb2);clear hb2
   cases R with
   | none=>
    obtain⟨N,rfl⟩:=hE
    go_wp2_with fail
    go_quiet (fail)
    go_wp2_with fail
    go_ret2
    exact⟨rfl,below_drewN HB2.out _⟩
   | some n=>
    have hE':e= .returned (.tuple #[.int .u64 n, .nilIface]):=hE
    subst hE'
    have hn:=HLt.out n rfl
    clear hE
    go_wp2_with fail
    go_quiet (fail)
    go_wp2_with fail
    go_ret2
    exact⟨rfl,below_drewN HB2.out _⟩
def meantI (n:Int):Int×Bool:=
 if n=34 then(34,true) else if n=92 then(92,true) else if n=47 then(47,true) else if n=98 then(8,true) else if n=102 then(12,true) else if n=110 then(10,true) else if n=114 then(13,true) else if n=116 then(9,true) else(0,false)
theorem meant_any (n:Int) (w:World) (h0:0≤n∧n≤255):
  Calls Tryz.prog 269 #[.int .u8 n] w fun e w'=>e= .returned (.tuple #[.int .i32 (meantI n).1, .bool (meantI n).2])∧w=w':=by
 obtain⟨R,hR⟩: ∃R,meantI n=R:=⟨_,rfl⟩
 rw[hR]
 unfold meantI at hR
 by_cases c1:n=34
 ·rw[if_pos c1] at hR;subst hR c1
  go_enter Tryz.func269,Tryz.ntmps269
  go_wp2_with fail
  go_ret2
  exact⟨rfl,rfl⟩
 rw[if_neg c1] at hR
 by_cases c2:n=92
 ·rw[if_pos c2] at hR;subst hR c2
  go_enter Tryz.func269,Tryz.ntmps269
  go_wp2_with fail
  go_ret2
  exact⟨rfl,rfl⟩
 rw[if_neg c2] at hR
 by_cases c3:n=47
 ·rw[if_pos c3] at hR;subst hR c3
  go_enter Tryz.func269,Tryz.ntmps269
  go_wp2_with fail
  go_ret2
  exact⟨rfl,rfl⟩
 rw[if_neg c3] at hR
 by_cases c4:n=98
 ·rw[if_pos c4] at hR;subst hR c4
  go_enter Tryz.func269,Tryz.ntmps269
  go_wp2_with fail
  go_ret2
  exact⟨rfl,rfl⟩
 rw[if_neg c4] at hR
 by_cases c5:n=102
 ·rw[if_pos c5] at hR;subst hR c5
  go_enter Tryz.func269,Tryz.ntmps269
  go_wp2_with fail
  go_ret2
  exact⟨rfl,rfl⟩
 rw[if_neg c5] at hR
 by_cases c6:n=110
 ·rw[if_pos c6] at hR;subst hR c6
  go_enter Tryz.func269,Tryz.ntmps269
  go_wp2_with fail
  go_ret2
  exact⟨rfl,rfl⟩
 rw[if_neg c6] at hR
 by_cases c7:n=114
 ·rw[if_pos c7] at hR;subst hR c7
  go_enter Tryz.func269,Tryz.ntmps269
  go_wp2_with fail
  go_ret2
  exact⟨rfl,rfl⟩
 rw[if_neg c7] at hR
 by_cases c8:n=116
 ·rw[if_pos c8] at hR;subst hR c8
  go_enter Tryz.func269,Tryz.ntmps269
  go_wp2_with fail
  go_ret2
  exact⟨rfl,rfl⟩
 rw[if_neg c8] at hR
 subst hR
 have d1:(n==34)=false:=beq_eq_false_iff_ne.2 c1
 have d2:(n==92)=false:=beq_eq_false_iff_ne.2 c2
 have d3:(n==47)=false:=beq_eq_false_iff_ne.2 c3
 have d4:(n==98)=false:=beq_eq_false_iff_ne.2 c4
 have d5:(n==102)=false:=beq_eq_false_iff_ne.2 c5
 have d6:(n==110)=false:=beq_eq_false_iff_ne.2 c6
 have d7:(n==114)=false:=beq_eq_false_iff_ne.2 c7
 have d8:(n==116)=false:=beq_eq_false_iff_ne.2 c8
 go_enter Tryz.func269,Tryz.ntmps269
 go_wp2_with fail
 go_ret2
 exact⟨rfl,rfl⟩
def uniL (l:List UInt8):Int×Int:=
 match fourL (l.drop 2) with
 | none=>(0,0)
 | some h=>if 56320≤h∧h<57344 then(0,0) else if h<55296∨57344≤h then((h:Int),6) else if Lib.hasPrefix (l.drop 6) [92,117]=false then(0,0) else
  match fourL (l.drop 8) with
  | none=>(0,0)
  | some lo=>if lo<56320∨57344≤lo then(0,0) else(65536+((h:Int)-55296)*1024+lo-56320,12)
def RW (r:Int×Int):Ending:= .returned (.tuple #[.int .i32 r.1, .int .i64 r.2])
theorem hasPrefix_len {l p:List UInt8} (h:Lib.hasPrefix l p=true):p.length≤l.length:=by
 unfold Lib.hasPrefix at h
 exact(List.isPrefixOf_iff_prefix.1 h).length_le
theorem unicode_any (l:List UInt8) (w:World) (h2:2≤l.length) (hs:l.length≤4294967296) (hV:SVar w):
  Calls Tryz.prog 270 #[.string (bs l)] w fun e w'=>e=RW (uniL l)∧Below w.heap.size w w':=by
 have sl:=bs_size l
 have C1:Hid (∀w,SVar w→Calls Tryz.prog 277 #[.string ((bs l).extract 2 l.length)] w fun e w'=>e=FourE (fourL (l.drop 2))∧Below w.heap.size w w'):=hid (fun w h=>by rw[bs_from _ _ _ rfl];exact four_any (l.drop 2) w (by rw[List.length_drop];omega) h)
 have HV:=hid hV;clear hV
 obtain⟨R,hR⟩: ∃R,uniL l=R:=⟨_,rfl⟩
 rw[hR]
 unfold uniL at hR
 cases h1:fourL (l.drop 2) with
 | none=>
  rw[h1] at hR C1
  simp only[] at hR
  subst hR
  go_enter Tryz.func270,Tryz.ntmps270
  go_wp2_with fail
  refine(C1.out _ HV.out).mono ?_
  unfold FourE
  rintro e w1 ⟨rfl,hb1⟩
  go_wp2_with fail
  go_ret2
  exact⟨rfl,hb1⟩
 | some h=>
  rw[h1] at hR C1
  simp only[] at hR
  obtain⟨hlt,hlen⟩:=fourL_lt h1
  rw[List.length_drop] at hlen
  unfold FourE at C1
  obtain⟨H,hH⟩: ∃H:Int,(h:Int)=H:=⟨_,rfl⟩
  simp only[hH] at C1 hR
  have HB:0≤H∧H<65536:=by omega
  by_cases g1:56320≤h∧h<57344
  ·rw[if_pos g1] at hR;subst hR
   have ga:56320≤H:=by omega
   have gb:H<57344:=by omega
   clear g1 hH hlt h1
   go_enter Tryz.func270,Tryz.ntmps270
   go_wp2_with fail
   refine(C1.out _ HV.out).mono ?_
   rintro e w1 ⟨rfl,hb1⟩
   go_wp2_with fail
   go_ret2
   exact⟨rfl,hb1⟩
  rw[if_neg g1] at hR
  by_cases g2:h<55296∨57344≤h
  ·rw[if_pos g2] at hR;subst hR
   have g2':H<55296∨57344≤H:=by omega
   clear g1 g2 hH hlt h1
   rcases g2' with g2 | g2
   all_goals
    go_enter Tryz.func270,Tryz.ntmps270
    go_wp2_with fail
    refine(C1.out _ HV.out).mono ?_
    rintro e w1 ⟨rfl,hb1⟩
    go_wp2_with fail
    go_ret2
    exact⟨rfl,hb1⟩
  rw[if_neg g2] at hR
  have ga:55296≤H:=by omega
  have gb:H<56320:=by omega
  clear g1 g2 hH hlt h1
  obtain⟨P,hP⟩: ∃P,Lib.hasPrefix (l.drop 6) [92,117]=P:=⟨_,rfl⟩
  rw[hP] at hR
  have CP:Hid (∀w,Calls Tryz.prog 88 #[.string ((bs l).extract 6 l.length), .string ⟨#[92,117]⟩] w fun e w'=>e= .returned (.bool P)∧w=w'):=hid (fun w=>by
   have:=Tryz.strings_HasPrefix ((bs l).extract 6 l.length) ⟨#[92,117]⟩ w
   rw[bs_from _ _ _ rfl,bs_data,show (⟨#[92,117]⟩:ByteArray).data.toList= [92,117] from rfl,hP] at this
   rw[bs_from _ _ _ rfl]
   exact this.mono fun _ _ ⟨a,b⟩=>⟨a,b.symm⟩)
  cases P with
  | false=>
   rw[if_pos rfl] at hR;subst hR
   clear hP
   go_enter Tryz.func270,Tryz.ntmps270
   go_wp2_with fail
   refine(C1.out _ HV.out).mono ?_
   rintro e w1 ⟨rfl,hb1⟩
   go_wp2_with (go_at_call 88;refine(CP.out _).mono ?_;rintro e w' ⟨rfl,rfl⟩)
   go_ret2
   exact⟨rfl,hb1⟩
  | true=>
   rw[if_neg (by simp)] at hR
   have hl8:8≤l.length:=by have:=hasPrefix_len hP;rw[List.length_drop] at this;simp at this;omega
   have C2:Hid (∀w,SVar w→Calls Tryz.prog 277 #[.string ((bs l).extract 8 l.length)] w fun e w'=>e=FourE (fourL (l.drop 8))∧Below w.heap.size w w'):=hid (fun w h=>by rw[bs_from _ _ _ rfl];exact four_any (l.drop 8) w (by rw[List.length_drop];omega) h)
   clear hP
   cases h3:fourL (l.drop 8) with
   | none=>
    rw[h3] at hR C2
    simp only[] at hR
    subst hR
    unfold FourE at C2
    go_enter Tryz.func270,Tryz.ntmps270
    go_wp2_with fail
    refine(C1.out _ HV.out).mono ?_
    rintro e w1 ⟨rfl,hb1⟩
    have HB1:=hid hb1;clear hb1
    go_wp2_with (go_at_call 88;refine(CP.out _).mono ?_;rintro e w' ⟨rfl,rfl⟩)
    refine(C2.out _ (HV.out.keep HB1.out)).mono ?_
    rintro e w2 ⟨rfl,hb2⟩
    go_wp2_with fail
    go_ret2
    exact⟨rfl,below_of_new HB1.out hb2⟩
   | some lo=>
    rw[h3] at hR C2
    simp only[] at hR
    obtain⟨hlt2,_⟩:=fourL_lt h3
    unfold FourE at C2
    obtain⟨L,hL⟩: ∃L:Int,(lo:Int)=L:=⟨_,rfl⟩
    simp only[hL] at C2 hR
    have LB:0≤L∧L<65536:=by omega
    by_cases g3:lo<56320∨57344≤lo
    ·rw[if_pos g3] at hR;subst hR
     have g3':L<56320∨57344≤L:=by omega
     clear g3 hL hlt2 h3
     rcases g3' with g3 | g3
     all_goals
      go_enter Tryz.func270,Tryz.ntmps270
      go_wp2_with fail
      refine(C1.out _ HV.out).mono ?_
      rintro e w1 ⟨rfl,hb1⟩
      have HB1:=hid hb1;clear hb1
      go_wp2_with (go_at_call 88;refine(CP.out _).mono ?_;rintro e w' ⟨rfl,rfl⟩)
      refine(C2.out _ (HV.out.keep HB1.out)).mono ?_
      rintro e w2 ⟨rfl,hb2⟩
      go_wp2_with fail
      go_ret2
      exact⟨rfl,below_of_new HB1.out hb2⟩
    ·rw[if_neg g3] at hR;subst hR
     have gc:56320≤L:=by omega
     have gd:L<57344:=by omega
     clear g3 hL hlt2 h3
     go_enter Tryz.func270,Tryz.ntmps270
     go_wp2_with fail
     refine(C1.out _ HV.out).mono ?_
     rintro e w1 ⟨rfl,hb1⟩
     have HB1:=hid hb1;clear hb1
     go_wp2_with (go_at_call 88;refine(CP.out _).mono ?_;rintro e w' ⟨rfl,rfl⟩)
     refine(C2.out _ (HV.out.keep HB1.out)).mono ?_
     rintro e w2 ⟨rfl,hb2⟩
     go_wp2_with fail
     go_ret2
     exact⟨rfl,below_of_new HB1.out hb2⟩
theorem at_bs (l:List UInt8) (k:Nat) (h:k<(bs l).size):l[k]?=some ((bs l)[k]'h):=by
 have hk:k<l.length:=by rw[←bs_size l];exact h
 rw[List.getElem?_eq_getElem hk]
 simp[bs,ByteArray.getElem_eq_getElem_data]
def escL (l:List UInt8):Int×Int:=
 match l[1]? with
 | some c=>if(meantI c.toNat).2 then((meantI c.toNat).1,2) else if c.toNat=117 then uniL l else(0,0)
 | none=>(0,0)
theorem escape_any (l:List UInt8) (w:World) (hs:l.length≤4294967296) (hV:SVar w):
  Calls Tryz.prog 258 #[.string (bs l)] w fun e w'=>e=RW (escL l)∧Below w.heap.size w w':=by
 have sl:=bs_size l
 have HV:=hid hV;clear hV
 obtain⟨R,hR⟩: ∃R,escL l=R:=⟨_,rfl⟩
 rw[hR]
 by_cases h2:l.length<2
 ·have hr:R=(0,0):=by
   rw[←hR];unfold escL;rw[List.getElem?_eq_none (by omega)]
  subst hr
  clear hR
  go_enter Tryz.func258,Tryz.ntmps258
  go_wp2_with fail
  go_ret2
  exact⟨rfl,Below.refl _ _⟩
 ·have h1':1<(bs l).size:=by omega
  obtain⟨c,hc⟩: ∃c,(bs l)[1]'h1'=c:=⟨_,rfl⟩
  have hR2:(if(meantI c.toNat).2 then((meantI c.toNat).1,2) else if c.toNat=117 then uniL l else(0,0))=R:=by
   rw[←hR];unfold escL;rw[at_bs l 1 h1',hc]
  obtain⟨M,hM⟩: ∃M,meantI c.toNat=M:=⟨_,rfl⟩
  obtain⟨mc,mb⟩:=M
  rw[hM] at hR2
  simp only[] at hR2
  have CM:Hid (∀w,Calls Tryz.prog 269 #[.int .u8 (c.toNat:Int)] w fun e w'=>e= .returned (.tuple #[.int .i32 mc, .bool mb])∧w=w'):=hid (fun w=>by
   have:=meant_any (c.toNat:Int) w ⟨by omega,by have:=c.toNat_lt;omega⟩
   rw[hM] at this;exact this)
  have CU:=hid (fun w h=>unicode_any l w (by omega) hs h)
  clear hR hM
  cases mb with
  | true=>
   rw[if_pos rfl] at hR2;subst hR2
   go_enter Tryz.func258,Tryz.ntmps258
   go_wp2_with fail
   refine(CM.out _).mono ?_
   rintro e w' ⟨rfl,rfl⟩
   go_wp2_with fail
   go_ret2
   exact⟨rfl,Below.refl _ _⟩
  | false=>
   rw[if_neg (by simp)] at hR2
   by_cases hu:c.toNat=117
   ·rw[if_pos hu] at hR2
    have t1:((c.toNat:Int)==117)=true:=beq_iff_eq.2 (by omega)
    obtain⟨ra,rb⟩:=R
    rw[hR2] at CU
    clear hu hR2
    unfold RW at CU
    go_enter Tryz.func258,Tryz.ntmps258
    go_wp2_with fail
    refine(CM.out _).mono ?_
    rintro e w' ⟨rfl,rfl⟩
    go_wp2_with fail
    refine(CU.out _ HV.out).mono ?_
    rintro e w1 ⟨rfl,hb1⟩
    go_wp2_with fail
    go_ret2
    exact⟨rfl,hb1⟩
   ·rw[if_neg hu] at hR2;subst hR2
    have t1:((c.toNat:Int)==117)=false:=beq_eq_false_iff_ne.2 (by omega)
    clear hu
    go_enter Tryz.func258,Tryz.ntmps258
    go_wp2_with fail
    refine(CM.out _).mono ?_
    rintro e w' ⟨rfl,rfl⟩
    go_wp2_with fail
    go_ret2
    exact⟨rfl,Below.refl _ _⟩
def plainB (d:Nat×Nat):Bool:=decide (d.1<32)||(d.1==65533&&d.2==1)
def partL (l:List UInt8):Int×Int:=
 if l.head?=some 92 then escL l else if plainB (Lib.decodeL l) then(0,0) else(((Lib.decodeL l).1:Int),((Lib.decodeL l).2:Int))
theorem decodeGo_L (l:List UInt8) (h:l≠ []):Lib.decodeGo (bs l)=Lib.decodeL l:=by
 have h1:=decodeL_drop (bs l) 0
 rw[bs_data,List.drop_zero] at h1
 rw[h1]
 unfold Lib.decodeGo
 rw[if_neg]
 rw[bs_size]
 intro e
 exact h (List.eq_nil_of_length_eq_zero (by omega))
theorem part_any (l:List UInt8) (w:World) (hne:l≠ []) (hs:l.length≤4294967296) (hV:SVar w) (hT:Tabs w):
  Calls Tryz.prog 229 #[.string (bs l)] w fun e w'=>e=RW (partL l)∧Below w.heap.size w w':=by
 have sl:=bs_size l
 have HV:=hid hV;clear hV
 obtain⟨R,hR⟩: ∃R,partL l=R:=⟨_,rfl⟩
 rw[hR]
 unfold partL at hR
 have h0:0<(bs l).size:=by rw[bs_size];cases l with | nil=>exact absurd rfl hne | cons _ _=>simp
 have hT0:=head_is l 92 92 rfl h0
 by_cases hb:l.head?=some 92
 ·rw[if_pos hb] at hR
  have t1:(((bs l)[0]'h0).toNat:Int)==92:=by rw[hT0,hb];rfl
  have CE:=hid (fun w h=>escape_any l w hs h)
  obtain⟨ra,rb⟩:=R
  rw[hR] at CE
  unfold RW at CE
  clear hR hb hT0 hne hT
  go_enter Tryz.func229,Tryz.ntmps229
  go_wp2_with fail
  refine(CE.out _ HV.out).mono ?_
  rintro e w1 ⟨rfl,hb1⟩
  go_wp2_with fail
  go_ret2
  exact⟨rfl,hb1⟩
 ·rw [if_neg hb] at hR
  have t1:((((bs l)[0]'h0).toNat:Int)==92)=false:=by rw[hT0];exact beq_eq_false_iff_ne.2 hb
  have CD:=Tryz.utf8_DecodeRuneInString (bs l) w hT
  rw[decodeGo_L l hne] at CD
  obtain⟨d,hd⟩: ∃d,Lib.decodeL l=d:=⟨_,rfl⟩
  have hbd:(d.1:Int)≤1114111:=by
   have h1:=decodeL_drop (bs l) 0
   rw[bs_data,List.drop_zero,hd] at h1
   rw[h1]
   have:=(runeI_bd (bs l) 0).2
   exact this
  rw[hd] at CD hR
  obtain⟨c,z⟩:=d
  unfold plainB at hR
  simp only[] at hR CD hbd
  have HC:=hid CD
  clear CD hd hT0 hb hne hT HV
  obtain⟨C,hC⟩: ∃C:Int,(c:Int)=C:=⟨_,rfl⟩
  obtain⟨Z,hZ⟩: ∃Z:Int,(z:Int)=Z:=⟨_,rfl⟩
  by_cases g1:c<32
  ·rw[decide_eq_true g1,Bool.true_or,if_pos rfl] at hR;subst hR
   have ga:C<32:=by omega
   simp only[hC,hZ] at HC
   clear hC hZ g1 hbd
   go_enter Tryz.func229,Tryz.ntmps229
   go_wp2_with fail
   refine HC.out.mono ?_
   rintro e w1 ⟨rfl,hb1⟩
   go_wp2_with fail
   go_ret2
   exact⟨rfl,hb1⟩
  ·rw[decide_eq_false g1,Bool.false_or] at hR
   have ga: ¬C<32:=by omega
   by_cases g2:c=65533
   ·have t2:(C==65533)=true:=beq_iff_eq.2 (by omega)
    by_cases g3:z=1
    ·rw[if_pos (by simp[g2,g3])] at hR;subst hR
     have t3:(Z==1)=true:=beq_iff_eq.2 (by omega)
     simp only[hC,hZ] at HC
     clear hC hZ g1 g2 g3 hbd
     go_enter Tryz.func229,Tryz.ntmps229
     go_wp2_with fail
     refine HC.out.mono ?_
     rintro e w1 ⟨rfl,hb1⟩
     go_wp2_with fail
     go_ret2
     exact⟨rfl,hb1⟩
    ·rw[if_neg (by simp[g2,g3])] at hR;subst hR
     have t3:(Z==1)=false:=beq_eq_false_iff_ne.2 (by omega)
     simp only[hC,hZ] at HC ⊢
     clear hC hZ g1 g2 g3 hbd
     go_enter Tryz.func229,Tryz.ntmps229
     go_wp2_with fail
     refine HC.out.mono ?_
     rintro e w1 ⟨rfl,hb1⟩
     go_wp2_with fail
     go_ret2
     exact⟨rfl,hb1⟩
   ·have t2:(C==65533)=false:=beq_eq_false_iff_ne.2 (by omega)
    rw[if_neg (by simp[g2])] at hR;subst hR
    simp only[hC,hZ] at HC ⊢
    clear hC hZ g1 g2 hbd
    go_enter Tryz.func229,Tryz.ntmps229
    go_wp2_with fail
    refine HC.out.mono ?_
    rintro e w1 ⟨rfl,hb1⟩
    go_wp2_with fail
    go_ret2
    exact⟨rfl,hb1⟩
end Go.Proofs.YtlibkhbachmcgaaGreatDoor
namespace Go.Proofs
open Go.Shelf
def Tryz.laysB168_ren:Go.Shelf.Ren:=⟨fun | 168=>141 | 240=>117 | 242=>179 | 276=>162 | 278=>215 | n=>n,fun | 0=>0 | 3=>3 | 4=>4 | 5=>5 | 9=>9 | 20=>20 | 21=>21 | 37=>83 | 46=>157 | 51=>218 | 53=>196 | 70=>104 | 72=>106 | 75=>109 | 80=>112 | 164=>174 | 127=>142 | n=>n,fun | n=>n⟩
theorem Tryz.laysB168:Go.Proofs.Lays.n168 Tryz.prog Tryz.laysB168_ren:= {
 mixed:=by kernel_rfl
 f168:=Tryz.func141.trans (congrArg some (by kernel_rfl))
 f240:=Tryz.func117.trans (congrArg some (by kernel_rfl))
 f242:=Tryz.func179.trans (congrArg some (by kernel_rfl))
 f276:=Tryz.func162.trans (congrArg some (by kernel_rfl))
 f278:=Tryz.func215.trans (congrArg some (by kernel_rfl))
 t0:=Tryz.underlying0
 a0:=Tryz.isAgg0
 z0:=Tryz.sizeOf0
 v0:=Tryz.zeroValue0
 t3:=Tryz.underlying3
 a3:=Tryz.isAgg3
 z3:=Tryz.sizeOf3
 v3:=Tryz.zeroValue3
 t4:=Tryz.underlying4
 a4:=Tryz.isAgg4
 z4:=Tryz.sizeOf4
 v4:=Tryz.zeroValue4
 t5:=Tryz.underlying5
 a5:=Tryz.isAgg5
 z5:=Tryz.sizeOf5
 v5:=Tryz.zeroValue5
 t9:=Tryz.underlying9
 a9:=Tryz.isAgg9
 z9:=Tryz.sizeOf9
 v9:=Tryz.zeroValue9
 t20:=Tryz.underlying20
 a20:=Tryz.isAgg20
 z20:=Tryz.sizeOf20
 v20:=Tryz.zeroValue20
 t21:=Tryz.underlying21
 a21:=Tryz.isAgg21
 z21:=Tryz.sizeOf21
 v21:=Tryz.zeroValue21
 t37:=Tryz.underlying83
 a37:=Tryz.isAgg83
 z37:=Tryz.sizeOf83
 v37:=Tryz.zeroValue83
 t46:=Tryz.underlying157
 a46:=Tryz.isAgg157
 z46:=Tryz.sizeOf157
 v46:=Tryz.zeroValue157
 t51:=Tryz.underlying218
 a51:=Tryz.isAgg218
 z51:=Tryz.sizeOf218
 v51:=Tryz.zeroValue218
 t70:=Tryz.underlying104
 a70:=Tryz.isAgg104
 z70:=Tryz.sizeOf104
 v70:=Tryz.zeroValue104
 t72:=Tryz.underlying106
 a72:=Tryz.isAgg106
 z72:=Tryz.sizeOf106
 v72:=Tryz.zeroValue106
 t75:=Tryz.underlying109
 a75:=Tryz.isAgg109
 z75:=Tryz.sizeOf109
 v75:=Tryz.zeroValue109
 t164:=Tryz.underlying174
 a164:=Tryz.isAgg174
 z164:=Tryz.sizeOf174
 v164:=Tryz.zeroValue174
}
theorem Tryz.BuilderB168_Extra:Builder.Extra Tryz.prog Tryz.laysB168_ren where
 sizeBuilder:=by kernel_rfl
 liesBuilder:=by kernel_rfl
 t5:=Tryz.underlying5
 a5:=Tryz.isAgg5
 z5:=Tryz.sizeOf5
 v5:=Tryz.zeroValue5
 infoByte:=by kernel_rfl
 cellsByte:=by kernel_rfl
 sizeByte:=by kernel_rfl
 neB5:=by decide
namespace YtlibkhbachmcgaaGreatDoor
open Go.RowKit
def Bld (B b:Nat) (l:List UInt8) (w:World):Prop:=Lib.IsBuilderF 106 5 B b (Lib.byteCells l) w
theorem Bld.new (w:World):Bld w.heap.size w.heap.size [] (w.alloc (.cells #[.pointer none, .slice none 0 0] 106)):=Lib.IsBuilderF.of (Lib.fresh_isBuilder 106 5 w)
theorem Bld.keep {B b:Nat}{l:List UInt8}{w w':World} (h:Bld B b l w) (hb:Below w.heap.size w w'):Bld B b l w':=Lib.IsBuilderF.below h hb
theorem writeRune_any (B b:Nat) (l:List UInt8) (r:Int) (w:World) (h:Bld B b l w) (hr:0≤r∧r≤1114111) (hl:l.length≤4294967296) (hB:B≤w.heap.size):
  Calls Tryz.prog 141 #[.pointer (some ⟨b,0,none⟩), .int .i32 r] w fun e w'=>e= .returned (.tuple #[.int .i64 (Lib.runeCells r).length, .nilIface])∧Bld B b (l++Lib.encodeRune r) w'∧Below B w w'∧Lib.OthersKept 5 (some b) w w':=
 (Any.Builder_WriteRune_k Tryz.laysB168 Tryz.BuilderB168_Extra B b _ r (by omega) (by omega) w h (by rw[Lib.byteCells_length];omega) hB).mono fun _ _ ⟨h1,h2,h3,h4⟩=>⟨h1,by unfold Bld;rw[Lib.byteCells_append,Lib.byteCells_encodeRune];exact Or.inr h2,h3,h4⟩
end YtlibkhbachmcgaaGreatDoor
end Go.Proofs
namespace Go.Proofs
open Go.Shelf
namespace YtlibkhbachmcgaaGreatDoor
open Go.RowKit
end YtlibkhbachmcgaaGreatDoor
end Go.Proofs
namespace Go.Proofs
open Go.Shelf
namespace YtlibkhbachmcgaaGreatDoor
open Go.RowKit
end YtlibkhbachmcgaaGreatDoor
end Go.Proofs
namespace Go.Proofs.YtlibkhbachmcgaaGreatDoor
set_option linter.unusedSimpArgs false
set_option linter.unusedVariables false
open Go.RowKit
open Go.Lib hiding intOf
def readGo:Nat→List UInt8→Nat→List UInt8→List UInt8×Int×Int
 | 0,_,i,_=>([],(i:Int),2)
 | _+1,[],i,_=>([],(i:Int),2)
 | f+1,c::r,i,acc=>if c=34 then(acc,(i:Int)+1,0) else if(partL (c::r)).2=0 then([],(i:Int),2) else
  readGo f ((c::r).drop (partL (c::r)).2.toNat) (i+(partL (c::r)).2.toNat) (acc++Lib.encodeRune (partL (c::r)).1)
def readL (l:List UInt8) (at':Int):List UInt8×Int×Int:=
 if 0≤at'∧l[at'.toNat]?=some 34 then readGo (l.length+1) (l.drop (at'.toNat+1)) (at'.toNat+1) [] else([],at',2)
def ReadE (r:List UInt8×Int×Int):Ending:= .returned (.tuple #[.string (bs r.1), .int .i64 r.2.1, .int .i64 r.2.2])
theorem uniL_bd (l:List UInt8):0≤(uniL l).1∧(uniL l).1≤1114111∧((uniL l).2=0∨(1≤(uniL l).2∧(uniL l).2≤l.length)):=by
 unfold uniL
 cases h1:fourL (l.drop 2) with
 | none=>simp
 | some h=>
  obtain⟨h2,h3⟩:=fourL_lt h1
  rw[List.length_drop] at h3
  simp only[]
  split
  ·simp
  ·split
   ·simp only[];omega
   ·split
    ·simp
    ·cases h4:fourL (l.drop 8) with
     | none=>simp
     | some lo=>
      obtain⟨h5,h6⟩:=fourL_lt h4
      rw[List.length_drop] at h6
      simp only[]
      split
      ·simp
      ·simp only[];omega
theorem meantI_bd (n:Int):0≤(meantI n).1∧(meantI n).1≤1114111:=by
 unfold meantI
 repeat' split
 all_goals simp
theorem partL_bd (l:List UInt8) (hne:l≠ []):0≤(partL l).1∧(partL l).1≤1114111∧((partL l).2=0∨(1≤(partL l).2∧(partL l).2≤l.length)):=by
 unfold partL
 split
 ·unfold escL
  cases h:l[1]? with
  | none=>simp
  | some c=>
   have hl:1<l.length:=(List.getElem?_eq_some_iff.1 h).1
   have hm:=meantI_bd c.toNat
   simp only[]
   split
   ·simp only[];omega
   ·split
    ·exact uniL_bd l
    ·simp
 ·split
  ·simp
  ·have h1:=decodeL_drop (bs l) 0
   rw[bs_data,List.drop_zero] at h1
   have hb:=runeI_bd (bs l) 0
   have hp:0<(bs l).size:=by rw[bs_size];cases l with | nil=>exact absurd rfl hne | cons _ _=>simp
   have hw:=widN_bd (bs l) 0 hp
   have sl:=bs_size l
   unfold runeI at hb
   unfold widN at hw
   rw[h1]
   simp only[]
   omega
theorem qread_any (l:List UInt8) (a:Nat) (w:World) (hs:l.length≤1073741824) (ha:a≤l.length) (hV:SVar w) (hT:Tabs w):
  Calls Tryz.prog 192 #[.string (bs l), .int .i64 a] w fun e w'=>e=ReadE (readL l a)∧Below w.heap.size w w':=by
 have sl:=bs_size l
 obtain⟨R,hR⟩: ∃R,readL l a=R:=⟨_,rfl⟩
 rw[hR]
 unfold readL at hR
 rw[Int.toNat_natCast] at hR
 have HV:=hid hV;have HT:=hid hT;clear hV hT
 by_cases h34:l[a]?=some 34
 ·rw [if_pos ⟨by omega,h34⟩] at hR
  have hal:a<l.length:=(List.getElem?_eq_some_iff.1 h34).1
  have hal':a<(bs l).size:=by omega
  have t1:((((bs l)[a]'hal').toNat:Int) !=34)=false:=by
   have:=at_bs l a hal'
   rw[h34] at this
   have h2:(bs l)[a]'hal'=34:=by simpa using this.symm
   rw[h2];rfl
  have d1:decide (l.length≤a)=false:=decide_eq_false (by omega)
  have HR:=hid hR;clear hR h34
  go_enter Tryz.func192,Tryz.ntmps192
  go_wp2_with fail
  go_loopw [1,8,9] (fun s1 _ _ wr=> ∃(i f:Nat) (acc:List UInt8),s1= .int .i64 i∧i≤l.length∧acc.length≤4*i∧l.length<i+f∧Hid (readGo f (l.drop i) i acc=R)∧Hid (Bld w.heap.size w.heap.size acc wr)∧Hid (Below w.heap.size w wr)) (fun s1 _ _ _=>l.length-(RowKit.intOf s1).toNat)
  case atStart=>exact⟨a+1,l.length+1,[],by go_num,by omega,by simp,by omega,HR.out,Bld.new w,below_alloc1 w _⟩
  case round=>
   obtain⟨i,f,acc,rfl,hi,hacc,hf,HG,HBd,HW⟩:=hrel
   obtain⟨g,rfl⟩: ∃g,f=g+1:=⟨f-1,by omega⟩
   by_cases hlt:i<l.length
   ·have hlt':i<(bs l).size:=by omega
    have hdr:l.drop i=l[i]'hlt::l.drop (i+1):=List.drop_eq_getElem_cons hlt
    have hge:=at_bs l i hlt'
    rw[List.getElem?_eq_getElem hlt] at hge
    have hge2:(bs l)[i]'hlt'=l[i]'hlt:=by simpa using hge.symm
    have T34:=byte_eq ((bs l)[i]'hlt') 34 34 rfl
    have hg:=HG.out
    rw[hdr] at hg
    unfold readGo at hg
    rw[←hdr,←hge2] at hg
    clear HG
    by_cases hq:(bs l)[i]'hlt'=34
    ·rw[if_pos hq] at hg
     have HF:=hid hg
     rw[beq_iff_eq.2 hq] at T34
     clear hg hdr hge hge2 hq
     go_wp2_with fail
     refine(Tryz.Builder_String_any_k w.heap.size w.heap.size acc _ HBd.out HW.out.size).mono ?_
     rintro e W1 ⟨rfl,_,b1,_⟩
     go_wp2_with fail
     go_ret3
     exact⟨by rw[←HF.out];rfl,HW.out.trans b1⟩
    ·rw[if_neg hq] at hg
     rw[beq_eq_false_iff_ne.2 hq] at T34
     have hne:l.drop i≠ []:=by rw[hdr];exact List.cons_ne_nil _ _
     have hpb:=partL_bd (l.drop i) hne
     rw[List.length_drop] at hpb
     obtain⟨P,hP⟩: ∃P,partL (l.drop i)=P:=⟨_,rfl⟩
     obtain⟨rn,wd⟩:=P
     have CP:Hid (∀w,SVar w→Tabs w→Calls Tryz.prog 229 #[.string ((bs l).extract i l.length)] w fun e w'=>e= .returned (.tuple #[.int .i32 rn, .int .i64 wd])∧Below w.heap.size w w'):=hid (fun w h1 h2=>by
      have:=part_any (l.drop i) w hne (by rw[List.length_drop];omega) h1 h2
      rw[hP] at this
      rw[bs_from _ _ _ rfl];exact this)
     rw[hP] at hg hpb
     simp only[] at hg hpb
     obtain⟨p0,p1,p2⟩:=hpb
     have hz:w.heap.size≤wr.heap.size:=HW.out.size
     clear hdr hge hge2 hq hne hP
     by_cases hw0:wd=0
     ·rw[if_pos hw0] at hg
      have HF:=hid hg
      subst hw0
      clear hg p2
      go_wp2_with fail
      refine(CP.out _ (HV.out.keep HW.out) (HT.out.keep HW.out)).mono ?_
      rintro e w1 ⟨rfl,hb1⟩
      go_wp2_with fail
      go_ret3
      exact⟨by rw[←HF.out];rfl,HW.out.trans (hb1.mono hz)⟩
     ·rw[if_neg hw0] at hg
      obtain⟨N,rfl⟩: ∃N:Nat,wd=N:=⟨wd.toNat,by omega⟩
      rw[Int.toNat_natCast,List.drop_drop] at hg
      have hN:1≤N∧N≤l.length-i:=by omega
      have hl4:=Lib.runeCells_le rn
      rw[Lib.runeCells_length] at hl4
      have hw1:((N:Int)==0)=false:=beq_eq_false_iff_ne.2 hw0
      have HG2:=hid hg
      clear hg hw0 p2
      go_wp2_with fail
      refine(CP.out _ (HV.out.keep HW.out) (HT.out.keep HW.out)).mono ?_
      rintro e w1 ⟨rfl,hb1⟩
      have HBd1:=hid (HBd.out.keep hb1)
      have HW1:=hid (HW.out.trans (hb1.mono hz))
      clear hb1
      go_wp2_with fail
      refine(writeRune_any w.heap.size w.heap.size acc rn _ HBd1.out ⟨p0,p1⟩ (by omega) HW1.out.size).mono ?_
      rintro e w2 ⟨rfl,h2,b2,_⟩
      have HBd2:=hid h2
      have HW2:=hid (HW1.out.trans b2)
      clear h2 b2
      go_wp2_with fail
      go_roundw
      case rel=>exact⟨i+N,g,acc++Lib.encodeRune rn,by go_num,by omega,by rw[List.length_append];omega,by omega,HG2.out,HBd2.out,HW2.out⟩
      case measure=>simp[RowKit.intOf];omega
   ·have hg:=HG.out
    rw[List.drop_of_length_le (by omega)] at hg
    have HF:=hid (show ([],(i:Int),2)=R from hg)
    obtain rfl:i=l.length:=by omega
    clear hg HG
    go_wp2_with fail
    go_ret3
    exact⟨by rw[←HF.out];rfl,HW.out⟩
 ·rw[if_neg (fun h=>h34 h.2)] at hR
  subst hR
  by_cases hal:a<l.length
  ·have hal':a<(bs l).size:=by omega
   have t1:((((bs l)[a]'hal').toNat:Int) !=34)=true:=by
    rw[bne_iff_ne]
    intro h
    apply h34
    rw[at_bs l a hal']
    have:((bs l)[a]'hal')=34:=UInt8.toNat_inj.1 (by show _=34;omega)
    rw[this]
   clear h34
   go_enter Tryz.func192,Tryz.ntmps192
   go_wp2_with fail
   go_ret3
   exact⟨rfl,Below.refl _ _⟩
  ·clear h34
   go_enter Tryz.func192,Tryz.ntmps192
   go_wp2_with fail
   go_ret3
   exact⟨rfl,Below.refl _ _⟩
def unqL (l:List UInt8):List UInt8×Int×Int:=
 if(readL l 0).2.2=0∧(readL l 0).2.1<l.length then([],(readL l 0).2.1,2) else readL l 0
def endL (l:List UInt8) (a:Int):Int×Int:=if a<0∨(l.length:Int)<a then(0,2) else((readL l a).2.1,(readL l a).2.2)
theorem end_any (l:List UInt8) (a:Int) (w:World) (hs:l.length≤1073741824) (hV:SVar w) (hT:Tabs w):
  Calls Tryz.prog 224 #[.string (bs l), .int .i64 a] w fun e w'=>e= .returned (.tuple #[.int .i64 (endL l a).1, .int .i64 (endL l a).2])∧Below w.heap.size w w':=by
 have sl:=bs_size l
 unfold endL
 by_cases h:a<0∨(l.length:Int)<a
 ·rw[if_pos h]
  rcases h with h | h
  all_goals
   go_enter Tryz.func224,Tryz.ntmps224
   go_wp2_with fail
   go_ret2
   exact⟨rfl,Below.refl _ _⟩
 ·rw[if_neg h]
  have h1:0≤a:=by omega
  have h2:a≤l.length:=by omega
  have C:=qread_any l a.toNat w hs (by omega) hV hT
  rw[show ((a.toNat:Nat):Int)=a by omega] at C
  obtain⟨R,hR⟩: ∃R,readL l a=R:=⟨_,rfl⟩
  obtain⟨s,k,er⟩:=R
  rw[hR] at C ⊢
  have HC:=hid C
  clear C hR hV hT h
  go_enter Tryz.func224,Tryz.ntmps224
  go_wp2_with fail
  refine HC.out.mono ?_
  unfold ReadE
  rintro e w1 ⟨rfl,hb1⟩
  go_wp2_with fail
  go_ret2
  exact⟨rfl,hb1⟩
theorem unquote_any (l:List UInt8) (w:World) (hs:l.length≤1073741824) (hV:SVar w) (hT:Tabs w):
  Calls Tryz.prog 158 #[.string (bs l)] w fun e w'=>e=ReadE (unqL l)∧Below w.heap.size w w':=by
 have sl:=bs_size l
 have C:=qread_any l 0 w hs (by omega) hV hT
 have hq:unqL l=if(readL l 0).2.2=0∧(readL l 0).2.1<l.length then([],(readL l 0).2.1,2) else readL l 0:=rfl
 obtain⟨R,hR⟩: ∃R,readL l 0=R:=⟨_,rfl⟩
 obtain⟨s,k,er⟩:=R
 rw[show ((0:Nat):Int)=0 from rfl,hR] at C
 rw[hR] at hq
 simp only[] at hq
 have HC:=hid C
 clear C hR hV hT
 by_cases h1:er=0
 ·subst h1
  by_cases h2:k<l.length
  ·rw[hq,if_pos ⟨rfl,h2⟩]
   clear hq
   go_enter Tryz.func158,Tryz.ntmps158
   go_wp2_with fail
   refine HC.out.mono ?_
   unfold ReadE
   rintro e w1 ⟨rfl,hb1⟩
   go_wp2_with fail
   go_ret3
   exact⟨rfl,hb1⟩
  ·rw[hq,if_neg (fun h=>h2 h.2)]
   clear hq
   go_enter Tryz.func158,Tryz.ntmps158
   go_wp2_with fail
   refine HC.out.mono ?_
   unfold ReadE
   rintro e w1 ⟨rfl,hb1⟩
   go_wp2_with fail
   go_ret3
   exact⟨rfl,hb1⟩
 ·rw[hq,if_neg (fun h=>h1 h.1)]
  have t1:(er==0)=false:=beq_eq_false_iff_ne.2 h1
  clear hq h1
  go_enter Tryz.func158,Tryz.ntmps158
  go_wp2_with fail
  refine HC.out.mono ?_
  unfold ReadE
  rintro e w1 ⟨rfl,hb1⟩
  go_wp2_with fail
  go_ret3
  exact⟨rfl,hb1⟩
end Go.Proofs.YtlibkhbachmcgaaGreatDoor
