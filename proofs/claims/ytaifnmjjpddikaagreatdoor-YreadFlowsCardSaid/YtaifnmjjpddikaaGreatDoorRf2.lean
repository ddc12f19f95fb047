import Derived.Test.YtaifnmjjpddikaaGreatDoorRf1
import Derived.BigQuiet
import Derived.Deep.QuietTactic
import Derived.Deep.DeepCutAuto
import Derived.Deep.CutBlock
import Derived.Deep.RegionHeld3
import Derived.Lib.IndexBytes
import Derived.Lib.ConvBytes
import Derived.Lib.AtoiAllMem
import Derived.Laws.Closers25
import Derived.Laws.Closers25b
import Derived.BigCall
import Derived.BigGuard
import Derived.Test.YtaifnmjjpddikaaGreatDoorShelfC
import Derived.Lib.QuoteLoop
import Derived.WalkMore
import Derived.Shelf.Strings.BuilderK
import Derived.Shelf.Strings.BuilderRune
import Derived.Shelf.Strings.MapGrows
import Derived.Test.YtaifnmjjpddikaaGreatDoorProg
import Derived.KernelRfl
set_option maxRecDepth 100000
set_option maxHeartbeats 8000000
namespace Go.Proofs.YtaifnmjjpddikaaGreatDoor
set_option linter.unusedSimpArgs false
set_option linter.unusedVariables false
open Go.RowKit
open Go.Lib hiding intOf
def kW (c:UInt8):Option Nat:=
 if 48<=c.toNat/\c.toNat<=57 then some (c.toNat-48) else if 97<=c.toNat/\c.toNat<=102 then some (c.toNat-87) else if 65<=c.toNat/\c.toNat<=70 then some (c.toNat-55) else none
def gK:Nat->List UInt8->Option Nat
 | acc,[]=>some acc
 | acc,c::r=>match kW c with | none=>none | some d=>gK (16*acc+d) r
def xC (r:Option Nat):Ending:=match r with
 | some n=> .returned (.tuple #[.int .u64 n, .nilIface])
 | none=> .returned (.tuple #[.int .u64 0, .iface 203 (.int .i64 2)])
theorem Oy: ∀n:Fin 256,((65<=n.val/\n.val<=70->bits .or .u8 (n.val:Int) 32=(n.val:Int)+32)/\(97<=n.val/\n.val<=102->bits .or .u8 (n.val:Int) 32=(n.val:Int))/\
  (¬(65<=n.val/\n.val<=70)-> ¬(97<=n.val/\n.val<=102)->bits .or .u8 (n.val:Int) 32<97\/103<=bits .or .u8 (n.val:Int) 32)/\0<=bits .or .u8 (n.val:Int) 32/\bits .or .u8 (n.val:Int) 32<=255):=by decide+kernel
theorem Oz (c:UInt8):(65<=c.toNat/\c.toNat<=70->bits .or .u8 (c.toNat:Int) 32=(c.toNat:Int)+32)/\(97<=c.toNat/\c.toNat<=102->bits .or .u8 (c.toNat:Int) 32=(c.toNat:Int))/\
  (¬(65<=c.toNat/\c.toNat<=70)-> ¬(97<=c.toNat/\c.toNat<=102)->bits .or .u8 (c.toNat:Int) 32<97\/103<=bits .or .u8 (c.toNat:Int) 32)/\0<=bits .or .u8 (c.toNat:Int) 32/\bits .or .u8 (c.toNat:Int) 32<=255:=
 Oy ⟨c.toNat,c.toNat_lt⟩
theorem zR (c:Int) (w:World):
  Calls Tryz.prog 206 #[.int .u8 c] w λe w'=>e= .returned (.int .u8 (bits .or .u8 c 32))/\w=w':=by
 go_enter Tryz.func206,Tryz.ntmps206;go_wp2_with fail;go_ret;exact⟨rfl,rfl⟩
theorem Pa (t:ByteArray) (ht:t.size=4) (w:World):
  Calls Tryz.prog 187 #[.string t, .int .i64 16, .int .i64 32] w λe w'=>e=xC (gK 0 t.data.toList)/\Below w.heap.size w w':=by
 have hemp:t.toList.isEmpty=false:=by
  rw[<-decide_eq_emptyBytes];exact aJ (λh=>by rw[h] at ht;cases ht)
 have hcv:=Lib.run_convert_string_bytes (P:=Tryz.prog) w 9 174 5 t (u:= .string) Tryz.underlying9 Tryz.underlying174 Tryz.underlying5;have hB: ∀j,j<t.size->(Lib.bytesWorld w 5 t).cell? ⟨w.heap.size,j,none⟩=some (.int .u8 (t.data.toList.getD j 0).toNat):=λj hj=>Lib.bytesWorld_cell w 5 t j hj;have hbel:=hid (Lib.bytesWorld_below w 5 t);obtain⟨W1,hW1⟩: ∃W1,W1=Lib.bytesWorld w 5 t:=⟨_,rfl⟩;rw[<-hW1] at hcv hB hbel;clear hW1;obtain⟨bl,hL⟩: ∃bl,bl=t.data.toList:=⟨_,rfl⟩;have hLn:bl.length=t.size:=by rw[hL,Lib.size_eq]
 rw[<-hL] at hB ⊢;clear hL;obtain⟨R,hR⟩:=exQ<|xC (gK 0 bl);rw[hR];have HR:=hid hR;clear hR;have hmv:IntKind.u64.wrap (IntKind.u64.wrap 4294967296-1)=4294967295:=by
  rw[IntKind.wrap_u64,IntKind.wrap_u64];decide
 go_enter Tryz.func187,Tryz.ntmps187;go_wp2_with fail;go_loop [12,13,101] (λvu vn vi=> ∃(k acc:Nat) (a:Int),vu= .bool false/\vn= .int .u64 a/\vi= .int .i64 k/\k<=t.size/\a<=65535/\0<=a/\(k<=3->a<=4095)/\Hid (a=(acc:Int)/\acc<16 ^ k/\gK 0 bl=gK acc (bl.drop k)))
  (λ_ _ vi=>t.size-(RowKit.intOf vi).toNat)
 case atStart=>exact⟨0,0,0,rfl,rfl,rfl,by omega,by omega,by omega,λ_=>by omega,rfl,by decide,rfl⟩
 case round=>
  obtain⟨k,acc,a,rfl,rfl,rfl,hk,ha1,ha2,ha3,hh⟩:=hrel;obtain⟨ha,hacc,hdec⟩:=hh.out;clear hh;by_cases hkn:k<t.size
  ·have hc:=hB k hkn;have hdrop:bl.drop k=bl[k]'(by omega)::bl.drop (k+1):=iK (by omega);have hget:bl.getD k 0=bl[k]'(by omega):=(by simp[List.getD,bJ (show k<bl.length by omega)]);rw[hdrop] at hdec;rw[hget] at hc;generalize bl[k]'(by omega)=c at hc hdec;have hc256:c.toNat<256:=c.toNat_lt;have hk3:a<=4095:=ha3 (by omega);obtain⟨lw1,lw2,lw3,lw4,lw5⟩:=Oz c;have hpow:16 ^ (k+1)=16*16 ^ k:=by rw[Nat.pow_succ];omega
   have hk16:k<=2->(16:Nat) ^ (k+1)<=4096:=λh=>aW (Nat.pow_le_pow_right (by decide) (show k+1<=3 by omega)) (by decide);clear hB hdrop hget ha3;have hstep: ∀d:Nat,kW c=some d->d<16->Hid (a*16+(d:Int)=((16*acc+d:Nat):Int)/\16*acc+d<16 ^ (k+1)/\gK 0 bl=gK (16*acc+d) (bl.drop (k+1)))/\(k+1<=3->a*16+(d:Int)<=4095):=λd hd hd16=>by
    have h2:16*acc+d<16 ^ (k+1):=by rw[hpow];omega
    refine⟨⟨by omega,h2,?_⟩,λh=>by have:=hk16 (by omega);omega⟩;rw[hdec];simp only[gK,hd]
   by_cases hdig:48<=c.toNat/\c.toNat<=57
   ·obtain⟨hd0,hd1⟩:=hdig;obtain⟨HN,h3⟩:=hstep (c.toNat-48) (by unfold kW;rw[if_pos ⟨hd0,hd1⟩]) (by omega);rw[show ((c.toNat-48:Nat):Int)=(c.toNat:Int)-48 by omega] at HN h3;clear hdec hstep lw1 lw2 lw3 lw4 lw5 hacc ha hpow hk16;go_wp2_with fail;refine⟨⟨k+1,16*acc+(c.toNat-48),a*16+((c.toNat:Int)-48),rfl,(by first | rfl | (congr 1;omega)),(by first | rfl | (congr 1;omega)),by omega,by omega,by omega,h3,HN⟩,by simp[RowKit.intOf];omega⟩
   ·by_cases hlo:97<=c.toNat/\c.toNat<=102
    ·have hl:=lw2 hlo;obtain⟨hd0,hd1⟩:=hlo;obtain⟨HN,h3⟩:=hstep (c.toNat-87) (by unfold kW;rw[if_neg hdig,if_pos ⟨hd0,hd1⟩]) (by omega);rw[show ((c.toNat-87:Nat):Int)=(c.toNat:Int)-97+10 by omega] at HN h3;have hnd: ¬c.toNat<=57:=(by omega);have HL:Hid (∀w,Calls Tryz.prog 206 #[.int .u8 (c.toNat:Int)] w λe w'=>e= .returned (.int .u8 (c.toNat:Int))/\w=w'):=hid (λw=>by have:=zR (c.toNat:Int) w;rw[hl] at this;exact this);clear hdec hstep lw1 lw2 lw3 lw4 lw5 hacc ha hpow hk16 hl hdig;go_wp2_with (go_at_call 206;refine(HL.out _).mono ?_;rintro e w' ⟨rfl,rfl⟩);refine⟨⟨k+1,16*acc+(c.toNat-87),a*16+((c.toNat:Int)-97+10),rfl,(by first | rfl | (congr 1;omega)),(by first | rfl | (congr 1;omega)),by omega,by omega,by omega,h3,HN⟩,by simp[RowKit.intOf];omega⟩
    ·by_cases hup:65<=c.toNat/\c.toNat<=70
     ·have hl:=lw1 hup;obtain⟨hd0,hd1⟩:=hup;obtain⟨HN,h3⟩:=hstep (c.toNat-55) (by unfold kW;rw[if_neg hdig,if_neg hlo,if_pos ⟨hd0,hd1⟩]) (by omega);rw[show ((c.toNat-55:Nat):Int)=(c.toNat:Int)+32-97+10 by omega] at HN h3;have hnd: ¬c.toNat<=57:=(by omega);have HL:Hid (∀w,Calls Tryz.prog 206 #[.int .u8 (c.toNat:Int)] w λe w'=>e= .returned (.int .u8 ((c.toNat:Int)+32))/\w=w'):=hid (λw=>by have:=zR (c.toNat:Int) w;rw[hl] at this;exact this);clear hdec hstep lw1 lw2 lw3 lw4 lw5 hacc ha hpow hk16 hl hdig hlo;go_wp2_with (go_at_call 206;refine(HL.out _).mono ?_;rintro e w' ⟨rfl,rfl⟩);refine⟨⟨k+1,16*acc+(c.toNat-55),a*16+((c.toNat:Int)+32-97+10),rfl,(by first | rfl | (congr 1;omega)),(by first | rfl | (congr 1;omega)),by omega,by omega,by omega,h3,HN⟩,by simp[RowKit.intOf];omega⟩
     ·have hF:gK acc (c::bl.drop (k+1))=none:=by simp only[gK];unfold kW;rw[if_neg hdig,if_neg hlo,if_neg hup]
      rw[hF] at hdec;have HF:=hid (HR.out.symm.trans (by rw[hdec]));have hv:=lw3 hup hlo;obtain⟨v,hV⟩:=exQ<|bits .or .u8 (c.toNat:Int) 32;have HL:Hid (∀w,Calls Tryz.prog 206 #[.int .u8 (c.toNat:Int)] w λe w'=>e= .returned (.int .u8 v)/\w=w'):=hid (λw=>by have:=zR (c.toNat:Int) w;rw[hV] at this;exact this);have h95v:c.toNat=95->v=127:=λh=>by rw[<-hV,h];decide+kernel
      rw[hV] at hv lw4 lw5;have hnd:c.toNat<48\/57<c.toNat:=(by omega);clear hdec hstep lw1 lw2 lw3 hacc ha hpow hk16 hdig hlo hup hF hV;by_cases h95:c.toNat=95
      ·obtain rfl:=h95v h95;have h95b:((c.toNat:Int)==95)=true:=beq_iff_eq.2 (by omega);have hnd2:57<c.toNat:=(by omega);clear h95 h95v;go_wp2_with (go_at_call 206;refine(HL.out _).mono ?_;rintro e w' ⟨rfl,rfl⟩);go_ret2;exact⟨HF.out.symm,hbel.out⟩
      ·clear h95v;have h95b:((c.toNat:Int)==95)=false:=aG.2 (by omega);by_cases hv1:v<97
       ·rcases hnd with hnd | hnd
        all_goals
         go_wp2_with (go_at_call 206;refine(HL.out _).mono ?_;rintro e w' ⟨rfl,rfl⟩);go_ret2;exact⟨HF.out.symm,hbel.out⟩
       ·have hv2:103<=v:=hv.resolve_left hv1;by_cases hv3:v<=122
        ·rcases hnd with hnd | hnd
         all_goals
          go_wp2_with (go_at_call 206;refine(HL.out _).mono ?_;rintro e w' ⟨rfl,rfl⟩);go_ret2;exact⟨HF.out.symm,hbel.out⟩
        ·rcases hnd with hnd | hnd
         all_goals
          go_wp2_with (go_at_call 206;refine(HL.out _).mono ?_;rintro e w' ⟨rfl,rfl⟩);go_ret2;exact⟨HF.out.symm,hbel.out⟩
  ·obtain rfl:k=t.size:=(by omega);have hF:gK acc (bl.drop t.size)=some acc:=by rw[List.drop_eq_nil_of_le (by omega)];rfl
   rw[hF] at hdec;have HF:=hid (HR.out.symm.trans (by rw[hdec]));have HA:=hid ha;clear hacc hF hdec ha;go_wp2_with fail;go_ret2;exact⟨by rw[HF.out,HA.out];rfl,hbel.out⟩
theorem Ep {P:Program}{f:FuncId}{args:Array Value}{w:World}{a n:Nat}{v:Value}
  (h:Calls P f args (w.drewN (a+n)) λe w'=>e= .returned v/\w.drewN (a+n)=w'):
  Calls P f args (w.drewN (a+n)) λe w''=>e= .returned v/\ ∃m,w''=w.drewN (a+m):=
 h.mono λ_ _ ⟨he,hm⟩=>⟨he,n,hm.symm⟩
theorem Pb (r:Int) (w:World) (h1:128<=r) (h2:r<=1114111) (h3:r<55296\/57343<r):
  Calls Tryz.prog 184 #[.int .i32 r] w λe w'=>e= .returned (.bool true)/\w=w':=by
 rcases h3 with h3 | h3
 all_goals
  go_enter Tryz.func184,Tryz.ntmps184;go_wp2_with fail;go_ret;exact⟨rfl,rfl⟩
theorem zS: ∀(l:List UInt8) (b:UInt8),(∀c∈l,c≠b)->Lib.indexByte l b= -1
 | [],b,_=>rfl
 | c::t,b,h=>by
  have h1:(c==b)=false:=aG.2 (h c (by simp));have h2:=zS t b (λx hx=>h x (by simp[hx]));unfold Lib.indexByte;simp[h1,h2]
theorem Er (A:ByteArray) (i k:Nat) (b:UInt8) (hb:128<=b.toNat) (hA:A.data.toList.all (λc=>decide (c.toNat<128))=true:=by decide) (w:World):
  Calls Tryz.prog 32 #[.string (A.extract i k), .int .u8 (b.toNat:Int)] w λe w'=>e= .returned (.int .i64 (-1))/\w=w':=by
 have h:=uU (A.extract i k) b w;rw[zS] at h
 ·exact h
 ·intro c hc e;rw[kV,aU] at hc;have hm:c∈A.data.toList:=List.mem_of_mem_drop (List.mem_of_mem_take hc);have:=of_decide_eq_true (fG.1 hA c hm);rw[e] at this;omega
theorem Pc (S:ByteArray) (w:World) (hS:S.data.toList.all (λc=>decide (c.toNat<128))=true) (hsz:S.size<=4294967296):
  Calls Tryz.prog 156 #[.string S, .int .i32 65533] w λe w'=>e= .returned (.int .i64 (-1))/\Below w.heap.size w w':=by
 have hall: ∀p (h:p<S.size),(S[p]'h).toNat<128:=λp h=>of_decide_eq_true (fG.1 hS _ (Array.getElem_mem_toList _));have HA:=hid hall;clear hall hS;go_enter Tryz.func156,Tryz.ntmps156;go_wp2_with fail;go_loopw [5,6] (λ_ _ wr=> ∃p:Nat,p<=S.size/\Hid (wr.heap[w.heap.size]?=some (.stringIter S p))/\Hid (Below w.heap.size w wr)) (λ_ _ wr=>S.size-wr.iterPos w.heap.size)
 case atStart=>exact⟨0,by omega,World.iter_heap w S 0,(aB _ _).alloc (aE _) _⟩
 case round=>
  obtain⟨p,hp,HI,HW⟩:=hrel;by_cases hlt:p<S.size
  ·have hb:=HA.out p hlt;have hd:=decode_ascii S p hlt hb;have e1:bT S p=((S[p]'hlt).toNat:Int):=by unfold bT;rw[hd]
   have e2:bK S p=1:=by unfold bK;rw[hd]
   have hnx: ∀ty,(Instr.next (.pointer (some ⟨w.heap.size,0,none⟩)) true ty).run Tryz.prog wr= .ok (.tuple #[.bool true, .int .i64 p, .int .i32 ((S[p]'hlt).toNat:Int)]) (wr.iterAt w.heap.size S (p+1)):=λty=>by
    have:=Lib.run_next_any_at (P:=Tryz.prog) wr w.heap.size S p ty HI.out hlt;have h3:=e1;have h4:=e2;unfold bT at h3;unfold bK at h4;rw[h3,h4] at this;exact this
   have HI2:=hid (Lib.iterAt_heap wr w.heap.size S p (p+1) HI.out);have HW2:=hid (Lib.below_iterAt HW.out (aE w.heap.size) S (p+1));have HM:=hid (iterPos_of HI.out);have t1:(((S[p]'hlt).toNat:Int)==65533)=false:=aG.2 (by omega);clear e1 e2 hd;go_wp2_with fail;go_roundw
   case rel=>exact⟨p+1,by omega,HI2.out,HW2.out⟩
   case measure=>rw[iterPos_of HI2.out,HM.out];omega
  ·have hnx: ∀ty,(Instr.next (.pointer (some ⟨w.heap.size,0,none⟩)) true ty).run Tryz.prog wr= .ok (.tuple #[.bool false]) wr:=λty=>Lib.run_next_end_at wr _ S p ty HI.out hlt;go_wp2_with fail;go_ret;exact⟨rfl,HW.out⟩
theorem Pe (r:Int) (w:World) (h1:128<=r) (h2:r<=1114111) (h3:r<55296\/57343<r):
  Calls Tryz.prog 156 #[.string ⟨#[43,45,95]⟩, .int .i32 r] w λe w'=>e= .returned (.int .i64 (-1))/\Below w.heap.size w w':=by
 by_cases h4:r=65533
 ·subst h4;exact Pc _ w (by decide) (by decide)
 ·have h5:(r==65533)=false:=aG.2 h4;go_enter Tryz.func156,Tryz.ntmps156;go_wp2_with fail;refine(Pb r _ h1 h2 h3).mono ?_;rintro e w' ⟨rfl,rfl⟩;go_wp2_with fail;go_step3;obtain⟨n,hn,hsz,hlast⟩:=Ox r h1 h2 h3;obtain⟨E,hE⟩:=exQ<|Utf8.encode r;rw[hE] at hsz hlast;have HE:=hid hE;clear hE;go_upto_region 1 with fail;go_cut [7] (λs7 wx=>s7= .string E/\w=wx)
  case first=>
   go_wp2_with fail;go_meet;exact⟨by rw[HE.out],rfl⟩
  obtain⟨rfl,rfl⟩:=hcut;clear HE h3 h4 h5;obtain rfl|rfl|rfl:n=2\/n=3\/n=4:=by omega
  ·have h1':1<E.size:=(by omega);have hb:=hlast (by omega);simp only[Nat.reduceSub] at hb;have t1:((((⟨#[43,45,95]⟩:ByteArray)[1]'(by decide)).toNat:Int) !=((E[1]'h1').toNat:Int))=true:=fH.2 (by show ((45:Nat):Int)≠_;omega);have CI:=hid (Er (⟨#[43,45,95]⟩:ByteArray) 2 3 (E[1]'h1') (by omega));have hs3:(⟨#[43,45,95]⟩:ByteArray).size=3:=rfl;clear hlast hn;go_wp2_with fail;go_loopw [9] (λs9 wr=>s9= .int .i64 1/\w=wr) (λ_ _=>0)
   case atStart=>exact⟨rfl,rfl⟩
   case round=>
    obtain⟨rfl,rfl⟩:=hrel;go_wp2_with fail;go_step3;go_wp2_with fail;go_quiet (fail);go_wp2_with fail;go_quiet ((go_at_call 32;first | exact quiet_left (CI.out _) | exact Ep (CI.out _)));go_wp2_with fail;show bodyPost Tryz.prog Tryz.f156 (λe w'=>e=Ending.returned (Value.int IntKind.i64 (-1))/\Below w.heap.size w w') Exit.ret _ _;go_ret;exact⟨rfl,below_drewN (aB _ _) _⟩
  ·have h1':2<E.size:=(by omega);have hb:=hlast (by omega);simp only[Nat.reduceSub] at hb;have t1:((((⟨#[43,45,95]⟩:ByteArray)[2]'(by decide)).toNat:Int) !=((E[2]'h1').toNat:Int))=true:=fH.2 (by show ((95:Nat):Int)≠_;omega);have CI:=hid (Er (⟨#[43,45,95]⟩:ByteArray) 3 3 (E[2]'h1') (by omega));have hs3:(⟨#[43,45,95]⟩:ByteArray).size=3:=rfl;clear hlast hn;go_wp2_with fail;go_loopw [9] (λs9 wr=>s9= .int .i64 2/\w=wr) (λ_ _=>0)
   case atStart=>exact⟨rfl,rfl⟩
   case round=>
    obtain⟨rfl,rfl⟩:=hrel;go_wp2_with fail;go_step3;go_wp2_with fail;go_quiet (fail);go_wp2_with fail;go_quiet ((go_at_call 32;first | exact quiet_left (CI.out _) | exact Ep (CI.out _)));go_wp2_with fail;show bodyPost Tryz.prog Tryz.f156 (λe w'=>e=Ending.returned (Value.int IntKind.i64 (-1))/\Below w.heap.size w w') Exit.ret _ _;go_ret;exact⟨rfl,below_drewN (aB _ _) _⟩
  ·have h3': ¬(3:Int)<3:=(by omega);clear hlast hn;go_wp2_with fail;go_loopw [9] (λs9 wr=>s9= .int .i64 3/\w=wr) (λ_ _=>0)
   case atStart=>exact⟨rfl,rfl⟩
   case round=>
    obtain⟨rfl,rfl⟩:=hrel;go_wp2_with fail;rw[Exit.noGoto_ret];go_ret;exact⟨rfl,aB _ _⟩
theorem Pf (s:ByteArray) (p:Nat):bT s p<55296\/57343<bT s p:=by
 unfold bT;rw[decode_at];have:=decodeN_valid (s.size-p) (s.get! p).toNat (s.get! (p+1)).toNat (s.get! (p+2)).toNat (s.get! (p+3)).toNat (UInt8.toNat_lt _);omega
theorem Pg (l:List UInt8) (b:UInt8) (h:0<=Lib.indexByte l b):b∈l:=by
 apply Classical.byContradiction;intro hn;rw[zS l b (λc hc e=>hn (e ▸ hc))] at h;omega
def Pj (r:Int) (e:Ending):Prop:= ∃k:Int,e= .returned (.int .i64 k)/\(0<=k->r=43\/r=45\/r=95)
theorem Pk (r:Int) (w:World) (h0:0<=r) (h2:r<=1114111) (h3:r<55296\/57343<r):
  Calls Tryz.prog 156 #[.string ⟨#[43,45,95]⟩, .int .i32 r] w λe w'=>Pj r e/\Below w.heap.size w w':=by
 by_cases h1:r<128
 ·refine(Tryz.strings_IndexRune_ascii ⟨#[43,45,95]⟩ r w h0 h1).mono ?_;rintro e w' ⟨rfl,hw⟩;rw[hw];refine⟨⟨_,rfl,λh=>?_⟩,aB _ _⟩;have hm:=Pg _ _ h;have hr:r.toNat.toUInt8.toNat=r.toNat:=by
   rw[show r.toNat.toUInt8=UInt8.ofNat r.toNat from rfl,UInt8.toNat_ofNat'];exact Nat.mod_eq_of_lt (by omega)
  simp only[dN,List.not_mem_nil,or_false] at hm;rcases hm with hm | hm | hm
  all_goals
   have h4:=congrArg UInt8.toNat hm;rw[hr] at h4
   first | (left;have:r.toNat=43:=h4;omega) | (right;left;have:r.toNat=45:=h4;omega) | (right;right;have:r.toNat=95:=h4;omega)
 ·refine(Pe r w (by omega) h2 h3).mono ?_;rintro e w' ⟨rfl,hb⟩;exact⟨⟨_,rfl,λh=>by omega⟩,hb⟩
def Es (t:ByteArray) (e:Ending):Prop:= ∃B,e= .returned (.bool B)/\(B=true-> ∃c∈t.data.toList,c.toNat=43\/c.toNat=45\/c.toNat=95)
def Pl (t:ByteArray) (e:Ending):Prop:= ∃k:Int,e= .returned (.int .i64 k)/\(0<=k-> ∃c∈t.data.toList,c.toNat=43\/c.toNat=45\/c.toNat=95)
theorem Pm (t:ByteArray) (w:World) (hs:t.size<=8):
  Calls Tryz.prog 112 #[.string t, .string ⟨#[43,45,95]⟩] w λe w'=>Pl t e/\Below w.heap.size w w':=by
 go_enter Tryz.func112,Tryz.ntmps112;go_wp2_with fail;refine(Tryz.strings_shouldUseASCIISet _ _).mono ?_;rintro e w' ⟨rfl,hw⟩;rw[hw];clear hw;have hn8:decide (8<(t.size:Int))=false:=aJ (by omega);rw[hn8];go_wp2_with fail;go_loopw [9,10] (λ_ _ wr=> ∃p:Nat,p<=t.size/\Hid (wr.heap[w.heap.size]?=some (.stringIter t p))/\Hid (Below w.heap.size w wr)) (λ_ _ wr=>t.size-wr.iterPos w.heap.size)
 case atStart=>exact⟨0,by omega,World.iter_heap w t 0,(aB _ _).alloc (aE _) _⟩
 case round=>
  obtain⟨p,hp,HI,HW⟩:=hrel;by_cases hlt:p<t.size
  ·have hw:=pL t p hlt;have hrb:=qO t p;have hok:=Pf t p;have hnx: ∀ty,(Instr.next (.pointer (some ⟨w.heap.size,0,none⟩)) true ty).run Tryz.prog wr= .ok (.tuple #[.bool true, .int .i64 p, .int .i32 (bT t p)]) (wr.iterAt w.heap.size t (p+bK t p)):=λty=>Lib.run_next_any_at wr _ t p ty HI.out hlt;have hz:w.heap.size<wr.heap.size:=aF HI.out;have HI2:=hid (Lib.iterAt_heap wr w.heap.size t p (p+bK t p) HI.out);have HW2:=hid (Lib.below_iterAt HW.out (aE w.heap.size) t (p+bK t p));have HM:=hid (iterPos_of HI.out);have hhit:(bT t p=43\/bT t p=45\/bT t p=95)-> ∃c∈t.data.toList,c.toNat=43\/c.toNat=45\/c.toNat=95:=λh=>by
    refine⟨t[p]'hlt,Array.getElem_mem_toList _,?_⟩;by_cases hb:(t[p]'hlt).toNat<128
    ·have hd:=decode_ascii t p hlt hb;unfold bT at h;rw[hd] at h;simp only[] at h;omega
    ·have hd:=(decode_high t p hlt (by omega)).1;unfold bT at h;omega
   have HH:=hid hhit;clear hhit;generalize bT t p=r at *;generalize bK t p=wd at *;go_wp2_with fail;refine(Pk r _ hrb.1 hrb.2 hok).mono ?_;rintro e w2 ⟨⟨k,rfl,hk⟩,hb2⟩;have HK:=hid hk;clear hk;have HI3:=hid ((hb2.block w.heap.size (aF HI2.out)).trans HI2.out);have HW3:=hid (HW2.out.trans (hb2.mono HW2.out.size));clear hb2;by_cases hk0:0<=k
   ·have HF:=hid (HH.out (HK.out hk0));go_wp2_with fail;go_ret;exact⟨⟨_,rfl,λ_=>HF.out⟩,HW3.out⟩
   ·go_wp2_with fail;go_roundw
    case rel=>exact⟨p+wd,by omega,HI3.out,HW3.out⟩
    case measure=>rw[iterPos_of HI3.out,HM.out];omega
  ·have hnx: ∀ty,(Instr.next (.pointer (some ⟨w.heap.size,0,none⟩)) true ty).run Tryz.prog wr= .ok (.tuple #[.bool false]) wr:=λty=>Lib.run_next_end_at wr _ t p ty HI.out hlt;go_wp2_with fail;go_ret;exact⟨⟨_,rfl,λh=>by omega⟩,HW.out⟩
theorem Et (t:ByteArray) (w:World) (hs:t.size<=8):
  Calls Tryz.prog 76 #[.string t, .string ⟨#[43,45,95]⟩] w λe w'=>Es t e/\Below w.heap.size w w':=by
 go_enter Tryz.func76,Tryz.ntmps76;go_wp2_with fail;refine(Pm t w hs).mono ?_;rintro e w1 ⟨⟨k,rfl,hk⟩,hb1⟩;have HK:=hid hk;clear hk;by_cases hk0:0<=k
 ·have HF:=hid (HK.out hk0);have hd:decide (0<=k)=true:=aN hk0;go_wp2_with fail;go_ret;exact⟨⟨_,rfl,λ_=>HF.out⟩,hb1⟩
 ·have hd:decide (0<=k)=false:=aJ hk0;go_wp2_with fail;go_ret;exact⟨⟨_,rfl,λh=>by cases h⟩,hb1⟩
def cO (w:World):Prop:= ∃tp p,w.var? Tryz.prog "strconv.ErrSyntax" =some #[.iface tp p]
theorem cO.keep {w w':World} (h:cO w) (hb:Below w.heap.size w w'):cO w':=let ⟨tp,p,h⟩:=h;⟨tp,p,Eo h hb⟩
theorem cO.cell {w:World} (h:cO w): ∃tp p,w.cell? ⟨3,0,none⟩=some (.iface tp p):=by
 obtain⟨tp,p,h⟩:=h;have:=World.var?_cell (P:=Tryz.prog) (show Tryz.prog.globalNamed "strconv.ErrSyntax" =some 3 by kernel_rfl) h 0;exact⟨tp,p,by simpa using this⟩
theorem Eu: ∀(l:List UInt8) (acc:Nat),(∃c∈l,c.toNat=43\/c.toNat=45\/c.toNat=95)->gK acc l=none
 | [],_,h=>by obtain⟨c,hc,_⟩:=h;cases hc
 | d::t,acc,h=>by
  obtain⟨c,hc,h3⟩:=h;unfold gK;rcases dN.1 hc with rfl | hc
  ·have:kW c=none:=by unfold kW;rw[if_neg (by omega),if_neg (by omega),if_neg (by omega)]
   rw[this]
  ·cases kW d with
   | none=>rfl
   | some e=>exact Eu t _ ⟨c,hc,h3⟩
theorem Pn {c:UInt8}{d:Nat} (h:kW c=some d):d<16:=by
 unfold kW at h;split at h
 ·injection h with h;omega
 ·split at h
  ·injection h with h;omega
  ·split at h
   ·injection h with h;omega
   ·cases h
theorem Ew: ∀(l:List UInt8) (acc n:Nat),gK acc l=some n->n<(acc+1)*16 ^ l.length
 | [],acc,n,h=>by simp only[gK,cS] at h;simp;omega
 | c::t,acc,n,h=>by
  unfold gK at h;cases hc:kW c with
  | none=>rw[hc] at h;cases h
  | some d=>
   rw[hc] at h;have h1:=Ew t _ n h;have h2:=Pn hc;have h3:(16*acc+d+1)*16 ^ t.length<=(16*(acc+1))*16 ^ t.length:=Nat.mul_le_mul_right _ (by omega);rw[aT,Nat.pow_succ];have h4:(16*(acc+1))*16 ^ t.length=(acc+1)*(16 ^ t.length*16):=by
    rw[Nat.mul_comm 16 (acc+1),Nat.mul_assoc,Nat.mul_comm 16]
   omega
def Ex (r:Option Nat) (e:Ending):Prop:=match r with
 | some n=>e= .returned (.tuple #[.int .u64 n, .nilIface])
 | none=> ∃N:Nat,e= .returned (.tuple #[.int .u64 0, .iface 206 (.pointer (some ⟨N,0,none⟩))])
theorem Po (t:ByteArray) (ht:t.size=4) (w:World) (hV:cO w):
  Calls Tryz.prog 220 #[.string t, .int .i64 16, .int .i64 32] w λe w'=>Ex (gK 0 t.data.toList) e/\Below w.heap.size w w':=by
 have C:=Pa t ht w;cases hx:gK 0 t.data.toList with
 | some n=>
  rw[hx] at C;unfold xC at C;have HC:=hid C;clear C hx;go_enter Tryz.func220,Tryz.ntmps220;go_wp2_with fail;refine HC.out.mono ?_;rintro e w1 ⟨rfl,hb1⟩;go_wp2_with fail;go_ret2;exact⟨rfl,hb1⟩
 | none=>
  rw[hx] at C;unfold xC at C;have HC:=hid C;have HV:=hid hV;clear C hx hV;go_enter Tryz.func220,Tryz.ntmps220;go_wp2_with fail;refine HC.out.mono ?_;rintro e w1 ⟨rfl,hb1⟩;have HB1:=hid hb1;obtain⟨tp,p,hc⟩:=(HV.out.keep hb1).cell;have HT:=hid (Tryz.strconv_toError_syntax ⟨#[80,97,114,115,101,85,105,110,116]⟩ t 16 32 (.iface tp p) w1 (by omega) hc (.inr ⟨tp,p,rfl⟩));clear hb1 hc;go_wp2_with fail;refine HT.out.mono ?_;rintro e w2 ⟨N,rfl,_,_,hb2⟩;go_wp2_with fail;go_ret2;exact⟨⟨N,rfl⟩,aC HB1.out hb2⟩
def eO (l:List UInt8):Option Nat:=if l.length<4 then none else gK 0 (l.take 4)
theorem uV {l:List UInt8}{n:Nat} (h:eO l=some n):n<65536/\4<=l.length:=by
 unfold eO at h;split at h
 ·cases h
 ·have:=Ew _ _ _ h;rw[cF,Nat.min_eq_left (by omega)] at this;omega
def rN (r:Option Nat):Ending:=match r with
 | some n=> .returned (.tuple #[.int .i32 n, .bool true])
 | none=> .returned (.tuple #[.int .i32 0, .bool false])
theorem Ey (l:List UInt8) (w:World) (hs:l.length<=4294967296) (hV:cO w):
  Calls Tryz.prog 216 #[.string (bs l)] w λe w'=>e=rN (eO l)/\Below w.heap.size w w':=by
 have sl:=aR l;have HV:=hid hV;clear hV;by_cases h4:l.length<4
 ·have hr:eO l=none:=by unfold eO;rw[if_pos h4]
  rw[hr];go_enter Tryz.func216,Tryz.ntmps216;go_wp2_with fail;go_ret2;exact⟨rfl,aB _ _⟩
 ·obtain⟨R,hR⟩:=exQ<|gK 0 (l.take 4);have hr:eO l=R:=by unfold eO;rw[if_neg h4,hR]
  have ht:(bs (l.take 4)).size=4:=by rw[aR,cF];omega
  have hbf:(bs l).extract 0 4=bs (l.take 4):=by rw[zO,aU]
  have CA:Hid (∀w,Calls Tryz.prog 76 #[.string ((bs l).extract 0 4), .string ⟨#[43,45,95]⟩] w λe w'=>Es (bs (l.take 4)) e/\Below w.heap.size w w'):=hid (λw=>by rw[hbf];exact Et (bs (l.take 4)) w (by omega));have CP:Hid (∀w,cO w->Calls Tryz.prog 220 #[.string ((bs l).extract 0 4), .int .i64 16, .int .i64 32] w λe w'=>Ex R e/\Below w.heap.size w w'):=hid (λw hV=>by have:=Po (bs (l.take 4)) ht w hV;rw[aU,hR] at this;rw[hbf];exact this);have hlt: ∀n,R=some n->n<65536:=λn h=>(uV (hr.trans h)).1;rw[hr];have HC:Hid ((∃c∈l.take 4,c.toNat=43\/c.toNat=45\/c.toNat=95)->R=none):=λh=>by rw[<-hR];exact Eu _ _ h
  have HLt:=hid hlt;clear hr hR ht hbf hlt;go_enter Tryz.func216,Tryz.ntmps216;go_wp2_with fail;refine(CA.out _).mono ?_;rintro e w1 ⟨⟨B,rfl,hB⟩,hb1⟩;have HB:=hid hB;clear hB;have HB1:=hid hb1;clear hb1;cases B with
  | true=>
   have hn:R=none:=HC.out (by have:=HB.out rfl;rw[aU] at this;exact this);subst hn;go_wp2_with fail;go_ret2;exact⟨rfl,HB1.out⟩
  | false=>
   clear HB HC;go_wp2_with fail;refine(CP.out _ (HV.out.keep HB1.out)).mono ?_;rintro e w2 ⟨hE,hb2⟩;have HB2:=hid (aC HB1.out hb2);clear hb2;cases R with
   | none=>
    obtain⟨N,rfl⟩:=hE;go_wp2_with fail;go_quiet (fail);go_wp2_with fail;go_ret2;exact⟨rfl,below_drewN HB2.out _⟩
   | some n=>
    have hE':e= .returned (.tuple #[.int .u64 n, .nilIface]):=hE;subst hE';have hn:=HLt.out n rfl;clear hE;go_wp2_with fail;go_quiet (fail);go_wp2_with fail;go_ret2;exact⟨rfl,below_drewN HB2.out _⟩
def kE (n:Int):Int×Bool:=
 if n=34 then(34,true) else if n=92 then(92,true) else if n=47 then(47,true) else if n=98 then(8,true) else if n=102 then(12,true) else if n=110 then(10,true) else if n=114 then(13,true) else if n=116 then(9,true) else(0,false)
theorem Pp (n:Int) (w:World) (h0:0<=n/\n<=255):
  Calls Tryz.prog 200 #[.int .u8 n] w λe w'=>e= .returned (.tuple #[.int .i32 (kE n).1, .bool (kE n).2])/\w=w':=by
 obtain⟨R,hR⟩:=exQ<|kE n;rw[hR];unfold kE at hR;by_cases c1:n=34
 ·rw[if_pos c1] at hR;subst hR c1;go_enter Tryz.func200,Tryz.ntmps200;go_wp2_with fail;go_ret2;exact⟨rfl,rfl⟩
 rw[if_neg c1] at hR;by_cases c2:n=92
 ·rw[if_pos c2] at hR;subst hR c2;go_enter Tryz.func200,Tryz.ntmps200;go_wp2_with fail;go_ret2;exact⟨rfl,rfl⟩
 rw[if_neg c2] at hR;by_cases c3:n=47
 ·rw[if_pos c3] at hR;subst hR c3;go_enter Tryz.func200,Tryz.ntmps200;go_wp2_with fail;go_ret2;exact⟨rfl,rfl⟩
 rw[if_neg c3] at hR;by_cases c4:n=98
 ·rw[if_pos c4] at hR;subst hR c4;go_enter Tryz.func200,Tryz.ntmps200;go_wp2_with fail;go_ret2;exact⟨rfl,rfl⟩
 rw[if_neg c4] at hR;by_cases c5:n=102
 ·rw[if_pos c5] at hR;subst hR c5;go_enter Tryz.func200,Tryz.ntmps200;go_wp2_with fail;go_ret2;exact⟨rfl,rfl⟩
 rw[if_neg c5] at hR;by_cases c6:n=110
 ·rw[if_pos c6] at hR;subst hR c6;go_enter Tryz.func200,Tryz.ntmps200;go_wp2_with fail;go_ret2;exact⟨rfl,rfl⟩
 rw[if_neg c6] at hR;by_cases c7:n=114
 ·rw[if_pos c7] at hR;subst hR c7;go_enter Tryz.func200,Tryz.ntmps200;go_wp2_with fail;go_ret2;exact⟨rfl,rfl⟩
 rw[if_neg c7] at hR;by_cases c8:n=116
 ·rw[if_pos c8] at hR;subst hR c8;go_enter Tryz.func200,Tryz.ntmps200;go_wp2_with fail;go_ret2;exact⟨rfl,rfl⟩
 rw[if_neg c8] at hR;subst hR;have d1:(n==34)=false:=aG.2 c1;have d2:(n==92)=false:=aG.2 c2;have d3:(n==47)=false:=aG.2 c3;have d4:(n==98)=false:=aG.2 c4;have d5:(n==102)=false:=aG.2 c5;have d6:(n==110)=false:=aG.2 c6;have d7:(n==114)=false:=aG.2 c7;have d8:(n==116)=false:=aG.2 c8;go_enter Tryz.func200,Tryz.ntmps200;go_wp2_with fail;go_ret2;exact⟨rfl,rfl⟩
def fM (l:List UInt8):Int×Int:=
 match eO (l.drop 2) with
 | none=>(0,0)
 | some h=>if 56320<=h/\h<57344 then(0,0) else if h<55296\/57344<=h then((h:Int),6) else if Lib.hasPrefix (l.drop 6) [92,117]=false then(0,0) else
  match eO (l.drop 8) with
  | none=>(0,0)
  | some lo=>if lo<56320\/57344<=lo then(0,0) else(65536+((h:Int)-55296)*1024+lo-56320,12)
def RW (r:Int×Int):Ending:= .returned (.tuple #[.int .i32 r.1, .int .i64 r.2])
theorem Ps {l p:List UInt8} (h:Lib.hasPrefix l p=true):p.length<=l.length:=by
 unfold Lib.hasPrefix at h;exact(List.isPrefixOf_iff_prefix.1 h).length_le
theorem Pt (l:List UInt8) (w:World) (h2:2<=l.length) (hs:l.length<=4294967296) (hV:cO w):
  Calls Tryz.prog 201 #[.string (bs l)] w λe w'=>e=RW (fM l)/\Below w.heap.size w w':=by
 have sl:=aR l;have C1:Hid (∀w,cO w->Calls Tryz.prog 216 #[.string ((bs l).extract 2 l.length)] w λe w'=>e=rN (eO (l.drop 2))/\Below w.heap.size w w'):=hid (λw h=>by rw[lK _ _ _ rfl];exact Ey (l.drop 2) w (by rw[aV];omega) h);have HV:=hid hV;clear hV;obtain⟨R,hR⟩:=exQ<|fM l;rw[hR];unfold fM at hR;cases h1:eO (l.drop 2) with
 | none=>
  rw[h1] at hR C1;simp only[] at hR;subst hR;go_enter Tryz.func201,Tryz.ntmps201;go_wp2_with fail;refine(C1.out _ HV.out).mono ?_;unfold rN;rintro e w1 ⟨rfl,hb1⟩;go_wp2_with fail;go_ret2;exact⟨rfl,hb1⟩
 | some h=>
  rw[h1] at hR C1;simp only[] at hR;obtain⟨hlt,hlen⟩:=uV h1;rw[aV] at hlen;unfold rN at C1;obtain⟨H,hH⟩: ∃H:Int,(h:Int)=H:=⟨_,rfl⟩;simp only[hH] at C1 hR;have HB:0<=H/\H<65536:=by omega
  by_cases g1:56320<=h/\h<57344
  ·rw[if_pos g1] at hR;subst hR;have ga:56320<=H:=(by omega);have gb:H<57344:=(by omega);clear g1 hH hlt h1;go_enter Tryz.func201,Tryz.ntmps201;go_wp2_with fail;refine(C1.out _ HV.out).mono ?_;rintro e w1 ⟨rfl,hb1⟩;go_wp2_with fail;go_ret2;exact⟨rfl,hb1⟩
  rw[if_neg g1] at hR;by_cases g2:h<55296\/57344<=h
  ·rw[if_pos g2] at hR;subst hR;have g2':H<55296\/57344<=H:=(by omega);clear g1 g2 hH hlt h1;rcases g2' with g2 | g2
   all_goals
    go_enter Tryz.func201,Tryz.ntmps201;go_wp2_with fail;refine(C1.out _ HV.out).mono ?_;rintro e w1 ⟨rfl,hb1⟩;go_wp2_with fail;go_ret2;exact⟨rfl,hb1⟩
  rw[if_neg g2] at hR;have ga:55296<=H:=by omega
  have gb:H<56320:=by omega
  clear g1 g2 hH hlt h1;obtain⟨P,hP⟩:=exQ<|Lib.hasPrefix (l.drop 6) [92,117];rw[hP] at hR;have CP:Hid (∀w,Calls Tryz.prog 121 #[.string ((bs l).extract 6 l.length), .string ⟨#[92,117]⟩] w λe w'=>e= .returned (.bool P)/\w=w'):=hid (λw=>by have:=Tryz.strings_HasPrefix ((bs l).extract 6 l.length) ⟨#[92,117]⟩ w;rw[lK _ _ _ rfl,aU,show (⟨#[92,117]⟩:ByteArray).data.toList= [92,117] from rfl,hP] at this;rw[lK _ _ _ rfl];exact this.mono λ_ _ ⟨a,b⟩=>⟨a,b.symm⟩);cases P with
  | false=>
   rw[if_pos rfl] at hR;subst hR;clear hP;go_enter Tryz.func201,Tryz.ntmps201;go_wp2_with fail;refine(C1.out _ HV.out).mono ?_;rintro e w1 ⟨rfl,hb1⟩;go_wp2_with (go_at_call 121;refine(CP.out _).mono ?_;rintro e w' ⟨rfl,rfl⟩);go_ret2;exact⟨rfl,hb1⟩
  | true=>
   rw[if_neg (by simp)] at hR;have hl8:8<=l.length:=by have:=Ps hP;rw[aV] at this;simp at this;omega
   have C2:Hid (∀w,cO w->Calls Tryz.prog 216 #[.string ((bs l).extract 8 l.length)] w λe w'=>e=rN (eO (l.drop 8))/\Below w.heap.size w w'):=hid (λw h=>by rw[lK _ _ _ rfl];exact Ey (l.drop 8) w (by rw[aV];omega) h);clear hP;cases h3:eO (l.drop 8) with
   | none=>
    rw[h3] at hR C2;simp only[] at hR;subst hR;unfold rN at C2;go_enter Tryz.func201,Tryz.ntmps201;go_wp2_with fail;refine(C1.out _ HV.out).mono ?_;rintro e w1 ⟨rfl,hb1⟩;have HB1:=hid hb1;clear hb1;go_wp2_with (go_at_call 121;refine(CP.out _).mono ?_;rintro e w' ⟨rfl,rfl⟩);refine(C2.out _ (HV.out.keep HB1.out)).mono ?_;rintro e w2 ⟨rfl,hb2⟩;go_wp2_with fail;go_ret2;exact⟨rfl,aC HB1.out hb2⟩
   | some lo=>
    rw[h3] at hR C2;simp only[] at hR;obtain⟨hlt2,_⟩:=uV h3;unfold rN at C2;obtain⟨L,hL⟩: ∃L:Int,(lo:Int)=L:=⟨_,rfl⟩;simp only[hL] at C2 hR;have LB:0<=L/\L<65536:=(by omega);by_cases g3:lo<56320\/57344<=lo
    ·rw[if_pos g3] at hR;subst hR;have g3':L<56320\/57344<=L:=(by omega);clear g3 hL hlt2 h3;rcases g3' with g3 | g3
     all_goals
      go_enter Tryz.func201,Tryz.ntmps201;go_wp2_with fail;refine(C1.out _ HV.out).mono ?_;rintro e w1 ⟨rfl,hb1⟩;have HB1:=hid hb1;clear hb1;go_wp2_with (go_at_call 121;refine(CP.out _).mono ?_;rintro e w' ⟨rfl,rfl⟩);refine(C2.out _ (HV.out.keep HB1.out)).mono ?_;rintro e w2 ⟨rfl,hb2⟩;go_wp2_with fail;go_ret2;exact⟨rfl,aC HB1.out hb2⟩
    ·rw[if_neg g3] at hR;subst hR;have gc:56320<=L:=(by omega);have gd:L<57344:=(by omega);clear g3 hL hlt2 h3;go_enter Tryz.func201,Tryz.ntmps201;go_wp2_with fail;refine(C1.out _ HV.out).mono ?_;rintro e w1 ⟨rfl,hb1⟩;have HB1:=hid hb1;clear hb1;go_wp2_with (go_at_call 121;refine(CP.out _).mono ?_;rintro e w' ⟨rfl,rfl⟩);refine(C2.out _ (HV.out.keep HB1.out)).mono ?_;rintro e w2 ⟨rfl,hb2⟩;go_wp2_with fail;go_ret2;exact⟨rfl,aC HB1.out hb2⟩
theorem nO (l:List UInt8) (k:Nat) (h:k<(bs l).size):l[k]?=some ((bs l)[k]'h):=by
 have hk:k<l.length:=by rw[<-aR l];exact h
 rw[bJ hk];simp[bs,ByteArray.getElem_eq_getElem_data]
def jF (l:List UInt8):Int×Int:=
 match l[1]? with
 | some c=>if(kE c.toNat).2 then((kE c.toNat).1,2) else if c.toNat=117 then fM l else(0,0)
 | none=>(0,0)
theorem Pu (l:List UInt8) (w:World) (hs:l.length<=4294967296) (hV:cO w):
  Calls Tryz.prog 178 #[.string (bs l)] w λe w'=>e=RW (jF l)/\Below w.heap.size w w':=by
 have sl:=aR l;have HV:=hid hV;clear hV;obtain⟨R,hR⟩:=exQ<|jF l;rw[hR];by_cases h2:l.length<2
 ·have hr:R=(0,0):=by
   rw[<-hR];unfold jF;rw[List.getElem?_eq_none (by omega)]
  subst hr;clear hR;go_enter Tryz.func178,Tryz.ntmps178;go_wp2_with fail;go_ret2;exact⟨rfl,aB _ _⟩
 ·have h1':1<(bs l).size:=by omega
  obtain⟨c,hc⟩:=exQ<|(bs l)[1]'h1';have hR2:(if(kE c.toNat).2 then((kE c.toNat).1,2) else if c.toNat=117 then fM l else(0,0))=R:=by
   rw[<-hR];unfold jF;rw[nO l 1 h1',hc]
  obtain⟨M,hM⟩:=exQ<|kE c.toNat;obtain⟨mc,mb⟩:=M;rw[hM] at hR2;simp only[] at hR2;have CM:Hid (∀w,Calls Tryz.prog 200 #[.int .u8 (c.toNat:Int)] w λe w'=>e= .returned (.tuple #[.int .i32 mc, .bool mb])/\w=w'):=hid (λw=>by have:=Pp (c.toNat:Int) w ⟨by omega,by have:=c.toNat_lt;omega⟩;rw[hM] at this;exact this);have CU:=hid (λw h=>Pt l w (by omega) hs h);clear hR hM;cases mb with
  | true=>
   rw[if_pos rfl] at hR2;subst hR2;go_enter Tryz.func178,Tryz.ntmps178;go_wp2_with fail;refine(CM.out _).mono ?_;rintro e w' ⟨rfl,rfl⟩;go_wp2_with fail;go_ret2;exact⟨rfl,aB _ _⟩
  | false=>
   rw[if_neg (by simp)] at hR2;by_cases hu:c.toNat=117
   ·rw[if_pos hu] at hR2;have t1:((c.toNat:Int)==117)=true:=beq_iff_eq.2 (by omega);obtain⟨ra,rb⟩:=R;rw[hR2] at CU;clear hu hR2;unfold RW at CU;go_enter Tryz.func178,Tryz.ntmps178;go_wp2_with fail;refine(CM.out _).mono ?_;rintro e w' ⟨rfl,rfl⟩;go_wp2_with fail;refine(CU.out _ HV.out).mono ?_;rintro e w1 ⟨rfl,hb1⟩;go_wp2_with fail;go_ret2;exact⟨rfl,hb1⟩
   ·rw[if_neg hu] at hR2;subst hR2;have t1:((c.toNat:Int)==117)=false:=aG.2 (by omega);clear hu;go_enter Tryz.func178,Tryz.ntmps178;go_wp2_with fail;refine(CM.out _).mono ?_;rintro e w' ⟨rfl,rfl⟩;go_wp2_with fail;go_ret2;exact⟨rfl,aB _ _⟩
def fV (d:Nat×Nat):Bool:=decide (d.1<32)||(d.1==65533&&d.2==1)
def cI (l:List UInt8):Int×Int:=
 if l.head?=some 92 then jF l else if fV (Lib.decodeL l) then(0,0) else(((Lib.decodeL l).1:Int),((Lib.decodeL l).2:Int))
theorem Pv (l:List UInt8) (h:l≠ []):Lib.decodeGo (bs l)=Lib.decodeL l:=by
 have h1:=nM (bs l) 0;rw[aU,List.drop_zero] at h1;rw[h1];unfold Lib.decodeGo;rw[if_neg];rw[aR];intro e;exact h (List.eq_nil_of_length_eq_zero (by omega))
theorem Pw (l:List UInt8) (w:World) (hne:l≠ []) (hs:l.length<=4294967296) (hV:cO w) (hT:cC w):
  Calls Tryz.prog 146 #[.string (bs l)] w λe w'=>e=RW (cI l)/\Below w.heap.size w w':=by
 have sl:=aR l;have HV:=hid hV;clear hV;obtain⟨R,hR⟩:=exQ<|cI l;rw[hR];unfold cI at hR;have h0:0<(bs l).size:=by rw[aR];cases l with | nil=>exact absurd rfl hne | cons _ _=>simp
 have hT0:=nN l 92 92 rfl h0;by_cases hb:l.head?=some 92
 ·rw[if_pos hb] at hR;have t1:(((bs l)[0]'h0).toNat:Int)==92:=by rw[hT0,hb];rfl
  have CE:=hid (λw h=>Pu l w hs h);obtain⟨ra,rb⟩:=R;rw[hR] at CE;unfold RW at CE;clear hR hb hT0 hne hT;go_enter Tryz.func146,Tryz.ntmps146;go_wp2_with fail;refine(CE.out _ HV.out).mono ?_;rintro e w1 ⟨rfl,hb1⟩;go_wp2_with fail;go_ret2;exact⟨rfl,hb1⟩
 ·rw [if_neg hb] at hR;have t1:((((bs l)[0]'h0).toNat:Int)==92)=false:=by rw[hT0];exact aG.2 hb
  have CD:=Tryz.utf8_DecodeRuneInString (bs l) w hT;rw[Pv l hne] at CD;obtain⟨d,hd⟩:=exQ<|Lib.decodeL l;have hbd:(d.1:Int)<=1114111:=by
   have h1:=nM (bs l) 0;rw[aU,List.drop_zero,hd] at h1;rw[h1];have:=(qO (bs l) 0).2;exact this
  rw[hd] at CD hR;obtain⟨c,z⟩:=d;unfold fV at hR;simp only[] at hR CD hbd;have HC:=hid CD;clear CD hd hT0 hb hne hT HV;obtain⟨C,hC⟩: ∃C:Int,(c:Int)=C:=⟨_,rfl⟩;obtain⟨Z,hZ⟩: ∃Z:Int,(z:Int)=Z:=⟨_,rfl⟩;by_cases g1:c<32
  ·rw[aN g1,Bool.true_or,if_pos rfl] at hR;subst hR;have ga:C<32:=(by omega);simp only[hC,hZ] at HC;clear hC hZ g1 hbd;go_enter Tryz.func146,Tryz.ntmps146;go_wp2_with fail;refine HC.out.mono ?_;rintro e w1 ⟨rfl,hb1⟩;go_wp2_with fail;go_ret2;exact⟨rfl,hb1⟩
  ·rw[aJ g1,Bool.false_or] at hR;have ga: ¬C<32:=(by omega);by_cases g2:c=65533
   ·have t2:(C==65533)=true:=beq_iff_eq.2 (by omega);by_cases g3:z=1
    ·rw[if_pos (by simp[g2,g3])] at hR;subst hR;have t3:(Z==1)=true:=beq_iff_eq.2 (by omega);simp only[hC,hZ] at HC;clear hC hZ g1 g2 g3 hbd;go_enter Tryz.func146,Tryz.ntmps146;go_wp2_with fail;refine HC.out.mono ?_;rintro e w1 ⟨rfl,hb1⟩;go_wp2_with fail;go_ret2;exact⟨rfl,hb1⟩
    ·rw[if_neg (by simp[g2,g3])] at hR;subst hR;have t3:(Z==1)=false:=aG.2 (by omega);simp only[hC,hZ] at HC ⊢;clear hC hZ g1 g2 g3 hbd;go_enter Tryz.func146,Tryz.ntmps146;go_wp2_with fail;refine HC.out.mono ?_;rintro e w1 ⟨rfl,hb1⟩;go_wp2_with fail;go_ret2;exact⟨rfl,hb1⟩
   ·have t2:(C==65533)=false:=aG.2 (by omega);rw[if_neg (by simp[g2])] at hR;subst hR;simp only[hC,hZ] at HC ⊢;clear hC hZ g1 g2 hbd;go_enter Tryz.func146,Tryz.ntmps146;go_wp2_with fail;refine HC.out.mono ?_;rintro e w1 ⟨rfl,hb1⟩;go_wp2_with fail;go_ret2;exact⟨rfl,hb1⟩
end Go.Proofs.YtaifnmjjpddikaaGreatDoor
namespace Go.Proofs
open Go.Shelf
def Tryz.laysB168_ren:Go.Shelf.Ren:=⟨fun | 168=>147 | 240=>171 | 242=>179 | 276=>193 | 278=>202 | n=>n,fun | 0=>0 | 3=>3 | 4=>4 | 5=>5 | 9=>9 | 20=>20 | 21=>21 | 37=>174 | 46=>201 | 51=>236 | 53=>216 | 70=>173 | 72=>176 | 75=>129 | 80=>178 | 164=>226 | 127=>211 | n=>n,fun | n=>n⟩
theorem Tryz.laysB168:Go.Proofs.Lays.n168 Tryz.prog Tryz.laysB168_ren:= {
 mixed:=by kernel_rfl
 f168:=Tryz.func147.trans (congrArg some (by kernel_rfl))
 f240:=Tryz.func171.trans (congrArg some (by kernel_rfl))
 f242:=Tryz.func179.trans (congrArg some (by kernel_rfl))
 f276:=Tryz.func193.trans (congrArg some (by kernel_rfl))
 f278:=Tryz.func202.trans (congrArg some (by kernel_rfl))
 t0:=Tryz.underlying0
 a0:=Tryz.isAgg0
 z0:=Tryz.sizeOf0
 v0:=Tryz.zeroValue0
 t3:=Tryz.underlying3
 a3:=Tryz.isAgg3
 z3:=Tryz.sizeOf3
 v3:=Tryz.zeroValue3
 t4:=Tryz.underlying4
 a4:=Tryz.isAgg4
 z4:=Tryz.sizeOf4
 v4:=Tryz.zeroValue4
 t5:=Tryz.underlying5
 a5:=Tryz.isAgg5
 z5:=Tryz.sizeOf5
 v5:=Tryz.zeroValue5
 t9:=Tryz.underlying9
 a9:=Tryz.isAgg9
 z9:=Tryz.sizeOf9
 v9:=Tryz.zeroValue9
 t20:=Tryz.underlying20
 a20:=Tryz.isAgg20
 z20:=Tryz.sizeOf20
 v20:=Tryz.zeroValue20
 t21:=Tryz.underlying21
 a21:=Tryz.isAgg21
 z21:=Tryz.sizeOf21
 v21:=Tryz.zeroValue21
 t37:=Tryz.underlying174
 a37:=Tryz.isAgg174
 z37:=Tryz.sizeOf174
 v37:=Tryz.zeroValue174
 t46:=Tryz.underlying201
 a46:=Tryz.isAgg201
 z46:=Tryz.sizeOf201
 v46:=Tryz.zeroValue201
 t51:=Tryz.underlying236
 a51:=Tryz.isAgg236
 z51:=Tryz.sizeOf236
 v51:=Tryz.zeroValue236
 t70:=Tryz.underlying173
 a70:=Tryz.isAgg173
 z70:=Tryz.sizeOf173
 v70:=Tryz.zeroValue173
 t72:=Tryz.underlying176
 a72:=Tryz.isAgg176
 z72:=Tryz.sizeOf176
 v72:=Tryz.zeroValue176
 t75:=Tryz.underlying129
 a75:=Tryz.isAgg129
 z75:=Tryz.sizeOf129
 v75:=Tryz.zeroValue129
 t164:=Tryz.underlying226
 a164:=Tryz.isAgg226
 z164:=Tryz.sizeOf226
 v164:=Tryz.zeroValue226
}
theorem Tryz.BuilderB168_Extra:Builder.Extra Tryz.prog Tryz.laysB168_ren where
 sizeBuilder:=by kernel_rfl
 liesBuilder:=by kernel_rfl
 t5:=Tryz.underlying5
 a5:=Tryz.isAgg5
 z5:=Tryz.sizeOf5
 v5:=Tryz.zeroValue5
 infoByte:=by kernel_rfl
 cellsByte:=by kernel_rfl
 sizeByte:=by kernel_rfl
 neB5:=by decide
namespace YtaifnmjjpddikaaGreatDoor
open Go.RowKit
def lZ (B b:Nat) (l:List UInt8) (w:World):Prop:=Lib.IsBuilderF 176 5 B b (Lib.byteCells l) w
theorem lZ.new (w:World):lZ w.heap.size w.heap.size [] (w.alloc (.cells #[.pointer none, .slice none 0 0] 176)):=Lib.IsBuilderF.of (Lib.fresh_isBuilder 176 5 w)
theorem lZ.keep {B b:Nat}{l:List UInt8}{w w':World} (h:lZ B b l w) (hb:Below w.heap.size w w'):lZ B b l w':=Lib.IsBuilderF.below h hb
theorem xD (B b:Nat) (l:List UInt8) (r:Int) (w:World) (h:lZ B b l w) (hr:0<=r/\r<=1114111) (hl:l.length<=4294967296) (hB:B<=w.heap.size):
  Calls Tryz.prog 147 #[.pointer (some ⟨b,0,none⟩), .int .i32 r] w λe w'=>e= .returned (.tuple #[.int .i64 (Lib.runeCells r).length, .nilIface])/\lZ B b (l++Lib.encodeRune r) w'/\Below B w w'/\Lib.OthersKept 5 (some b) w w':=
 (Any.Builder_WriteRune_k Tryz.laysB168 Tryz.BuilderB168_Extra B b _ r (by omega) (by omega) w h (by rw[Lib.byteCells_length];omega) hB).mono λ_ _ ⟨h1,h2,h3,h4⟩=>⟨h1,by unfold lZ;rw[Lib.byteCells_append,Lib.byteCells_encodeRune];exact Or.inr h2,h3,h4⟩
end YtaifnmjjpddikaaGreatDoor
end Go.Proofs
namespace Go.Proofs
open Go.Shelf
namespace YtaifnmjjpddikaaGreatDoor
open Go.RowKit
end YtaifnmjjpddikaaGreatDoor
end Go.Proofs
namespace Go.Proofs
open Go.Shelf
namespace YtaifnmjjpddikaaGreatDoor
open Go.RowKit
end YtaifnmjjpddikaaGreatDoor
end Go.Proofs
namespace Go.Proofs.YtaifnmjjpddikaaGreatDoor
set_option linter.unusedSimpArgs false
set_option linter.unusedVariables false
open Go.RowKit
open Go.Lib hiding intOf
def bY:Nat->List UInt8->Nat->List UInt8->List UInt8×Int×Int
 | 0,_,i,_=>([],(i:Int),2)
 | _+1,[],i,_=>([],(i:Int),2)
 | f+1,c::r,i,acc=>if c=34 then(acc,(i:Int)+1,0) else if(cI (c::r)).2=0 then([],(i:Int),2) else
  bY f ((c::r).drop (cI (c::r)).2.toNat) (i+(cI (c::r)).2.toNat) (acc++Lib.encodeRune (cI (c::r)).1)
def bN (l:List UInt8) (at':Int):List UInt8×Int×Int:=
 if 0<=at'/\l[at'.toNat]?=some 34 then bY (l.length+1) (l.drop (at'.toNat+1)) (at'.toNat+1) [] else([],at',2)
def lL (r:List UInt8×Int×Int):Ending:= .returned (.tuple #[.string (bs r.1), .int .i64 r.2.1, .int .i64 r.2.2])
theorem Ez (l:List UInt8):0<=(fM l).1/\(fM l).1<=1114111/\((fM l).2=0\/(1<=(fM l).2/\(fM l).2<=l.length)):=by
 unfold fM;cases h1:eO (l.drop 2) with
 | none=>simp
 | some h=>
  obtain⟨h2,h3⟩:=uV h1;rw[aV] at h3;simp only[];split
  ·simp
  ·split
   ·simp only[];omega
   ·split
    ·simp
    ·cases h4:eO (l.drop 8) with
     | none=>simp
     | some lo=>
      obtain⟨h5,h6⟩:=uV h4;rw[aV] at h6;simp only[];split
      ·simp
      ·simp only[];omega
theorem Py (n:Int):0<=(kE n).1/\(kE n).1<=1114111:=by
 unfold kE
 repeat' split
 all_goals simp
theorem nP (l:List UInt8) (hne:l≠ []):0<=(cI l).1/\(cI l).1<=1114111/\((cI l).2=0\/(1<=(cI l).2/\(cI l).2<=l.length)):=by
 unfold cI;split
 ·unfold jF;cases h:l[1]? with
  | none=>simp
  | some c=>
   have hl:1<l.length:=(aQ.1 h).1;have hm:=Py c.toNat;simp only[];split
   ·simp only[];omega
   ·split
    ·exact Ez l
    ·simp
 ·split
  ·simp
  ·have h1:=nM (bs l) 0;rw[aU,List.drop_zero] at h1;have hb:=qO (bs l) 0;have hp:0<(bs l).size:=by rw[aR];cases l with | nil=>exact absurd rfl hne | cons _ _=>simp
   have hw:=pL (bs l) 0 hp;have sl:=aR l;unfold bT at hb;unfold bK at hw;rw[h1];simp only[];omega
theorem Fa (l:List UInt8) (a:Nat) (w:World) (hs:l.length<=1073741824) (ha:a<=l.length) (hV:cO w) (hT:cC w):
  Calls Tryz.prog 104 #[.string (bs l), .int .i64 a] w λe w'=>e=lL (bN l a)/\Below w.heap.size w w':=by
 have sl:=aR l;obtain⟨R,hR⟩:=exQ<|bN l a;rw[hR];unfold bN at hR;rw[fC] at hR;have HV:=hid hV;have HT:=hid hT;clear hV hT;by_cases h34:l[a]?=some 34
 ·rw [if_pos ⟨by omega,h34⟩] at hR;have hal:a<l.length:=(aQ.1 h34).1;have hal':a<(bs l).size:=by omega
  have t1:((((bs l)[a]'hal').toNat:Int) !=34)=false:=by
   have:=nO l a hal';rw[h34] at this;have h2:(bs l)[a]'hal'=34:=(by simpa using this.symm);rw[h2];rfl
  have d1:decide (l.length<=a)=false:=aJ (by omega);have HR:=hid hR;clear hR h34;go_enter Tryz.func104,Tryz.ntmps104;go_wp2_with fail;go_loopw [1,8,9] (λs1 _ _ wr=> ∃(i f:Nat) (acc:List UInt8),s1= .int .i64 i/\i<=l.length/\acc.length<=4*i/\l.length<i+f/\Hid (bY f (l.drop i) i acc=R)/\Hid (lZ w.heap.size w.heap.size acc wr)/\Hid (Below w.heap.size w wr)) (λs1 _ _ _=>l.length-(RowKit.intOf s1).toNat)
  case atStart=>exact⟨a+1,l.length+1,[],by go_num,by omega,by simp,by omega,HR.out,lZ.new w,aH w _⟩
  case round=>
   obtain⟨i,f,acc,rfl,hi,hacc,hf,HG,HBd,HW⟩:=hrel;obtain⟨g,rfl⟩: ∃g,f=g+1:=⟨f-1,by omega⟩;by_cases hlt:i<l.length
   ·have hlt':i<(bs l).size:=(by omega);have hdr:l.drop i=l[i]'hlt::l.drop (i+1):=iK hlt;have hge:=nO l i hlt';rw[bJ hlt] at hge;have hge2:(bs l)[i]'hlt'=l[i]'hlt:=(by simpa using hge.symm);have T34:=zP ((bs l)[i]'hlt') 34 34 rfl;have hg:=HG.out;rw[hdr] at hg;unfold bY at hg;rw[<-hdr,<-hge2] at hg;clear HG;by_cases hq:(bs l)[i]'hlt'=34
    ·rw[if_pos hq] at hg;have HF:=hid hg;rw[beq_iff_eq.2 hq] at T34;clear hg hdr hge hge2 hq;go_wp2_with fail;refine(Tryz.Builder_String_any_k w.heap.size w.heap.size acc _ HBd.out HW.out.size).mono ?_;rintro e W1 ⟨rfl,_,b1,_⟩;go_wp2_with fail;go_ret3;exact⟨by rw[<-HF.out];rfl,HW.out.trans b1⟩
    ·rw[if_neg hq] at hg;rw[aG.2 hq] at T34;have hne:l.drop i≠ []:=by rw[hdr];exact List.cons_ne_nil _ _
     have hpb:=nP (l.drop i) hne;rw[aV] at hpb;obtain⟨P,hP⟩:=exQ<|cI (l.drop i);obtain⟨rn,wd⟩:=P;have CP:Hid (∀w,cO w->cC w->Calls Tryz.prog 146 #[.string ((bs l).extract i l.length)] w λe w'=>e= .returned (.tuple #[.int .i32 rn, .int .i64 wd])/\Below w.heap.size w w'):=hid (λw h1 h2=>by have:=Pw (l.drop i) w hne (by rw[aV];omega) h1 h2;rw[hP] at this;rw[lK _ _ _ rfl];exact this);rw[hP] at hg hpb;simp only[] at hg hpb;obtain⟨p0,p1,p2⟩:=hpb;have hz:w.heap.size<=wr.heap.size:=HW.out.size;clear hdr hge hge2 hq hne hP;by_cases hw0:wd=0
     ·rw[if_pos hw0] at hg;have HF:=hid hg;subst hw0;clear hg p2;go_wp2_with fail;refine(CP.out _ (HV.out.keep HW.out) (HT.out.keep HW.out)).mono ?_;rintro e w1 ⟨rfl,hb1⟩;go_wp2_with fail;go_ret3;exact⟨by rw[<-HF.out];rfl,HW.out.trans (hb1.mono hz)⟩
     ·rw[if_neg hw0] at hg;obtain⟨N,rfl⟩: ∃N:Nat,wd=N:=⟨wd.toNat,by omega⟩;rw[fC,kB] at hg;have hN:1<=N/\N<=l.length-i:=(by omega);have hl4:=Lib.runeCells_le rn;rw[Lib.runeCells_length] at hl4;have hw1:((N:Int)==0)=false:=aG.2 hw0;have HG2:=hid hg;clear hg hw0 p2;go_wp2_with fail;refine(CP.out _ (HV.out.keep HW.out) (HT.out.keep HW.out)).mono ?_;rintro e w1 ⟨rfl,hb1⟩;have HBd1:=hid (HBd.out.keep hb1);have HW1:=hid (HW.out.trans (hb1.mono hz));clear hb1;go_wp2_with fail;refine(xD w.heap.size w.heap.size acc rn _ HBd1.out ⟨p0,p1⟩ (by omega) HW1.out.size).mono ?_;rintro e w2 ⟨rfl,h2,b2,_⟩;have HBd2:=hid h2;have HW2:=hid (HW1.out.trans b2);clear h2 b2;go_wp2_with fail;go_roundw
      case rel=>exact⟨i+N,g,acc++Lib.encodeRune rn,by go_num,by omega,by rw[aS];omega,by omega,HG2.out,HBd2.out,HW2.out⟩
      case measure=>simp[RowKit.intOf];omega
   ·have hg:=HG.out;rw[List.drop_of_length_le (by omega)] at hg;have HF:=hid (show ([],(i:Int),2)=R from hg);obtain rfl:i=l.length:=(by omega);clear hg HG;go_wp2_with fail;go_ret3;exact⟨by rw[<-HF.out];rfl,HW.out⟩
 ·rw[if_neg (λh=>h34 h.2)] at hR;subst hR;by_cases hal:a<l.length
  ·have hal':a<(bs l).size:=(by omega);have t1:((((bs l)[a]'hal').toNat:Int) !=34)=true:=by
    rw[fH];intro h;apply h34;rw[nO l a hal'];have:((bs l)[a]'hal')=34:=UInt8.toNat_inj.1 (by show _=34;omega);rw[this]
   clear h34;go_enter Tryz.func104,Tryz.ntmps104;go_wp2_with fail;go_ret3;exact⟨rfl,aB _ _⟩
  ·clear h34;go_enter Tryz.func104,Tryz.ntmps104;go_wp2_with fail;go_ret3;exact⟨rfl,aB _ _⟩
def fW (l:List UInt8):List UInt8×Int×Int:=
 if(bN l 0).2.2=0/\(bN l 0).2.1<l.length then([],(bN l 0).2.1,2) else bN l 0
def mA (l:List UInt8) (a:Int):Int×Int:=if a<0\/(l.length:Int)<a then(0,2) else((bN l a).2.1,(bN l a).2.2)
theorem Fc (l:List UInt8) (a:Int) (w:World) (hs:l.length<=1073741824) (hV:cO w) (hT:cC w):
  Calls Tryz.prog 135 #[.string (bs l), .int .i64 a] w λe w'=>e= .returned (.tuple #[.int .i64 (mA l a).1, .int .i64 (mA l a).2])/\Below w.heap.size w w':=by
 have sl:=aR l;unfold mA;by_cases h:a<0\/(l.length:Int)<a
 ·rw[if_pos h];rcases h with h | h
  all_goals
   go_enter Tryz.func135,Tryz.ntmps135;go_wp2_with fail;go_ret2;exact⟨rfl,aB _ _⟩
 ·rw[if_neg h];have h1:0<=a:=by omega
  have h2:a<=l.length:=by omega
  have C:=Fa l a.toNat w hs (by omega) hV hT;rw[show ((a.toNat:Nat):Int)=a by omega] at C;obtain⟨R,hR⟩:=exQ<|bN l a;obtain⟨s,k,er⟩:=R;rw[hR] at C ⊢;have HC:=hid C;clear C hR hV hT h;go_enter Tryz.func135,Tryz.ntmps135;go_wp2_with fail;refine HC.out.mono ?_;unfold lL;rintro e w1 ⟨rfl,hb1⟩;go_wp2_with fail;go_ret2;exact⟨rfl,hb1⟩
theorem xE (l:List UInt8) (w:World) (hs:l.length<=1073741824) (hV:cO w) (hT:cC w):
  Calls Tryz.prog 65 #[.string (bs l)] w λe w'=>e=lL (fW l)/\Below w.heap.size w w':=by
 have sl:=aR l;have C:=Fa l 0 w hs (by omega) hV hT;have hq:fW l=if(bN l 0).2.2=0/\(bN l 0).2.1<l.length then([],(bN l 0).2.1,2) else bN l 0:=rfl;obtain⟨R,hR⟩:=exQ<|bN l 0;obtain⟨s,k,er⟩:=R;rw[show ((0:Nat):Int)=0 from rfl,hR] at C;rw[hR] at hq;simp only[] at hq;have HC:=hid C;clear C hR hV hT;by_cases h1:er=0
 ·subst h1;by_cases h2:k<l.length
  ·rw[hq,if_pos ⟨rfl,h2⟩];clear hq;go_enter Tryz.func65,Tryz.ntmps65;go_wp2_with fail;refine HC.out.mono ?_;unfold lL;rintro e w1 ⟨rfl,hb1⟩;go_wp2_with fail;go_ret3;exact⟨rfl,hb1⟩
  ·rw[hq,if_neg (λh=>h2 h.2)];clear hq;go_enter Tryz.func65,Tryz.ntmps65;go_wp2_with fail;refine HC.out.mono ?_;unfold lL;rintro e w1 ⟨rfl,hb1⟩;go_wp2_with fail;go_ret3;exact⟨rfl,hb1⟩
 ·rw[hq,if_neg (λh=>h1 h.1)];have t1:(er==0)=false:=aG.2 h1;clear hq h1;go_enter Tryz.func65,Tryz.ntmps65;go_wp2_with fail;refine HC.out.mono ?_;unfold lL;rintro e w1 ⟨rfl,hb1⟩;go_wp2_with fail;go_ret3;exact⟨rfl,hb1⟩
end Go.Proofs.YtaifnmjjpddikaaGreatDoor
