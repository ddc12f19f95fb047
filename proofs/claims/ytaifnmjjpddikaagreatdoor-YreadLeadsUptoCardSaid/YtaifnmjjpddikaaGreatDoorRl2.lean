import Derived.Test.YtaifnmjjpddikaaGreatDoorRl1
import Derived.BigQuiet
import Derived.Deep.QuietTactic
import Derived.Deep.DeepCutAuto
import Derived.Deep.CutBlock
import Derived.Deep.RegionHeld3
import Derived.Lib.IndexBytes
import Derived.Lib.ConvBytes
import Derived.Lib.AtoiAllMem
import Derived.Laws.Closers25
import Derived.Laws.Closers25b
import Derived.BigCall
import Derived.BigGuard
import Derived.Test.YtaifnmjjpddikaaGreatDoorShelfC
import Derived.Lib.QuoteLoop
import Derived.WalkMore
import Derived.Shelf.Strings.BuilderK
import Derived.Shelf.Strings.BuilderRune
import Derived.Shelf.Strings.MapGrows
import Derived.Test.YtaifnmjjpddikaaGreatDoorProg
import Derived.KernelRfl
set_option maxRecDepth 100000
set_option maxHeartbeats 8000000
namespace Go.Proofs.YtaifnmjjpddikaaGreatDoor
set_option linter.unusedSimpArgs false
set_option linter.unusedVariables false
open Go.RowKit
open Go.Lib hiding intOf
def mR (c:UInt8):Option Nat:=
 if 48<=c.toNat/\c.toNat<=57 then some (c.toNat-48) else if 97<=c.toNat/\c.toNat<=102 then some (c.toNat-87) else if 65<=c.toNat/\c.toNat<=70 then some (c.toNat-55) else none
def iG:Nat->List UInt8->Option Nat
 | acc,[]=>some acc
 | acc,c::r=>match mR c with | none=>none | some d=>iG (16*acc+d) r
def xT (r:Option Nat):Ending:=match r with
 | some n=> .returned (.tuple #[.int .u64 n, .nilIface])
 | none=> .returned (.tuple #[.int .u64 0, .iface 203 (.int .i64 2)])
theorem Qs: ∀n:Fin 256,((65<=n.val/\n.val<=70->bits .or .u8 (n.val:Int) 32=(n.val:Int)+32)/\(97<=n.val/\n.val<=102->bits .or .u8 (n.val:Int) 32=(n.val:Int))/\
  (¬(65<=n.val/\n.val<=70)-> ¬(97<=n.val/\n.val<=102)->bits .or .u8 (n.val:Int) 32<97\/103<=bits .or .u8 (n.val:Int) 32)/\0<=bits .or .u8 (n.val:Int) 32/\bits .or .u8 (n.val:Int) 32<=255):=by decide+kernel
theorem Qt (c:UInt8):(65<=c.toNat/\c.toNat<=70->bits .or .u8 (c.toNat:Int) 32=(c.toNat:Int)+32)/\(97<=c.toNat/\c.toNat<=102->bits .or .u8 (c.toNat:Int) 32=(c.toNat:Int))/\
  (¬(65<=c.toNat/\c.toNat<=70)-> ¬(97<=c.toNat/\c.toNat<=102)->bits .or .u8 (c.toNat:Int) 32<97\/103<=bits .or .u8 (c.toNat:Int) 32)/\0<=bits .or .u8 (c.toNat:Int) 32/\bits .or .u8 (c.toNat:Int) 32<=255:=
 Qs ⟨c.toNat,c.toNat_lt⟩
theorem Ao (c:Int) (w:World):
  Calls Tryz.prog 206 #[.int .u8 c] w λe w'=>e= .returned (.int .u8 (bits .or .u8 c 32))/\w=w':=by
 go_enter Tryz.func206,Tryz.ntmps206;go_wp2_with fail;go_ret;exact⟨rfl,rfl⟩
theorem Qu (t:ByteArray) (ht:t.size=4) (w:World):
  Calls Tryz.prog 187 #[.string t, .int .i64 16, .int .i64 32] w λe w'=>e=xT (iG 0 t.data.toList)/\Below w.heap.size w w':=by
 have hemp:t.toList.isEmpty=false:=by
  rw[<-decide_eq_emptyBytes];exact aH (λh=>by rw[h] at ht;cases ht)
 have K:=Lib.run_convert_string_bytes (P:=Tryz.prog) w 9 174 5 t (u:= .string) Tryz.underlying9 Tryz.underlying174 Tryz.underlying5;have I: ∀j,j<t.size->(Lib.bytesWorld w 5 t).cell? ⟨w.heap.size,j,none⟩=some (.int .u8 (t.data.toList.getD j 0).toNat):=λj S=>Lib.bytesWorld_cell w 5 t j S;have i:=hid (Lib.bytesWorld_below w 5 t);obtain⟨W1,C⟩: ∃W1,W1=Lib.bytesWorld w 5 t:=⟨_,rfl⟩;rw[<-C] at K I i;clear C;obtain⟨bl,J⟩: ∃bl,bl=t.data.toList:=⟨_,rfl⟩;have hLn:bl.length=t.size:=by rw[J,Lib.size_eq]
 rw[<-J] at I ⊢;clear J;obtain⟨R,L⟩:=exQ<|xT (iG 0 bl);rw[L];have M:=hid L;clear L;have hmv:IntKind.u64.wrap (IntKind.u64.wrap 4294967296-1)=4294967295:=by
  rw[IntKind.wrap_u64,IntKind.wrap_u64];decide
 go_enter Tryz.func187,Tryz.ntmps187;go_wp2_with fail;go_loop [12,13,101] (λvu vn vi=> ∃(k acc:Nat) (a:Int),vu= .bool false/\vn= .int .u64 a/\vi= .int .i64 k/\k<=t.size/\a<=65535/\0<=a/\(k<=3->a<=4095)/\Hid (a=(acc:Int)/\acc<16 ^ k/\iG 0 bl=iG acc (bl.drop k)))
  (λ_ _ vi=>t.size-(RowKit.intOf vi).toNat)
 case atStart=>exact⟨0,0,0,rfl,rfl,rfl,by omega,by omega,by omega,λ_=>by omega,rfl,by decide,rfl⟩
 case round=>
  obtain⟨k,acc,a,rfl,rfl,rfl,hk,ha1,ha2,E,O⟩:=hrel;obtain⟨A,l,b⟩:=O.out;clear O;by_cases hkn:k<t.size
  ·have Q:=I k hkn;have p:bl.drop k=bl[k]'(by omega)::bl.drop (k+1):=iH (by omega);have s:bl.getD k 0=bl[k]'(by omega):=(by simp[List.getD,bE (show k<bl.length by omega)]);rw[p] at b;rw[s] at Q;generalize bl[k]'(by omega)=c at Q b;have hc256:c.toNat<256:=c.toNat_lt;have hk3:a<=4095:=E (by omega);obtain⟨lw1,lw2,lw3,lw4,lw5⟩:=Qt c;have n:16 ^ (k+1)=16*16 ^ k:=by rw[Nat.pow_succ];omega
   have m:k<=2->(16:Nat) ^ (k+1)<=4096:=λh=>aY (Nat.pow_le_pow_right (by decide) (show k+1<=3 by omega)) (by decide);clear I p s E;have f: ∀d:Nat,mR c=some d->d<16->Hid (a*16+(d:Int)=((16*acc+d:Nat):Int)/\16*acc+d<16 ^ (k+1)/\iG 0 bl=iG (16*acc+d) (bl.drop (k+1)))/\(k+1<=3->a*16+(d:Int)<=4095):=λd U hd16=>by
    have T:16*acc+d<16 ^ (k+1):=by rw[n];omega
    refine⟨⟨by omega,T,?_⟩,λh=>by have:=m (by omega);omega⟩;rw[b];simp only[iG,U]
   by_cases hdig:48<=c.toNat/\c.toNat<=57
   ·obtain⟨r,q⟩:=hdig;obtain⟨z,y⟩:=f (c.toNat-48) (by unfold mR;rw[if_pos ⟨r,q⟩]) (by omega);rw[show ((c.toNat-48:Nat):Int)=(c.toNat:Int)-48 by omega] at z y;clear b f lw1 lw2 lw3 lw4 lw5 l A n m;go_wp2_with fail;refine⟨⟨k+1,16*acc+(c.toNat-48),a*16+((c.toNat:Int)-48),rfl,(by first | rfl | (congr 1;omega)),(by first | rfl | (congr 1;omega)),by omega,by omega,by omega,y,z⟩,by simp[RowKit.intOf];omega⟩
   ·by_cases hlo:97<=c.toNat/\c.toNat<=102
    ·have D:=lw2 hlo;obtain⟨r,q⟩:=hlo;obtain⟨z,y⟩:=f (c.toNat-87) (by unfold mR;rw[if_neg hdig,if_pos ⟨r,q⟩]) (by omega);rw[show ((c.toNat-87:Nat):Int)=(c.toNat:Int)-97+10 by omega] at z y;have g: ¬c.toNat<=57:=(by omega);have x:Hid (∀w,Calls Tryz.prog 206 #[.int .u8 (c.toNat:Int)] w λe w'=>e= .returned (.int .u8 (c.toNat:Int))/\w=w'):=hid (λw=>by have:=Ao (c.toNat:Int) w;rw[D] at this;exact this);clear b f lw1 lw2 lw3 lw4 lw5 l A n m D hdig;go_wp2_with (go_at_call 206;refine(x.out _).mono ?_;rintro e w' ⟨rfl,rfl⟩);refine⟨⟨k+1,16*acc+(c.toNat-87),a*16+((c.toNat:Int)-97+10),rfl,(by first | rfl | (congr 1;omega)),(by first | rfl | (congr 1;omega)),by omega,by omega,by omega,y,z⟩,by simp[RowKit.intOf];omega⟩
    ·by_cases hup:65<=c.toNat/\c.toNat<=70
     ·have D:=lw1 hup;obtain⟨r,q⟩:=hup;obtain⟨z,y⟩:=f (c.toNat-55) (by unfold mR;rw[if_neg hdig,if_neg hlo,if_pos ⟨r,q⟩]) (by omega);rw[show ((c.toNat-55:Nat):Int)=(c.toNat:Int)+32-97+10 by omega] at z y;have g: ¬c.toNat<=57:=(by omega);have x:Hid (∀w,Calls Tryz.prog 206 #[.int .u8 (c.toNat:Int)] w λe w'=>e= .returned (.int .u8 ((c.toNat:Int)+32))/\w=w'):=hid (λw=>by have:=Ao (c.toNat:Int) w;rw[D] at this;exact this);clear b f lw1 lw2 lw3 lw4 lw5 l A n m D hdig hlo;go_wp2_with (go_at_call 206;refine(x.out _).mono ?_;rintro e w' ⟨rfl,rfl⟩);refine⟨⟨k+1,16*acc+(c.toNat-55),a*16+((c.toNat:Int)+32-97+10),rfl,(by first | rfl | (congr 1;omega)),(by first | rfl | (congr 1;omega)),by omega,by omega,by omega,y,z⟩,by simp[RowKit.intOf];omega⟩
     ·have F:iG acc (c::bl.drop (k+1))=none:=by simp only[iG];unfold mR;rw[if_neg hdig,if_neg hlo,if_neg hup]
      rw[F] at b;have B:=hid (M.out.symm.trans (by rw[b]));have N:=lw3 hup hlo;obtain⟨v,H⟩:=exQ<|bits .or .u8 (c.toNat:Int) 32;have x:Hid (∀w,Calls Tryz.prog 206 #[.int .u8 (c.toNat:Int)] w λe w'=>e= .returned (.int .u8 v)/\w=w'):=hid (λw=>by have:=Ao (c.toNat:Int) w;rw[H] at this;exact this);have o:c.toNat=95->v=127:=λh=>by rw[<-H,h];decide+kernel
      rw[H] at N lw4 lw5;have g:c.toNat<48\/57<c.toNat:=(by omega);clear b f lw1 lw2 lw3 l A n m hdig hlo hup F H;by_cases h95:c.toNat=95
      ·obtain rfl:=o h95;have G:((c.toNat:Int)==95)=true:=beq_iff_eq.2 (by omega);have hnd2:57<c.toNat:=(by omega);clear h95 o;go_wp2_with (go_at_call 206;refine(x.out _).mono ?_;rintro e w' ⟨rfl,rfl⟩);go_ret2;exact⟨B.out.symm,i.out⟩
      ·clear o;have G:((c.toNat:Int)==95)=false:=aK.2 (by omega);by_cases hv1:v<97
       ·rcases g with g | g
        all_goals
         go_wp2_with (go_at_call 206;refine(x.out _).mono ?_;rintro e w' ⟨rfl,rfl⟩);go_ret2;exact⟨B.out.symm,i.out⟩
       ·have hv2:103<=v:=N.resolve_left hv1;by_cases hv3:v<=122
        ·rcases g with g | g
         all_goals
          go_wp2_with (go_at_call 206;refine(x.out _).mono ?_;rintro e w' ⟨rfl,rfl⟩);go_ret2;exact⟨B.out.symm,i.out⟩
        ·rcases g with g | g
         all_goals
          go_wp2_with (go_at_call 206;refine(x.out _).mono ?_;rintro e w' ⟨rfl,rfl⟩);go_ret2;exact⟨B.out.symm,i.out⟩
  ·obtain rfl:k=t.size:=(by omega);have F:iG acc (bl.drop t.size)=some acc:=by rw[List.drop_eq_nil_of_le (by omega)];rfl
   rw[F] at b;have B:=hid (M.out.symm.trans (by rw[b]));have V:=hid A;clear l F b A;go_wp2_with fail;go_ret2;exact⟨by rw[B.out,V.out];rfl,i.out⟩
theorem Ge {P:Program}{f:FuncId}{args:Array Value}{w:World}{a n:Nat}{v:Value}
  (h:Calls P f args (w.drewN (a+n)) λe w'=>e= .returned v/\w.drewN (a+n)=w'):
  Calls P f args (w.drewN (a+n)) λe w''=>e= .returned v/\ ∃m,w''=w.drewN (a+m):=
 h.mono λ_ _ ⟨c,b⟩=>⟨c,n,b.symm⟩
theorem Qv (r:Int) (w:World) (h1:128<=r) (h2:r<=1114111) (h3:r<55296\/57343<r):
  Calls Tryz.prog 184 #[.int .i32 r] w λe w'=>e= .returned (.bool true)/\w=w':=by
 rcases h3 with h3 | h3
 all_goals
  go_enter Tryz.func184,Tryz.ntmps184;go_wp2_with fail;go_ret;exact⟨rfl,rfl⟩
theorem Ap: ∀(l:List UInt8) (b:UInt8),(∀c∈l,c≠b)->Lib.indexByte l b= -1
 | [],b,_=>rfl
 | c::t,b,h=>by
  have h1:(c==b)=false:=aK.2 (h c (by simp));have d:=Ap t b (λx a=>h x (by simp[a]));unfold Lib.indexByte;simp[h1,d]
theorem Gf (A:ByteArray) (i k:Nat) (b:UInt8) (hb:128<=b.toNat) (hA:A.data.toList.all (λc=>decide (c.toNat<128))=true:=by decide) (w:World):
  Calls Tryz.prog 32 #[.string (A.extract i k), .int .u8 (b.toNat:Int)] w λe w'=>e= .returned (.int .i64 (-1))/\w=w':=by
 have h:=vL (A.extract i k) b w;rw[Ap] at h
 ·exact h
 ·intro c a e;rw[lG,aZ] at a;have d:c∈A.data.toList:=List.mem_of_mem_drop (List.mem_of_mem_take a);have:=of_decide_eq_true (fH.1 hA c d);rw[e] at this;omega
theorem Qw (S:ByteArray) (w:World) (hS:S.data.toList.all (λc=>decide (c.toNat<128))=true) (hsz:S.size<=4294967296):
  Calls Tryz.prog 156 #[.string S, .int .i32 65533] w λe w'=>e= .returned (.int .i64 (-1))/\Below w.heap.size w w':=by
 have a: ∀p (h:p<S.size),(S[p]'h).toNat<128:=λp h=>of_decide_eq_true (fH.1 hS _ (Array.getElem_mem_toList _));have o:=hid a;clear a hS;go_enter Tryz.func156,Tryz.ntmps156;go_wp2_with fail;go_loopw [5,6] (λ_ _ wr=> ∃p:Nat,p<=S.size/\Hid (wr.heap[w.heap.size]?=some (.stringIter S p))/\Hid (Below w.heap.size w wr)) (λ_ _ wr=>S.size-wr.iterPos w.heap.size)
 case atStart=>exact⟨0,by omega,World.iter_heap w S 0,(aB _ _).alloc (aE _) _⟩
 case round=>
  obtain⟨p,hp,d,l⟩:=hrel;by_cases hlt:p<S.size
  ·have m:=o.out p hlt;have f:=decode_ascii S p hlt m;have e1:bQ S p=((S[p]'hlt).toNat:Int):=by unfold bQ;rw[f]
   have e2:bJ S p=1:=by unfold bJ;rw[f]
   have g: ∀ty,(Instr.next (.pointer (some ⟨w.heap.size,0,none⟩)) true ty).run Tryz.prog wr= .ok (.tuple #[.bool true, .int .i64 p, .int .i32 ((S[p]'hlt).toNat:Int)]) (wr.iterAt w.heap.size S (p+1)):=λty=>by
    have:=Lib.run_next_any_at (P:=Tryz.prog) wr w.heap.size S p ty d.out hlt;have k:=e1;have j:=e2;unfold bQ at k;unfold bJ at j;rw[k,j] at this;exact this
   have b:=hid (Lib.iterAt_heap wr w.heap.size S p (p+1) d.out);have i:=hid (Lib.below_iterAt l.out (aE w.heap.size) S (p+1));have n:=hid (iterPos_of d.out);have t1:(((S[p]'hlt).toNat:Int)==65533)=false:=aK.2 (by omega);clear e1 e2 f;go_wp2_with fail;go_roundw
   case rel=>exact⟨p+1,by omega,b.out,i.out⟩
   case measure=>rw[iterPos_of b.out,n.out];omega
  ·have g: ∀ty,(Instr.next (.pointer (some ⟨w.heap.size,0,none⟩)) true ty).run Tryz.prog wr= .ok (.tuple #[.bool false]) wr:=λty=>Lib.run_next_end_at wr _ S p ty d.out hlt;go_wp2_with fail;go_ret;exact⟨rfl,l.out⟩
theorem Qx (r:Int) (w:World) (h1:128<=r) (h2:r<=1114111) (h3:r<55296\/57343<r):
  Calls Tryz.prog 156 #[.string ⟨#[43,45,95]⟩, .int .i32 r] w λe w'=>e= .returned (.int .i64 (-1))/\Below w.heap.size w w':=by
 by_cases h4:r=65533
 ·subst h4;exact Qw _ w (by decide) (by decide)
 ·have j:(r==65533)=false:=aK.2 h4;go_enter Tryz.func156,Tryz.ntmps156;go_wp2_with fail;refine(Qv r _ h1 h2 h3).mono ?_;rintro e w' ⟨rfl,rfl⟩;go_wp2_with fail;go_step3;obtain⟨n,c,g,a⟩:=Qr r h1 h2 h3;obtain⟨E,d⟩:=exQ<|Utf8.encode r;rw[d] at g a;have i:=hid d;clear d;go_upto_region 1 with fail;go_cut [7] (λs7 wx=>s7= .string E/\w=wx)
  case first=>
   go_wp2_with fail;go_meet;exact⟨by rw[i.out],rfl⟩
  obtain⟨rfl,rfl⟩:=hcut;clear i h3 h4 j;obtain rfl|rfl|rfl:n=2\/n=3\/n=4:=by omega
  ·have b:1<E.size:=(by omega);have f:=a (by omega);simp only[Nat.reduceSub] at f;have t1:((((⟨#[43,45,95]⟩:ByteArray)[1]'(by decide)).toNat:Int) !=((E[1]'b).toNat:Int))=true:=gD.2 (by show ((45:Nat):Int)≠_;omega);have CI:=hid (Gf (⟨#[43,45,95]⟩:ByteArray) 2 3 (E[1]'b) (by omega));have h:(⟨#[43,45,95]⟩:ByteArray).size=3:=rfl;clear a c;go_wp2_with fail;go_loopw [9] (λs9 wr=>s9= .int .i64 1/\w=wr) (λ_ _=>0)
   case atStart=>exact⟨rfl,rfl⟩
   case round=>
    obtain⟨rfl,rfl⟩:=hrel;go_wp2_with fail;go_step3;go_wp2_with fail;go_quiet (fail);go_wp2_with fail;go_quiet ((go_at_call 32;first | exact quiet_left (CI.out _) | exact Ge (CI.out _)));go_wp2_with fail;show bodyPost Tryz.prog Tryz.f156 (λe w'=>e=Ending.returned (Value.int IntKind.i64 (-1))/\Below w.heap.size w w') Exit.ret _ _;go_ret;exact⟨rfl,below_drewN (aB _ _) _⟩
  ·have b:2<E.size:=(by omega);have f:=a (by omega);simp only[Nat.reduceSub] at f;have t1:((((⟨#[43,45,95]⟩:ByteArray)[2]'(by decide)).toNat:Int) !=((E[2]'b).toNat:Int))=true:=gD.2 (by show ((95:Nat):Int)≠_;omega);have CI:=hid (Gf (⟨#[43,45,95]⟩:ByteArray) 3 3 (E[2]'b) (by omega));have h:(⟨#[43,45,95]⟩:ByteArray).size=3:=rfl;clear a c;go_wp2_with fail;go_loopw [9] (λs9 wr=>s9= .int .i64 2/\w=wr) (λ_ _=>0)
   case atStart=>exact⟨rfl,rfl⟩
   case round=>
    obtain⟨rfl,rfl⟩:=hrel;go_wp2_with fail;go_step3;go_wp2_with fail;go_quiet (fail);go_wp2_with fail;go_quiet ((go_at_call 32;first | exact quiet_left (CI.out _) | exact Ge (CI.out _)));go_wp2_with fail;show bodyPost Tryz.prog Tryz.f156 (λe w'=>e=Ending.returned (Value.int IntKind.i64 (-1))/\Below w.heap.size w w') Exit.ret _ _;go_ret;exact⟨rfl,below_drewN (aB _ _) _⟩
  ·have h3': ¬(3:Int)<3:=(by omega);clear a c;go_wp2_with fail;go_loopw [9] (λs9 wr=>s9= .int .i64 3/\w=wr) (λ_ _=>0)
   case atStart=>exact⟨rfl,rfl⟩
   case round=>
    obtain⟨rfl,rfl⟩:=hrel;go_wp2_with fail;rw[Exit.noGoto_ret];go_ret;exact⟨rfl,aB _ _⟩
theorem Qy (s:ByteArray) (p:Nat):bQ s p<55296\/57343<bQ s p:=by
 unfold bQ;rw[decode_at];have:=decodeN_valid (s.size-p) (s.get! p).toNat (s.get! (p+1)).toNat (s.get! (p+2)).toNat (s.get! (p+3)).toNat (UInt8.toNat_lt _);omega
theorem Qz (l:List UInt8) (b:UInt8) (h:0<=Lib.indexByte l b):b∈l:=by
 apply Classical.byContradiction;intro d;rw[Ap l b (λc a e=>d (e ▸ a))] at h;omega
def Ra (r:Int) (e:Ending):Prop:= ∃k:Int,e= .returned (.int .i64 k)/\(0<=k->r=43\/r=45\/r=95)
theorem Rb (r:Int) (w:World) (h0:0<=r) (h2:r<=1114111) (h3:r<55296\/57343<r):
  Calls Tryz.prog 156 #[.string ⟨#[43,45,95]⟩, .int .i32 r] w λe w'=>Ra r e/\Below w.heap.size w w':=by
 by_cases h1:r<128
 ·refine(Tryz.strings_IndexRune_ascii ⟨#[43,45,95]⟩ r w h0 h1).mono ?_;rintro e w' ⟨rfl,d⟩;rw[d];refine⟨⟨_,rfl,λh=>?_⟩,aB _ _⟩;have a:=Qz _ _ h;have f:r.toNat.toUInt8.toNat=r.toNat:=by
   rw[show r.toNat.toUInt8=UInt8.ofNat r.toNat from rfl,UInt8.toNat_ofNat'];exact Nat.mod_eq_of_lt (by omega)
  simp only[dC,List.not_mem_nil,or_false] at a;rcases a with a | a | a
  all_goals
   have b:=congrArg UInt8.toNat a;rw[f] at b
   first | (left;have:r.toNat=43:=b;omega) | (right;left;have:r.toNat=45:=b;omega) | (right;right;have:r.toNat=95:=b;omega)
 ·refine(Qx r w (by omega) h2 h3).mono ?_;rintro e w' ⟨rfl,c⟩;exact⟨⟨_,rfl,λh=>by omega⟩,c⟩
def Gg (t:ByteArray) (e:Ending):Prop:= ∃B,e= .returned (.bool B)/\(B=true-> ∃c∈t.data.toList,c.toNat=43\/c.toNat=45\/c.toNat=95)
def Rc (t:ByteArray) (e:Ending):Prop:= ∃k:Int,e= .returned (.int .i64 k)/\(0<=k-> ∃c∈t.data.toList,c.toNat=43\/c.toNat=45\/c.toNat=95)
theorem Rd (t:ByteArray) (w:World) (hs:t.size<=8):
  Calls Tryz.prog 112 #[.string t, .string ⟨#[43,45,95]⟩] w λe w'=>Rc t e/\Below w.heap.size w w':=by
 go_enter Tryz.func112,Tryz.ntmps112;go_wp2_with fail;refine(Tryz.strings_shouldUseASCIISet _ _).mono ?_;rintro e w' ⟨rfl,m⟩;rw[m];clear m;have o:decide (8<(t.size:Int))=false:=aH (by omega);rw[o];go_wp2_with fail;go_loopw [9,10] (λ_ _ wr=> ∃p:Nat,p<=t.size/\Hid (wr.heap[w.heap.size]?=some (.stringIter t p))/\Hid (Below w.heap.size w wr)) (λ_ _ wr=>t.size-wr.iterPos w.heap.size)
 case atStart=>exact⟨0,by omega,World.iter_heap w t 0,(aB _ _).alloc (aE _) _⟩
 case round=>
  obtain⟨p,hp,i,s⟩:=hrel;by_cases hlt:p<t.size
  ·have m:=qB t p hlt;have l:=qZ t p;have q:=Qy t p;have n: ∀ty,(Instr.next (.pointer (some ⟨w.heap.size,0,none⟩)) true ty).run Tryz.prog wr= .ok (.tuple #[.bool true, .int .i64 p, .int .i32 (bQ t p)]) (wr.iterAt w.heap.size t (p+bJ t p)):=λty=>Lib.run_next_any_at wr _ t p ty i.out hlt;have hz:w.heap.size<wr.heap.size:=aF i.out;have f:=hid (Lib.iterAt_heap wr w.heap.size t p (p+bJ t p) i.out);have j:=hid (Lib.below_iterAt s.out (aE w.heap.size) t (p+bJ t p));have A:=hid (iterPos_of i.out);have a:(bQ t p=43\/bQ t p=45\/bQ t p=95)-> ∃c∈t.data.toList,c.toNat=43\/c.toNat=45\/c.toNat=95:=λh=>by
    refine⟨t[p]'hlt,Array.getElem_mem_toList _,?_⟩;by_cases hb:(t[p]'hlt).toNat<128
    ·have u:=decode_ascii t p hlt hb;unfold bQ at h;rw[u] at h;simp only[] at h;omega
    ·have u:=(decode_high t p hlt (by omega)).1;unfold bQ at h;omega
   have z:=hid a;clear a;generalize bQ t p=r at *;generalize bJ t p=wd at *;go_wp2_with fail;refine(Rb r _ l.1 l.2 q).mono ?_;rintro e w2 ⟨⟨k,rfl,v⟩,b⟩;have x:=hid v;clear v;have g:=hid ((b.block w.heap.size (aF f.out)).trans f.out);have d:=hid (j.out.trans (b.mono j.out.size));clear b;by_cases hk0:0<=k
   ·have y:=hid (z.out (x.out hk0));go_wp2_with fail;go_ret;exact⟨⟨_,rfl,λ_=>y.out⟩,d.out⟩
   ·go_wp2_with fail;go_roundw
    case rel=>exact⟨p+wd,by omega,g.out,d.out⟩
    case measure=>rw[iterPos_of g.out,A.out];omega
  ·have n: ∀ty,(Instr.next (.pointer (some ⟨w.heap.size,0,none⟩)) true ty).run Tryz.prog wr= .ok (.tuple #[.bool false]) wr:=λty=>Lib.run_next_end_at wr _ t p ty i.out hlt;go_wp2_with fail;go_ret;exact⟨⟨_,rfl,λh=>by omega⟩,s.out⟩
theorem Gh (t:ByteArray) (w:World) (hs:t.size<=8):
  Calls Tryz.prog 76 #[.string t, .string ⟨#[43,45,95]⟩] w λe w'=>Gg t e/\Below w.heap.size w w':=by
 go_enter Tryz.func76,Tryz.ntmps76;go_wp2_with fail;refine(Rd t w hs).mono ?_;rintro e w1 ⟨⟨k,rfl,b⟩,a⟩;have c:=hid b;clear b;by_cases hk0:0<=k
 ·have d:=hid (c.out hk0);have f:decide (0<=k)=true:=aM hk0;go_wp2_with fail;go_ret;exact⟨⟨_,rfl,λ_=>d.out⟩,a⟩
 ·have f:decide (0<=k)=false:=aH hk0;go_wp2_with fail;go_ret;exact⟨⟨_,rfl,λh=>by cases h⟩,a⟩
def cM (w:World):Prop:= ∃tp p,w.var? Tryz.prog "strconv.ErrSyntax" =some #[.iface tp p]
theorem cM.keep {w w':World} (h:cM w) (hb:Below w.heap.size w w'):cM w':=let ⟨tp,p,h⟩:=h;⟨tp,p,Gd h hb⟩
theorem cM.cell {w:World} (h:cM w): ∃tp p,w.cell? ⟨3,0,none⟩=some (.iface tp p):=by
 obtain⟨tp,p,h⟩:=h;have:=World.var?_cell (P:=Tryz.prog) (show Tryz.prog.globalNamed "strconv.ErrSyntax" =some 3 by kernel_rfl) h 0;exact⟨tp,p,by simpa using this⟩
theorem Gi: ∀(l:List UInt8) (acc:Nat),(∃c∈l,c.toNat=43\/c.toNat=45\/c.toNat=95)->iG acc l=none
 | [],_,h=>by obtain⟨c,hc,_⟩:=h;cases hc
 | d::t,acc,h=>by
  obtain⟨c,hc,a⟩:=h;unfold iG;rcases dC.1 hc with rfl | hc
  ·have:mR c=none:=by unfold mR;rw[if_neg (by omega),if_neg (by omega),if_neg (by omega)]
   rw[this]
  ·cases mR d with
   | none=>rfl
   | some e=>exact Gi t _ ⟨c,hc,a⟩
theorem Re {c:UInt8}{d:Nat} (h:mR c=some d):d<16:=by
 unfold mR at h;split at h
 ·injection h with h;omega
 ·split at h
  ·injection h with h;omega
  ·split at h
   ·injection h with h;omega
   ·cases h
theorem Gj: ∀(l:List UInt8) (acc n:Nat),iG acc l=some n->n<(acc+1)*16 ^ l.length
 | [],acc,n,h=>by simp only[iG,cN] at h;simp;omega
 | c::t,acc,n,h=>by
  unfold iG at h;cases hc:mR c with
  | none=>rw[hc] at h;cases h
  | some d=>
   rw[hc] at h;have h1:=Gj t _ n h;have h2:=Re hc;have h3:(16*acc+d+1)*16 ^ t.length<=(16*(acc+1))*16 ^ t.length:=Nat.mul_le_mul_right _ (by omega);rw[aV,Nat.pow_succ];have h4:(16*(acc+1))*16 ^ t.length=(acc+1)*(16 ^ t.length*16):=by
    rw[Nat.mul_comm 16 (acc+1),Nat.mul_assoc,Nat.mul_comm 16]
   omega
def Gk (r:Option Nat) (e:Ending):Prop:=match r with
 | some n=>e= .returned (.tuple #[.int .u64 n, .nilIface])
 | none=> ∃N:Nat,e= .returned (.tuple #[.int .u64 0, .iface 206 (.pointer (some ⟨N,0,none⟩))])
theorem Rf (t:ByteArray) (ht:t.size=4) (w:World) (hV:cM w):
  Calls Tryz.prog 220 #[.string t, .int .i64 16, .int .i64 32] w λe w'=>Gk (iG 0 t.data.toList) e/\Below w.heap.size w w':=by
 have C:=Qu t ht w;cases hx:iG 0 t.data.toList with
 | some n=>
  rw[hx] at C;unfold xT at C;have b:=hid C;clear C hx;go_enter Tryz.func220,Tryz.ntmps220;go_wp2_with fail;refine b.out.mono ?_;rintro e w1 ⟨rfl,a⟩;go_wp2_with fail;go_ret2;exact⟨rfl,a⟩
 | none=>
  rw[hx] at C;unfold xT at C;have b:=hid C;have g:=hid hV;clear C hx hV;go_enter Tryz.func220,Tryz.ntmps220;go_wp2_with fail;refine b.out.mono ?_;rintro e w1 ⟨rfl,a⟩;have c:=hid a;obtain⟨tp,p,f⟩:=(g.out.keep a).cell;have h:=hid (Tryz.strconv_toError_syntax ⟨#[80,97,114,115,101,85,105,110,116]⟩ t 16 32 (.iface tp p) w1 (by omega) f (.inr ⟨tp,p,rfl⟩));clear a f;go_wp2_with fail;refine h.out.mono ?_;rintro e w2 ⟨N,rfl,_,_,d⟩;go_wp2_with fail;go_ret2;exact⟨⟨N,rfl⟩,aC c.out d⟩
def jI (l:List UInt8):Option Nat:=if l.length<4 then none else iG 0 (l.take 4)
theorem tW {l:List UInt8}{n:Nat} (h:jI l=some n):n<65536/\4<=l.length:=by
 unfold jI at h;split at h
 ·cases h
 ·have:=Gj _ _ _ h;rw[cD,Nat.min_eq_left (by omega)] at this;omega
def rZ (r:Option Nat):Ending:=match r with
 | some n=> .returned (.tuple #[.int .i32 n, .bool true])
 | none=> .returned (.tuple #[.int .i32 0, .bool false])
theorem Gl (l:List UInt8) (w:World) (hs:l.length<=4294967296) (hV:cM w):
  Calls Tryz.prog 216 #[.string (bs l)] w λe w'=>e=rZ (jI l)/\Below w.heap.size w w':=by
 have sl:=aT l;have v:=hid hV;clear hV;by_cases h4:l.length<4
 ·have i:jI l=none:=by unfold jI;rw[if_pos h4]
  rw[i];go_enter Tryz.func216,Tryz.ntmps216;go_wp2_with fail;go_ret2;exact⟨rfl,aB _ _⟩
 ·obtain⟨R,k⟩:=exQ<|iG 0 (l.take 4);have i:jI l=R:=by unfold jI;rw[if_neg h4,k]
  have u:(bs (l.take 4)).size=4:=by rw[aT,cD];omega
  have b:(bs l).extract 0 4=bs (l.take 4):=by rw[Al,aZ]
  have CA:Hid (∀w,Calls Tryz.prog 76 #[.string ((bs l).extract 0 4), .string ⟨#[43,45,95]⟩] w λe w'=>Gg (bs (l.take 4)) e/\Below w.heap.size w w'):=hid (λw=>by rw[b];exact Gh (bs (l.take 4)) w (by omega));have CP:Hid (∀w,cM w->Calls Tryz.prog 220 #[.string ((bs l).extract 0 4), .int .i64 16, .int .i64 32] w λe w'=>Gk R e/\Below w.heap.size w w'):=hid (λw hV=>by have:=Rf (bs (l.take 4)) u w hV;rw[aZ,k] at this;rw[b];exact this);have g: ∀n,R=some n->n<65536:=λn h=>(tW (i.trans h)).1;rw[i];have s:Hid ((∃c∈l.take 4,c.toNat=43\/c.toNat=45\/c.toNat=95)->R=none):=λh=>by rw[<-k];exact Gi _ _ h
  have m:=hid g;clear i k u b g;go_enter Tryz.func216,Tryz.ntmps216;go_wp2_with fail;refine(CA.out _).mono ?_;rintro e w1 ⟨⟨B,rfl,r⟩,j⟩;have q:=hid r;clear r;have a:=hid j;clear j;cases B with
  | true=>
   have t:R=none:=s.out (by have:=q.out rfl;rw[aZ] at this;exact this);subst t;go_wp2_with fail;go_ret2;exact⟨rfl,a.out⟩
  | false=>
   clear q s;go_wp2_with fail;refine(CP.out _ (v.out.keep a.out)).mono ?_;rintro e w2 ⟨p,f⟩;have d:=hid (aC a.out f);clear f;cases R with
   | none=>
    obtain⟨N,rfl⟩:=p;go_wp2_with fail;go_quiet (fail);go_wp2_with fail;go_ret2;exact⟨rfl,below_drewN d.out _⟩
   | some n=>
    have o:e= .returned (.tuple #[.int .u64 n, .nilIface]):=p;subst o;have t:=m.out n rfl;clear p;go_wp2_with fail;go_quiet (fail);go_wp2_with fail;go_ret2;exact⟨rfl,below_drewN d.out _⟩
def lY (n:Int):Int×Bool:=
 if n=34 then(34,true) else if n=92 then(92,true) else if n=47 then(47,true) else if n=98 then(8,true) else if n=102 then(12,true) else if n=110 then(10,true) else if n=114 then(13,true) else if n=116 then(9,true) else(0,false)
theorem Rg (n:Int) (w:World) (h0:0<=n/\n<=255):
  Calls Tryz.prog 200 #[.int .u8 n] w λe w'=>e= .returned (.tuple #[.int .i32 (lY n).1, .bool (lY n).2])/\w=w':=by
 obtain⟨R,a⟩:=exQ<|lY n;rw[a];unfold lY at a;by_cases c1:n=34
 ·rw[if_pos c1] at a;subst a c1;go_enter Tryz.func200,Tryz.ntmps200;go_wp2_with fail;go_ret2;exact⟨rfl,rfl⟩
 rw[if_neg c1] at a;by_cases c2:n=92
 ·rw[if_pos c2] at a;subst a c2;go_enter Tryz.func200,Tryz.ntmps200;go_wp2_with fail;go_ret2;exact⟨rfl,rfl⟩
 rw[if_neg c2] at a;by_cases c3:n=47
 ·rw[if_pos c3] at a;subst a c3;go_enter Tryz.func200,Tryz.ntmps200;go_wp2_with fail;go_ret2;exact⟨rfl,rfl⟩
 rw[if_neg c3] at a;by_cases c4:n=98
 ·rw[if_pos c4] at a;subst a c4;go_enter Tryz.func200,Tryz.ntmps200;go_wp2_with fail;go_ret2;exact⟨rfl,rfl⟩
 rw[if_neg c4] at a;by_cases c5:n=102
 ·rw[if_pos c5] at a;subst a c5;go_enter Tryz.func200,Tryz.ntmps200;go_wp2_with fail;go_ret2;exact⟨rfl,rfl⟩
 rw[if_neg c5] at a;by_cases c6:n=110
 ·rw[if_pos c6] at a;subst a c6;go_enter Tryz.func200,Tryz.ntmps200;go_wp2_with fail;go_ret2;exact⟨rfl,rfl⟩
 rw[if_neg c6] at a;by_cases c7:n=114
 ·rw[if_pos c7] at a;subst a c7;go_enter Tryz.func200,Tryz.ntmps200;go_wp2_with fail;go_ret2;exact⟨rfl,rfl⟩
 rw[if_neg c7] at a;by_cases c8:n=116
 ·rw[if_pos c8] at a;subst a c8;go_enter Tryz.func200,Tryz.ntmps200;go_wp2_with fail;go_ret2;exact⟨rfl,rfl⟩
 rw[if_neg c8] at a;subst a;have d1:(n==34)=false:=aK.2 c1;have d2:(n==92)=false:=aK.2 c2;have d3:(n==47)=false:=aK.2 c3;have d4:(n==98)=false:=aK.2 c4;have d5:(n==102)=false:=aK.2 c5;have d6:(n==110)=false:=aK.2 c6;have d7:(n==114)=false:=aK.2 c7;have d8:(n==116)=false:=aK.2 c8;go_enter Tryz.func200,Tryz.ntmps200;go_wp2_with fail;go_ret2;exact⟨rfl,rfl⟩
def mS (l:List UInt8):Int×Int:=
 match jI (l.drop 2) with
 | none=>(0,0)
 | some h=>if 56320<=h/\h<57344 then(0,0) else if h<55296\/57344<=h then((h:Int),6) else if Lib.hasPrefix (l.drop 6) [92,117]=false then(0,0) else
  match jI (l.drop 8) with
  | none=>(0,0)
  | some lo=>if lo<56320\/57344<=lo then(0,0) else(65536+((h:Int)-55296)*1024+lo-56320,12)
def RW (r:Int×Int):Ending:= .returned (.tuple #[.int .i32 r.1, .int .i64 r.2])
theorem Rh {l p:List UInt8} (h:Lib.hasPrefix l p=true):p.length<=l.length:=by
 unfold Lib.hasPrefix at h;exact(List.isPrefixOf_iff_prefix.1 h).length_le
theorem Ri (l:List UInt8) (w:World) (h2:2<=l.length) (hs:l.length<=4294967296) (hV:cM w):
  Calls Tryz.prog 201 #[.string (bs l)] w λe w'=>e=RW (mS l)/\Below w.heap.size w w':=by
 have sl:=aT l;have C1:Hid (∀w,cM w->Calls Tryz.prog 216 #[.string ((bs l).extract 2 l.length)] w λe w'=>e=rZ (jI (l.drop 2))/\Below w.heap.size w w'):=hid (λw h=>by rw[lX _ _ _ rfl];exact Gl (l.drop 2) w (by rw[bB];omega) h);have i:=hid hV;clear hV;obtain⟨R,d⟩:=exQ<|mS l;rw[d];unfold mS at d;cases h1:jI (l.drop 2) with
 | none=>
  rw[h1] at d C1;simp only[] at d;subst d;go_enter Tryz.func201,Tryz.ntmps201;go_wp2_with fail;refine(C1.out _ i.out).mono ?_;unfold rZ;rintro e w1 ⟨rfl,c⟩;go_wp2_with fail;go_ret2;exact⟨rfl,c⟩
 | some h=>
  rw[h1] at d C1;simp only[] at d;obtain⟨k,m⟩:=tW h1;rw[bB] at m;unfold rZ at C1;obtain⟨H,n⟩: ∃H:Int,(h:Int)=H:=⟨_,rfl⟩;simp only[n] at C1 d;have HB:0<=H/\H<65536:=by omega
  by_cases g1:56320<=h/\h<57344
  ·rw[if_pos g1] at d;subst d;have ga:56320<=H:=(by omega);have gb:H<57344:=(by omega);clear g1 n k h1;go_enter Tryz.func201,Tryz.ntmps201;go_wp2_with fail;refine(C1.out _ i.out).mono ?_;rintro e w1 ⟨rfl,c⟩;go_wp2_with fail;go_ret2;exact⟨rfl,c⟩
  rw[if_neg g1] at d;by_cases g2:h<55296\/57344<=h
  ·rw[if_pos g2] at d;subst d;have g2':H<55296\/57344<=H:=(by omega);clear g1 g2 n k h1;rcases g2' with g2 | g2
   all_goals
    go_enter Tryz.func201,Tryz.ntmps201;go_wp2_with fail;refine(C1.out _ i.out).mono ?_;rintro e w1 ⟨rfl,c⟩;go_wp2_with fail;go_ret2;exact⟨rfl,c⟩
  rw[if_neg g2] at d;have ga:55296<=H:=by omega
  have gb:H<56320:=by omega
  clear g1 g2 n k h1;obtain⟨P,hP⟩:=exQ<|Lib.hasPrefix (l.drop 6) [92,117];rw[hP] at d;have CP:Hid (∀w,Calls Tryz.prog 121 #[.string ((bs l).extract 6 l.length), .string ⟨#[92,117]⟩] w λe w'=>e= .returned (.bool P)/\w=w'):=hid (λw=>by have:=Tryz.strings_HasPrefix ((bs l).extract 6 l.length) ⟨#[92,117]⟩ w;rw[lX _ _ _ rfl,aZ,show (⟨#[92,117]⟩:ByteArray).data.toList= [92,117] from rfl,hP] at this;rw[lX _ _ _ rfl];exact this.mono λ_ _ ⟨a,b⟩=>⟨a,b.symm⟩);cases P with
  | false=>
   rw[if_pos rfl] at d;subst d;clear hP;go_enter Tryz.func201,Tryz.ntmps201;go_wp2_with fail;refine(C1.out _ i.out).mono ?_;rintro e w1 ⟨rfl,c⟩;go_wp2_with (go_at_call 121;refine(CP.out _).mono ?_;rintro e w' ⟨rfl,rfl⟩);go_ret2;exact⟨rfl,c⟩
  | true=>
   rw[if_neg (by simp)] at d;have hl8:8<=l.length:=by have:=Rh hP;rw[bB] at this;simp at this;omega
   have C2:Hid (∀w,cM w->Calls Tryz.prog 216 #[.string ((bs l).extract 8 l.length)] w λe w'=>e=rZ (jI (l.drop 8))/\Below w.heap.size w w'):=hid (λw h=>by rw[lX _ _ _ rfl];exact Gl (l.drop 8) w (by rw[bB];omega) h);clear hP;cases h3:jI (l.drop 8) with
   | none=>
    rw[h3] at d C2;simp only[] at d;subst d;unfold rZ at C2;go_enter Tryz.func201,Tryz.ntmps201;go_wp2_with fail;refine(C1.out _ i.out).mono ?_;rintro e w1 ⟨rfl,c⟩;have f:=hid c;clear c;go_wp2_with (go_at_call 121;refine(CP.out _).mono ?_;rintro e w' ⟨rfl,rfl⟩);refine(C2.out _ (i.out.keep f.out)).mono ?_;rintro e w2 ⟨rfl,g⟩;go_wp2_with fail;go_ret2;exact⟨rfl,aC f.out g⟩
   | some lo=>
    rw[h3] at d C2;simp only[] at d;obtain⟨j,_⟩:=tW h3;unfold rZ at C2;obtain⟨L,o⟩: ∃L:Int,(lo:Int)=L:=⟨_,rfl⟩;simp only[o] at C2 d;have LB:0<=L/\L<65536:=(by omega);by_cases g3:lo<56320\/57344<=lo
    ·rw[if_pos g3] at d;subst d;have g3':L<56320\/57344<=L:=(by omega);clear g3 o j h3;rcases g3' with g3 | g3
     all_goals
      go_enter Tryz.func201,Tryz.ntmps201;go_wp2_with fail;refine(C1.out _ i.out).mono ?_;rintro e w1 ⟨rfl,c⟩;have f:=hid c;clear c;go_wp2_with (go_at_call 121;refine(CP.out _).mono ?_;rintro e w' ⟨rfl,rfl⟩);refine(C2.out _ (i.out.keep f.out)).mono ?_;rintro e w2 ⟨rfl,g⟩;go_wp2_with fail;go_ret2;exact⟨rfl,aC f.out g⟩
    ·rw[if_neg g3] at d;subst d;have gc:56320<=L:=(by omega);have gd:L<57344:=(by omega);clear g3 o j h3;go_enter Tryz.func201,Tryz.ntmps201;go_wp2_with fail;refine(C1.out _ i.out).mono ?_;rintro e w1 ⟨rfl,c⟩;have f:=hid c;clear c;go_wp2_with (go_at_call 121;refine(CP.out _).mono ?_;rintro e w' ⟨rfl,rfl⟩);refine(C2.out _ (i.out.keep f.out)).mono ?_;rintro e w2 ⟨rfl,g⟩;go_wp2_with fail;go_ret2;exact⟨rfl,aC f.out g⟩
theorem rB (l:List UInt8) (k:Nat) (h:k<(bs l).size):l[k]?=some ((bs l)[k]'h):=by
 have a:k<l.length:=by rw[<-aT l];exact h
 rw[bE a];simp[bs,ByteArray.getElem_eq_getElem_data]
def sA (l:List UInt8):Int×Int:=
 match l[1]? with
 | some c=>if(lY c.toNat).2 then((lY c.toNat).1,2) else if c.toNat=117 then mS l else(0,0)
 | none=>(0,0)
theorem Rj (l:List UInt8) (w:World) (hs:l.length<=4294967296) (hV:cM w):
  Calls Tryz.prog 178 #[.string (bs l)] w λe w'=>e=RW (sA l)/\Below w.heap.size w w':=by
 have sl:=aT l;have i:=hid hV;clear hV;obtain⟨R,d⟩:=exQ<|sA l;rw[d];by_cases h2:l.length<2
 ·have k:R=(0,0):=by
   rw[<-d];unfold sA;rw[List.getElem?_eq_none (by omega)]
  subst k;clear d;go_enter Tryz.func178,Tryz.ntmps178;go_wp2_with fail;go_ret2;exact⟨rfl,aB _ _⟩
 ·have b:1<(bs l).size:=by omega
  obtain⟨c,j⟩:=exQ<|(bs l)[1]'b;have a:(if(lY c.toNat).2 then((lY c.toNat).1,2) else if c.toNat=117 then mS l else(0,0))=R:=by
   rw[<-d];unfold sA;rw[rB l 1 b,j]
  obtain⟨M,f⟩:=exQ<|lY c.toNat;obtain⟨mc,mb⟩:=M;rw[f] at a;simp only[] at a;have CM:Hid (∀w,Calls Tryz.prog 200 #[.int .u8 (c.toNat:Int)] w λe w'=>e= .returned (.tuple #[.int .i32 mc, .bool mb])/\w=w'):=hid (λw=>by have:=Rg (c.toNat:Int) w ⟨by omega,by have:=c.toNat_lt;omega⟩;rw[f] at this;exact this);have CU:=hid (λw h=>Ri l w (by omega) hs h);clear d f;cases mb with
  | true=>
   rw[if_pos rfl] at a;subst a;go_enter Tryz.func178,Tryz.ntmps178;go_wp2_with fail;refine(CM.out _).mono ?_;rintro e w' ⟨rfl,rfl⟩;go_wp2_with fail;go_ret2;exact⟨rfl,aB _ _⟩
  | false=>
   rw[if_neg (by simp)] at a;by_cases hu:c.toNat=117
   ·rw[if_pos hu] at a;have t1:((c.toNat:Int)==117)=true:=beq_iff_eq.2 (by omega);obtain⟨ra,rb⟩:=R;rw[a] at CU;clear hu a;unfold RW at CU;go_enter Tryz.func178,Tryz.ntmps178;go_wp2_with fail;refine(CM.out _).mono ?_;rintro e w' ⟨rfl,rfl⟩;go_wp2_with fail;refine(CU.out _ i.out).mono ?_;rintro e w1 ⟨rfl,g⟩;go_wp2_with fail;go_ret2;exact⟨rfl,g⟩
   ·rw[if_neg hu] at a;subst a;have t1:((c.toNat:Int)==117)=false:=aK.2 (by omega);clear hu;go_enter Tryz.func178,Tryz.ntmps178;go_wp2_with fail;refine(CM.out _).mono ?_;rintro e w' ⟨rfl,rfl⟩;go_wp2_with fail;go_ret2;exact⟨rfl,aB _ _⟩
def iW (d:Nat×Nat):Bool:=decide (d.1<32)||(d.1==65533&&d.2==1)
def eQ (l:List UInt8):Int×Int:=
 if l.head?=some 92 then sA l else if iW (Lib.decodeL l) then(0,0) else(((Lib.decodeL l).1:Int),((Lib.decodeL l).2:Int))
theorem Rk (l:List UInt8) (h:l≠ []):Lib.decodeGo (bs l)=Lib.decodeL l:=by
 have a:=oN (bs l) 0;rw[aZ,List.drop_zero] at a;rw[a];unfold Lib.decodeGo;rw[if_neg];rw[aT];intro e;exact h (List.eq_nil_of_length_eq_zero (by omega))
theorem Rl (l:List UInt8) (w:World) (hne:l≠ []) (hs:l.length<=4294967296) (hV:cM w) (hT:bZ w):
  Calls Tryz.prog 146 #[.string (bs l)] w λe w'=>e=RW (eQ l)/\Below w.heap.size w w':=by
 have sl:=aT l;have o:=hid hV;clear hV;obtain⟨R,b⟩:=exQ<|eQ l;rw[b];unfold eQ at b;have n:0<(bs l).size:=by rw[aT];cases l with | nil=>exact absurd rfl hne | cons _ _=>simp
 have g:=oO l 92 92 rfl n;by_cases hb:l.head?=some 92
 ·rw[if_pos hb] at b;have t1:(((bs l)[0]'n).toNat:Int)==92:=by rw[g,hb];rfl
  have CE:=hid (λw h=>Rj l w hs h);obtain⟨ra,rb⟩:=R;rw[b] at CE;unfold RW at CE;clear b hb g hne hT;go_enter Tryz.func146,Tryz.ntmps146;go_wp2_with fail;refine(CE.out _ o.out).mono ?_;rintro e w1 ⟨rfl,a⟩;go_wp2_with fail;go_ret2;exact⟨rfl,a⟩
 ·rw [if_neg hb] at b;have t1:((((bs l)[0]'n).toNat:Int)==92)=false:=by rw[g];exact aK.2 hb
  have CD:=Tryz.utf8_DecodeRuneInString (bs l) w hT;rw[Rk l hne] at CD;obtain⟨d,m⟩:=exQ<|Lib.decodeL l;have f:(d.1:Int)<=1114111:=by
   have p:=oN (bs l) 0;rw[aZ,List.drop_zero,m] at p;rw[p];have:=(qZ (bs l) 0).2;exact this
  rw[m] at CD b;obtain⟨c,z⟩:=d;unfold iW at b;simp only[] at b CD f;have i:=hid CD;clear CD m g hb hne hT o;obtain⟨C,k⟩: ∃C:Int,(c:Int)=C:=⟨_,rfl⟩;obtain⟨Z,j⟩: ∃Z:Int,(z:Int)=Z:=⟨_,rfl⟩;by_cases g1:c<32
  ·rw[aM g1,Bool.true_or,if_pos rfl] at b;subst b;have ga:C<32:=(by omega);simp only[k,j] at i;clear k j g1 f;go_enter Tryz.func146,Tryz.ntmps146;go_wp2_with fail;refine i.out.mono ?_;rintro e w1 ⟨rfl,a⟩;go_wp2_with fail;go_ret2;exact⟨rfl,a⟩
  ·rw[aH g1,Bool.false_or] at b;have ga: ¬C<32:=(by omega);by_cases g2:c=65533
   ·have t2:(C==65533)=true:=beq_iff_eq.2 (by omega);by_cases g3:z=1
    ·rw[if_pos (by simp[g2,g3])] at b;subst b;have t3:(Z==1)=true:=beq_iff_eq.2 (by omega);simp only[k,j] at i;clear k j g1 g2 g3 f;go_enter Tryz.func146,Tryz.ntmps146;go_wp2_with fail;refine i.out.mono ?_;rintro e w1 ⟨rfl,a⟩;go_wp2_with fail;go_ret2;exact⟨rfl,a⟩
    ·rw[if_neg (by simp[g2,g3])] at b;subst b;have t3:(Z==1)=false:=aK.2 (by omega);simp only[k,j] at i ⊢;clear k j g1 g2 g3 f;go_enter Tryz.func146,Tryz.ntmps146;go_wp2_with fail;refine i.out.mono ?_;rintro e w1 ⟨rfl,a⟩;go_wp2_with fail;go_ret2;exact⟨rfl,a⟩
   ·have t2:(C==65533)=false:=aK.2 (by omega);rw[if_neg (by simp[g2])] at b;subst b;simp only[k,j] at i ⊢;clear k j g1 g2 f;go_enter Tryz.func146,Tryz.ntmps146;go_wp2_with fail;refine i.out.mono ?_;rintro e w1 ⟨rfl,a⟩;go_wp2_with fail;go_ret2;exact⟨rfl,a⟩
end Go.Proofs.YtaifnmjjpddikaaGreatDoor
namespace Go.Proofs
open Go.Shelf
def Tryz.laysB168_ren:Go.Shelf.Ren:=⟨fun | 168=>147 | 240=>171 | 242=>179 | 276=>193 | 278=>202 | n=>n,fun | 0=>0 | 3=>3 | 4=>4 | 5=>5 | 9=>9 | 20=>20 | 21=>21 | 37=>174 | 46=>201 | 51=>236 | 53=>216 | 70=>173 | 72=>176 | 75=>129 | 80=>178 | 164=>226 | 127=>211 | n=>n,fun | n=>n⟩
theorem Tryz.laysB168:Go.Proofs.Lays.n168 Tryz.prog Tryz.laysB168_ren:= {
 mixed:=by kernel_rfl
 f168:=Tryz.func147.trans (congrArg some (by kernel_rfl))
 f240:=Tryz.func171.trans (congrArg some (by kernel_rfl))
 f242:=Tryz.func179.trans (congrArg some (by kernel_rfl))
 f276:=Tryz.func193.trans (congrArg some (by kernel_rfl))
 f278:=Tryz.func202.trans (congrArg some (by kernel_rfl))
 t0:=Tryz.underlying0
 a0:=Tryz.isAgg0
 z0:=Tryz.sizeOf0
 v0:=Tryz.zeroValue0
 t3:=Tryz.underlying3
 a3:=Tryz.isAgg3
 z3:=Tryz.sizeOf3
 v3:=Tryz.zeroValue3
 t4:=Tryz.underlying4
 a4:=Tryz.isAgg4
 z4:=Tryz.sizeOf4
 v4:=Tryz.zeroValue4
 t5:=Tryz.underlying5
 a5:=Tryz.isAgg5
 z5:=Tryz.sizeOf5
 v5:=Tryz.zeroValue5
 t9:=Tryz.underlying9
 a9:=Tryz.isAgg9
 z9:=Tryz.sizeOf9
 v9:=Tryz.zeroValue9
 t20:=Tryz.underlying20
 a20:=Tryz.isAgg20
 z20:=Tryz.sizeOf20
 v20:=Tryz.zeroValue20
 t21:=Tryz.underlying21
 a21:=Tryz.isAgg21
 z21:=Tryz.sizeOf21
 v21:=Tryz.zeroValue21
 t37:=Tryz.underlying174
 a37:=Tryz.isAgg174
 z37:=Tryz.sizeOf174
 v37:=Tryz.zeroValue174
 t46:=Tryz.underlying201
 a46:=Tryz.isAgg201
 z46:=Tryz.sizeOf201
 v46:=Tryz.zeroValue201
 t51:=Tryz.underlying236
 a51:=Tryz.isAgg236
 z51:=Tryz.sizeOf236
 v51:=Tryz.zeroValue236
 t70:=Tryz.underlying173
 a70:=Tryz.isAgg173
 z70:=Tryz.sizeOf173
 v70:=Tryz.zeroValue173
 t72:=Tryz.underlying176
 a72:=Tryz.isAgg176
 z72:=Tryz.sizeOf176
 v72:=Tryz.zeroValue176
 t75:=Tryz.underlying129
 a75:=Tryz.isAgg129
 z75:=Tryz.sizeOf129
 v75:=Tryz.zeroValue129
 t164:=Tryz.underlying226
 a164:=Tryz.isAgg226
 z164:=Tryz.sizeOf226
 v164:=Tryz.zeroValue226
}
theorem Tryz.BuilderB168_Extra:Builder.Extra Tryz.prog Tryz.laysB168_ren where
 sizeBuilder:=by kernel_rfl
 liesBuilder:=by kernel_rfl
 t5:=Tryz.underlying5
 a5:=Tryz.isAgg5
 z5:=Tryz.sizeOf5
 v5:=Tryz.zeroValue5
 infoByte:=by kernel_rfl
 cellsByte:=by kernel_rfl
 sizeByte:=by kernel_rfl
 neB5:=by decide
namespace YtaifnmjjpddikaaGreatDoor
open Go.RowKit
def mT (B b:Nat) (l:List UInt8) (w:World):Prop:=Lib.IsBuilderF 176 5 B b (Lib.byteCells l) w
theorem mT.new (w:World):mT w.heap.size w.heap.size [] (w.alloc (.cells #[.pointer none, .slice none 0 0] 176)):=Lib.IsBuilderF.of (Lib.fresh_isBuilder 176 5 w)
theorem mT.keep {B b:Nat}{l:List UInt8}{w w':World} (h:mT B b l w) (hb:Below w.heap.size w w'):mT B b l w':=Lib.IsBuilderF.below h hb
theorem xU (B b:Nat) (l:List UInt8) (r:Int) (w:World) (h:mT B b l w) (hr:0<=r/\r<=1114111) (hl:l.length<=4294967296) (hB:B<=w.heap.size):
  Calls Tryz.prog 147 #[.pointer (some ⟨b,0,none⟩), .int .i32 r] w λe w'=>e= .returned (.tuple #[.int .i64 (Lib.runeCells r).length, .nilIface])/\mT B b (l++Lib.encodeRune r) w'/\Below B w w'/\Lib.OthersKept 5 (some b) w w':=
 (Any.Builder_WriteRune_k Tryz.laysB168 Tryz.BuilderB168_Extra B b _ r (by omega) (by omega) w h (by rw[Lib.byteCells_length];omega) hB).mono λ_ _ ⟨c,d,f,a⟩=>⟨c,by unfold mT;rw[Lib.byteCells_append,Lib.byteCells_encodeRune];exact Or.inr d,f,a⟩
end YtaifnmjjpddikaaGreatDoor
end Go.Proofs
namespace Go.Proofs
open Go.Shelf
namespace YtaifnmjjpddikaaGreatDoor
open Go.RowKit
end YtaifnmjjpddikaaGreatDoor
end Go.Proofs
namespace Go.Proofs
open Go.Shelf
namespace YtaifnmjjpddikaaGreatDoor
open Go.RowKit
end YtaifnmjjpddikaaGreatDoor
end Go.Proofs
namespace Go.Proofs.YtaifnmjjpddikaaGreatDoor
set_option linter.unusedSimpArgs false
set_option linter.unusedVariables false
open Go.RowKit
open Go.Lib hiding intOf
def cY:Nat->List UInt8->Nat->List UInt8->List UInt8×Int×Int
 | 0,_,i,_=>([],(i:Int),2)
 | _+1,[],i,_=>([],(i:Int),2)
 | f+1,c::r,i,acc=>if c=34 then(acc,(i:Int)+1,0) else if(eQ (c::r)).2=0 then([],(i:Int),2) else
  cY f ((c::r).drop (eQ (c::r)).2.toNat) (i+(eQ (c::r)).2.toNat) (acc++Lib.encodeRune (eQ (c::r)).1)
def bT (l:List UInt8) (at':Int):List UInt8×Int×Int:=
 if 0<=at'/\l[at'.toNat]?=some 34 then cY (l.length+1) (l.drop (at'.toNat+1)) (at'.toNat+1) [] else([],at',2)
def lZ (r:List UInt8×Int×Int):Ending:= .returned (.tuple #[.string (bs r.1), .int .i64 r.2.1, .int .i64 r.2.2])
theorem Rm (l:List UInt8):0<=(mS l).1/\(mS l).1<=1114111/\((mS l).2=0\/(1<=(mS l).2/\(mS l).2<=l.length)):=by
 unfold mS;cases h1:jI (l.drop 2) with
 | none=>simp
 | some h=>
  obtain⟨h2,b⟩:=tW h1;rw[bB] at b;simp only[];split
  ·simp
  ·split
   ·simp only[];omega
   ·split
    ·simp
    ·cases h4:jI (l.drop 8) with
     | none=>simp
     | some lo=>
      obtain⟨h5,a⟩:=tW h4;rw[bB] at a;simp only[];split
      ·simp
      ·simp only[];omega
theorem Rn (n:Int):0<=(lY n).1/\(lY n).1<=1114111:=by
 unfold lY
 repeat' split
 all_goals simp
theorem sC (l:List UInt8) (hne:l≠ []):0<=(eQ l).1/\(eQ l).1<=1114111/\((eQ l).2=0\/(1<=(eQ l).2/\(eQ l).2<=l.length)):=by
 unfold eQ;split
 ·unfold sA;cases h:l[1]? with
  | none=>simp
  | some c=>
   have hl:1<l.length:=(aR.1 h).1;have hm:=Rn c.toNat;simp only[];split
   ·simp only[];omega
   ·split
    ·exact Rm l
    ·simp
 ·split
  ·simp
  ·have a:=oN (bs l) 0;rw[aZ,List.drop_zero] at a;have e:=qZ (bs l) 0;have d:0<(bs l).size:=by rw[aT];cases l with | nil=>exact absurd rfl hne | cons _ _=>simp
   have b:=qB (bs l) 0 d;have sl:=aT l;unfold bQ at e;unfold bJ at b;rw[a];simp only[];omega
theorem Gm (l:List UInt8) (a:Nat) (w:World) (hs:l.length<=1073741824) (ha:a<=l.length) (hV:cM w) (hT:bZ w):
  Calls Tryz.prog 104 #[.string (bs l), .int .i64 a] w λe w'=>e=lZ (bT l a)/\Below w.heap.size w w':=by
 have sl:=aT l;obtain⟨R,q⟩:=exQ<|bT l a;rw[q];unfold bT at q;rw[fT] at q;have G:=hid hV;have F:=hid hT;clear hV hT;by_cases h34:l[a]?=some 34
 ·rw [if_pos ⟨by omega,h34⟩] at q;have C:a<l.length:=(aR.1 h34).1;have b:a<(bs l).size:=by omega
  have t1:((((bs l)[a]'b).toNat:Int) !=34)=false:=by
   have:=rB l a b;rw[h34] at this;have s:(bs l)[a]'b=34:=(by simpa using this.symm);rw[s];rfl
  have d1:decide (l.length<=a)=false:=aH (by omega);have H:=hid q;clear q h34;go_enter Tryz.func104,Tryz.ntmps104;go_wp2_with fail;go_loopw [1,8,9] (λs1 _ _ wr=> ∃(i f:Nat) (acc:List UInt8),s1= .int .i64 i/\i<=l.length/\acc.length<=4*i/\l.length<i+f/\Hid (cY f (l.drop i) i acc=R)/\Hid (mT w.heap.size w.heap.size acc wr)/\Hid (Below w.heap.size w wr)) (λs1 _ _ _=>l.length-(RowKit.intOf s1).toNat)
  case atStart=>exact⟨a+1,l.length+1,[],by go_num,by omega,by simp,by omega,H.out,mT.new w,aI w _⟩
  case round=>
   obtain⟨i,f,acc,rfl,hi,hacc,hf,z,u,n⟩:=hrel;obtain⟨g,rfl⟩: ∃g,f=g+1:=⟨f-1,by omega⟩;by_cases hlt:i<l.length
   ·have d:i<(bs l).size:=(by omega);have k:l.drop i=l[i]'hlt::l.drop (i+1):=iH hlt;have p:=rB l i d;rw[bE hlt] at p;have j:(bs l)[i]'d=l[i]'hlt:=(by simpa using p.symm);have T34:=Am ((bs l)[i]'d) 34 34 rfl;have c:=z.out;rw[k] at c;unfold cY at c;rw[<-k,<-j] at c;clear z;by_cases hq:(bs l)[i]'d=34
    ·rw[if_pos hq] at c;have v:=hid c;rw[beq_iff_eq.2 hq] at T34;clear c k p j hq;go_wp2_with fail;refine(Tryz.Builder_String_any_k w.heap.size w.heap.size acc _ u.out n.out.size).mono ?_;rintro e W1 ⟨rfl,_,b1,_⟩;go_wp2_with fail;go_ret3;exact⟨by rw[<-v.out];rfl,n.out.trans b1⟩
    ·rw[if_neg hq] at c;rw[aK.2 hq] at T34;have r:l.drop i≠ []:=by rw[k];exact List.cons_ne_nil _ _
     have o:=sC (l.drop i) r;rw[bB] at o;obtain⟨P,hP⟩:=exQ<|eQ (l.drop i);obtain⟨rn,wd⟩:=P;have CP:Hid (∀w,cM w->bZ w->Calls Tryz.prog 146 #[.string ((bs l).extract i l.length)] w λe w'=>e= .returned (.tuple #[.int .i32 rn, .int .i64 wd])/\Below w.heap.size w w'):=hid (λw I s=>by have:=Rl (l.drop i) w r (by rw[bB];omega) I s;rw[hP] at this;rw[lX _ _ _ rfl];exact this);rw[hP] at c o;simp only[] at c o;obtain⟨p0,p1,p2⟩:=o;have E:w.heap.size<=wr.heap.size:=n.out.size;clear k p j hq r hP;by_cases hw0:wd=0
     ·rw[if_pos hw0] at c;have v:=hid c;subst hw0;clear c p2;go_wp2_with fail;refine(CP.out _ (G.out.keep n.out) (F.out.keep n.out)).mono ?_;rintro e w1 ⟨rfl,m⟩;go_wp2_with fail;go_ret3;exact⟨by rw[<-v.out];rfl,n.out.trans (m.mono E)⟩
     ·rw[if_neg hw0] at c;obtain⟨N,rfl⟩: ∃N:Nat,wd=N:=⟨wd.toNat,by omega⟩;rw[fT,jH] at c;have hN:1<=N/\N<=l.length-i:=(by omega);have B:=Lib.runeCells_le rn;rw[Lib.runeCells_length] at B;have hw1:((N:Int)==0)=false:=aK.2 hw0;have A:=hid c;clear c hw0 p2;go_wp2_with fail;refine(CP.out _ (G.out.keep n.out) (F.out.keep n.out)).mono ?_;rintro e w1 ⟨rfl,m⟩;have x:=hid (u.out.keep m);have y:=hid (n.out.trans (m.mono E));clear m;go_wp2_with fail;refine(xU w.heap.size w.heap.size acc rn _ x.out ⟨p0,p1⟩ (by omega) y.out.size).mono ?_;rintro e w2 ⟨rfl,s,b2,_⟩;have t:=hid s;have D:=hid (y.out.trans b2);clear s b2;go_wp2_with fail;go_roundw
      case rel=>exact⟨i+N,g,acc++Lib.encodeRune rn,by go_num,by omega,by rw[aW];omega,by omega,A.out,t.out,D.out⟩
      case measure=>simp[RowKit.intOf];omega
   ·have c:=z.out;rw[List.drop_of_length_le (by omega)] at c;have v:=hid (show ([],(i:Int),2)=R from c);obtain rfl:i=l.length:=(by omega);clear c z;go_wp2_with fail;go_ret3;exact⟨by rw[<-v.out];rfl,n.out⟩
 ·rw[if_neg (λh=>h34 h.2)] at q;subst q;by_cases C:a<l.length
  ·have b:a<(bs l).size:=(by omega);have t1:((((bs l)[a]'b).toNat:Int) !=34)=true:=by
    rw[gD];intro h;apply h34;rw[rB l a b];have:((bs l)[a]'b)=34:=UInt8.toNat_inj.1 (by show _=34;omega);rw[this]
   clear h34;go_enter Tryz.func104,Tryz.ntmps104;go_wp2_with fail;go_ret3;exact⟨rfl,aB _ _⟩
  ·clear h34;go_enter Tryz.func104,Tryz.ntmps104;go_wp2_with fail;go_ret3;exact⟨rfl,aB _ _⟩
def dM (l:List UInt8):List UInt8×Int×Int:=
 if(bT l 0).2.2=0/\(bT l 0).2.1<l.length then([],(bT l 0).2.1,2) else bT l 0
def mU (l:List UInt8) (a:Int):Int×Int:=if a<0\/(l.length:Int)<a then(0,2) else((bT l a).2.1,(bT l a).2.2)
theorem Gn (l:List UInt8) (a:Int) (w:World) (hs:l.length<=1073741824) (hV:cM w) (hT:bZ w):
  Calls Tryz.prog 135 #[.string (bs l), .int .i64 a] w λe w'=>e= .returned (.tuple #[.int .i64 (mU l a).1, .int .i64 (mU l a).2])/\Below w.heap.size w w':=by
 have sl:=aT l;unfold mU;by_cases h:a<0\/(l.length:Int)<a
 ·rw[if_pos h];rcases h with h | h
  all_goals
   go_enter Tryz.func135,Tryz.ntmps135;go_wp2_with fail;go_ret2;exact⟨rfl,aB _ _⟩
 ·rw[if_neg h];have h1:0<=a:=by omega
  have h2:a<=l.length:=by omega
  have C:=Gm l a.toNat w hs (by omega) hV hT;rw[show ((a.toNat:Nat):Int)=a by omega] at C;obtain⟨R,c⟩:=exQ<|bT l a;obtain⟨s,k,er⟩:=R;rw[c] at C ⊢;have d:=hid C;clear C c hV hT h;go_enter Tryz.func135,Tryz.ntmps135;go_wp2_with fail;refine d.out.mono ?_;unfold lZ;rintro e w1 ⟨rfl,b⟩;go_wp2_with fail;go_ret2;exact⟨rfl,b⟩
theorem xV (l:List UInt8) (w:World) (hs:l.length<=1073741824) (hV:cM w) (hT:bZ w):
  Calls Tryz.prog 65 #[.string (bs l)] w λe w'=>e=lZ (dM l)/\Below w.heap.size w w':=by
 have sl:=aT l;have C:=Gm l 0 w hs (by omega) hV hT;have b:dM l=if(bT l 0).2.2=0/\(bT l 0).2.1<l.length then([],(bT l 0).2.1,2) else bT l 0:=rfl;obtain⟨R,c⟩:=exQ<|bT l 0;obtain⟨s,k,er⟩:=R;rw[show ((0:Nat):Int)=0 from rfl,c] at C;rw[c] at b;simp only[] at b;have d:=hid C;clear C c hV hT;by_cases h1:er=0
 ·subst h1;by_cases h2:k<l.length
  ·rw[b,if_pos ⟨rfl,h2⟩];clear b;go_enter Tryz.func65,Tryz.ntmps65;go_wp2_with fail;refine d.out.mono ?_;unfold lZ;rintro e w1 ⟨rfl,a⟩;go_wp2_with fail;go_ret3;exact⟨rfl,a⟩
  ·rw[b,if_neg (λh=>h2 h.2)];clear b;go_enter Tryz.func65,Tryz.ntmps65;go_wp2_with fail;refine d.out.mono ?_;unfold lZ;rintro e w1 ⟨rfl,a⟩;go_wp2_with fail;go_ret3;exact⟨rfl,a⟩
 ·rw[b,if_neg (λh=>h1 h.1)];have t1:(er==0)=false:=aK.2 h1;clear b h1;go_enter Tryz.func65,Tryz.ntmps65;go_wp2_with fail;refine d.out.mono ?_;unfold lZ;rintro e w1 ⟨rfl,a⟩;go_wp2_with fail;go_ret3;exact⟨rfl,a⟩
end Go.Proofs.YtaifnmjjpddikaaGreatDoor
