import Derived.Test.YtjnooaljcgkfpaaGreatDoorProg
import Derived.Test.YtjnooaljcgkfpaaGreatDoorBk1
import Derived.Test.YtjnooaljcgkfpaaGreatDoorShelf
import Derived.Lib.RuneBytes
import Derived.BigQuiet
import Derived.Deep.QuietTactic
import Derived.Deep.DeepCutAuto
import Derived.Deep.CutBlock
import Derived.Deep.RegionHeld3
import Derived.Lib.IndexBytes
import Derived.Lib.ConvBytes
import Derived.Lib.AtoiAllMem
import Derived.Laws.Closers25
import Derived.Laws.Closers25b
import Derived.BigCall
import Derived.BigGuard
import Derived.Test.YtjnooaljcgkfpaaGreatDoorShelfC
import Derived.Lib.QuoteLoop
import Derived.WalkMore
import Derived.Shelf.Strings.BuilderK
import Derived.Shelf.Strings.BuilderRune
import Derived.Shelf.Strings.MapGrows
import Derived.KernelRfl
set_option maxRecDepth 100000
set_option maxHeartbeats 8000000
namespace Go.Proofs.YtjnooaljcgkfpaaGreatDoor
set_option linter.unusedSimpArgs false
set_option linter.unusedVariables false
open Go.RowKit
open Go.Lib hiding intOf
def cD (w:World):Prop:=Lib.Utf8Tabs 0 1 w
theorem cD.below {w w':World} (h:cD w) {B:Nat} (hB:0<B/\1<B) (hb:Below B w w'):cD w':=by
 obtain⟨d,b⟩:=h;refine⟨λc e=>?_,λi a=>⟨?_,?_⟩⟩
 ·rw[hb.cell (p:=⟨_,c,none⟩) hB.1];exact d c e
 ·rw[hb.cell (p:=⟨_,2*i,none⟩) hB.2];exact(b i a).1
 ·rw[hb.cell (p:=⟨_,2*i+1,none⟩) hB.2];exact(b i a).2
theorem cD.lt {w:World} (h:cD w):0<w.heap.size/\1<w.heap.size:=
 ⟨qZ (h.1 0 (by decide)),qZ (h.2 0 (by decide)).1⟩
theorem cD.keep {w w':World} (h:cD w) (hb:Below w.heap.size w w'):cD w':=h.below h.lt hb
theorem Uk (s:ByteArray) (i:Nat) (hi:i<s.size):Lib.decodeGo (s.extract i s.size)=Utf8.decode s i:=by
 have hsz:(s.extract i s.size).size=s.size-i:=by rw[ByteArray.size_extract];omega
 unfold Lib.decodeGo;rw[if_neg (by omega),Lib.tail_decode,Nat.add_zero]
theorem Cy (s:ByteArray) (i:Nat) (w:World) (hi:i<s.size) (hT:cD w):
  Calls Tryz.prog 105 #[.string (s.extract i s.size)] w λe w'=>e= .returned (.tuple #[.int .i32 (bG s i), .int .i64 (bB s i)])/\Below w.heap.size w w':=by
 have h:=Tryz.utf8_DecodeRuneInString (s.extract i s.size) w hT;rw[Uk s i hi] at h;exact h
end Go.Proofs.YtjnooaljcgkfpaaGreatDoor
namespace Go.Proofs.YtjnooaljcgkfpaaGreatDoor
set_option linter.unusedSimpArgs false
set_option linter.unusedVariables false
open Go.Lib
theorem Ul (r:Int):(Utf8.encode r).data.toList=Lib.encodeRune r:=by
 unfold Lib.encodeRune;by_cases hv:Utf8.valid r=true
 ·have a:=hv;simp[Utf8.valid] at a;obtain⟨m,rfl⟩: ∃m:Nat,r=m:=⟨r.toNat,by omega⟩;unfold Utf8.encode;simp only[hv,if_true,eU];by_cases h1:m<128
  ·rw[Lib.encodeRuneZ_one (by omega) (by omega),if_pos h1];rfl
  rw[if_neg h1];by_cases h2:m<2048
  ·rw[Lib.encodeRuneZ_two (by omega) (by omega),if_pos h2];simp only[lQ,List.map_nil];rw[show (192+(m:Int) / 64).toNat=192+m / 64 by omega,show (128+(m:Int) % 64).toNat=128+m % 64 by omega]
  rw[if_neg h2];by_cases h3:m<65536
  ·rw[Lib.encodeRuneZ_three (by omega),if_pos h3];simp only[lQ,List.map_nil];rw[show (224+(m:Int) / 4096).toNat=224+m / 4096 by omega,show (128+(m:Int) / 64 % 64).toNat=128+m / 64 % 64 by omega,show (128+(m:Int) % 64).toNat=128+m % 64 by omega]
  have e4:Lib.encodeRuneZ (m:Int)= [240+(m:Int) / 262144,128+(m:Int) / 4096 % 64,128+(m:Int) / 64 % 64,128+(m:Int) % 64]:=by
   unfold Lib.encodeRuneZ;rw[if_neg (by omega),if_neg (by omega),if_neg (by omega),if_pos (by omega)]
  rw[if_neg h3,e4];simp only[lQ,List.map_nil];rw[show (240+(m:Int) / 262144).toNat=240+m / 262144 by omega,show (128+(m:Int) / 4096 % 64).toNat=128+m / 4096 % 64 by omega,show (128+(m:Int) / 64 % 64).toNat=128+m / 64 % 64 by omega,show (128+(m:Int) % 64).toNat=128+m % 64 by omega]
 ·have a:=hv;simp[Utf8.valid] at a;have e:Utf8.valid r=false:=by simpa using hv
  have e5:Lib.encodeRuneZ r= [239,191,189]:=by
   unfold Lib.encodeRuneZ;rw[if_neg (by omega),if_neg (by omega),if_neg (by omega),if_neg (by omega)]
  rw[e5];unfold Utf8.encode;simp only[e,Utf8.runeError,Bool.false_eq_true,if_false];decide
theorem Um (r:Int) (h1:128<=r) (h2:r<=1114111) (h3:r<55296\/57343<r):
  ∃n,(2<=n/\n<=4)/\(Utf8.encode r).size=n/\ ∀h:n-1<(Utf8.encode r).size,128<=((Utf8.encode r)[n-1]'h).toNat:=by
 have d:=Ul r;have b: ∀x:Int,0<=x->(128+x % 64).toNat.toUInt8.toNat=(128+x % 64).toNat:=λx b=>by
  rw[show (128+x % 64).toNat.toUInt8=UInt8.ofNat (128+x % 64).toNat from rfl,UInt8.toNat_ofNat'];exact Nat.mod_eq_of_lt (by omega)
 have key: ∀(l:List UInt8) (n:Nat),(Utf8.encode r).data.toList=l->l.length=n->(∀c,l[n-1]?=some c->128<=c.toNat)->(Utf8.encode r).size=n/\ ∀h:n-1<(Utf8.encode r).size,128<=((Utf8.encode r)[n-1]'h).toNat:=by
  intro l n e f a;have i:(Utf8.encode r).size=n:=by rw[<-f,<-e];rfl
  refine⟨i,λh=>a _ ?_⟩;have g:n-1<(Utf8.encode r).data.size:=h;rw[<-e,Array.getElem?_toList,Array.getElem?_eq_getElem g];rfl
 by_cases g2:r<=2047
 ·refine⟨2,by omega,key _ 2 d ?_ ?_⟩
  ·unfold Lib.encodeRune;rw[Lib.encodeRuneZ_two h1 g2];rfl
  ·unfold Lib.encodeRune;rw[Lib.encodeRuneZ_two h1 g2];intro c a;simp only[lQ,List.map_nil] at a;have:c=(128+r % 64).toNat.toUInt8:=(by simpa using a.symm);rw[this,b r (by omega)];omega
 by_cases g3:r<=65535
 ·refine⟨3,by omega,key _ 3 d ?_ ?_⟩
  ·unfold Lib.encodeRune;rw[Lib.encodeRuneZ_three (by omega)];rfl
  ·unfold Lib.encodeRune;rw[Lib.encodeRuneZ_three (by omega)];intro c a;simp only[lQ,List.map_nil] at a;have:c=(128+r % 64).toNat.toUInt8:=(by simpa using a.symm);rw[this,b r (by omega)];omega
 ·have e4:Lib.encodeRuneZ r= [240+r / 262144,128+r / 4096 % 64,128+r / 64 % 64,128+r % 64]:=by
   unfold Lib.encodeRuneZ;rw[if_neg (by omega),if_neg (by omega),if_neg (by omega),if_pos (by omega)]
  refine⟨4,by omega,key _ 4 d ?_ ?_⟩
  ·unfold Lib.encodeRune;rw[e4];rfl
  ·unfold Lib.encodeRune;rw[e4];intro c a;simp only[lQ,List.map_nil] at a;have:c=(128+r % 64).toNat.toUInt8:=(by simpa using a.symm);rw[this,b r (by omega)];omega
end Go.Proofs.YtjnooaljcgkfpaaGreatDoor
namespace Go.Proofs.YtjnooaljcgkfpaaGreatDoor
set_option linter.unusedSimpArgs false
set_option linter.unusedVariables false
open Go.RowKit
open Go.Lib hiding intOf
def nR (c:UInt8):Option Nat:=
 if 48<=c.toNat/\c.toNat<=57 then some (c.toNat-48) else if 97<=c.toNat/\c.toNat<=102 then some (c.toNat-87) else if 65<=c.toNat/\c.toNat<=70 then some (c.toNat-55) else none
def iK:Nat->List UInt8->Option Nat
 | acc,[]=>some acc
 | acc,c::r=>match nR c with | none=>none | some d=>iK (16*acc+d) r
def zN (r:Option Nat):Ending:=match r with
 | some n=> .returned (.tuple #[.int .u64 n, .nilIface])
 | none=> .returned (.tuple #[.int .u64 0, .iface 193 (.int .i64 2)])
theorem Un: ∀n:Fin 256,((65<=n.val/\n.val<=70->bits .or .u8 (n.val:Int) 32=(n.val:Int)+32)/\(97<=n.val/\n.val<=102->bits .or .u8 (n.val:Int) 32=(n.val:Int))/\
  (¬(65<=n.val/\n.val<=70)-> ¬(97<=n.val/\n.val<=102)->bits .or .u8 (n.val:Int) 32<97\/103<=bits .or .u8 (n.val:Int) 32)/\0<=bits .or .u8 (n.val:Int) 32/\bits .or .u8 (n.val:Int) 32<=255):=by decide+kernel
theorem Uo (c:UInt8):(65<=c.toNat/\c.toNat<=70->bits .or .u8 (c.toNat:Int) 32=(c.toNat:Int)+32)/\(97<=c.toNat/\c.toNat<=102->bits .or .u8 (c.toNat:Int) 32=(c.toNat:Int))/\
  (¬(65<=c.toNat/\c.toNat<=70)-> ¬(97<=c.toNat/\c.toNat<=102)->bits .or .u8 (c.toNat:Int) 32<97\/103<=bits .or .u8 (c.toNat:Int) 32)/\0<=bits .or .u8 (c.toNat:Int) 32/\bits .or .u8 (c.toNat:Int) 32<=255:=
 Un ⟨c.toNat,c.toNat_lt⟩
theorem Cz (c:Int) (w:World):
  Calls Tryz.prog 190 #[.int .u8 c] w λe w'=>e= .returned (.int .u8 (bits .or .u8 c 32))/\w=w':=by
 go_enter Tryz.func190,Tryz.ntmps190;go_wp2_with fail;go_ret;exact⟨rfl,rfl⟩
theorem Up (t:ByteArray) (ht:t.size=4) (w:World):
  Calls Tryz.prog 164 #[.string t, .int .i64 16, .int .i64 32] w λe w'=>e=zN (iK 0 t.data.toList)/\Below w.heap.size w w':=by
 have hemp:t.toList.isEmpty=false:=by
  rw[<-decide_eq_emptyBytes];exact aJ (λh=>by rw[h] at ht;cases ht)
 have J:=Lib.run_convert_string_bytes (P:=Tryz.prog) w 9 55 5 t (u:= .string) Tryz.underlying9 Tryz.underlying55 Tryz.underlying5;have H: ∀j,j<t.size->(Lib.bytesWorld w 5 t).cell? ⟨w.heap.size,j,none⟩=some (.int .u8 (t.data.toList.getD j 0).toNat):=λj V=>Lib.bytesWorld_cell w 5 t j V;have i:=hid (Lib.bytesWorld_below w 5 t);obtain⟨W1,G⟩: ∃W1,W1=Lib.bytesWorld w 5 t:=⟨_,rfl⟩;rw[<-G] at J H i;clear G;obtain⟨bl,K⟩: ∃bl,bl=t.data.toList:=⟨_,rfl⟩;have hLn:bl.length=t.size:=by rw[K,Lib.size_eq]
 rw[<-K] at H ⊢;clear K;obtain⟨R,L⟩:=exQ<|zN (iK 0 bl);rw[L];have O:=hid L;clear L;have hmv:IntKind.u64.wrap (IntKind.u64.wrap 4294967296-1)=4294967295:=by
  rw[IntKind.wrap_u64,IntKind.wrap_u64];decide
 go_enter Tryz.func164,Tryz.ntmps164;go_wp2_with fail;go_loop [12,13,101] (λvu vn vi=> ∃(k acc:Nat) (a:Int),vu= .bool false/\vn= .int .u64 a/\vi= .int .i64 k/\k<=t.size/\a<=65535/\0<=a/\(k<=3->a<=4095)/\Hid (a=(acc:Int)/\acc<16 ^ k/\iK 0 bl=iK acc (bl.drop k)))
  (λ_ _ vi=>t.size-(RowKit.intOf vi).toNat)
 case atStart=>exact⟨0,0,0,rfl,rfl,rfl,by omega,by omega,by omega,λ_=>by omega,rfl,by decide,rfl⟩
 case round=>
  obtain⟨k,acc,a,rfl,rfl,rfl,hk,ha1,ha2,D,N⟩:=hrel;obtain⟨B,l,b⟩:=N.out;clear N;by_cases hkn:k<t.size
  ·have Q:=H k hkn;have p:bl.drop k=bl[k]'(by omega)::bl.drop (k+1):=iJ (by omega);have z:bl.getD k 0=bl[k]'(by omega):=(by simp[List.getD,bH (show k<bl.length by omega)]);rw[p] at b;rw[z] at Q;generalize bl[k]'(by omega)=c at Q b;have hc256:c.toNat<256:=c.toNat_lt;have hk3:a<=4095:=D (by omega);obtain⟨lw1,lw2,lw3,lw4,lw5⟩:=Uo c;have m:16 ^ (k+1)=16*16 ^ k:=by rw[Nat.pow_succ];omega
   have n:k<=2->(16:Nat) ^ (k+1)<=4096:=λh=>aV (Nat.pow_le_pow_right (by decide) (show k+1<=3 by omega)) (by decide);clear H p z D;have f: ∀d:Nat,nR c=some d->d<16->Hid (a*16+(d:Int)=((16*acc+d:Nat):Int)/\16*acc+d<16 ^ (k+1)/\iK 0 bl=iK (16*acc+d) (bl.drop (k+1)))/\(k+1<=3->a*16+(d:Int)<=4095):=λd U hd16=>by
    have T:16*acc+d<16 ^ (k+1):=by rw[m];omega
    refine⟨⟨by omega,T,?_⟩,λh=>by have:=n (by omega);omega⟩;rw[b];simp only[iK,U]
   by_cases hdig:48<=c.toNat/\c.toNat<=57
   ·obtain⟨q,o⟩:=hdig;obtain⟨x,y⟩:=f (c.toNat-48) (by unfold nR;rw[if_pos ⟨q,o⟩]) (by omega);rw[show ((c.toNat-48:Nat):Int)=(c.toNat:Int)-48 by omega] at x y;clear b f lw1 lw2 lw3 lw4 lw5 l B m n;go_wp2_with fail;refine⟨⟨k+1,16*acc+(c.toNat-48),a*16+((c.toNat:Int)-48),rfl,(by first | rfl | (congr 1;omega)),(by first | rfl | (congr 1;omega)),by omega,by omega,by omega,y,x⟩,by simp[RowKit.intOf];omega⟩
   ·by_cases hlo:97<=c.toNat/\c.toNat<=102
    ·have C:=lw2 hlo;obtain⟨q,o⟩:=hlo;obtain⟨x,y⟩:=f (c.toNat-87) (by unfold nR;rw[if_neg hdig,if_pos ⟨q,o⟩]) (by omega);rw[show ((c.toNat-87:Nat):Int)=(c.toNat:Int)-97+10 by omega] at x y;have g: ¬c.toNat<=57:=(by omega);have s:Hid (∀w,Calls Tryz.prog 190 #[.int .u8 (c.toNat:Int)] w λe w'=>e= .returned (.int .u8 (c.toNat:Int))/\w=w'):=hid (λw=>by have:=Cz (c.toNat:Int) w;rw[C] at this;exact this);clear b f lw1 lw2 lw3 lw4 lw5 l B m n C hdig;go_wp2_with (go_at_call 190;refine(s.out _).mono ?_;rintro e w' ⟨rfl,rfl⟩);refine⟨⟨k+1,16*acc+(c.toNat-87),a*16+((c.toNat:Int)-97+10),rfl,(by first | rfl | (congr 1;omega)),(by first | rfl | (congr 1;omega)),by omega,by omega,by omega,y,x⟩,by simp[RowKit.intOf];omega⟩
    ·by_cases hup:65<=c.toNat/\c.toNat<=70
     ·have C:=lw1 hup;obtain⟨q,o⟩:=hup;obtain⟨x,y⟩:=f (c.toNat-55) (by unfold nR;rw[if_neg hdig,if_neg hlo,if_pos ⟨q,o⟩]) (by omega);rw[show ((c.toNat-55:Nat):Int)=(c.toNat:Int)+32-97+10 by omega] at x y;have g: ¬c.toNat<=57:=(by omega);have s:Hid (∀w,Calls Tryz.prog 190 #[.int .u8 (c.toNat:Int)] w λe w'=>e= .returned (.int .u8 ((c.toNat:Int)+32))/\w=w'):=hid (λw=>by have:=Cz (c.toNat:Int) w;rw[C] at this;exact this);clear b f lw1 lw2 lw3 lw4 lw5 l B m n C hdig hlo;go_wp2_with (go_at_call 190;refine(s.out _).mono ?_;rintro e w' ⟨rfl,rfl⟩);refine⟨⟨k+1,16*acc+(c.toNat-55),a*16+((c.toNat:Int)+32-97+10),rfl,(by first | rfl | (congr 1;omega)),(by first | rfl | (congr 1;omega)),by omega,by omega,by omega,y,x⟩,by simp[RowKit.intOf];omega⟩
     ·have E:iK acc (c::bl.drop (k+1))=none:=by simp only[iK];unfold nR;rw[if_neg hdig,if_neg hlo,if_neg hup]
      rw[E] at b;have A:=hid (O.out.symm.trans (by rw[b]));have M:=lw3 hup hlo;obtain⟨v,I⟩:=exQ<|bits .or .u8 (c.toNat:Int) 32;have s:Hid (∀w,Calls Tryz.prog 190 #[.int .u8 (c.toNat:Int)] w λe w'=>e= .returned (.int .u8 v)/\w=w'):=hid (λw=>by have:=Cz (c.toNat:Int) w;rw[I] at this;exact this);have r:c.toNat=95->v=127:=λh=>by rw[<-I,h];decide+kernel
      rw[I] at M lw4 lw5;have g:c.toNat<48\/57<c.toNat:=(by omega);clear b f lw1 lw2 lw3 l B m n hdig hlo hup E I;by_cases h95:c.toNat=95
      ·obtain rfl:=r h95;have F:((c.toNat:Int)==95)=true:=beq_iff_eq.2 (by omega);have hnd2:57<c.toNat:=(by omega);clear h95 r;go_wp2_with (go_at_call 190;refine(s.out _).mono ?_;rintro e w' ⟨rfl,rfl⟩);go_ret2;exact⟨A.out.symm,i.out⟩
      ·clear r;have F:((c.toNat:Int)==95)=false:=aG.2 (by omega);by_cases hv1:v<97
       ·rcases g with g | g
        all_goals
         go_wp2_with (go_at_call 190;refine(s.out _).mono ?_;rintro e w' ⟨rfl,rfl⟩);go_ret2;exact⟨A.out.symm,i.out⟩
       ·have hv2:103<=v:=M.resolve_left hv1;by_cases hv3:v<=122
        ·rcases g with g | g
         all_goals
          go_wp2_with (go_at_call 190;refine(s.out _).mono ?_;rintro e w' ⟨rfl,rfl⟩);go_ret2;exact⟨A.out.symm,i.out⟩
        ·rcases g with g | g
         all_goals
          go_wp2_with (go_at_call 190;refine(s.out _).mono ?_;rintro e w' ⟨rfl,rfl⟩);go_ret2;exact⟨A.out.symm,i.out⟩
  ·obtain rfl:k=t.size:=(by omega);have E:iK acc (bl.drop t.size)=some acc:=by rw[List.drop_eq_nil_of_le (by omega)];rfl
   rw[E] at b;have A:=hid (O.out.symm.trans (by rw[b]));have S:=hid B;clear l E b B;go_wp2_with fail;go_ret2;exact⟨by rw[A.out,S.out];rfl,i.out⟩
theorem It {P:Program}{f:FuncId}{args:Array Value}{w:World}{a n:Nat}{v:Value}
  (h:Calls P f args (w.drewN (a+n)) λe w'=>e= .returned v/\w.drewN (a+n)=w'):
  Calls P f args (w.drewN (a+n)) λe w''=>e= .returned v/\ ∃m,w''=w.drewN (a+m):=
 h.mono λ_ _ ⟨b,c⟩=>⟨b,n,c.symm⟩
theorem Uq (r:Int) (w:World) (h1:128<=r) (h2:r<=1114111) (h3:r<55296\/57343<r):
  Calls Tryz.prog 188 #[.int .i32 r] w λe w'=>e= .returned (.bool true)/\w=w':=by
 rcases h3 with h3 | h3
 all_goals
  go_enter Tryz.func188,Tryz.ntmps188;go_wp2_with fail;go_ret;exact⟨rfl,rfl⟩
theorem indexByte_none: ∀(l:List UInt8) (b:UInt8),(∀c∈l,c≠b)->Lib.indexByte l b= -1
 | [],b,_=>rfl
 | c::t,b,h=>by
  have h1:(c==b)=false:=aG.2 (h c (by simp));have d:=indexByte_none t b (λx a=>h x (by simp[a]));unfold Lib.indexByte;simp[h1,d]
theorem Iu (A:ByteArray) (i k:Nat) (b:UInt8) (hb:128<=b.toNat) (hA:A.data.toList.all (λc=>decide (c.toNat<128))=true:=by decide) (w:World):
  Calls Tryz.prog 55 #[.string (A.extract i k), .int .u8 (b.toNat:Int)] w λe w'=>e= .returned (.int .i64 (-1))/\w=w':=by
 have h:=wR (A.extract i k) b w;rw[indexByte_none] at h
 ·exact h
 ·intro c a e;rw[mT,aW] at a;have d:c∈A.data.toList:=List.mem_of_mem_drop (List.mem_of_mem_take a);have:=of_decide_eq_true (eH.1 hA c d);rw[e] at this;omega
theorem Ur (S:ByteArray) (w:World) (hS:S.data.toList.all (λc=>decide (c.toNat<128))=true) (hsz:S.size<=4294967296):
  Calls Tryz.prog 156 #[.string S, .int .i32 65533] w λe w'=>e= .returned (.int .i64 (-1))/\Below w.heap.size w w':=by
 have a: ∀p (h:p<S.size),(S[p]'h).toNat<128:=λp h=>of_decide_eq_true (eH.1 hS _ (Array.getElem_mem_toList _));have m:=hid a;clear a hS;go_enter Tryz.func156,Tryz.ntmps156;go_wp2_with fail;go_loopw [5,6] (λ_ _ wr=> ∃p:Nat,p<=S.size/\Hid (wr.heap[w.heap.size]?=some (.stringIter S p))/\Hid (Below w.heap.size w wr)) (λ_ _ wr=>S.size-wr.iterPos w.heap.size)
 case atStart=>exact⟨0,by omega,World.iter_heap w S 0,(aB _ _).alloc (aD _) _⟩
 case round=>
  obtain⟨p,hp,d,k⟩:=hrel;by_cases hlt:p<S.size
  ·have n:=m.out p hlt;have f:=decode_ascii S p hlt n;have e1:bG S p=((S[p]'hlt).toNat:Int):=by unfold bG;rw[f]
   have e2:bB S p=1:=by unfold bB;rw[f]
   have i: ∀ty,(Instr.next (.pointer (some ⟨w.heap.size,0,none⟩)) true ty).run Tryz.prog wr= .ok (.tuple #[.bool true, .int .i64 p, .int .i32 ((S[p]'hlt).toNat:Int)]) (wr.iterAt w.heap.size S (p+1)):=λty=>by
    have:=Lib.run_next_any_at (P:=Tryz.prog) wr w.heap.size S p ty d.out hlt;have j:=e1;have l:=e2;unfold bG at j;unfold bB at l;rw[j,l] at this;exact this
   have b:=hid (Lib.iterAt_heap wr w.heap.size S p (p+1) d.out);have g:=hid (Lib.below_iterAt k.out (aD w.heap.size) S (p+1));have o:=hid (iterPos_of d.out);have t1:(((S[p]'hlt).toNat:Int)==65533)=false:=aG.2 (by omega);clear e1 e2 f;go_wp2_with fail;go_roundw
   case rel=>exact⟨p+1,by omega,b.out,g.out⟩
   case measure=>rw[iterPos_of b.out,o.out];omega
  ·have i: ∀ty,(Instr.next (.pointer (some ⟨w.heap.size,0,none⟩)) true ty).run Tryz.prog wr= .ok (.tuple #[.bool false]) wr:=λty=>Lib.run_next_end_at wr _ S p ty d.out hlt;go_wp2_with fail;go_ret;exact⟨rfl,k.out⟩
theorem Us (r:Int) (w:World) (h1:128<=r) (h2:r<=1114111) (h3:r<55296\/57343<r):
  Calls Tryz.prog 156 #[.string ⟨#[43,45,95]⟩, .int .i32 r] w λe w'=>e= .returned (.int .i64 (-1))/\Below w.heap.size w w':=by
 by_cases h4:r=65533
 ·subst h4;exact Ur _ w (by decide) (by decide)
 ·have j:(r==65533)=false:=aG.2 h4;go_enter Tryz.func156,Tryz.ntmps156;go_wp2_with fail;refine(Uq r _ h1 h2 h3).mono ?_;rintro e w' ⟨rfl,rfl⟩;go_wp2_with fail;go_step3;obtain⟨n,f,c,a⟩:=Um r h1 h2 h3;obtain⟨E,d⟩:=exQ<|Utf8.encode r;rw[d] at c a;have i:=hid d;clear d;go_upto_region 1 with fail;go_cut [7] (λs7 wx=>s7= .string E/\w=wx)
  case first=>
   go_wp2_with fail;go_meet;exact⟨by rw[i.out],rfl⟩
  obtain⟨rfl,rfl⟩:=hcut;clear i h3 h4 j;obtain rfl|rfl|rfl:n=2\/n=3\/n=4:=by omega
  ·have b:1<E.size:=(by omega);have g:=a (by omega);simp only[Nat.reduceSub] at g;have t1:((((⟨#[43,45,95]⟩:ByteArray)[1]'(by decide)).toNat:Int) !=((E[1]'b).toNat:Int))=true:=gP.2 (by show ((45:Nat):Int)≠_;omega);have CI:=hid (Iu (⟨#[43,45,95]⟩:ByteArray) 2 3 (E[1]'b) (by omega));have h:(⟨#[43,45,95]⟩:ByteArray).size=3:=rfl;clear a f;go_wp2_with fail;go_loopw [9] (λs9 wr=>s9= .int .i64 1/\w=wr) (λ_ _=>0)
   case atStart=>exact⟨rfl,rfl⟩
   case round=>
    obtain⟨rfl,rfl⟩:=hrel;go_wp2_with fail;go_step3;go_wp2_with fail;go_quiet (fail);go_wp2_with fail;go_quiet ((go_at_call 55;first | exact quiet_left (CI.out _) | exact It (CI.out _)));go_wp2_with fail;show bodyPost Tryz.prog Tryz.f156 (λe w'=>e=Ending.returned (Value.int IntKind.i64 (-1))/\Below w.heap.size w w') Exit.ret _ _;go_ret;exact⟨rfl,below_drewN (aB _ _) _⟩
  ·have b:2<E.size:=(by omega);have g:=a (by omega);simp only[Nat.reduceSub] at g;have t1:((((⟨#[43,45,95]⟩:ByteArray)[2]'(by decide)).toNat:Int) !=((E[2]'b).toNat:Int))=true:=gP.2 (by show ((95:Nat):Int)≠_;omega);have CI:=hid (Iu (⟨#[43,45,95]⟩:ByteArray) 3 3 (E[2]'b) (by omega));have h:(⟨#[43,45,95]⟩:ByteArray).size=3:=rfl;clear a f;go_wp2_with fail;go_loopw [9] (λs9 wr=>s9= .int .i64 2/\w=wr) (λ_ _=>0)
   case atStart=>exact⟨rfl,rfl⟩
   case round=>
    obtain⟨rfl,rfl⟩:=hrel;go_wp2_with fail;go_step3;go_wp2_with fail;go_quiet (fail);go_wp2_with fail;go_quiet ((go_at_call 55;first | exact quiet_left (CI.out _) | exact It (CI.out _)));go_wp2_with fail;show bodyPost Tryz.prog Tryz.f156 (λe w'=>e=Ending.returned (Value.int IntKind.i64 (-1))/\Below w.heap.size w w') Exit.ret _ _;go_ret;exact⟨rfl,below_drewN (aB _ _) _⟩
  ·have h3': ¬(3:Int)<3:=(by omega);clear a f;go_wp2_with fail;go_loopw [9] (λs9 wr=>s9= .int .i64 3/\w=wr) (λ_ _=>0)
   case atStart=>exact⟨rfl,rfl⟩
   case round=>
    obtain⟨rfl,rfl⟩:=hrel;go_wp2_with fail;rw[Exit.noGoto_ret];go_ret;exact⟨rfl,aB _ _⟩
theorem Ut (s:ByteArray) (p:Nat):bG s p<55296\/57343<bG s p:=by
 unfold bG;rw[decode_at];have:=decodeN_valid (s.size-p) (s.get! p).toNat (s.get! (p+1)).toNat (s.get! (p+2)).toNat (s.get! (p+3)).toNat (UInt8.toNat_lt _);omega
theorem Uu (l:List UInt8) (b:UInt8) (h:0<=Lib.indexByte l b):b∈l:=by
 apply Classical.byContradiction;intro d;rw[indexByte_none l b (λc a e=>d (e ▸ a))] at h;omega
def Uv (r:Int) (e:Ending):Prop:= ∃k:Int,e= .returned (.int .i64 k)/\(0<=k->r=43\/r=45\/r=95)
theorem Uw (r:Int) (w:World) (h0:0<=r) (h2:r<=1114111) (h3:r<55296\/57343<r):
  Calls Tryz.prog 156 #[.string ⟨#[43,45,95]⟩, .int .i32 r] w λe w'=>Uv r e/\Below w.heap.size w w':=by
 by_cases h1:r<128
 ·refine(Tryz.strings_IndexRune_ascii ⟨#[43,45,95]⟩ r w h0 h1).mono ?_;rintro e w' ⟨rfl,f⟩;rw[f];refine⟨⟨_,rfl,λh=>?_⟩,aB _ _⟩;have a:=Uu _ _ h;have d:r.toNat.toUInt8.toNat=r.toNat:=by
   rw[show r.toNat.toUInt8=UInt8.ofNat r.toNat from rfl,UInt8.toNat_ofNat'];exact Nat.mod_eq_of_lt (by omega)
  simp only[eV,List.not_mem_nil,or_false] at a;rcases a with a | a | a
  all_goals
   have b:=congrArg UInt8.toNat a;rw[d] at b
   first | (left;have:r.toNat=43:=b;omega) | (right;left;have:r.toNat=45:=b;omega) | (right;right;have:r.toNat=95:=b;omega)
 ·refine(Us r w (by omega) h2 h3).mono ?_;rintro e w' ⟨rfl,c⟩;exact⟨⟨_,rfl,λh=>by omega⟩,c⟩
def Iv (t:ByteArray) (e:Ending):Prop:= ∃B,e= .returned (.bool B)/\(B=true-> ∃c∈t.data.toList,c.toNat=43\/c.toNat=45\/c.toNat=95)
def Ux (t:ByteArray) (e:Ending):Prop:= ∃k:Int,e= .returned (.int .i64 k)/\(0<=k-> ∃c∈t.data.toList,c.toNat=43\/c.toNat=45\/c.toNat=95)
theorem Uy (t:ByteArray) (w:World) (hs:t.size<=8):
  Calls Tryz.prog 230 #[.string t, .string ⟨#[43,45,95]⟩] w λe w'=>Ux t e/\Below w.heap.size w w':=by
 go_enter Tryz.func230,Tryz.ntmps230;go_wp2_with fail;refine(Tryz.strings_shouldUseASCIISet _ _).mono ?_;rintro e w' ⟨rfl,n⟩;rw[n];clear n;have m:decide (8<(t.size:Int))=false:=aJ (by omega);rw[m];go_wp2_with fail;go_loopw [9,10] (λ_ _ wr=> ∃p:Nat,p<=t.size/\Hid (wr.heap[w.heap.size]?=some (.stringIter t p))/\Hid (Below w.heap.size w wr)) (λ_ _ wr=>t.size-wr.iterPos w.heap.size)
 case atStart=>exact⟨0,by omega,World.iter_heap w t 0,(aB _ _).alloc (aD _) _⟩
 case round=>
  obtain⟨p,hp,d,s⟩:=hrel;by_cases hlt:p<t.size
  ·have n:=pE t p hlt;have i:=rX t p;have o:=Ut t p;have q: ∀ty,(Instr.next (.pointer (some ⟨w.heap.size,0,none⟩)) true ty).run Tryz.prog wr= .ok (.tuple #[.bool true, .int .i64 p, .int .i32 (bG t p)]) (wr.iterAt w.heap.size t (p+bB t p)):=λty=>Lib.run_next_any_at wr _ t p ty d.out hlt;have hz:w.heap.size<wr.heap.size:=aE d.out;have l:=hid (Lib.iterAt_heap wr w.heap.size t p (p+bB t p) d.out);have j:=hid (Lib.below_iterAt s.out (aD w.heap.size) t (p+bB t p));have z:=hid (iterPos_of d.out);have a:(bG t p=43\/bG t p=45\/bG t p=95)-> ∃c∈t.data.toList,c.toNat=43\/c.toNat=45\/c.toNat=95:=λh=>by
    refine⟨t[p]'hlt,Array.getElem_mem_toList _,?_⟩;by_cases hb:(t[p]'hlt).toNat<128
    ·have u:=decode_ascii t p hlt hb;unfold bG at h;rw[u] at h;simp only[] at h;omega
    ·have u:=(decode_high t p hlt (by omega)).1;unfold bG at h;omega
   have x:=hid a;clear a;generalize bG t p=r at *;generalize bB t p=wd at *;go_wp2_with fail;refine(Uw r _ i.1 i.2 o).mono ?_;rintro e w2 ⟨⟨k,rfl,v⟩,b⟩;have y:=hid v;clear v;have f:=hid ((b.block w.heap.size (aE l.out)).trans l.out);have g:=hid (j.out.trans (b.mono j.out.size));clear b;by_cases hk0:0<=k
   ·have A:=hid (x.out (y.out hk0));go_wp2_with fail;go_ret;exact⟨⟨_,rfl,λ_=>A.out⟩,g.out⟩
   ·go_wp2_with fail;go_roundw
    case rel=>exact⟨p+wd,by omega,f.out,g.out⟩
    case measure=>rw[iterPos_of f.out,z.out];omega
  ·have q: ∀ty,(Instr.next (.pointer (some ⟨w.heap.size,0,none⟩)) true ty).run Tryz.prog wr= .ok (.tuple #[.bool false]) wr:=λty=>Lib.run_next_end_at wr _ t p ty d.out hlt;go_wp2_with fail;go_ret;exact⟨⟨_,rfl,λh=>by omega⟩,s.out⟩
theorem Uz (t:ByteArray) (w:World) (hs:t.size<=8):
  Calls Tryz.prog 228 #[.string t, .string ⟨#[43,45,95]⟩] w λe w'=>Iv t e/\Below w.heap.size w w':=by
 go_enter Tryz.func228,Tryz.ntmps228;go_wp2_with fail;refine(Uy t w hs).mono ?_;rintro e w1 ⟨⟨k,rfl,b⟩,a⟩;have f:=hid b;clear b;by_cases hk0:0<=k
 ·have d:=hid (f.out hk0);have c:decide (0<=k)=true:=aN hk0;go_wp2_with fail;go_ret;exact⟨⟨_,rfl,λ_=>d.out⟩,a⟩
 ·have c:decide (0<=k)=false:=aJ hk0;go_wp2_with fail;go_ret;exact⟨⟨_,rfl,λh=>by cases h⟩,a⟩
def dC (w:World):Prop:= ∃tp p,w.var? Tryz.prog "strconv.ErrSyntax" =some #[.iface tp p]
theorem dC.keep {w w':World} (h:dC w) (hb:Below w.heap.size w w'):dC w':=let ⟨tp,p,h⟩:=h;⟨tp,p,In h hb⟩
theorem dC.cell {w:World} (h:dC w): ∃tp p,w.cell? ⟨4,0,none⟩=some (.iface tp p):=by
 obtain⟨tp,p,h⟩:=h;have:=World.var?_cell (P:=Tryz.prog) (show Tryz.prog.globalNamed "strconv.ErrSyntax" =some 4 by kernel_rfl) h 0;exact⟨tp,p,by simpa using this⟩
theorem Iw: ∀(l:List UInt8) (acc:Nat),(∃c∈l,c.toNat=43\/c.toNat=45\/c.toNat=95)->iK acc l=none
 | [],_,h=>by obtain⟨c,hc,_⟩:=h;cases hc
 | d::t,acc,h=>by
  obtain⟨c,hc,a⟩:=h;unfold iK;rcases eV.1 hc with rfl | hc
  ·have:nR c=none:=by unfold nR;rw[if_neg (by omega),if_neg (by omega),if_neg (by omega)]
   rw[this]
  ·cases nR d with
   | none=>rfl
   | some e=>exact Iw t _ ⟨c,hc,a⟩
theorem Va {c:UInt8}{d:Nat} (h:nR c=some d):d<16:=by
 unfold nR at h;split at h
 ·injection h with h;omega
 ·split at h
  ·injection h with h;omega
  ·split at h
   ·injection h with h;omega
   ·cases h
theorem Ix: ∀(l:List UInt8) (acc n:Nat),iK acc l=some n->n<(acc+1)*16 ^ l.length
 | [],acc,n,h=>by simp only[iK,cP] at h;simp;omega
 | c::t,acc,n,h=>by
  unfold iK at h;cases hc:nR c with
  | none=>rw[hc] at h;cases h
  | some d=>
   rw[hc] at h;have h1:=Ix t _ n h;have h2:=Va hc;have h3:(16*acc+d+1)*16 ^ t.length<=(16*(acc+1))*16 ^ t.length:=Nat.mul_le_mul_right _ (by omega);rw[aL,Nat.pow_succ];have h4:(16*(acc+1))*16 ^ t.length=(acc+1)*(16 ^ t.length*16):=by
    rw[Nat.mul_comm 16 (acc+1),Nat.mul_assoc,Nat.mul_comm 16]
   omega
def Iy (r:Option Nat) (e:Ending):Prop:=match r with
 | some n=>e= .returned (.tuple #[.int .u64 n, .nilIface])
 | none=> ∃N:Nat,e= .returned (.tuple #[.int .u64 0, .iface 196 (.pointer (some ⟨N,0,none⟩))])
theorem Vb (t:ByteArray) (ht:t.size=4) (w:World) (hV:dC w):
  Calls Tryz.prog 229 #[.string t, .int .i64 16, .int .i64 32] w λe w'=>Iy (iK 0 t.data.toList) e/\Below w.heap.size w w':=by
 have C:=Up t ht w;cases hx:iK 0 t.data.toList with
 | some n=>
  rw[hx] at C;unfold zN at C;have b:=hid C;clear C hx;go_enter Tryz.func229,Tryz.ntmps229;go_wp2_with fail;refine b.out.mono ?_;rintro e w1 ⟨rfl,a⟩;go_wp2_with fail;go_ret2;exact⟨rfl,a⟩
 | none=>
  rw[hx] at C;unfold zN at C;have b:=hid C;have g:=hid hV;clear C hx hV;go_enter Tryz.func229,Tryz.ntmps229;go_wp2_with fail;refine b.out.mono ?_;rintro e w1 ⟨rfl,a⟩;have c:=hid a;obtain⟨tp,p,f⟩:=(g.out.keep a).cell;have h:=hid (Tryz.strconv_toError_syntax ⟨#[80,97,114,115,101,85,105,110,116]⟩ t 16 32 (.iface tp p) w1 (by omega) f (.inr ⟨tp,p,rfl⟩));clear a f;go_wp2_with fail;refine h.out.mono ?_;rintro e w2 ⟨N,rfl,_,_,d⟩;go_wp2_with fail;go_ret2;exact⟨⟨N,rfl⟩,aC c.out d⟩
def iL (l:List UInt8):Option Nat:=if l.length<4 then none else iK 0 (l.take 4)
theorem wT {l:List UInt8}{n:Nat} (h:iL l=some n):n<65536/\4<=l.length:=by
 unfold iL at h;split at h
 ·cases h
 ·have:=Ix _ _ _ h;rw[cB,Nat.min_eq_left (by omega)] at this;omega
def tG (r:Option Nat):Ending:=match r with
 | some n=> .returned (.tuple #[.int .i32 n, .bool true])
 | none=> .returned (.tuple #[.int .i32 0, .bool false])
theorem Iz (l:List UInt8) (w:World) (hs:l.length<=4294967296) (hV:dC w):
  Calls Tryz.prog 226 #[.string (bs l)] w λe w'=>e=tG (iL l)/\Below w.heap.size w w':=by
 have sl:=aQ l;have v:=hid hV;clear hV;by_cases h4:l.length<4
 ·have i:iL l=none:=by unfold iL;rw[if_pos h4]
  rw[i];go_enter Tryz.func226,Tryz.ntmps226;go_wp2_with fail;go_ret2;exact⟨rfl,aB _ _⟩
 ·obtain⟨R,k⟩:=exQ<|iK 0 (l.take 4);have i:iL l=R:=by unfold iL;rw[if_neg h4,k]
  have u:(bs (l.take 4)).size=4:=by rw[aQ,cB];omega
  have b:(bs l).extract 0 4=bs (l.take 4):=by rw[Cu,aW]
  have CA:Hid (∀w,Calls Tryz.prog 228 #[.string ((bs l).extract 0 4), .string ⟨#[43,45,95]⟩] w λe w'=>Iv (bs (l.take 4)) e/\Below w.heap.size w w'):=hid (λw=>by rw[b];exact Uz (bs (l.take 4)) w (by omega));have CP:Hid (∀w,dC w->Calls Tryz.prog 229 #[.string ((bs l).extract 0 4), .int .i64 16, .int .i64 32] w λe w'=>Iy R e/\Below w.heap.size w w'):=hid (λw hV=>by have:=Vb (bs (l.take 4)) u w hV;rw[aW,k] at this;rw[b];exact this);have g: ∀n,R=some n->n<65536:=λn h=>(wT (i.trans h)).1;rw[i];have t:Hid ((∃c∈l.take 4,c.toNat=43\/c.toNat=45\/c.toNat=95)->R=none):=λh=>by rw[<-k];exact Iw _ _ h
  have o:=hid g;clear i k u b g;go_enter Tryz.func226,Tryz.ntmps226;go_wp2_with fail;refine(CA.out _).mono ?_;rintro e w1 ⟨⟨B,rfl,s⟩,j⟩;have q:=hid s;clear s;have a:=hid j;clear j;cases B with
  | true=>
   have r:R=none:=t.out (by have:=q.out rfl;rw[aW] at this;exact this);subst r;go_wp2_with fail;go_ret2;exact⟨rfl,a.out⟩
  | false=>
   clear q t;go_wp2_with fail;refine(CP.out _ (v.out.keep a.out)).mono ?_;rintro e w2 ⟨m,f⟩;have d:=hid (aC a.out f);clear f;cases R with
   | none=>
    obtain⟨N,rfl⟩:=m;go_wp2_with fail;go_quiet (fail);go_wp2_with fail;go_ret2;exact⟨rfl,below_drewN d.out _⟩
   | some n=>
    have p:e= .returned (.tuple #[.int .u64 n, .nilIface]):=m;subst p;have r:=o.out n rfl;clear m;go_wp2_with fail;go_quiet (fail);go_wp2_with fail;go_ret2;exact⟨rfl,below_drewN d.out _⟩
def kT (n:Int):Int×Bool:=
 if n=34 then(34,true) else if n=92 then(92,true) else if n=47 then(47,true) else if n=98 then(8,true) else if n=102 then(12,true) else if n=110 then(10,true) else if n=114 then(13,true) else if n=116 then(9,true) else(0,false)
theorem Vc (n:Int) (w:World) (h0:0<=n/\n<=255):
  Calls Tryz.prog 218 #[.int .u8 n] w λe w'=>e= .returned (.tuple #[.int .i32 (kT n).1, .bool (kT n).2])/\w=w':=by
 obtain⟨R,a⟩:=exQ<|kT n;rw[a];unfold kT at a;by_cases c1:n=34
 ·rw[if_pos c1] at a;subst a c1;go_enter Tryz.func218,Tryz.ntmps218;go_wp2_with fail;go_ret2;exact⟨rfl,rfl⟩
 rw[if_neg c1] at a;by_cases c2:n=92
 ·rw[if_pos c2] at a;subst a c2;go_enter Tryz.func218,Tryz.ntmps218;go_wp2_with fail;go_ret2;exact⟨rfl,rfl⟩
 rw[if_neg c2] at a;by_cases c3:n=47
 ·rw[if_pos c3] at a;subst a c3;go_enter Tryz.func218,Tryz.ntmps218;go_wp2_with fail;go_ret2;exact⟨rfl,rfl⟩
 rw[if_neg c3] at a;by_cases c4:n=98
 ·rw[if_pos c4] at a;subst a c4;go_enter Tryz.func218,Tryz.ntmps218;go_wp2_with fail;go_ret2;exact⟨rfl,rfl⟩
 rw[if_neg c4] at a;by_cases c5:n=102
 ·rw[if_pos c5] at a;subst a c5;go_enter Tryz.func218,Tryz.ntmps218;go_wp2_with fail;go_ret2;exact⟨rfl,rfl⟩
 rw[if_neg c5] at a;by_cases c6:n=110
 ·rw[if_pos c6] at a;subst a c6;go_enter Tryz.func218,Tryz.ntmps218;go_wp2_with fail;go_ret2;exact⟨rfl,rfl⟩
 rw[if_neg c6] at a;by_cases c7:n=114
 ·rw[if_pos c7] at a;subst a c7;go_enter Tryz.func218,Tryz.ntmps218;go_wp2_with fail;go_ret2;exact⟨rfl,rfl⟩
 rw[if_neg c7] at a;by_cases c8:n=116
 ·rw[if_pos c8] at a;subst a c8;go_enter Tryz.func218,Tryz.ntmps218;go_wp2_with fail;go_ret2;exact⟨rfl,rfl⟩
 rw[if_neg c8] at a;subst a;have d1:(n==34)=false:=aG.2 c1;have d2:(n==92)=false:=aG.2 c2;have d3:(n==47)=false:=aG.2 c3;have d4:(n==98)=false:=aG.2 c4;have d5:(n==102)=false:=aG.2 c5;have d6:(n==110)=false:=aG.2 c6;have d7:(n==114)=false:=aG.2 c7;have d8:(n==116)=false:=aG.2 c8;go_enter Tryz.func218,Tryz.ntmps218;go_wp2_with fail;go_ret2;exact⟨rfl,rfl⟩
def mD (l:List UInt8):Int×Int:=
 match iL (l.drop 2) with
 | none=>(0,0)
 | some h=>if 56320<=h/\h<57344 then(0,0) else if h<55296\/57344<=h then((h:Int),6) else if Lib.hasPrefix (l.drop 6) [92,117]=false then(0,0) else
  match iL (l.drop 8) with
  | none=>(0,0)
  | some lo=>if lo<56320\/57344<=lo then(0,0) else(65536+((h:Int)-55296)*1024+lo-56320,12)
def RW (r:Int×Int):Ending:= .returned (.tuple #[.int .i32 r.1, .int .i64 r.2])
theorem Vd {l p:List UInt8} (h:Lib.hasPrefix l p=true):p.length<=l.length:=by
 unfold Lib.hasPrefix at h;exact(List.isPrefixOf_iff_prefix.1 h).length_le
theorem Ve (l:List UInt8) (w:World) (h2:2<=l.length) (hs:l.length<=4294967296) (hV:dC w):
  Calls Tryz.prog 219 #[.string (bs l)] w λe w'=>e=RW (mD l)/\Below w.heap.size w w':=by
 have sl:=aQ l;have C1:Hid (∀w,dC w->Calls Tryz.prog 226 #[.string ((bs l).extract 2 l.length)] w λe w'=>e=tG (iL (l.drop 2))/\Below w.heap.size w w'):=hid (λw h=>by rw[mV _ _ _ rfl];exact Iz (l.drop 2) w (by rw[aZ];omega) h);have i:=hid hV;clear hV;obtain⟨R,d⟩:=exQ<|mD l;rw[d];unfold mD at d;cases h1:iL (l.drop 2) with
 | none=>
  rw[h1] at d C1;simp only[] at d;subst d;go_enter Tryz.func219,Tryz.ntmps219;go_wp2_with fail;refine(C1.out _ i.out).mono ?_;unfold tG;rintro e w1 ⟨rfl,c⟩;go_wp2_with fail;go_ret2;exact⟨rfl,c⟩
 | some h=>
  rw[h1] at d C1;simp only[] at d;obtain⟨k,m⟩:=wT h1;rw[aZ] at m;unfold tG at C1;obtain⟨H,n⟩: ∃H:Int,(h:Int)=H:=⟨_,rfl⟩;simp only[n] at C1 d;have HB:0<=H/\H<65536:=by omega
  by_cases g1:56320<=h/\h<57344
  ·rw[if_pos g1] at d;subst d;have ga:56320<=H:=(by omega);have gb:H<57344:=(by omega);clear g1 n k h1;go_enter Tryz.func219,Tryz.ntmps219;go_wp2_with fail;refine(C1.out _ i.out).mono ?_;rintro e w1 ⟨rfl,c⟩;go_wp2_with fail;go_ret2;exact⟨rfl,c⟩
  rw[if_neg g1] at d;by_cases g2:h<55296\/57344<=h
  ·rw[if_pos g2] at d;subst d;have g2':H<55296\/57344<=H:=(by omega);clear g1 g2 n k h1;rcases g2' with g2 | g2
   all_goals
    go_enter Tryz.func219,Tryz.ntmps219;go_wp2_with fail;refine(C1.out _ i.out).mono ?_;rintro e w1 ⟨rfl,c⟩;go_wp2_with fail;go_ret2;exact⟨rfl,c⟩
  rw[if_neg g2] at d;have ga:55296<=H:=by omega
  have gb:H<56320:=by omega
  clear g1 g2 n k h1;obtain⟨P,hP⟩:=exQ<|Lib.hasPrefix (l.drop 6) [92,117];rw[hP] at d;have CP:Hid (∀w,Calls Tryz.prog 56 #[.string ((bs l).extract 6 l.length), .string ⟨#[92,117]⟩] w λe w'=>e= .returned (.bool P)/\w=w'):=hid (λw=>by have:=Tryz.strings_HasPrefix ((bs l).extract 6 l.length) ⟨#[92,117]⟩ w;rw[mV _ _ _ rfl,aW,show (⟨#[92,117]⟩:ByteArray).data.toList= [92,117] from rfl,hP] at this;rw[mV _ _ _ rfl];exact this.mono λ_ _ ⟨a,b⟩=>⟨a,b.symm⟩);cases P with
  | false=>
   rw[if_pos rfl] at d;subst d;clear hP;go_enter Tryz.func219,Tryz.ntmps219;go_wp2_with fail;refine(C1.out _ i.out).mono ?_;rintro e w1 ⟨rfl,c⟩;go_wp2_with (go_at_call 56;refine(CP.out _).mono ?_;rintro e w' ⟨rfl,rfl⟩);go_ret2;exact⟨rfl,c⟩
  | true=>
   rw[if_neg (by simp)] at d;have hl8:8<=l.length:=by have:=Vd hP;rw[aZ] at this;simp at this;omega
   have C2:Hid (∀w,dC w->Calls Tryz.prog 226 #[.string ((bs l).extract 8 l.length)] w λe w'=>e=tG (iL (l.drop 8))/\Below w.heap.size w w'):=hid (λw h=>by rw[mV _ _ _ rfl];exact Iz (l.drop 8) w (by rw[aZ];omega) h);clear hP;cases h3:iL (l.drop 8) with
   | none=>
    rw[h3] at d C2;simp only[] at d;subst d;unfold tG at C2;go_enter Tryz.func219,Tryz.ntmps219;go_wp2_with fail;refine(C1.out _ i.out).mono ?_;rintro e w1 ⟨rfl,c⟩;have f:=hid c;clear c;go_wp2_with (go_at_call 56;refine(CP.out _).mono ?_;rintro e w' ⟨rfl,rfl⟩);refine(C2.out _ (i.out.keep f.out)).mono ?_;rintro e w2 ⟨rfl,g⟩;go_wp2_with fail;go_ret2;exact⟨rfl,aC f.out g⟩
   | some lo=>
    rw[h3] at d C2;simp only[] at d;obtain⟨j,_⟩:=wT h3;unfold tG at C2;obtain⟨L,o⟩: ∃L:Int,(lo:Int)=L:=⟨_,rfl⟩;simp only[o] at C2 d;have LB:0<=L/\L<65536:=(by omega);by_cases g3:lo<56320\/57344<=lo
    ·rw[if_pos g3] at d;subst d;have g3':L<56320\/57344<=L:=(by omega);clear g3 o j h3;rcases g3' with g3 | g3
     all_goals
      go_enter Tryz.func219,Tryz.ntmps219;go_wp2_with fail;refine(C1.out _ i.out).mono ?_;rintro e w1 ⟨rfl,c⟩;have f:=hid c;clear c;go_wp2_with (go_at_call 56;refine(CP.out _).mono ?_;rintro e w' ⟨rfl,rfl⟩);refine(C2.out _ (i.out.keep f.out)).mono ?_;rintro e w2 ⟨rfl,g⟩;go_wp2_with fail;go_ret2;exact⟨rfl,aC f.out g⟩
    ·rw[if_neg g3] at d;subst d;have gc:56320<=L:=(by omega);have gd:L<57344:=(by omega);clear g3 o j h3;go_enter Tryz.func219,Tryz.ntmps219;go_wp2_with fail;refine(C1.out _ i.out).mono ?_;rintro e w1 ⟨rfl,c⟩;have f:=hid c;clear c;go_wp2_with (go_at_call 56;refine(CP.out _).mono ?_;rintro e w' ⟨rfl,rfl⟩);refine(C2.out _ (i.out.keep f.out)).mono ?_;rintro e w2 ⟨rfl,g⟩;go_wp2_with fail;go_ret2;exact⟨rfl,aC f.out g⟩
theorem rZ (l:List UInt8) (k:Nat) (h:k<(bs l).size):l[k]?=some ((bs l)[k]'h):=by
 have a:k<l.length:=by rw[<-aQ l];exact h
 rw[bH a];simp[bs,ByteArray.getElem_eq_getElem_data]
def pI (l:List UInt8):Int×Int:=
 match l[1]? with
 | some c=>if(kT c.toNat).2 then((kT c.toNat).1,2) else if c.toNat=117 then mD l else(0,0)
 | none=>(0,0)
theorem Vf (l:List UInt8) (w:World) (hs:l.length<=4294967296) (hV:dC w):
  Calls Tryz.prog 214 #[.string (bs l)] w λe w'=>e=RW (pI l)/\Below w.heap.size w w':=by
 have sl:=aQ l;have i:=hid hV;clear hV;obtain⟨R,d⟩:=exQ<|pI l;rw[d];by_cases h2:l.length<2
 ·have k:R=(0,0):=by
   rw[<-d];unfold pI;rw[List.getElem?_eq_none (by omega)]
  subst k;clear d;go_enter Tryz.func214,Tryz.ntmps214;go_wp2_with fail;go_ret2;exact⟨rfl,aB _ _⟩
 ·have b:1<(bs l).size:=by omega
  obtain⟨c,j⟩:=exQ<|(bs l)[1]'b;have a:(if(kT c.toNat).2 then((kT c.toNat).1,2) else if c.toNat=117 then mD l else(0,0))=R:=by
   rw[<-d];unfold pI;rw[rZ l 1 b,j]
  obtain⟨M,f⟩:=exQ<|kT c.toNat;obtain⟨mc,mb⟩:=M;rw[f] at a;simp only[] at a;have CM:Hid (∀w,Calls Tryz.prog 218 #[.int .u8 (c.toNat:Int)] w λe w'=>e= .returned (.tuple #[.int .i32 mc, .bool mb])/\w=w'):=hid (λw=>by have:=Vc (c.toNat:Int) w ⟨by omega,by have:=c.toNat_lt;omega⟩;rw[f] at this;exact this);have CU:=hid (λw h=>Ve l w (by omega) hs h);clear d f;cases mb with
  | true=>
   rw[if_pos rfl] at a;subst a;go_enter Tryz.func214,Tryz.ntmps214;go_wp2_with fail;refine(CM.out _).mono ?_;rintro e w' ⟨rfl,rfl⟩;go_wp2_with fail;go_ret2;exact⟨rfl,aB _ _⟩
  | false=>
   rw[if_neg (by simp)] at a;by_cases hu:c.toNat=117
   ·rw[if_pos hu] at a;have t1:((c.toNat:Int)==117)=true:=beq_iff_eq.2 (by omega);obtain⟨ra,rb⟩:=R;rw[a] at CU;clear hu a;unfold RW at CU;go_enter Tryz.func214,Tryz.ntmps214;go_wp2_with fail;refine(CM.out _).mono ?_;rintro e w' ⟨rfl,rfl⟩;go_wp2_with fail;refine(CU.out _ i.out).mono ?_;rintro e w1 ⟨rfl,g⟩;go_wp2_with fail;go_ret2;exact⟨rfl,g⟩
   ·rw[if_neg hu] at a;subst a;have t1:((c.toNat:Int)==117)=false:=aG.2 (by omega);clear hu;go_enter Tryz.func214,Tryz.ntmps214;go_wp2_with fail;refine(CM.out _).mono ?_;rintro e w' ⟨rfl,rfl⟩;go_wp2_with fail;go_ret2;exact⟨rfl,aB _ _⟩
def eI (d:Nat×Nat):Bool:=decide (d.1<32)||(d.1==65533&&d.2==1)
def dE (l:List UInt8):Int×Int:=
 if l.head?=some 92 then pI l else if eI (Lib.decodeL l) then(0,0) else(((Lib.decodeL l).1:Int),((Lib.decodeL l).2:Int))
theorem Vg (l:List UInt8) (h:l≠ []):Lib.decodeGo (bs l)=Lib.decodeL l:=by
 have a:=oH (bs l) 0;rw[aW,List.drop_zero] at a;rw[a];unfold Lib.decodeGo;rw[if_neg];rw[aQ];intro e;exact h (List.eq_nil_of_length_eq_zero (by omega))
theorem Vh (l:List UInt8) (w:World) (hne:l≠ []) (hs:l.length<=4294967296) (hV:dC w) (hT:cD w):
  Calls Tryz.prog 199 #[.string (bs l)] w λe w'=>e=RW (dE l)/\Below w.heap.size w w':=by
 have sl:=aQ l;have o:=hid hV;clear hV;obtain⟨R,b⟩:=exQ<|dE l;rw[b];unfold dE at b;have m:0<(bs l).size:=by rw[aQ];cases l with | nil=>exact absurd rfl hne | cons _ _=>simp
 have g:=pF l 92 92 rfl m;by_cases hb:l.head?=some 92
 ·rw[if_pos hb] at b;have t1:(((bs l)[0]'m).toNat:Int)==92:=by rw[g,hb];rfl
  have CE:=hid (λw h=>Vf l w hs h);obtain⟨ra,rb⟩:=R;rw[b] at CE;unfold RW at CE;clear b hb g hne hT;go_enter Tryz.func199,Tryz.ntmps199;go_wp2_with fail;refine(CE.out _ o.out).mono ?_;rintro e w1 ⟨rfl,a⟩;go_wp2_with fail;go_ret2;exact⟨rfl,a⟩
 ·rw [if_neg hb] at b;have t1:((((bs l)[0]'m).toNat:Int)==92)=false:=by rw[g];exact aG.2 hb
  have CD:=Tryz.utf8_DecodeRuneInString (bs l) w hT;rw[Vg l hne] at CD;obtain⟨d,n⟩:=exQ<|Lib.decodeL l;have f:(d.1:Int)<=1114111:=by
   have p:=oH (bs l) 0;rw[aW,List.drop_zero,n] at p;rw[p];have:=(rX (bs l) 0).2;exact this
  rw[n] at CD b;obtain⟨c,z⟩:=d;unfold eI at b;simp only[] at b CD f;have k:=hid CD;clear CD n g hb hne hT o;obtain⟨C,j⟩: ∃C:Int,(c:Int)=C:=⟨_,rfl⟩;obtain⟨Z,i⟩: ∃Z:Int,(z:Int)=Z:=⟨_,rfl⟩;by_cases g1:c<32
  ·rw[aN g1,Bool.true_or,if_pos rfl] at b;subst b;have ga:C<32:=(by omega);simp only[j,i] at k;clear j i g1 f;go_enter Tryz.func199,Tryz.ntmps199;go_wp2_with fail;refine k.out.mono ?_;rintro e w1 ⟨rfl,a⟩;go_wp2_with fail;go_ret2;exact⟨rfl,a⟩
  ·rw[aJ g1,Bool.false_or] at b;have ga: ¬C<32:=(by omega);by_cases g2:c=65533
   ·have t2:(C==65533)=true:=beq_iff_eq.2 (by omega);by_cases g3:z=1
    ·rw[if_pos (by simp[g2,g3])] at b;subst b;have t3:(Z==1)=true:=beq_iff_eq.2 (by omega);simp only[j,i] at k;clear j i g1 g2 g3 f;go_enter Tryz.func199,Tryz.ntmps199;go_wp2_with fail;refine k.out.mono ?_;rintro e w1 ⟨rfl,a⟩;go_wp2_with fail;go_ret2;exact⟨rfl,a⟩
    ·rw[if_neg (by simp[g2,g3])] at b;subst b;have t3:(Z==1)=false:=aG.2 (by omega);simp only[j,i] at k ⊢;clear j i g1 g2 g3 f;go_enter Tryz.func199,Tryz.ntmps199;go_wp2_with fail;refine k.out.mono ?_;rintro e w1 ⟨rfl,a⟩;go_wp2_with fail;go_ret2;exact⟨rfl,a⟩
   ·have t2:(C==65533)=false:=aG.2 (by omega);rw[if_neg (by simp[g2])] at b;subst b;simp only[j,i] at k ⊢;clear j i g1 g2 f;go_enter Tryz.func199,Tryz.ntmps199;go_wp2_with fail;refine k.out.mono ?_;rintro e w1 ⟨rfl,a⟩;go_wp2_with fail;go_ret2;exact⟨rfl,a⟩
end Go.Proofs.YtjnooaljcgkfpaaGreatDoor
namespace Go.Proofs
open Go.Shelf
def Tryz.laysB168_ren:Go.Shelf.Ren:=⟨fun | 168=>101 | 240=>124 | 242=>131 | 276=>155 | 278=>161 | n=>n,fun | 0=>0 | 3=>3 | 4=>4 | 5=>5 | 9=>9 | 20=>20 | 21=>21 | 37=>55 | 46=>157 | 51=>188 | 53=>179 | 70=>54 | 72=>57 | 75=>117 | 80=>61 | 164=>185 | 127=>84 | n=>n,fun | n=>n⟩
theorem Tryz.laysB168:Go.Proofs.Lays.n168 Tryz.prog Tryz.laysB168_ren:= {
 mixed:=by kernel_rfl
 f168:=Tryz.func101.trans (congrArg some (by kernel_rfl))
 f240:=Tryz.func124.trans (congrArg some (by kernel_rfl))
 f242:=Tryz.func131.trans (congrArg some (by kernel_rfl))
 f276:=Tryz.func155.trans (congrArg some (by kernel_rfl))
 f278:=Tryz.func161.trans (congrArg some (by kernel_rfl))
 t0:=Tryz.underlying0
 a0:=Tryz.isAgg0
 z0:=Tryz.sizeOf0
 v0:=Tryz.zeroValue0
 t3:=Tryz.underlying3
 a3:=Tryz.isAgg3
 z3:=Tryz.sizeOf3
 v3:=Tryz.zeroValue3
 t4:=Tryz.underlying4
 a4:=Tryz.isAgg4
 z4:=Tryz.sizeOf4
 v4:=Tryz.zeroValue4
 t5:=Tryz.underlying5
 a5:=Tryz.isAgg5
 z5:=Tryz.sizeOf5
 v5:=Tryz.zeroValue5
 t9:=Tryz.underlying9
 a9:=Tryz.isAgg9
 z9:=Tryz.sizeOf9
 v9:=Tryz.zeroValue9
 t20:=Tryz.underlying20
 a20:=Tryz.isAgg20
 z20:=Tryz.sizeOf20
 v20:=Tryz.zeroValue20
 t21:=Tryz.underlying21
 a21:=Tryz.isAgg21
 z21:=Tryz.sizeOf21
 v21:=Tryz.zeroValue21
 t37:=Tryz.underlying55
 a37:=Tryz.isAgg55
 z37:=Tryz.sizeOf55
 v37:=Tryz.zeroValue55
 t46:=Tryz.underlying157
 a46:=Tryz.isAgg157
 z46:=Tryz.sizeOf157
 v46:=Tryz.zeroValue157
 t51:=Tryz.underlying188
 a51:=Tryz.isAgg188
 z51:=Tryz.sizeOf188
 v51:=Tryz.zeroValue188
 t70:=Tryz.underlying54
 a70:=Tryz.isAgg54
 z70:=Tryz.sizeOf54
 v70:=Tryz.zeroValue54
 t72:=Tryz.underlying57
 a72:=Tryz.isAgg57
 z72:=Tryz.sizeOf57
 v72:=Tryz.zeroValue57
 t75:=Tryz.underlying117
 a75:=Tryz.isAgg117
 z75:=Tryz.sizeOf117
 v75:=Tryz.zeroValue117
 t164:=Tryz.underlying185
 a164:=Tryz.isAgg185
 z164:=Tryz.sizeOf185
 v164:=Tryz.zeroValue185
}
theorem Tryz.BuilderB168_Extra:Builder.Extra Tryz.prog Tryz.laysB168_ren where
 sizeBuilder:=by kernel_rfl
 liesBuilder:=by kernel_rfl
 t5:=Tryz.underlying5
 a5:=Tryz.isAgg5
 z5:=Tryz.sizeOf5
 v5:=Tryz.zeroValue5
 infoByte:=by kernel_rfl
 cellsByte:=by kernel_rfl
 sizeByte:=by kernel_rfl
 neB5:=by decide
namespace YtjnooaljcgkfpaaGreatDoor
open Go.RowKit
def iM (B b:Nat) (l:List UInt8) (w:World):Prop:=Lib.IsBuilderF 57 5 B b (Lib.byteCells l) w
theorem iM.new (w:World):iM w.heap.size w.heap.size [] (w.alloc (.cells #[.pointer none, .slice none 0 0] 57)):=Lib.IsBuilderF.of (Lib.fresh_isBuilder 57 5 w)
theorem iM.keep {B b:Nat}{l:List UInt8}{w w':World} (h:iM B b l w) (hb:Below w.heap.size w w'):iM B b l w':=Lib.IsBuilderF.below h hb
theorem wU (B b:Nat) (l:List UInt8) (r:Int) (w:World) (h:iM B b l w) (hr:0<=r/\r<=1114111) (hl:l.length<=4294967296) (hB:B<=w.heap.size):
  Calls Tryz.prog 101 #[.pointer (some ⟨b,0,none⟩), .int .i32 r] w λe w'=>e= .returned (.tuple #[.int .i64 (Lib.runeCells r).length, .nilIface])/\iM B b (l++Lib.encodeRune r) w'/\Below B w w'/\Lib.OthersKept 5 (some b) w w':=
 (Any.Builder_WriteRune_k Tryz.laysB168 Tryz.BuilderB168_Extra B b _ r (by omega) (by omega) w h (by rw[Lib.byteCells_length];omega) hB).mono λ_ _ ⟨c,d,f,a⟩=>⟨c,by unfold iM;rw[Lib.byteCells_append,Lib.byteCells_encodeRune];exact Or.inr d,f,a⟩
end YtjnooaljcgkfpaaGreatDoor
end Go.Proofs
namespace Go.Proofs
open Go.Shelf
def Tryz.laysB167_ren:Go.Shelf.Ren:=⟨fun | 167=>99 | 240=>124 | 276=>155 | n=>n,fun | 0=>0 | 3=>3 | 4=>4 | 5=>5 | 9=>9 | 20=>20 | 21=>21 | 37=>55 | 46=>157 | 51=>188 | 53=>179 | 70=>54 | 72=>57 | 75=>117 | 80=>61 | 164=>185 | 127=>84 | n=>n,fun | n=>n⟩
theorem Tryz.laysB167:Go.Proofs.Lays.n167 Tryz.prog Tryz.laysB167_ren:= {
 mixed:=by kernel_rfl
 f167:=Tryz.func99.trans (congrArg some (by kernel_rfl))
 f240:=Tryz.func124.trans (congrArg some (by kernel_rfl))
 f276:=Tryz.func155.trans (congrArg some (by kernel_rfl))
 t0:=Tryz.underlying0
 a0:=Tryz.isAgg0
 z0:=Tryz.sizeOf0
 v0:=Tryz.zeroValue0
 t4:=Tryz.underlying4
 a4:=Tryz.isAgg4
 z4:=Tryz.sizeOf4
 v4:=Tryz.zeroValue4
 t5:=Tryz.underlying5
 a5:=Tryz.isAgg5
 z5:=Tryz.sizeOf5
 v5:=Tryz.zeroValue5
 t9:=Tryz.underlying9
 a9:=Tryz.isAgg9
 z9:=Tryz.sizeOf9
 v9:=Tryz.zeroValue9
 t20:=Tryz.underlying20
 a20:=Tryz.isAgg20
 z20:=Tryz.sizeOf20
 v20:=Tryz.zeroValue20
 t37:=Tryz.underlying55
 a37:=Tryz.isAgg55
 z37:=Tryz.sizeOf55
 v37:=Tryz.zeroValue55
 t70:=Tryz.underlying54
 a70:=Tryz.isAgg54
 z70:=Tryz.sizeOf54
 v70:=Tryz.zeroValue54
 t72:=Tryz.underlying57
 a72:=Tryz.isAgg57
 z72:=Tryz.sizeOf57
 v72:=Tryz.zeroValue57
 t75:=Tryz.underlying117
 a75:=Tryz.isAgg117
 z75:=Tryz.sizeOf117
 v75:=Tryz.zeroValue117
 t164:=Tryz.underlying185
 a164:=Tryz.isAgg185
 z164:=Tryz.sizeOf185
 v164:=Tryz.zeroValue185
}
theorem Tryz.BuilderB167_Extra:Builder.Extra Tryz.prog Tryz.laysB167_ren where
 sizeBuilder:=by kernel_rfl
 liesBuilder:=by kernel_rfl
 t5:=Tryz.underlying5
 a5:=Tryz.isAgg5
 z5:=Tryz.sizeOf5
 v5:=Tryz.zeroValue5
 infoByte:=by kernel_rfl
 cellsByte:=by kernel_rfl
 sizeByte:=by kernel_rfl
 neB5:=by decide
namespace YtjnooaljcgkfpaaGreatDoor
open Go.RowKit
theorem zO (B b:Nat) (l:List UInt8) (c:UInt8) (w:World) (h:iM B b l w) (hl:l.length<=4294967296) (hB:B<=w.heap.size):
  Calls Tryz.prog 99 #[.pointer (some ⟨b,0,none⟩), .int .u8 (c.toNat:Int)] w λe w'=>e= .returned .nilIface/\iM B b (l++ [c]) w'/\Below B w w'/\Lib.OthersKept 5 (some b) w w':=
 (Any.Builder_WriteByte_k Tryz.laysB167 Tryz.BuilderB167_Extra B b _ (c.toNat:Int) w h (by rw[Lib.byteCells_length];omega) hB).mono λ_ _ ⟨d,f,g,a⟩=>⟨d,by unfold iM;rw[Lib.byteCells_append];exact Or.inr f,g,a⟩
end YtjnooaljcgkfpaaGreatDoor
end Go.Proofs
namespace Go.Proofs
open Go.Shelf
def Tryz.laysB166_ren:Go.Shelf.Ren:=⟨fun | 166=>82 | 240=>124 | 276=>155 | n=>n,fun | 0=>0 | 3=>3 | 4=>4 | 5=>5 | 9=>9 | 20=>20 | 21=>21 | 37=>55 | 46=>157 | 51=>188 | 53=>179 | 70=>54 | 72=>57 | 75=>117 | 80=>61 | 164=>185 | 127=>84 | n=>n,fun | n=>n⟩
theorem Tryz.laysB166:Go.Proofs.Lays.n166 Tryz.prog Tryz.laysB166_ren:= {
 mixed:=by kernel_rfl
 f166:=Tryz.func82.trans (congrArg some (by kernel_rfl))
 f240:=Tryz.func124.trans (congrArg some (by kernel_rfl))
 f276:=Tryz.func155.trans (congrArg some (by kernel_rfl))
 t0:=Tryz.underlying0
 a0:=Tryz.isAgg0
 z0:=Tryz.sizeOf0
 v0:=Tryz.zeroValue0
 t3:=Tryz.underlying3
 a3:=Tryz.isAgg3
 z3:=Tryz.sizeOf3
 v3:=Tryz.zeroValue3
 t4:=Tryz.underlying4
 a4:=Tryz.isAgg4
 z4:=Tryz.sizeOf4
 v4:=Tryz.zeroValue4
 t9:=Tryz.underlying9
 a9:=Tryz.isAgg9
 z9:=Tryz.sizeOf9
 v9:=Tryz.zeroValue9
 t20:=Tryz.underlying20
 a20:=Tryz.isAgg20
 z20:=Tryz.sizeOf20
 v20:=Tryz.zeroValue20
 t37:=Tryz.underlying55
 a37:=Tryz.isAgg55
 z37:=Tryz.sizeOf55
 v37:=Tryz.zeroValue55
 t70:=Tryz.underlying54
 a70:=Tryz.isAgg54
 z70:=Tryz.sizeOf54
 v70:=Tryz.zeroValue54
 t72:=Tryz.underlying57
 a72:=Tryz.isAgg57
 z72:=Tryz.sizeOf57
 v72:=Tryz.zeroValue57
 t75:=Tryz.underlying117
 a75:=Tryz.isAgg117
 z75:=Tryz.sizeOf117
 v75:=Tryz.zeroValue117
 t164:=Tryz.underlying185
 a164:=Tryz.isAgg185
 z164:=Tryz.sizeOf185
 v164:=Tryz.zeroValue185
}
theorem Tryz.BuilderB166_Extra:Builder.Extra Tryz.prog Tryz.laysB166_ren where
 sizeBuilder:=by kernel_rfl
 liesBuilder:=by kernel_rfl
 t5:=Tryz.underlying5
 a5:=Tryz.isAgg5
 z5:=Tryz.sizeOf5
 v5:=Tryz.zeroValue5
 infoByte:=by kernel_rfl
 cellsByte:=by kernel_rfl
 sizeByte:=by kernel_rfl
 neB5:=by decide
namespace YtjnooaljcgkfpaaGreatDoor
open Go.RowKit
theorem Vi (B b:Nat) (l s:List UInt8) (w:World) (h:iM B b l w) (hl:l.length+s.length<=4294967296) (hB:B<=w.heap.size):
  Calls Tryz.prog 82 #[.pointer (some ⟨b,0,none⟩), .string ⟨s.toArray⟩] w λe w'=>e= .returned (.tuple #[.int .i64 s.length, .nilIface])/\iM B b (l++s) w'/\Below B w w'/\Lib.OthersKept 5 (some b) w w':=by
 have a:(⟨s.toArray⟩:ByteArray).size=s.length:=by simp[ByteArray.size]
 have c:=Any.Builder_WriteString_k Tryz.laysB166 Tryz.BuilderB166_Extra B b _ ⟨s.toArray⟩ w h (by rw[Lib.byteCells_length,a];omega) hB;rw[a] at c;exact c.mono λ_ _ ⟨f,g,i,d⟩=>⟨f,by unfold iM;rw[Lib.byteCells_append];exact Or.inr g,i,d⟩
end YtjnooaljcgkfpaaGreatDoor
end Go.Proofs
