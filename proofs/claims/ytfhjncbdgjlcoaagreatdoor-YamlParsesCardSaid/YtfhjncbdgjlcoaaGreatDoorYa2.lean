import Derived.Test.YtfhjncbdgjlcoaaGreatDoorYa1
import Derived.Test.YtfhjncbdgjlcoaaGreatDoorShelfC
import Derived.Lib.QuoteLoop
import Derived.Shelf.Strings.MapGrows
set_option maxRecDepth 100000
set_option maxHeartbeats 8000000
set_option linter.unusedVariables false
set_option linter.unusedSimpArgs false
namespace Go.Proofs.YtfhjncbdgjlcoaaGreatDoor
open Go.RowKit
open Go.Lib hiding intOf
def kA (c:UInt8):Option Nat:=
 if 48<=c.toNat/\c.toNat<=57 then some (c.toNat-48) else if 97<=c.toNat/\c.toNat<=102 then some (c.toNat-87) else if 65<=c.toNat/\c.toNat<=70 then some (c.toNat-55) else none
def gO:Nat->List UInt8->Option Nat
 | acc,[]=>some acc
 | acc,c::r=>match kA c with | none=>none | some d=>gO (16*acc+d) r
def yR (r:Option Nat):Ending:=match r with
 | some n=> .returned (.tuple #[.int .u64 n, .nilIface])
 | none=> .returned (.tuple #[.int .u64 0, .iface 237 (.int .i64 2)])
theorem Qn: ∀n:Fin 256,((65<=n.val/\n.val<=70->bits .or .u8 (n.val:Int) 32=(n.val:Int)+32)/\(97<=n.val/\n.val<=102->bits .or .u8 (n.val:Int) 32=(n.val:Int))/\
  (¬(65<=n.val/\n.val<=70)-> ¬(97<=n.val/\n.val<=102)->bits .or .u8 (n.val:Int) 32<97\/103<=bits .or .u8 (n.val:Int) 32)/\0<=bits .or .u8 (n.val:Int) 32/\bits .or .u8 (n.val:Int) 32<=255):=DQ
theorem Qo (c:UInt8):(65<=c.toNat/\c.toNat<=70->bits .or .u8 (c.toNat:Int) 32=(c.toNat:Int)+32)/\(97<=c.toNat/\c.toNat<=102->bits .or .u8 (c.toNat:Int) 32=(c.toNat:Int))/\
  (¬(65<=c.toNat/\c.toNat<=70)-> ¬(97<=c.toNat/\c.toNat<=102)->bits .or .u8 (c.toNat:Int) 32<97\/103<=bits .or .u8 (c.toNat:Int) 32)/\0<=bits .or .u8 (c.toNat:Int) 32/\bits .or .u8 (c.toNat:Int) 32<=255:=
 Qn ⟨c.toNat,c.toNat_lt⟩
theorem Cf (c:Int) (w:World):
  Calls Tryz.prog 236 #[.int .u8 c] w λe w'=>e= .returned (.int .u8 (bits .or .u8 c 32))/\w=w':=by
 go_enter Tryz.func236,Tryz.ntmps236;exact aa
theorem Qp (t:ByteArray) (ht:t.size=4) (w:World):
  Calls Tryz.prog 233 #[t,(16:Int),(32:Int)] w λe w'=>e=yR (gO 0 t.data.toList)/\Below w.heap.size w w':=by
 have hemp:t.toList.isEmpty=false:=by
  rw[<-decide_eq_emptyBytes];exact aG (λh=>by rw[h] at ht;cases ht)
 have O:=Lib.run_convert_string_bytes (P:=Tryz.prog) w 9 97 5 t (u:= .string) Tryz.underlying9 Tryz.underlying97 Tryz.underlying5;have N: ∀j,j<t.size->(Lib.bytesWorld w 5 t).cell? ⟨w.heap.size,j,none⟩=some (.int .u8 (t.data.toList.getD j 0).toNat):=λj Y=>Lib.bytesWorld_cell w 5 t j Y;have p:=hid (Lib.bytesWorld_below w 5 t);obtain⟨W1,I⟩: ∃W1,W1=Lib.bytesWorld w 5 t:=⟨_,rfl⟩;rw[<-I] at O N p;clear I;obtain⟨bl,T⟩: ∃bl,bl=t.data.toList:=⟨_,rfl⟩;have hLn:bl.length=t.size:=by rw[T,Lib.size_eq]
 rw[<-T] at N ⊢;clear T;obtain⟨R,S⟩:=exQ<|yR (gO 0 bl);rw[S];have X:=hid S;clear S;have hmv:IntKind.u64.wrap (IntKind.u64.wrap 4294967296-1)=4294967295:=by
  rw[IntKind.wrap_u64,IntKind.wrap_u64];decide
 go_enter Tryz.func233,Tryz.ntmps233;go_wp2_with fail;go_loop [12,13,101] (λvu vn vi=> ∃(k g:Nat) (a:Int),vu= .bool false/\vn= .int .u64 a/\vi= .int .i64 k/\k<=t.size/\a<=65535/\0<=a/\(k<=3->a<=4095)/\Hid (a=(g:Int)/\g<16 ^ k/\gO 0 bl=gO g (bl.drop k)))
  (λ_ _ vi=>t.size-(RowKit.intOf vi).toNat)
 case atStart=>exact⟨0,0,0,rfl,rfl,rfl,a_,a_,a_,λ_=>by omega,rfl,b_,rfl⟩
 case round=>
  obtain⟨k,g,a,rfl,rfl,rfl,hk,ha1,ha2,G,V⟩:=hrel;obtain⟨F,i,b⟩:=V.out;clear V;by_cases hkn:k<t.size
  ·have W:=N k hkn;have q:bl.drop k=bl[k]' a_::bl.drop (k+1):=fL a_;have D:bl.getD k 0=bl[k]' a_:=(by simp[List.getD,bC (show k<bl.length by omega)]);rw[q] at b;rw[D] at W;generalize bl[k]' a_=c at W b;have hc256:c.toNat<256:=c.toNat_lt;have hk3:a<=4095:=G a_;obtain⟨x,z,s,B,A⟩:=Qo c;have l:16 ^ (k+1)=16*16 ^ k:=by rw[Nat.pow_succ];omega
   have m:k<=2->(16:Nat) ^ (k+1)<=4096:=λh=>aZ (Nat.pow_le_pow_right b_ (show k+1<=3 by omega)) b_;clear N q D G;have f: ∀d:Nat,kA c=some d->d<16->Hid (a*16+(d:Int)=((16*g+d:Nat):Int)/\16*g+d<16 ^ (k+1)/\gO 0 bl=gO (16*g+d) (bl.drop (k+1)))/\(k+1<=3->a*16+(d:Int)<=4095):=λd Z hd16=>by
    have h2:16*g+d<16 ^ (k+1):=by rw[l];omega
    refine⟨⟨a_,h2,?_⟩,λh=>by have:=m a_;omega⟩;rw[b];simp only[gO,Z]
   by_cases hdig:48<=c.toNat/\c.toNat<=57
   ·obtain⟨o,y⟩:=hdig;obtain⟨C,E⟩:=f (c.toNat-48) (by unfold kA;rw[if_pos ⟨o,y⟩]) a_;rw[show ((c.toNat-48:Nat):Int)=(c.toNat:Int)-48 by omega] at C E;clear b f x z s B A i F l m;go_wp2_with fail;refine⟨⟨k+1,16*g+(c.toNat-48),a*16+((c.toNat:Int)-48),rfl,w_,w_,a_,a_,a_,E,C⟩,by simp[RowKit.intOf];omega⟩
   ·by_cases hlo:97<=c.toNat/\c.toNat<=102
    ·have L:=z hlo;obtain⟨o,y⟩:=hlo;obtain⟨C,E⟩:=f (c.toNat-87) (by unfold kA;rw[if_neg hdig,if_pos ⟨o,y⟩]) a_;rw[show ((c.toNat-87:Nat):Int)=(c.toNat:Int)-97+10 by omega] at C E;have r: ¬c.toNat<=57:=a_;have J:Hid (∀w,Calls Tryz.prog 236 #[.int .u8 (c.toNat:Int)] w λe w'=>e= .returned (.int .u8 (c.toNat:Int))/\w=w'):=hid (λw=>by have:=Cf (c.toNat:Int) w;rw[L] at this;exact this);clear b f x z s B A i F l m L hdig;go_wp2_with (go_at_call 236;refine(J.out _).mono ?_;rintro e w' ⟨rfl,rfl⟩);refine⟨⟨k+1,16*g+(c.toNat-87),a*16+((c.toNat:Int)-97+10),rfl,w_,w_,a_,a_,a_,E,C⟩,by simp[RowKit.intOf];omega⟩
    ·by_cases hup:65<=c.toNat/\c.toNat<=70
     ·have L:=x hup;obtain⟨o,y⟩:=hup;obtain⟨C,E⟩:=f (c.toNat-55) (by unfold kA;rw[if_neg hdig,if_neg hlo,if_pos ⟨o,y⟩]) a_;rw[show ((c.toNat-55:Nat):Int)=(c.toNat:Int)+32-97+10 by omega] at C E;have r: ¬c.toNat<=57:=a_;have J:Hid (∀w,Calls Tryz.prog 236 #[.int .u8 (c.toNat:Int)] w λe w'=>e= .returned (.int .u8 ((c.toNat:Int)+32))/\w=w'):=hid (λw=>by have:=Cf (c.toNat:Int) w;rw[L] at this;exact this);clear b f x z s B A i F l m L hdig hlo;go_wp2_with (go_at_call 236;refine(J.out _).mono ?_;rintro e w' ⟨rfl,rfl⟩);refine⟨⟨k+1,16*g+(c.toNat-55),a*16+((c.toNat:Int)+32-97+10),rfl,w_,w_,a_,a_,a_,E,C⟩,by simp[RowKit.intOf];omega⟩
     ·have K:gO g (c::bl.drop (k+1))=none:=by simp only[gO];unfold kA;rw[if_neg hdig,if_neg hlo,if_neg hup]
      rw[K] at b;have Q:=hid (X.out.symm.trans (by rw[b]));have U:=s hup hlo;obtain⟨v,M⟩:=exQ<|bits .or .u8 (c.toNat:Int) 32;have J:Hid (∀w,Calls Tryz.prog 236 #[.int .u8 (c.toNat:Int)] w λe w'=>e= .returned (.int .u8 v)/\w=w'):=hid (λw=>by have:=Cf (c.toNat:Int) w;rw[M] at this;exact this);have n:c.toNat=95->v=127:=λh=>by rw[<-M,h];decide+kernel
      rw[M] at U B A;have r:c.toNat<48\/57<c.toNat:=a_;clear b f x z s i F l m hdig hlo hup K M;by_cases h95:c.toNat=95
      ·obtain rfl:=n h95;have H:((c.toNat:Int)==95)=true:=beq_iff_eq.2 a_;have hnd2:57<c.toNat:=a_;clear h95 n;exact cy
      ·clear n;have H:((c.toNat:Int)==95)=false:=aE.2 a_;by_cases hv1:v<97
       ·exact ik
       ·have hv2:103<=v:=U.resolve_left hv1;by_cases hv3:v<=122
        ·exact ik
        ·exact ik
  ·obtain rfl:k=t.size:=a_;have K:gO g (bl.drop t.size)=some g:=by rw[List.drop_eq_nil_of_le a_];rfl
   rw[K] at b;have Q:=hid (X.out.symm.trans (by rw[b]));have HA:=hid F;clear i K b F;go_wp2_with fail;go_ret2;exact⟨by rw[Q.out,HA.out];rfl,p.out⟩
theorem Hf {P:Program}{f:FuncId}{args:Array Value}{w:World}{a n:Nat}{v:Value}
  (h:Calls P f args (w.drewN (a+n)) λe w'=>e= .returned v/\w.drewN (a+n)=w'):
  Calls P f args (w.drewN (a+n)) λe w''=>e= .returned v/\ ∃m,w''=w.drewN (a+m):=
 h.mono λ_ _ ⟨b,c⟩=>⟨b,n,c.symm⟩
theorem Qq (r:Int) (w:World) (h1:128<=r) (h2:r<=1114111) (h3:r<55296\/57343<r):
  Calls Tryz.prog 160 #[.int .i32 r] w λe w'=>e= .returned (.bool true)/\w=w':=by
 rcases h3 with h3 | h3
 all_goals
  go_enter Tryz.func160,Tryz.ntmps160;exact aa
theorem Cg: ∀(l:List UInt8) (b:UInt8),(∀c∈l,c≠b)->Lib.indexByte l b= -1
 | [],b,_=>rfl
 | c::t,b,h=>by
  have h1:(c==b)=false:=aE.2 (h c e_);have a:=Cg t b (λx d=>h x (by simp[d]));unfold Lib.indexByte;simp[h1,a]
theorem Hg (A:ByteArray) (i k:Nat) (b:UInt8) (hb:128<=b.toNat) (hA:A.data.toList.all (λc=>decide (c.toNat<128))=true:=by decide) (w:World):
  Calls Tryz.prog 41 #[(A.extract i k), .int .u8 (b.toNat:Int)] w λe w'=>e= .returned (.int .i64 (-1))/\w=w':=by
 have h:=wW (A.extract i k) b w;rw[Cg] at h
 ·exact h
 ·intro c a e;rw[gL,aQ] at a;have d:c∈A.data.toList:=List.mem_of_mem_drop (List.mem_of_mem_take a);have:=of_decide_eq_true (gW.1 hA c d);rw[e] at this;omega
theorem Qr (S:ByteArray) (w:World) (hS:S.data.toList.all (λc=>decide (c.toNat<128))=true) (hsz:S.size<=4294967296):
  Calls Tryz.prog 121 #[S, .int .i32 65533] w λe w'=>e= .returned (.int .i64 (-1))/\Below w.heap.size w w':=by
 have a: ∀p (h:p<S.size),(S[p]'h).toNat<128:=λp h=>of_decide_eq_true (gW.1 hS _ (Array.getElem_mem_toList _));have o:=hid a;clear a hS;go_enter Tryz.func121,Tryz.ntmps121;go_wp2_with fail;go_loopw [5,6] (λ_ _ wr=> ∃p:Nat,p<=S.size/\Hid (wr.heap[w.heap.size]?=some (.stringIter S p))/\Hid (Below w.heap.size w wr)) (λ_ _ wr=>S.size-wr.iterPos w.heap.size)
 case atStart=>exact⟨0,a_,World.iter_heap w S 0,(aB _ _).alloc (aD _) _⟩
 case round=>
  obtain⟨p,hp,d,j⟩:=hrel;by_cases hlt:p<S.size
  ·have m:=o.out p hlt;have i:=decode_ascii S p hlt m;have e1:bL S p=((S[p]'hlt).toNat:Int):=by unfold bL;rw[i]
   have e2:bG S p=1:=by unfold bG;rw[i]
   have f: ∀ty,(Instr.next (.pointer (some ⟨w.heap.size,0,none⟩)) true ty).run Tryz.prog wr= .ok (.tuple #[true,p, .int .i32 ((S[p]'hlt).toNat:Int)]) (wr.iterAt w.heap.size S (p+1)):=λty=>by
    have:=Lib.run_next_any_at (P:=Tryz.prog) wr w.heap.size S p ty d.out hlt;have k:=e1;have l:=e2;unfold bL at k;unfold bG at l;rw[k,l] at this;exact this
   have b:=hid (Lib.iterAt_heap wr w.heap.size S p (p+1) d.out);have g:=hid (Lib.below_iterAt j.out (aD w.heap.size) S (p+1));have n:=hid (iterPos_of d.out);have t1:(((S[p]'hlt).toNat:Int)==65533)=false:=aE.2 a_;clear e1 e2 i;go_wp2_with fail;go_roundw
   case rel=>exact⟨p+1,a_,b.out,g.out⟩
   case measure=>rw[iterPos_of b.out,n.out];omega
  ·have f: ∀ty,(Instr.next (.pointer (some ⟨w.heap.size,0,none⟩)) true ty).run Tryz.prog wr= .ok (.tuple #[false]) wr:=λty=>Lib.run_next_end_at wr _ S p ty d.out hlt;go_wp2_with fail;go_ret;exact⟨rfl,j.out⟩
theorem Qs (r:Int) (w:World) (h1:128<=r) (h2:r<=1114111) (h3:r<55296\/57343<r):
  Calls Tryz.prog 121 #[.string ⟨#[43,45,95]⟩, .int .i32 r] w λe w'=>e= .returned (.int .i64 (-1))/\Below w.heap.size w w':=by
 by_cases h4:r=65533
 ·subst h4;exact Qr _ w b_ b_
 ·have h5:(r==65533)=false:=aE.2 h4;go_enter Tryz.func121,Tryz.ntmps121;go_wp2_with fail;refine(Qq r _ h1 h2 h3).mono ?_;rintro e w' ⟨rfl,rfl⟩;go_wp2_with fail;go_step3;obtain⟨n,hn,cP,aK⟩:=Qm r h1 h2 h3;obtain⟨E,hE⟩:=exQ<|Utf8.encode r;rw[hE] at cP aK;have HE:=hid hE;clear hE;go_upto_region 1 with fail;go_cut [7] (λs7 wx=>s7= .string E/\w=wx)
  case first=>
   go_wp2_with fail;go_meet;exact⟨by rw[HE.out],rfl⟩
  obtain⟨rfl,rfl⟩:=hcut;clear HE h3 h4 h5;obtain rfl|rfl|rfl:n=2\/n=3\/n=4:=a_
  ·have AJ:=trivial;exact si
  ·exact si
  ·have h3': ¬(3:Int)<3:=a_;clear aK hn;go_wp2_with fail;go_loopw [9] (λs9 wr=>s9= .int .i64 3/\w=wr) (λ_ _=>0)
   case atStart=>exact⟨rfl,rfl⟩
   case round=>
    obtain⟨rfl,rfl⟩:=hrel;go_wp2_with fail;rw[Exit.noGoto_ret];go_ret;exact ab
theorem Qt (s:ByteArray) (p:Nat):bL s p<55296\/57343<bL s p:=by
 unfold bL;rw[decode_at];have:=decodeN_valid (s.size-p) (s.get! p).toNat (s.get! (p+1)).toNat (s.get! (p+2)).toNat (s.get! (p+3)).toNat (UInt8.toNat_lt _);omega
theorem Qu (l:List UInt8) (b:UInt8) (h:0<=Lib.indexByte l b):b∈l:=by
 apply Classical.byContradiction;intro d;rw[Cg l b (λc a e=>d (e ▸ a))] at h;omega
def Qv (r:Int) (e:Ending):Prop:= ∃k:Int,e= .returned (.int .i64 k)/\(0<=k->r=43\/r=45\/r=95)
theorem Qw (r:Int) (w:World) (h0:0<=r) (h2:r<=1114111) (h3:r<55296\/57343<r):
  Calls Tryz.prog 121 #[.string ⟨#[43,45,95]⟩, .int .i32 r] w λe w'=>Qv r e/\Below w.heap.size w w':=by
 by_cases h1:r<128
 ·refine(Tryz.strings_IndexRune_ascii ⟨#[43,45,95]⟩ r w h0 h1).mono ?_;rintro e w' ⟨rfl,f⟩;rw[f];refine⟨⟨_,rfl,λh=>?_⟩,aB _ _⟩;have a:=Qu _ _ h;have c:r.toNat.toUInt8.toNat=r.toNat:=by
   rw[show r.toNat.toUInt8=UInt8.ofNat r.toNat from rfl,UInt8.toNat_ofNat'];exact Nat.mod_eq_of_lt a_
  simp only[fY,List.not_mem_nil,or_false] at a;rcases a with a | a | a
  all_goals
   have b:=congrArg UInt8.toNat a;rw[c] at b
   first | (left;have:r.toNat=43:=b;omega) | (right;left;have:r.toNat=45:=b;omega) | (right;right;have:r.toNat=95:=b;omega)
 ·refine(Qs r w a_ h2 h3).mono ?_;rintro e w' ⟨rfl,d⟩;exact⟨⟨_,rfl,λh=>by omega⟩,d⟩
def Hh (t:ByteArray) (e:Ending):Prop:= ∃B,e= .returned (.bool B)/\(B=true-> ∃c∈t.data.toList,c.toNat=43\/c.toNat=45\/c.toNat=95)
def Qx (t:ByteArray) (e:Ending):Prop:= ∃k:Int,e= .returned (.int .i64 k)/\(0<=k-> ∃c∈t.data.toList,c.toNat=43\/c.toNat=45\/c.toNat=95)
theorem Qy (t:ByteArray) (w:World) (hs:t.size<=8):
  Calls Tryz.prog 232 #[t, .string ⟨#[43,45,95]⟩] w λe w'=>Qx t e/\Below w.heap.size w w':=by
 go_enter Tryz.func232,Tryz.ntmps232;go_wp2_with fail;refine(Tryz.strings_shouldUseASCIISet _ _).mono ?_;rintro e w' ⟨rfl,q⟩;rw[q];clear q;have n:decide (8<(t.size:Int))=false:=aG a_;rw[n];go_wp2_with fail;go_loopw [9,10] (λ_ _ wr=> ∃p:Nat,p<=t.size/\Hid (wr.heap[w.heap.size]?=some (.stringIter t p))/\Hid (Below w.heap.size w wr)) (λ_ _ wr=>t.size-wr.iterPos w.heap.size)
 case atStart=>exact⟨0,a_,World.iter_heap w t 0,(aB _ _).alloc (aD _) _⟩
 case round=>
  obtain⟨p,hp,g,s⟩:=hrel;by_cases hlt:p<t.size
  ·have q:=lH t p hlt;have d:=rO t p;have o:=Qt t p;have m: ∀ty,(Instr.next (.pointer (some ⟨w.heap.size,0,none⟩)) true ty).run Tryz.prog wr= .ok (.tuple #[true,p, .int .i32 (bL t p)]) (wr.iterAt w.heap.size t (p+bG t p)):=λty=>Lib.run_next_any_at wr _ t p ty g.out hlt;have hz:w.heap.size<wr.heap.size:=aF g.out;have j:=hid (Lib.iterAt_heap wr w.heap.size t p (p+bG t p) g.out);have l:=hid (Lib.below_iterAt s.out (aD w.heap.size) t (p+bG t p));have x:=hid (iterPos_of g.out);have a:(bL t p=43\/bL t p=45\/bL t p=95)-> ∃c∈t.data.toList,c.toNat=43\/c.toNat=45\/c.toNat=95:=λh=>by
    refine⟨t[p]'hlt,Array.getElem_mem_toList _,?_⟩;by_cases hb:(t[p]'hlt).toNat<128
    ·have v:=decode_ascii t p hlt hb;unfold bL at h;rw[v] at h;simp only[] at h;omega
    ·have v:=(decode_high t p hlt a_).1;unfold bL at h;omega
   have y:=hid a;clear a;generalize bL t p=r at *;generalize bG t p=wd at *;go_wp2_with fail;refine(Qw r _ d.1 d.2 o).mono ?_;rintro e w2 ⟨⟨k,rfl,u⟩,b⟩;have z:=hid u;clear u;have f:=hid ((b.block w.heap.size (aF j.out)).trans j.out);have i:=hid (l.out.trans (b.mono l.out.size));clear b;by_cases hk0:0<=k
   ·have A:=hid (y.out (z.out hk0));go_wp2_with fail;go_ret;exact⟨⟨_,rfl,λ_=>A.out⟩,i.out⟩
   ·go_wp2_with fail;go_roundw
    case rel=>exact⟨p+wd,a_,f.out,i.out⟩
    case measure=>rw[iterPos_of f.out,x.out];omega
  ·have m: ∀ty,(Instr.next (.pointer (some ⟨w.heap.size,0,none⟩)) true ty).run Tryz.prog wr= .ok (.tuple #[false]) wr:=λty=>Lib.run_next_end_at wr _ t p ty g.out hlt;go_wp2_with fail;go_ret;exact⟨⟨_,rfl,λh=>by omega⟩,s.out⟩
theorem Qz (t:ByteArray) (w:World) (hs:t.size<=8):
  Calls Tryz.prog 230 #[t, .string ⟨#[43,45,95]⟩] w λe w'=>Hh t e/\Below w.heap.size w w':=by
 go_enter Tryz.func230,Tryz.ntmps230;go_wp2_with fail;refine(Qy t w hs).mono ?_;rintro e w1 ⟨⟨k,rfl,b⟩,a⟩;have c:=hid b;clear b;by_cases hk0:0<=k
 ·have d:=hid (c.out hk0);have f:decide (0<=k)=true:=aO hk0;go_wp2_with fail;go_ret;exact⟨⟨_,rfl,λ_=>d.out⟩,a⟩
 ·have f:decide (0<=k)=false:=aG hk0;go_wp2_with fail;go_ret;exact⟨⟨_,rfl,λh=>by cases h⟩,a⟩
def eB (w:World):Prop:= ∃tp p,w.var? Tryz.prog "strconv.ErrSyntax" =some #[.iface tp p]
theorem eB.keep {w w':World} (h:eB w) (hb:Below w.heap.size w w'):eB w':=let ⟨tp,p,h⟩:=h;⟨tp,p,Hd h hb⟩
theorem eB.cell {w:World} (h:eB w): ∃tp p,w.cell? ⟨6,0,none⟩=some (.iface tp p):=by
 obtain⟨tp,p,h⟩:=h;have:=World.var?_cell (P:=Tryz.prog) (show Tryz.prog.globalNamed "strconv.ErrSyntax" =some 6 by kernel_rfl) h 0;exact⟨tp,p,by simpa using this⟩
theorem Hi: ∀(l:List UInt8) (acc:Nat),(∃c∈l,c.toNat=43\/c.toNat=45\/c.toNat=95)->gO acc l=none
 | [],_,h=>by obtain⟨c,hc,_⟩:=h;cases hc
 | d::t,acc,h=>by
  obtain⟨c,hc,a⟩:=h;unfold gO;rcases fY.1 hc with rfl | hc
  ·have:kA c=none:=by unfold kA;rw[if_neg a_,if_neg a_,if_neg a_]
   rw[this]
  ·cases kA d with
   | none=>rfl
   | some e=>exact Hi t _ ⟨c,hc,a⟩
theorem Hj {c:UInt8}{d:Nat} (h:kA c=some d):d<16:=by
 unfold kA at h;split at h
 ·injection h with h;omega
 ·split at h
  ·injection h with h;omega
  ·split at h
   ·injection h with h;omega
   ·cases h
theorem Hk: ∀(l:List UInt8) (acc n:Nat),gO acc l=some n->n<(acc+1)*16 ^ l.length
 | [],acc,n,h=>by simp only[gO,cG] at h;simp;omega
 | c::t,acc,n,h=>by
  unfold gO at h;cases hc:kA c with
  | none=>rw[hc] at h;cases h
  | some d=>
   rw[hc] at h;have h1:=Hk t _ n h;have h2:=Hj hc;have h3:(16*acc+d+1)*16 ^ t.length<=(16*(acc+1))*16 ^ t.length:=Nat.mul_le_mul_right _ a_;rw[bH,Nat.pow_succ];have h4:(16*(acc+1))*16 ^ t.length=(acc+1)*(16 ^ t.length*16):=by
    rw[Nat.mul_comm 16 (acc+1),Nat.mul_assoc,Nat.mul_comm 16]
   omega
def Hl (r:Option Nat) (e:Ending):Prop:=match r with
 | some n=>e= .returned (.tuple #[.int .u64 n, .nilIface])
 | none=> ∃N:Nat,e= .returned (.tuple #[.int .u64 0, .iface 239 (.pointer (some ⟨N,0,none⟩))])
theorem Ra (t:ByteArray) (ht:t.size=4) (w:World) (hV:eB w):
  Calls Tryz.prog 231 #[t,(16:Int),(32:Int)] w λe w'=>Hl (gO 0 t.data.toList) e/\Below w.heap.size w w':=by
 have C:=Qp t ht w;cases hx:gO 0 t.data.toList with
 | some n=>
  rw[hx] at C;unfold yR at C;have HC:=hid C;clear C hx;go_enter Tryz.func231,Tryz.ntmps231;go_wp2_with fail;refine HC.out.mono ?_;exact an
 | none=>
  rw[hx] at C;unfold yR at C;have HC:=hid C;have HV:=hid hV;clear C hx hV;go_enter Tryz.func231,Tryz.ntmps231;go_wp2_with fail;refine HC.out.mono ?_;rintro e w1 ⟨rfl,o⟩;have G:=hid o;obtain⟨tp,p,hc⟩:=(HV.out.keep o).cell;have HT:=hid (Tryz.strconv_toError_syntax ⟨#[80,97,114,115,101,85,105,110,116]⟩ t 16 32 (.iface tp p) w1 a_ hc (.inr ⟨tp,p,rfl⟩));clear o hc;go_wp2_with fail;refine HT.out.mono ?_;rintro e w2 ⟨N,rfl,_,_,J⟩;go_wp2_with fail;go_ret2;exact⟨⟨N,rfl⟩,aC G.out J⟩
def iO (l:List UInt8):Option Nat:=if l.length<4 then none else gO 0 (l.take 4)
theorem tK {l:List UInt8}{n:Nat} (h:iO l=some n):n<65536/\4<=l.length:=by
 unfold iO at h;split at h
 ·cases h
 ·have:=Hk _ _ _ h;rw[bT,Nat.min_eq_left a_] at this;omega
def tL (r:Option Nat):Ending:=match r with
 | some n=> .returned (.tuple #[.int .i32 n,true])
 | none=> .returned (.tuple #[.int .i32 0,false])
theorem Hm (l:List UInt8) (w:World) (hs:l.length<=4294967296) (hV:eB w):
  Calls Tryz.prog 228 #[bs l] w λe w'=>e=tL (iO l)/\Below w.heap.size w w':=by
 have sl:=aM l;have HV:=hid hV;clear hV;by_cases h4:l.length<4
 ·have hr:iO l=none:=by unfold iO;rw[if_pos h4]
  rw[hr];go_enter Tryz.func228,Tryz.ntmps228;exact bo
 ·obtain⟨R,hR⟩:=exQ<|gO 0 (l.take 4);have hr:iO l=R:=by unfold iO;rw[if_neg h4,hR]
  have ht:(bs (l.take 4)).size=4:=by rw[aM,bT];omega
  have bP:(bs l).extract 0 4=bs (l.take 4):=by rw[vG,aQ]
  have CA:Hid (∀w,Calls Tryz.prog 230 #[((bs l).extract 0 4), .string ⟨#[43,45,95]⟩] w λe w'=>Hh (bs (l.take 4)) e/\Below w.heap.size w w'):=hid (λw=>by rw[bP];exact Qz (bs (l.take 4)) w a_);have CP:Hid (∀w,eB w->Calls Tryz.prog 231 #[((bs l).extract 0 4),(16:Int),(32:Int)] w λe w'=>Hl R e/\Below w.heap.size w w'):=hid (λw hV=>by have:=Ra (bs (l.take 4)) ht w hV;rw[aQ,hR] at this;rw[bP];exact this);have F: ∀n,R=some n->n<65536:=λn h=>(tK (hr.trans h)).1;rw[hr];have HC:Hid ((∃c∈l.take 4,c.toNat=43\/c.toNat=45\/c.toNat=95)->R=none):=λh=>by rw[<-hR];exact Hi _ _ h
  have cE:=hid F;clear hr hR ht bP F;go_enter Tryz.func228,Tryz.ntmps228;go_wp2_with fail;refine(CA.out _).mono ?_;rintro e w1 ⟨⟨B,rfl,hB⟩,o⟩;have HB:=hid hB;clear hB;have G:=hid o;clear o;cases B with
  | true=>
   have hn:R=none:=HC.out (by have:=HB.out rfl;rw[aQ] at this;exact this);subst hn;exact eg
  | false=>
   clear HB HC;go_wp2_with fail;refine(CP.out _ (HV.out.keep G.out)).mono ?_;rintro e w2 ⟨hE,J⟩;have aq:=hid (aC G.out J);clear J;cases R with
   | none=>
    obtain⟨N,rfl⟩:=hE;exact lz
   | some n=>
    have cr:e= .returned (.tuple #[.int .u64 n, .nilIface]):=hE;subst cr;have hn:=cE.out n rfl;clear hE;exact lz
def jP (n:Int):Int×Bool:=
 if n=34 then(34,true) else if n=92 then(92,true) else if n=47 then(47,true) else if n=98 then(8,true) else if n=102 then(12,true) else if n=110 then(10,true) else if n=114 then(13,true) else if n=116 then(9,true) else(0,false)
theorem Rb (n:Int) (w:World) (h0:0<=n/\n<=255):
  Calls Tryz.prog 219 #[.int .u8 n] w λe w'=>e= .returned (.tuple #[.int .i32 (jP n).1, .bool (jP n).2])/\w=w':=by
 obtain⟨R,a⟩:=exQ<|jP n;rw[a];unfold jP at a;by_cases c1:n=34
 ·rw[if_pos c1] at a;subst a c1;exact au
 rw[if_neg c1] at a;by_cases c2:n=92
 ·rw[if_pos c2] at a;subst a c2;exact au
 rw[if_neg c2] at a;by_cases c3:n=47
 ·rw[if_pos c3] at a;subst a c3;exact au
 rw[if_neg c3] at a;by_cases c4:n=98
 ·rw[if_pos c4] at a;subst a c4;exact au
 rw[if_neg c4] at a;by_cases c5:n=102
 ·rw[if_pos c5] at a;subst a c5;exact au
 rw[if_neg c5] at a;by_cases c6:n=110
 ·rw[if_pos c6] at a;subst a c6;exact au
 rw[if_neg c6] at a;by_cases c7:n=114
 ·rw[if_pos c7] at a;subst a c7;exact au
 rw[if_neg c7] at a;by_cases c8:n=116
 ·rw[if_pos c8] at a;subst a c8;exact au
 rw[if_neg c8] at a;subst a;have d1:(n==34)=false:=aE.2 c1;have d2:(n==92)=false:=aE.2 c2;have d3:(n==47)=false:=aE.2 c3;have d4:(n==98)=false:=aE.2 c4;have d5:(n==102)=false:=aE.2 c5;have d6:(n==110)=false:=aE.2 c6;have d7:(n==114)=false:=aE.2 c7;have d8:(n==116)=false:=aE.2 c8;exact au
def lJ (l:List UInt8):Int×Int:=
 match iO (l.drop 2) with
 | none=>(0,0)
 | some h=>if 56320<=h/\h<57344 then(0,0) else if h<55296\/57344<=h then((h:Int),6) else if Lib.hasPrefix (l.drop 6) [92,117]=false then(0,0) else
  match iO (l.drop 8) with
  | none=>(0,0)
  | some lo=>if lo<56320\/57344<=lo then(0,0) else(65536+((h:Int)-55296)*1024+lo-56320,12)
def RW (r:Int×Int):Ending:= .returned (.tuple #[.int .i32 r.1,r.2])
theorem Rc {l p:List UInt8} (h:Lib.hasPrefix l p=true):p.length<=l.length:=by
 unfold Lib.hasPrefix at h;exact(List.isPrefixOf_iff_prefix.1 h).length_le
theorem Rd (l:List UInt8) (w:World) (h2:2<=l.length) (hs:l.length<=4294967296) (hV:eB w):
  Calls Tryz.prog 220 #[bs l] w λe w'=>e=RW (lJ l)/\Below w.heap.size w w':=by
 have sl:=aM l;have C1:Hid (∀w,eB w->Calls Tryz.prog 228 #[((bs l).extract 2 l.length)] w λe w'=>e=tL (iO (l.drop 2))/\Below w.heap.size w w'):=hid (λw h=>by rw[iD _ _ _ rfl];exact Hm (l.drop 2) w y_ h);have HV:=hid hV;clear hV;obtain⟨R,hR⟩:=exQ<|lJ l;rw[hR];unfold lJ at hR;cases h1:iO (l.drop 2) with
 | none=>
  rw[h1] at hR C1;simp only[] at hR;subst hR;go_enter Tryz.func220,Tryz.ntmps220;go_wp2_with fail;refine(C1.out _ HV.out).mono ?_;unfold tL;exact an
 | some h=>
  rw[h1] at hR C1;simp only[] at hR;obtain⟨F,aJ⟩:=tK h1;rw[aU] at aJ;unfold tL at C1;obtain⟨H,hH⟩: ∃H:Int,(h:Int)=H:=⟨_,rfl⟩;simp only[hH] at C1 hR;have HB:0<=H/\H<65536:=a_
  by_cases g1:56320<=h/\h<57344
  ·rw[if_pos g1] at hR;subst hR;have ga:56320<=H:=a_;have gb:H<57344:=a_;clear g1 hH F h1;exact pb
  rw[if_neg g1] at hR;by_cases g2:h<55296\/57344<=h
  ·rw[if_pos g2] at hR;subst hR;have cw:H<55296\/57344<=H:=a_;clear g1 g2 hH F h1;rcases cw with g2 | g2
   all_goals exact pb
  rw[if_neg g2] at hR;have ga:55296<=H:=a_
  have gb:H<56320:=a_
  clear g1 g2 hH F h1;obtain⟨P,hP⟩:=exQ<|Lib.hasPrefix (l.drop 6) [92,117];rw[hP] at hR;have CP:Hid (∀w,Calls Tryz.prog 117 #[((bs l).extract 6 l.length), .string ⟨#[92,117]⟩] w λe w'=>e= .returned (.bool P)/\w=w'):=hid (λw=>by have:=Tryz.strings_HasPrefix ((bs l).extract 6 l.length) ⟨#[92,117]⟩ w;rw[iD _ _ _ rfl,aQ,show (⟨#[92,117]⟩:ByteArray).data.toList= [92,117] from rfl,hP] at this;rw[iD _ _ _ rfl];exact this.mono λ_ _ ⟨a,b⟩=>⟨a,b.symm⟩);cases P with
  | false=>
   rw[if_pos rfl] at hR;subst hR;clear hP;go_enter Tryz.func220,Tryz.ntmps220;go_wp2_with fail;refine(C1.out _ HV.out).mono ?_;rintro e w1 ⟨rfl,o⟩;go_wp2_with (go_at_call 117;refine(CP.out _).mono ?_;rintro e w' ⟨rfl,rfl⟩);go_ret2;exact⟨rfl,o⟩
  | true=>
   rw[if_neg e_] at hR;have hl8:8<=l.length:=by have:=Rc hP;rw[aU] at this;simp at this;omega
   have C2:Hid (∀w,eB w->Calls Tryz.prog 228 #[((bs l).extract 8 l.length)] w λe w'=>e=tL (iO (l.drop 8))/\Below w.heap.size w w'):=hid (λw h=>by rw[iD _ _ _ rfl];exact Hm (l.drop 8) w y_ h);clear hP;cases h3:iO (l.drop 8) with
   | none=>
    have BA:=trivial;exact ub
   | some lo=>
    rw[h3] at hR C2;simp only[] at hR;obtain⟨aZ,_⟩:=tK h3;unfold tL at C2;obtain⟨L,hL⟩: ∃L:Int,(lo:Int)=L:=⟨_,rfl⟩;simp only[hL] at C2 hR;have LB:0<=L/\L<65536:=a_;by_cases g3:lo<56320\/57344<=lo
    ·rw[if_pos g3] at hR;subst hR;have cM:L<56320\/57344<=L:=a_;clear g3 hL aZ h3;rcases cM with g3 | g3
     all_goals exact ub
    ·have BB:=trivial;exact ub
theorem cK (l:List UInt8) (k:Nat) (h:k<(bs l).size):l[k]?=some ((bs l)[k]'h):=by
 have a:k<l.length:=by rw[<-aM l];exact h
 rw[bC a];simp[bs,ByteArray.getElem_eq_getElem_data]
def nO (l:List UInt8):Int×Int:=
 match l[1]? with
 | some c=>if(jP c.toNat).2 then((jP c.toNat).1,2) else if c.toNat=117 then lJ l else(0,0)
 | none=>(0,0)
theorem Re (l:List UInt8) (w:World) (hs:l.length<=4294967296) (hV:eB w):
  Calls Tryz.prog 209 #[bs l] w λe w'=>e=RW (nO l)/\Below w.heap.size w w':=by
 have sl:=aM l;have HV:=hid hV;clear hV;obtain⟨R,hR⟩:=exQ<|nO l;rw[hR];by_cases h2:l.length<2
 ·have hr:R=(0,0):=by
   rw[<-hR];unfold nO;rw[List.getElem?_eq_none a_]
  subst hr;clear hR;go_enter Tryz.func209,Tryz.ntmps209;exact bo
 ·have aX:1<(bs l).size:=a_
  obtain⟨c,hc⟩:=exQ<|(bs l)[1]'aX;have az:(if(jP c.toNat).2 then((jP c.toNat).1,2) else if c.toNat=117 then lJ l else(0,0))=R:=by
   rw[<-hR];unfold nO;rw[cK l 1 aX,hc]
  obtain⟨M,hM⟩:=exQ<|jP c.toNat;obtain⟨mc,mb⟩:=M;rw[hM] at az;simp only[] at az;have CM:Hid (∀w,Calls Tryz.prog 219 #[.int .u8 (c.toNat:Int)] w λe w'=>e= .returned (.tuple #[.int .i32 mc,mb])/\w=w'):=hid (λw=>by have:=Rb (c.toNat:Int) w ⟨a_,by have:=c.toNat_lt;omega⟩;rw[hM] at this;exact this);have CU:=hid (λw h=>Rd l w a_ hs h);clear hR hM;cases mb with
  | true=>
   rw[if_pos rfl] at az;subst az;exact ox
  | false=>
   rw[if_neg e_] at az;by_cases hu:c.toNat=117
   ·rw[if_pos hu] at az;have t1:((c.toNat:Int)==117)=true:=beq_iff_eq.2 a_;obtain⟨ra,rb⟩:=R;rw[az] at CU;clear hu az;unfold RW at CU;go_enter Tryz.func209,Tryz.ntmps209;go_wp2_with fail;refine(CM.out _).mono ?_;rintro e w' ⟨rfl,rfl⟩;go_wp2_with fail;refine(CU.out _ HV.out).mono ?_;exact an
   ·rw[if_neg hu] at az;subst az;have t1:((c.toNat:Int)==117)=false:=aE.2 a_;clear hu;exact ox
def iF (d:Nat×Nat):Bool:=decide (d.1<32)||(d.1==65533&&d.2==1)
def eX (l:List UInt8):Int×Int:=
 if l.head?=some 92 then nO l else if iF (Lib.decodeL l) then(0,0) else(((Lib.decodeL l).1:Int),((Lib.decodeL l).2:Int))
theorem Rf (l:List UInt8) (h:l≠ []):Lib.decodeGo (bs l)=Lib.decodeL l:=by
 have a:=mB (bs l) 0;rw[aQ,List.drop_zero] at a;rw[a];unfold Lib.decodeGo;rw[if_neg];rw[aM];intro e;exact h (List.eq_nil_of_length_eq_zero a_)
theorem Rg (l:List UInt8) (w:World) (hne:l≠ []) (hs:l.length<=4294967296) (hV:eB w) (hT:cW w):
  Calls Tryz.prog 184 #[bs l] w λe w'=>e=RW (eX l)/\Below w.heap.size w w':=by
 have sl:=aM l;have HV:=hid hV;clear hV;obtain⟨R,hR⟩:=exQ<|eX l;rw[hR];unfold eX at hR;have h0:0<(bs l).size:=by rw[aM];cases l with | nil=>exact absurd rfl hne | cons _ _=>simp
 have bA:=iE l 92 92 rfl h0;by_cases hb:l.head?=some 92
 ·rw[if_pos hb] at hR;have t1:(((bs l)[0]'h0).toNat:Int)==92:=by rw[bA,hb];rfl
  have CE:=hid (λw h=>Re l w hs h);obtain⟨ra,rb⟩:=R;rw[hR] at CE;unfold RW at CE;clear hR hb bA hne hT;go_enter Tryz.func184,Tryz.ntmps184;go_wp2_with fail;refine(CE.out _ HV.out).mono ?_;exact an
 ·rw [if_neg hb] at hR;have t1:((((bs l)[0]'h0).toNat:Int)==92)=false:=by rw[bA];exact aE.2 hb
  have CD:=Tryz.utf8_DecodeRuneInString (bs l) w hT;rw[Rf l hne] at CD;obtain⟨d,hd⟩:=exQ<|Lib.decodeL l;have bl:(d.1:Int)<=1114111:=by
   have h1:=mB (bs l) 0;rw[aQ,List.drop_zero,hd] at h1;rw[h1];have:=(rO (bs l) 0).2;exact this
  rw[hd] at CD hR;obtain⟨c,z⟩:=d;unfold iF at hR;simp only[] at hR CD bl;have HC:=hid CD;clear CD hd bA hb hne hT HV;obtain⟨C,hC⟩: ∃C:Int,(c:Int)=C:=⟨_,rfl⟩;obtain⟨Z,hZ⟩: ∃Z:Int,(z:Int)=Z:=⟨_,rfl⟩;by_cases g1:c<32
  ·rw[aO g1,Bool.true_or,if_pos rfl] at hR;subst hR;have ga:C<32:=a_;simp only[hC,hZ] at HC;clear hC hZ g1 bl;exact ec
  ·rw[aG g1,Bool.false_or] at hR;have ga: ¬C<32:=a_;by_cases g2:c=65533
   ·have t2:(C==65533)=true:=beq_iff_eq.2 a_;by_cases g3:z=1
    ·rw[if_pos (by simp[g2,g3])] at hR;subst hR;have t3:(Z==1)=true:=beq_iff_eq.2 a_;simp only[hC,hZ] at HC;clear hC hZ g1 g2 g3 bl;exact ec
    ·rw[if_neg (by simp[g2,g3])] at hR;subst hR;have t3:(Z==1)=false:=aE.2 a_;simp only[hC,hZ] at HC ⊢;clear hC hZ g1 g2 g3 bl;exact ec
   ·have t2:(C==65533)=false:=aE.2 a_;rw[if_neg (by simp[g2])] at hR;subst hR;simp only[hC,hZ] at HC ⊢;clear hC hZ g1 g2 bl;exact ec
end Go.Proofs.YtfhjncbdgjlcoaaGreatDoor
namespace Go.Proofs
open Go.Shelf
def Tryz.laysB168_ren:Go.Shelf.Ren:=⟨fun | 168=>183 | 240=>86 | 242=>208 | 276=>122 | 278=>218 | n=>n,fun | 0=>0 | 3=>3 | 4=>4 | 5=>5 | 9=>9 | 20=>20 | 21=>21 | 37=>97 | 46=>184 | 51=>212 | 53=>194 | 70=>96 | 72=>99 | 75=>102 | 80=>105 | 164=>149 | 127=>130 | n=>n,fun | n=>n⟩
theorem Tryz.laysB168:Go.Proofs.Lays.n168 Tryz.prog Tryz.laysB168_ren:= {
 mixed:=by kernel_rfl
 f168:=Tryz.func183.trans (congrArg some (by kernel_rfl))
 f240:=Tryz.func86.trans (congrArg some (by kernel_rfl))
 f242:=Tryz.func208.trans (congrArg some (by kernel_rfl))
 f276:=Tryz.func122.trans (congrArg some (by kernel_rfl))
 f278:=Tryz.func218.trans (congrArg some (by kernel_rfl))
 t0:=Tryz.underlying0
 a0:=Tryz.isAgg0
 z0:=Tryz.sizeOf0
 v0:=Tryz.zeroValue0
 t3:=Tryz.underlying3
 a3:=Tryz.isAgg3
 z3:=Tryz.sizeOf3
 v3:=Tryz.zeroValue3
 t4:=Tryz.underlying4
 a4:=Tryz.isAgg4
 z4:=Tryz.sizeOf4
 v4:=Tryz.zeroValue4
 t5:=Tryz.underlying5
 a5:=Tryz.isAgg5
 z5:=Tryz.sizeOf5
 v5:=Tryz.zeroValue5
 t9:=Tryz.underlying9
 a9:=Tryz.isAgg9
 z9:=Tryz.sizeOf9
 v9:=Tryz.zeroValue9
 t20:=Tryz.underlying20
 a20:=Tryz.isAgg20
 z20:=Tryz.sizeOf20
 v20:=Tryz.zeroValue20
 t21:=Tryz.underlying21
 a21:=Tryz.isAgg21
 z21:=Tryz.sizeOf21
 v21:=Tryz.zeroValue21
 t37:=Tryz.underlying97
 a37:=Tryz.isAgg97
 z37:=Tryz.sizeOf97
 v37:=Tryz.zeroValue97
 t46:=Tryz.underlying184
 a46:=Tryz.isAgg184
 z46:=Tryz.sizeOf184
 v46:=Tryz.zeroValue184
 t51:=Tryz.underlying212
 a51:=Tryz.isAgg212
 z51:=Tryz.sizeOf212
 v51:=Tryz.zeroValue212
 t70:=Tryz.underlying96
 a70:=Tryz.isAgg96
 z70:=Tryz.sizeOf96
 v70:=Tryz.zeroValue96
 t72:=Tryz.underlying99
 a72:=Tryz.isAgg99
 z72:=Tryz.sizeOf99
 v72:=Tryz.zeroValue99
 t75:=Tryz.underlying102
 a75:=Tryz.isAgg102
 z75:=Tryz.sizeOf102
 v75:=Tryz.zeroValue102
 t164:=Tryz.underlying149
 a164:=Tryz.isAgg149
 z164:=Tryz.sizeOf149
 v164:=Tryz.zeroValue149
}
theorem Tryz.BuilderB168_Extra:Builder.Extra Tryz.prog Tryz.laysB168_ren where
 sizeBuilder:=by kernel_rfl
 liesBuilder:=by kernel_rfl
 t5:=Tryz.underlying5
 a5:=Tryz.isAgg5
 z5:=Tryz.sizeOf5
 v5:=Tryz.zeroValue5
 infoByte:=by kernel_rfl
 cellsByte:=by kernel_rfl
 sizeByte:=by kernel_rfl
 neB5:=by decide
namespace YtfhjncbdgjlcoaaGreatDoor
open Go.RowKit
def nP (B b:Nat) (l:List UInt8) (w:World):Prop:=Lib.IsBuilderF 99 5 B b (Lib.byteCells l) w
theorem nP.new (w:World):nP w.heap.size w.heap.size [] (w.alloc (.cells #[.pointer none,()] 99)):=Lib.IsBuilderF.of (Lib.fresh_isBuilder 99 5 w)
theorem nP.keep {B b:Nat}{l:List UInt8}{w w':World} (h:nP B b l w) (hb:Below w.heap.size w w'):nP B b l w':=Lib.IsBuilderF.below h hb
theorem yS (B b:Nat) (l:List UInt8) (r:Int) (w:World) (h:nP B b l w) (hr:0<=r/\r<=1114111) (hl:l.length<=4294967296) (hB:B<=w.heap.size):
  Calls Tryz.prog 183 #[some b, .int .i32 r] w λe w'=>e= .returned (.tuple #[.int .i64 (Lib.runeCells r).length, .nilIface])/\nP B b (l++Lib.encodeRune r) w'/\Below B w w'/\Lib.OthersKept 5 (some b) w w':=
 (Any.Builder_WriteRune_k Tryz.laysB168 Tryz.BuilderB168_Extra B b _ r (by omega) (by omega) w h (by rw[Lib.byteCells_length];omega) hB).mono λ_ _ ⟨d,a,c,f⟩=>⟨d,by unfold nP;rw[Lib.byteCells_append,Lib.byteCells_encodeRune];exact Or.inr a,c,f⟩
end YtfhjncbdgjlcoaaGreatDoor
end Go.Proofs
namespace Go.Proofs
open Go.Shelf
namespace YtfhjncbdgjlcoaaGreatDoor
open Go.RowKit
end YtfhjncbdgjlcoaaGreatDoor
end Go.Proofs
namespace Go.Proofs
open Go.Shelf
namespace YtfhjncbdgjlcoaaGreatDoor
open Go.RowKit
end YtfhjncbdgjlcoaaGreatDoor
end Go.Proofs
namespace Go.Proofs.YtfhjncbdgjlcoaaGreatDoor
open Go.RowKit
open Go.Lib hiding intOf
def dQ:Nat->List UInt8->Nat->List UInt8->List UInt8×Int×Int
 | 0,_,i,_=>([],(i:Int),2)
 | _+1,[],i,_=>([],(i:Int),2)
 | f+1,c::r,i,acc=>if c=34 then(acc,(i:Int)+1,0) else if(eX (c::r)).2=0 then([],(i:Int),2) else
  dQ f ((c::r).drop (eX (c::r)).2.toNat) (i+(eX (c::r)).2.toNat) (acc++Lib.encodeRune (eX (c::r)).1)
def bV (l:List UInt8) (at':Int):List UInt8×Int×Int:=
 if 0<=at'/\l[at'.toNat]?=some 34 then dQ (l.length+1) (l.drop (at'.toNat+1)) (at'.toNat+1) [] else([],at',2)
def gP (r:List UInt8×Int×Int):Ending:= .returned (.tuple #[bs r.1,r.2.1,r.2.2])
theorem Rh (l:List UInt8):0<=(lJ l).1/\(lJ l).1<=1114111/\((lJ l).2=0\/(1<=(lJ l).2/\(lJ l).2<=l.length)):=by
 unfold lJ;cases h1:iO (l.drop 2) with
 | none=>simp
 | some h=>
  obtain⟨h2,b⟩:=tK h1;rw[aU] at b;simp only[];split
  ·simp
  ·split
   ·exact al
   ·split
    ·simp
    ·cases h4:iO (l.drop 8) with
     | none=>simp
     | some lo=>
      obtain⟨h5,a⟩:=tK h4;rw[aU] at a;simp only[];split
      ·simp
      ·exact al
theorem Ri (n:Int):0<=(jP n).1/\(jP n).1<=1114111:=by
 unfold jP
 repeat' split
 all_goals simp
theorem rP (l:List UInt8) (hne:l≠ []):0<=(eX l).1/\(eX l).1<=1114111/\((eX l).2=0\/(1<=(eX l).2/\(eX l).2<=l.length)):=by
 unfold eX;split
 ·unfold nO;cases h:l[1]? with
  | none=>simp
  | some c=>
   have hl:1<l.length:=(aR.1 h).1;have hm:=Ri c.toNat;simp only[];split
   ·exact al
   ·split
    ·exact Rh l
    ·simp
 ·split
  ·simp
  ·have a:=mB (bs l) 0;rw[aQ,List.drop_zero] at a;have b:=rO (bs l) 0;have d:0<(bs l).size:=by rw[aM];cases l with | nil=>exact absurd rfl hne | cons _ _=>simp
   have e:=lH (bs l) 0 d;have sl:=aM l;unfold bL at b;unfold bG at e;rw[a];simp only[];omega
theorem Hn (l:List UInt8) (a:Nat) (w:World) (hs:l.length<=1073741824) (ha:a<=l.length) (hV:eB w) (hT:cW w):
  Calls Tryz.prog 149 #[bs l,a] w λe w'=>e=gP (bV l a)/\Below w.heap.size w w':=by
 have yu:=trivial;exact qz
def dR (l:List UInt8):List UInt8×Int×Int:=
 if(bV l 0).2.2=0/\(bV l 0).2.1<l.length then([],(bV l 0).2.1,2) else bV l 0
def kL (l:List UInt8) (a:Int):Int×Int:=if a<0\/(l.length:Int)<a then(0,2) else((bV l a).2.1,(bV l a).2.2)
theorem Ho (l:List UInt8) (a:Int) (w:World) (hs:l.length<=1073741824) (hV:eB w) (hT:cW w):
  Calls Tryz.prog 178 #[bs l,a] w λe w'=>e= .returned (.tuple #[.int .i64 (kL l a).1, .int .i64 (kL l a).2])/\Below w.heap.size w w':=by
 have AO:=trivial;exact tc
theorem yT (l:List UInt8) (w:World) (hs:l.length<=1073741824) (hV:eB w) (hT:cW w):
  Calls Tryz.prog 112 #[bs l] w λe w'=>e=gP (dR l)/\Below w.heap.size w w':=by
 have vo:=trivial;exact r8
end Go.Proofs.YtfhjncbdgjlcoaaGreatDoor
