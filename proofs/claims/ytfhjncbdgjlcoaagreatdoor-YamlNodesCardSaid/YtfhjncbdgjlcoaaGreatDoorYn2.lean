import Derived.Test.YtfhjncbdgjlcoaaGreatDoorYn1
import Derived.Lib.QuoteLoop
import Derived.Shelf.Strings.MapGrows
set_option linter.unusedVariables false
set_option linter.unusedSimpArgs false
set_option maxRecDepth 100000
set_option maxHeartbeats 8000000
namespace Go.Proofs.YtfhjncbdgjlcoaaGreatDoor
open Tryz
open Go.RowKit
open Go.Lib hiding intOf
def kQ (c:UInt8):Option Nat:=
 if 48<=c.toNat/\c.toNat<=57 then some (c.toNat-48) else if 97<=c.toNat/\c.toNat<=102 then some (c.toNat-87) else if 65<=c.toNat/\c.toNat<=70 then some (c.toNat-55) else none
def iE:Nat->aC->Option Nat
 | acc,[]=>some acc
 | acc,c::r=>match kQ c with | none=>none | some d=>iE (16*acc+d) r
def zK (r:Option Nat):Ending:=match r with
 | some n=> .returned (.tuple #[.int .u64 n, .nilIface])
 | none=> .returned (.tuple #[.int .u64 0, .iface 237 (.int .i64 2)])
theorem Si: ∀n:Fin 256,((65<=n.val/\n.val<=70->bits .or .u8 (n.val:Int) 32=(n.val:Int)+32)/\(97<=n.val/\n.val<=102->bits .or .u8 (n.val:Int) 32=(n.val:Int))/\
  (¬(65<=n.val/\n.val<=70)-> ¬(97<=n.val/\n.val<=102)->bits .or .u8 (n.val:Int) 32<97\/103<=bits .or .u8 (n.val:Int) 32)/\0<=bits .or .u8 (n.val:Int) 32/\bits .or .u8 (n.val:Int) 32<=255):=DQ
theorem Sj (c:UInt8):(65<=c.toNat/\c.toNat<=70->bits .or .u8 (c.toNat:Int) 32=(c.toNat:Int)+32)/\(97<=c.toNat/\c.toNat<=102->bits .or .u8 (c.toNat:Int) 32=(c.toNat:Int))/\
  (¬(65<=c.toNat/\c.toNat<=70)-> ¬(97<=c.toNat/\c.toNat<=102)->bits .or .u8 (c.toNat:Int) 32<97\/103<=bits .or .u8 (c.toNat:Int) 32)/\0<=bits .or .u8 (c.toNat:Int) 32/\bits .or .u8 (c.toNat:Int) 32<=255:=
 Si ⟨c.toNat,c.toNat_lt⟩
theorem De (c:Int) (w:World):
  Calls prog 236 #[.int .u8 c] w λe w'=>e= .returned (.int .u8 (bits .or .u8 c 32))/\w=w':=bj
theorem Sk (t:ByteArray) (ht:t.size=4) (w:World):
  Calls prog 233 #[t,(16:Int),(32:Int)] w λe w'=>e=zK (iE 0 t.data.toList)/\aA w w':=by
 have hemp:t.toList.isEmpty=false:=by
  rw[<-decide_eq_emptyBytes];exact aJ (λh=>by rw[h] at ht;cases ht)
 have S:=Lib.run_convert_string_bytes (P:=prog) w 9 97 5 t (u:= .string) underlying9 underlying97 underlying5;have N: ∀j,j<t.size->(Lib.bytesWorld w 5 t).cell? ⟨w.heap.size,j,none⟩=some (.int .u8 (t.data.toList.getD j 0).toNat):=λj hj=>Lib.bytesWorld_cell w 5 t j hj;have q:=hid (Lib.bytesWorld_below w 5 t);obtain⟨W1,G⟩: ∃W1,W1=Lib.bytesWorld w 5 t:=⟨_,rfl⟩;rw[<-G] at S N q;clear G;obtain⟨bl,O⟩: ∃bl,bl=t.data.toList:=⟨_,rfl⟩;have hLn:bl.length=t.size:=by rw[O,Lib.size_eq]
 rw[<-O] at N ⊢;clear O;obtain⟨R,T⟩:=exQ<|zK (iE 0 bl);rw[T];have W:=hid T;clear T;have hmv:IntKind.u64.wrap (IntKind.u64.wrap 4294967296-1)=4294967295:=by
  rw[IntKind.wrap_u64,IntKind.wrap_u64];decide
 go_in;go_wp2;go_loop [12,13,101] (λvu vn vi=> ∃(k g:Nat) (a:Int),vu= .bool false/\vn= .int .u64 a/\vi= .int .i64 k/\k<=t.size/\a<=65535/\0<=a/\(k<=3->a<=4095)/\Hid (a=(g:Int)/\g<16 ^ k/\iE 0 bl=iE g (bl.drop k)))
  (λ_ _ vi=>t.size-(RowKit.intOf vi).toNat)
 case atStart=>exact⟨0,0,0,rfl,rfl,rfl,a_,a_,a_,λ_=>by omega,rfl,b_,rfl⟩
 case round=>
  obtain⟨k,g,a,rfl,rfl,rfl,hk,ha1,ha2,J,X⟩:=hrel;obtain⟨F,l,b⟩:=X.out;clear X;by_cases hkn:k<t.size
  .have V:=N k hkn;have x:bl.drop k=bl[k]' a_::bl.drop (k+1):=gB a_;have E:bl.getD k 0=bl[k]' a_:=(by simp[List.getD,bI (show k<bl.length by omega)]);rw[x] at b;rw[E] at V;generalize bl[k]' a_=c at V b;have hc256:c.toNat<256:=c.toNat_lt;have hk3:a<=4095:=J a_;obtain⟨n,z,p,A,B⟩:=Sj c;have i:16 ^ (k+1)=16*16 ^ k:=by rw[Nat.pow_succ];omega
   have m:k<=2->(16:Nat) ^ (k+1)<=4096:=λh=>bF (Nat.pow_le_pow_right b_ (show k+1<=3 by omega)) b_;clear N x E J;have f: ∀d:Nat,kQ c=some d->d<16->Hid (a*16+(d:Int)=((16*g+d:Nat):Int)/\16*g+d<16 ^ (k+1)/\iE 0 bl=iE (16*g+d) (bl.drop (k+1)))/\(k+1<=3->a*16+(d:Int)<=4095):=λd hd hd16=>by
    have Y:16*g+d<16 ^ (k+1):=by rw[i];omega
    refine⟨⟨a_,Y,?_⟩,λh=>by have:=m a_;omega⟩;rw[b];simp only[iE,hd]
   by_cases hdig:48<=c.toNat/\c.toNat<=57
   .obtain⟨r,o⟩:=hdig;obtain⟨C,D⟩:=f (c.toNat-48) (by unfold kQ;rw[if_pos ⟨r,o⟩]) a_;rw[show ((c.toNat-48:Nat):Int)=(c.toNat:Int)-48 by omega] at C D;clear b f n z p A B l F i m;go_wp2_with fail;refine⟨⟨k+1,16*g+(c.toNat-48),a*16+((c.toNat:Int)-48),rfl,y_,y_,a_,a_,a_,D,C⟩,by simp[RowKit.intOf];omega⟩
   .by_cases hlo:97<=c.toNat/\c.toNat<=102
    .have H:=z hlo;obtain⟨r,o⟩:=hlo;obtain⟨C,D⟩:=f (c.toNat-87) (by unfold kQ;rw[if_neg hdig,if_pos ⟨r,o⟩]) a_;rw[show ((c.toNat-87:Nat):Int)=(c.toNat:Int)-97+10 by omega] at C D;have y: ¬c.toNat<=57:=a_;have I:Hid (∀w,Calls prog 236 #[.int .u8 (c.toNat:Int)] w λe w'=>e= .returned (.int .u8 (c.toNat:Int))/\w=w'):=hid (λw=>by have:=De (c.toNat:Int) w;rw[H] at this;exact this);clear b f n z p A B l F i m H hdig;go_wp2_with (go_at_call 236;refine(I.out _).mono ?_;rintro e w' ⟨rfl,rfl⟩);refine⟨⟨k+1,16*g+(c.toNat-87),a*16+((c.toNat:Int)-97+10),rfl,y_,y_,a_,a_,a_,D,C⟩,by simp[RowKit.intOf];omega⟩
    .by_cases hup:65<=c.toNat/\c.toNat<=70
     .have H:=n hup;obtain⟨r,o⟩:=hup;obtain⟨C,D⟩:=f (c.toNat-55) (by unfold kQ;rw[if_neg hdig,if_neg hlo,if_pos ⟨r,o⟩]) a_;rw[show ((c.toNat-55:Nat):Int)=(c.toNat:Int)+32-97+10 by omega] at C D;have y: ¬c.toNat<=57:=a_;have I:Hid (∀w,Calls prog 236 #[.int .u8 (c.toNat:Int)] w λe w'=>e= .returned (.int .u8 ((c.toNat:Int)+32))/\w=w'):=hid (λw=>by have:=De (c.toNat:Int) w;rw[H] at this;exact this);clear b f n z p A B l F i m H hdig hlo;go_wp2_with (go_at_call 236;refine(I.out _).mono ?_;rintro e w' ⟨rfl,rfl⟩);refine⟨⟨k+1,16*g+(c.toNat-55),a*16+((c.toNat:Int)+32-97+10),rfl,y_,y_,a_,a_,a_,D,C⟩,by simp[RowKit.intOf];omega⟩
     .have K:iE g (c::bl.drop (k+1))=none:=by simp only[iE];unfold kQ;rw[if_neg hdig,if_neg hlo,if_neg hup]
      rw[K] at b;have Q:=hid (W.out.symm.trans (by rw[b]));have U:=p hup hlo;obtain⟨v,M⟩:=exQ<|bits .or .u8 (c.toNat:Int) 32;have I:Hid (∀w,Calls prog 236 #[.int .u8 (c.toNat:Int)] w λe w'=>e= .returned (.int .u8 v)/\w=w'):=hid (λw=>by have:=De (c.toNat:Int) w;rw[M] at this;exact this);have s:c.toNat=95->v=127:=λh=>by rw[<-M,h];decide+kernel
      rw[M] at U A B;have y:c.toNat<48\/57<c.toNat:=a_;clear b f n z p l F i m hdig hlo hup K M;by_cases h95:c.toNat=95
      .obtain rfl:=s h95;have L:((c.toNat:Int)==95)=true:=beq_iff_eq.2 a_;have hnd2:57<c.toNat:=a_;clear h95 s;exact du
      .clear s;have L:((c.toNat:Int)==95)=false:=aI.2 a_;by_cases hv1:v<97
       .exact ja
       .have hv2:103<=v:=U.resolve_left hv1;by_cases hv3:v<=122
        .exact ja
        .exact ja
  .obtain rfl:k=t.size:=a_;have K:iE g (bl.drop t.size)=some g:=by rw[List.drop_eq_nil_of_le a_];rfl
   rw[K] at b;have Q:=hid (W.out.symm.trans (by rw[b]));have Z:=hid F;clear l K b F;go_wp2;go_ret2;exact⟨by rw[Q.out,Z.out];rfl,q.out⟩
theorem If {P:Program}{f:FuncId}{args:Array Value}{w:World}{a n:Nat}{v:Value}
  (h:Calls P f args (w.drewN (a+n)) λe w'=>e= .returned v/\w.drewN (a+n)=w'):
  Calls P f args (w.drewN (a+n)) λe w''=>e= .returned v/\ ∃m,w''=w.drewN (a+m):=
 h.mono λ_ _ ⟨c,b⟩=>⟨c,n,b.symm⟩
theorem Sl (r:Int) (w:World) (h1:128<=r) (h2:r<=1114111) (h3:r<55296\/57343<r):
  Calls prog 160 #[.int .i32 r] w λe w'=>e= .returned (.bool true)/\w=w':=by
 rcases h3 with h3 | h3
 all_goals exact bj
theorem Df: ∀(l:aC) (b:UInt8),(∀c∈l,c≠b)->Lib.indexByte l b= -1
 | [],b,_=>rfl
 | c::t,b,h=>by
  have h1:(c==b)=false:=aI.2 (h c e_);have a:=Df t b (λx d=>h x (by simp[d]));unfold Lib.indexByte;simp[h1,a]
theorem Ig (A:ByteArray) (i k:Nat) (b:UInt8) (hb:128<=b.toNat) (hA:A.data.toList.all (λc=>decide (c.toNat<128))=true:=by decide) (w:World):
  Calls prog 41 #[(A.extract i k), .int .u8 (b.toNat:Int)] w λe w'=>e= .returned (.int .i64 (-1))/\w=w':=by
 have h:=xL (A.extract i k) b w;rw[Df] at h
 .exact h
 .intro c a e;rw[gO,aY] at a;have d:c∈A.data.toList:=List.mem_of_mem_drop (List.mem_of_mem_take a);have:=of_decide_eq_true (iN.1 hA c d);rw[e] at this;omega
theorem Sm (S:ByteArray) (w:World) (hS:S.data.toList.all (λc=>decide (c.toNat<128))=true) (hsz:S.size<=4294967296):
  Calls prog 121 #[S, .int .i32 65533] w (aT w (.int .i64 (-1))):=by
 have a: ∀p (h:p<S.size),(S[p]'h).toNat<128:=λp h=>of_decide_eq_true (iN.1 hS _ (Array.getElem_mem_toList _));have n:=hid a;clear a hS;go_in;go_wp2;go_loopw [5,6] (λ_ _ wr=> ∃p:Nat,p<=S.size/\Hid (wr.heap[w.heap.size]?=some (.stringIter S p))/\Hid (aA w wr)) (λ_ _ wr=>S.size-wr.iterPos w.heap.size)
 case atStart=>exact⟨0,a_,World.iter_heap w S 0,(aD _ _).alloc (aF _) _⟩
 case round=>
  obtain⟨p,hp,d,j⟩:=hrel;by_cases hlt:p<S.size
  .have m:=n.out p hlt;have e:=decode_ascii S p hlt m;have e1:bU S p=((S[p]'hlt).toNat:Int):=by unfold bU;rw[e]
   have e2:bN S p=1:=by unfold bN;rw[e]
   have g: ∀ty,(Instr.next (.pointer (some ⟨w.heap.size,0,none⟩)) true ty).run prog wr= .ok (.tuple #[true,p, .int .i32 ((S[p]'hlt).toNat:Int)]) (wr.iterAt w.heap.size S (p+1)):=λty=>by
    have:=Lib.run_next_any_at (P:=prog) wr w.heap.size S p ty d.out hlt;have i:=e1;have k:=e2;unfold bU at i;unfold bN at k;rw[i,k] at this;exact this
   have b:=hid (Lib.iterAt_heap wr w.heap.size S p (p+1) d.out);have f:=hid (Lib.below_iterAt j.out (aF w.heap.size) S (p+1));have l:=hid (iterPos_of d.out);have t1:(((S[p]'hlt).toNat:Int)==65533)=false:=aI.2 a_;clear e1 e2 e;go_wp2;go_roundw
   case rel=>exact⟨p+1,a_,b.out,f.out⟩
   case measure=>rw[iterPos_of b.out,l.out];omega
  .have g: ∀ty,(Instr.next (.pointer (some ⟨w.heap.size,0,none⟩)) true ty).run prog wr= .ok (.tuple #[false]) wr:=λty=>Lib.run_next_end_at wr _ S p ty d.out hlt;go_wp2;go_ret;exact⟨rfl,j.out⟩
theorem Sn (r:Int) (w:World) (h1:128<=r) (h2:r<=1114111) (h3:r<55296\/57343<r):
  Calls prog 121 #[.string ⟨#[43,45,95]⟩, .int .i32 r] w (aT w (.int .i64 (-1))):=by
 by_cases h4:r=65533
 .subst h4;exact Sm _ w b_ b_
 .have h5:(r==65533)=false:=aI.2 h4;go_in;go_wp2_with fail;refine(Sl r _ h1 h2 h3).mono ?_;rintro e w' ⟨rfl,rfl⟩;go_wp2_with fail;go_step3;obtain⟨n,hn,cQ,aO⟩:=Sh r h1 h2 h3;obtain⟨E,hE⟩:=exQ<|Utf8.encode r;rw[hE] at cQ aO;have HE:=hid hE;clear hE;go_upto_region 1 with fail;go_cut [7] (λs7 wx=>s7= .string E/\w=wx)
  case first=>
   go_wp2;go_meet;exact⟨by rw[HE.out],rfl⟩
  obtain⟨rfl,rfl⟩:=hcut;clear HE h3 h4 h5;obtain rfl|rfl|rfl:n=2\/n=3\/n=4:=a_
  .have M2:=trivial;exact IV
  .exact IV
  .have h3': ¬(3:Int)<3:=a_;clear aO hn;go_wp2;go_loopw [9] (λs9 wr=>s9= .int .i64 3/\w=wr) (λ_ _=>0)
   case atStart=>exact⟨rfl,rfl⟩
   case round=>
    obtain⟨rfl,rfl⟩:=hrel;go_wp2_with fail;rw[Exit.noGoto_ret];go_ret;exact ab
theorem So (s:ByteArray) (p:Nat):bU s p<55296\/57343<bU s p:=by
 unfold bU;rw[decode_at];have:=decodeN_valid (s.size-p) (s.get! p).toNat (s.get! (p+1)).toNat (s.get! (p+2)).toNat (s.get! (p+3)).toNat (UInt8.toNat_lt _);omega
theorem Sq (l:aC) (b:UInt8) (h:0<=Lib.indexByte l b):b∈l:=by
 apply Classical.byContradiction;intro a;rw[Df l b (λc d e=>a (e ▸ d))] at h;omega
def Sr (r:Int) (e:Ending):Prop:= ∃k:Int,e= .returned (.int .i64 k)/\(0<=k->r=43\/r=45\/r=95)
theorem Ss (r:Int) (w:World) (h0:0<=r) (h2:r<=1114111) (h3:r<55296\/57343<r):
  Calls prog 121 #[.string ⟨#[43,45,95]⟩, .int .i32 r] w λe w'=>Sr r e/\aA w w':=by
 by_cases h1:r<128
 .refine aH (strings_IndexRune_ascii ⟨#[43,45,95]⟩ r w h0 h1) λw' c=>?_;rw[c];refine⟨⟨_,rfl,λh=>?_⟩,aD _ _⟩;have a:=Sq _ _ h;have f:r.toNat.toUInt8.toNat=r.toNat:=by
   rw[show r.toNat.toUInt8=UInt8.ofNat r.toNat from rfl,UInt8.toNat_ofNat'];exact Nat.mod_eq_of_lt a_
  simp only[fT,List.not_mem_nil,or_false] at a;rcases a with a | a | a
  all_goals
   have b:=congrArg UInt8.toNat a;rw[f] at b
   first | (left;have:r.toNat=43:=b;omega) | (right;left;have:r.toNat=45:=b;omega) | (right;right;have:r.toNat=95:=b;omega)
 .refine aH (Sn r w a_ h2 h3) λw' d=>?_;exact⟨⟨_,rfl,λh=>by omega⟩,d⟩
def Ih (t:ByteArray) (e:Ending):Prop:= ∃B,e= .returned (.bool B)/\(B=true-> ∃c∈t.data.toList,c.toNat=43\/c.toNat=45\/c.toNat=95)
def St (t:ByteArray) (e:Ending):Prop:= ∃k:Int,e= .returned (.int .i64 k)/\(0<=k-> ∃c∈t.data.toList,c.toNat=43\/c.toNat=45\/c.toNat=95)
theorem Su (t:ByteArray) (w:World) (hs:t.size<=8):
  Calls prog 232 #[t, .string ⟨#[43,45,95]⟩] w λe w'=>St t e/\aA w w':=by
 go_in;go_wp2_with fail;refine aH (strings_shouldUseASCIISet _ _) λw' m=>?_;rw[m];clear m;have o:decide (8<(t.size:Int))=false:=aJ a_;rw[o];go_wp2;go_loopw [9,10] (λ_ _ wr=> ∃p:Nat,p<=t.size/\Hid (wr.heap[w.heap.size]?=some (.stringIter t p))/\Hid (aA w wr)) (λ_ _ wr=>t.size-wr.iterPos w.heap.size)
 case atStart=>exact⟨0,a_,World.iter_heap w t 0,(aD _ _).alloc (aF _) _⟩
 case round=>
  obtain⟨p,hp,l,u⟩:=hrel;by_cases hlt:p<t.size
  .have m:=mJ t p hlt;have j:=sP t p;have q:=So t p;have n: ∀ty,(Instr.next (.pointer (some ⟨w.heap.size,0,none⟩)) true ty).run prog wr= .ok (.tuple #[true,p, .int .i32 (bU t p)]) (wr.iterAt w.heap.size t (p+bN t p)):=λty=>Lib.run_next_any_at wr _ t p ty l.out hlt;have hz:w.heap.size<wr.heap.size:=aG l.out;have d:=hid (Lib.iterAt_heap wr w.heap.size t p (p+bN t p) l.out);have g:=hid (Lib.below_iterAt u.out (aF w.heap.size) t (p+bN t p));have x:=hid (iterPos_of l.out);have a:(bU t p=43\/bU t p=45\/bU t p=95)-> ∃c∈t.data.toList,c.toNat=43\/c.toNat=45\/c.toNat=95:=λh=>by
    refine⟨t[p]'hlt,Array.getElem_mem_toList _,?_⟩;by_cases hb:(t[p]'hlt).toNat<128
    .have s:=decode_ascii t p hlt hb;unfold bU at h;rw[s] at h;simp only[] at h;omega
    .have s:=(decode_high t p hlt a_).1;unfold bU at h;omega
   have A:=hid a;clear a;generalize bU t p=r at *;generalize bN t p=wd at *;go_wp2_with fail;refine(Ss r _ j.1 j.2 q).mono ?_;rintro e w2 ⟨⟨k,rfl,v⟩,b⟩;have y:=hid v;clear v;have f:=hid ((b.block w.heap.size (aG d.out)).trans d.out);have i:=hid (g.out.trans (b.mono g.out.size));clear b;by_cases hk0:0<=k
   .have z:=hid (A.out (y.out hk0));go_wp2;go_ret;exact⟨⟨_,rfl,λ_=>z.out⟩,i.out⟩
   .go_wp2;go_roundw
    case rel=>exact⟨p+wd,a_,f.out,i.out⟩
    case measure=>rw[iterPos_of f.out,x.out];omega
  .have n: ∀ty,(Instr.next (.pointer (some ⟨w.heap.size,0,none⟩)) true ty).run prog wr= .ok (.tuple #[false]) wr:=λty=>Lib.run_next_end_at wr _ t p ty l.out hlt;go_wp2;go_ret;exact⟨⟨_,rfl,λh=>by omega⟩,u.out⟩
theorem Sv (t:ByteArray) (w:World) (hs:t.size<=8):
  Calls prog 230 #[t, .string ⟨#[43,45,95]⟩] w λe w'=>Ih t e/\aA w w':=by
 go_in;go_wp2_with fail;refine(Su t w hs).mono ?_;rintro e w1 ⟨⟨k,rfl,b⟩,a⟩;have d:=hid b;clear b;by_cases hk0:0<=k
 .have f:=hid (d.out hk0);have c:decide (0<=k)=true:=aQ hk0;go_wp2;go_ret;exact⟨⟨_,rfl,λ_=>f.out⟩,a⟩
 .have c:decide (0<=k)=false:=aJ hk0;go_wp2;go_ret;exact⟨⟨_,rfl,λh=>by cases h⟩,a⟩
def eQ (w:World):Prop:= ∃tp p,w.var? prog "strconv.ErrSyntax" =some #[.iface tp p]
theorem eQ.keep {w w':World} (h:eQ w) (hb:aA w w'):eQ w':=let ⟨tp,p,h⟩:=h;⟨tp,p,Id h hb⟩
theorem eQ.cell {w:World} (h:eQ w): ∃tp p,w.cell? (6,0)=some (.iface tp p):=by
 obtain⟨tp,p,h⟩:=h;have:=World.var?_cell (P:=prog) (show prog.globalNamed "strconv.ErrSyntax" =some 6 by kernel_rfl) h 0;exact⟨tp,p,by simpa using this⟩
theorem Ii: ∀(l:aC) (acc:Nat),(∃c∈l,c.toNat=43\/c.toNat=45\/c.toNat=95)->iE acc l=none
 | [],_,h=>by obtain⟨c,hc,_⟩:=h;cases hc
 | d::t,acc,h=>by
  obtain⟨c,hc,a⟩:=h;unfold iE;rcases fT.1 hc with rfl | hc
  .have:kQ c=none:=by unfold kQ;rw[if_neg a_,if_neg a_,if_neg a_]
   rw[this]
  .cases kQ d with
   | none=>rfl
   | some e=>exact Ii t _ ⟨c,hc,a⟩
theorem Ij {c:UInt8}{d:Nat} (h:kQ c=some d):d<16:=by
 unfold kQ at h;split at h
 .injection h with h;omega
 .split at h
  .injection h with h;omega
  .split at h
   .injection h with h;omega
   .cases h
theorem Ik: ∀(l:aC) (acc n:Nat),iE acc l=some n->n<(acc+1)*16 ^ l.length
 | [],acc,n,h=>by simp only[iE,cC] at h;simp;omega
 | c::t,acc,n,h=>by
  unfold iE at h;cases hc:kQ c with
  | none=>rw[hc] at h;cases h
  | some d=>
   rw[hc] at h;have h1:=Ik t _ n h;have h2:=Ij hc;have h3:(16*acc+d+1)*16 ^ t.length<=(16*(acc+1))*16 ^ t.length:=Nat.mul_le_mul_right _ a_;rw[bM,Nat.pow_succ];have h4:(16*(acc+1))*16 ^ t.length=(acc+1)*(16 ^ t.length*16):=by
    rw[Nat.mul_comm 16 (acc+1),Nat.mul_assoc,Nat.mul_comm 16]
   omega
def Il (r:Option Nat) (e:Ending):Prop:=match r with
 | some n=>e= .returned (.tuple #[.int .u64 n, .nilIface])
 | none=> ∃N:Nat,e= .returned (.tuple #[.int .u64 0, .iface 239 (.pointer (some ⟨N,0,none⟩))])
theorem Sw (t:ByteArray) (ht:t.size=4) (w:World) (hV:eQ w):
  Calls prog 231 #[t,(16:Int),(32:Int)] w λe w'=>Il (iE 0 t.data.toList) e/\aA w w':=by
 have C:=Sk t ht w;cases hx:iE 0 t.data.toList with
 | some n=>
  rw[hx] at C;unfold zK at C;have HC:=hid C;clear C hx;exact OZ
 | none=>
  rw[hx] at C;unfold zK at C;have HC:=hid C;have HV:=hid hV;clear C hx hV;go_in;go_wp2_with fail;refine aH HC.out λw1 o=>?_;have G:=hid o;obtain⟨tp,p,hc⟩:=(HV.out.keep o).cell;have HT:=hid (strconv_toError_syntax ⟨#[80,97,114,115,101,85,105,110,116]⟩ t 16 32 (.iface tp p) w1 a_ hc (.inr ⟨tp,p,rfl⟩));clear o hc;go_wp2_with fail;refine HT.out.mono ?_;rintro e w2 ⟨N,rfl,_,_,J⟩;go_wp2;go_ret2;exact⟨⟨N,rfl⟩,aE G.out J⟩
def jE (l:aC):Option Nat:=if l.length<4 then none else iE 0 (l.take 4)
theorem uE {l:aC}{n:Nat} (h:jE l=some n):n<65536/\4<=l.length:=by
 unfold jE at h;split at h
 .cases h
 .have:=Ik _ _ _ h;rw[bR,Nat.min_eq_left a_] at this;omega
def uF (r:Option Nat):Ending:=match r with
 | some n=> .returned (.tuple #[.int .i32 n,true])
 | none=> .returned (.tuple #[.int .i32 0,false])
theorem Im (l:aC) (w:World) (hs:l.length<=4294967296) (hV:eQ w):
  Calls prog 228 #[bs l] w λe w'=>e=uF (jE l)/\aA w w':=by
 have sl:=aP l;have HV:=hid hV;clear hV;by_cases h4:l.length<4
 .have hr:jE l=none:=by unfold jE;rw[if_pos h4]
  rw[hr];exact OY
 .obtain⟨R,hR⟩:=exQ<|iE 0 (l.take 4);have hr:jE l=R:=by unfold jE;rw[if_neg h4,hR]
  have ht:(bs (l.take 4)).size=4:=by rw[aP,bR];omega
  have bQ:(bs l).extract 0 4=bs (l.take 4):=by rw[vQ,aY]
  have CA:Hid (∀w,Calls prog 230 #[((bs l).extract 0 4), .string ⟨#[43,45,95]⟩] w λe w'=>Ih (bs (l.take 4)) e/\aA w w'):=hid (λw=>by rw[bQ];exact Sv (bs (l.take 4)) w a_);have CP:Hid (∀w,eQ w->Calls prog 231 #[((bs l).extract 0 4),(16:Int),(32:Int)] w λe w'=>Il R e/\aA w w'):=hid (λw hV=>by have:=Sw (bs (l.take 4)) ht w hV;rw[aY,hR] at this;rw[bQ];exact this);have F: ∀n,R=some n->n<65536:=λn h=>(uE (hr.trans h)).1;rw[hr];have HC:Hid ((∃c∈l.take 4,c.toNat=43\/c.toNat=45\/c.toNat=95)->R=none):=λh=>by rw[<-hR];exact Ii _ _ h
  have cH:=hid F;clear hr hR ht bQ F;go_in;go_wp2_with fail;refine(CA.out _).mono ?_;rintro e w1 ⟨⟨B,rfl,hB⟩,o⟩;have HB:=hid hB;clear hB;have G:=hid o;clear o;cases B with
  | true=>
   have hn:R=none:=HC.out (by have:=HB.out rfl;rw[aY] at this;exact this);subst hn;exact ep
  | false=>
   clear HB HC;go_wp2_with fail;refine(CP.out _ (HV.out.keep G.out)).mono ?_;rintro e w2 ⟨hE,J⟩;have aq:=hid (aE G.out J);clear J;cases R with
   | none=>
    obtain⟨N,rfl⟩:=hE;exact oq
   | some n=>
    have cU:e= .returned (.tuple #[.int .u64 n, .nilIface]):=hE;subst cU;have hn:=cH.out n rfl;clear hE;exact oq
def kI (n:Int):Int×Bool:=
 if n=34 then(34,true) else if n=92 then(92,true) else if n=47 then(47,true) else if n=98 then(8,true) else if n=102 then(12,true) else if n=110 then(10,true) else if n=114 then(13,true) else if n=116 then(9,true) else(0,false)
theorem Sx (n:Int) (w:World) (h0:0<=n/\n<=255):
  Calls prog 219 #[.int .u8 n] w λe w'=>e= .returned (.tuple #[.int .i32 (kI n).1, .bool (kI n).2])/\w=w':=by
 obtain⟨R,a⟩:=exQ<|kI n;rw[a];unfold kI at a;by_cases c1:n=34
 .rw[if_pos c1] at a;subst a c1;exact bw
 rw[if_neg c1] at a;by_cases c2:n=92
 .rw[if_pos c2] at a;subst a c2;exact bw
 rw[if_neg c2] at a;by_cases c3:n=47
 .rw[if_pos c3] at a;subst a c3;exact bw
 rw[if_neg c3] at a;by_cases c4:n=98
 .rw[if_pos c4] at a;subst a c4;exact bw
 rw[if_neg c4] at a;by_cases c5:n=102
 .rw[if_pos c5] at a;subst a c5;exact bw
 rw[if_neg c5] at a;by_cases c6:n=110
 .rw[if_pos c6] at a;subst a c6;exact bw
 rw[if_neg c6] at a;by_cases c7:n=114
 .rw[if_pos c7] at a;subst a c7;exact bw
 rw[if_neg c7] at a;by_cases c8:n=116
 .rw[if_pos c8] at a;subst a c8;exact bw
 rw[if_neg c8] at a;subst a;have d1:(n==34)=false:=aI.2 c1;have d2:(n==92)=false:=aI.2 c2;have d3:(n==47)=false:=aI.2 c3;have d4:(n==98)=false:=aI.2 c4;have d5:(n==102)=false:=aI.2 c5;have d6:(n==110)=false:=aI.2 c6;have d7:(n==114)=false:=aI.2 c7;have d8:(n==116)=false:=aI.2 c8;exact bw
def mL (l:aC):Int×Int:=
 match jE (l.drop 2) with
 | none=>(0,0)
 | some h=>if 56320<=h/\h<57344 then(0,0) else if h<55296\/57344<=h then((h:Int),6) else if Lib.hasPrefix (l.drop 6) [92,117]=false then(0,0) else
  match jE (l.drop 8) with
  | none=>(0,0)
  | some lo=>if lo<56320\/57344<=lo then(0,0) else(65536+((h:Int)-55296)*1024+lo-56320,12)
def RW (r:Int×Int):Ending:= .returned (.tuple #[.int .i32 r.1,r.2])
theorem Sy {l p:aC} (h:Lib.hasPrefix l p=true):p.length<=l.length:=by
 unfold Lib.hasPrefix at h;exact(List.isPrefixOf_iff_prefix.1 h).length_le
theorem Sz (l:aC) (w:World) (h2:2<=l.length) (hs:l.length<=4294967296) (hV:eQ w):
  Calls prog 220 #[bs l] w λe w'=>e=RW (mL l)/\aA w w':=by
 have sl:=aP l;have C1:Hid (∀w,eQ w->Calls prog 228 #[((bs l).extract 2 l.length)] w λe w'=>e=uF (jE (l.drop 2))/\aA w w'):=hid (λw h=>by rw[iW _ _ _ rfl];exact Im (l.drop 2) w DJ h);have HV:=hid hV;clear hV;obtain⟨R,hR⟩:=exQ<|mL l;rw[hR];unfold mL at hR;cases h1:jE (l.drop 2) with
 | none=>
  rw[h1] at hR C1;simp only[] at hR;subst hR;go_in;go_wp2_with fail;refine(C1.out _ HV.out).mono ?_;unfold uF;rintro e w1 ⟨rfl,o⟩;exact bu
 | some h=>
  rw[h1] at hR C1;simp only[] at hR;obtain⟨F,aN⟩:=uE h1;rw[bC] at aN;unfold uF at C1;obtain⟨H,hH⟩: ∃H:Int,(h:Int)=H:=⟨_,rfl⟩;simp only[hH] at C1 hR;have HB:0<=H/\H<65536:=a_
  by_cases g1:56320<=h/\h<57344
  .rw[if_pos g1] at hR;subst hR;have ga:56320<=H:=a_;have gb:H<57344:=a_;clear g1 hH F h1;exact PB
  rw[if_neg g1] at hR;by_cases g2:h<55296\/57344<=h
  .rw[if_pos g2] at hR;subst hR;have cA:H<55296\/57344<=H:=a_;clear g1 g2 hH F h1;rcases cA with g2 | g2
   all_goals exact PB
  rw[if_neg g2] at hR;have ga:55296<=H:=a_
  have gb:H<56320:=a_
  clear g1 g2 hH F h1;obtain⟨P,hP⟩:=exQ<|Lib.hasPrefix (l.drop 6) [92,117];rw[hP] at hR;have CP:Hid (∀w,Calls prog 117 #[((bs l).extract 6 l.length), .string ⟨#[92,117]⟩] w λe w'=>e= .returned (.bool P)/\w=w'):=hid (λw=>by have:=strings_HasPrefix ((bs l).extract 6 l.length) ⟨#[92,117]⟩ w;rw[iW _ _ _ rfl,aY,show (⟨#[92,117]⟩:ByteArray).data.toList= [92,117] from rfl,hP] at this;rw[iW _ _ _ rfl];exact this.mono λ_ _ ⟨a,b⟩=>⟨a,b.symm⟩);cases P with
  | false=>
   rw[if_pos rfl] at hR;subst hR;clear hP;go_in;go_wp2_with fail;refine aH (C1.out _ HV.out) λw1 o=>?_;go_wp2_with (go_at_call 117;refine(CP.out _).mono ?_;rintro e w' ⟨rfl,rfl⟩);go_ret2;exact⟨rfl,o⟩
  | true=>
   rw[if_neg e_] at hR;have hl8:8<=l.length:=by have:=Sy hP;rw[bC] at this;simp at this;omega
   have C2:Hid (∀w,eQ w->Calls prog 228 #[((bs l).extract 8 l.length)] w λe w'=>e=uF (jE (l.drop 8))/\aA w w'):=hid (λw h=>by rw[iW _ _ _ rfl];exact Im (l.drop 8) w DJ h);clear hP;cases h3:jE (l.drop 8) with
   | none=>
    rw[h3] at hR C2;simp only[] at hR;subst hR;unfold uF at C2;exact O2
   | some lo=>
    rw[h3] at hR C2;simp only[] at hR;obtain⟨a1,_⟩:=uE h3;unfold uF at C2;obtain⟨L,hL⟩: ∃L:Int,(lo:Int)=L:=⟨_,rfl⟩;simp only[hL] at C2 hR;have LB:0<=L/\L<65536:=a_;by_cases g3:lo<56320\/57344<=lo
    .rw[if_pos g3] at hR;subst hR;have cC:L<56320\/57344<=L:=a_;clear g3 hL a1 h3;rcases cC with g3 | g3
     all_goals exact O2
    .rw[if_neg g3] at hR;subst hR;have gc:56320<=L:=a_;have gd:L<57344:=a_;clear g3 hL a1 h3;exact O2
theorem cT (l:aC) (k:Nat) (h:k<(bs l).size):l[k]?=some ((bs l)[k]'h):=by
 have a:k<l.length:=by rw[<-aP l];exact h
 rw[bI a];simp[bs,ByteArray.getElem_eq_getElem_data]
def oR (l:aC):Int×Int:=
 match l[1]? with
 | some c=>if(kI c.toNat).2 then((kI c.toNat).1,2) else if c.toNat=117 then mL l else(0,0)
 | none=>(0,0)
theorem Ta (l:aC) (w:World) (hs:l.length<=4294967296) (hV:eQ w):
  Calls prog 209 #[bs l] w λe w'=>e=RW (oR l)/\aA w w':=by
 have sl:=aP l;have HV:=hid hV;clear hV;obtain⟨R,hR⟩:=exQ<|oR l;rw[hR];by_cases h2:l.length<2
 .have hr:R=(0,0):=by
   rw[<-hR];unfold oR;rw[List.getElem?_eq_none a_]
  subst hr;clear hR;exact OY
 .have aV:1<(bs l).size:=a_
  obtain⟨c,hc⟩:=exQ<|(bs l)[1]'aV;have aK:(if(kI c.toNat).2 then((kI c.toNat).1,2) else if c.toNat=117 then mL l else(0,0))=R:=by
   rw[<-hR];unfold oR;rw[cT l 1 aV,hc]
  obtain⟨M,hM⟩:=exQ<|kI c.toNat;obtain⟨mc,mb⟩:=M;rw[hM] at aK;simp only[] at aK;have CM:Hid (∀w,Calls prog 219 #[.int .u8 (c.toNat:Int)] w λe w'=>e= .returned (.tuple #[.int .i32 mc,mb])/\w=w'):=hid (λw=>by have:=Sx (c.toNat:Int) w ⟨a_,by have:=c.toNat_lt;omega⟩;rw[hM] at this;exact this);have CU:=hid (λw h=>Sz l w a_ hs h);clear hR hM;cases mb with
  | true=>
   rw[if_pos rfl] at aK;subst aK;exact qe
  | false=>
   rw[if_neg e_] at aK;by_cases hu:c.toNat=117
   .rw[if_pos hu] at aK;have t1:((c.toNat:Int)==117)=true:=beq_iff_eq.2 a_;obtain⟨ra,rb⟩:=R;rw[aK] at CU;clear hu aK;unfold RW at CU;go_in;go_wp2_with fail;refine(CM.out _).mono ?_;rintro e w' ⟨rfl,rfl⟩;go_wp2_with fail;refine aH (CU.out _ HV.out) λw1 o=>?_;exact bu
   .rw[if_neg hu] at aK;subst aK;have t1:((c.toNat:Int)==117)=false:=aI.2 a_;clear hu;exact qe
def iY (d:Nat×Nat):Bool:=decide (d.1<32)||(d.1==65533&&d.2==1)
def fK (l:aC):Int×Int:=
 if l.head?=some 92 then oR l else if iY (Lib.decodeL l) then(0,0) else(((Lib.decodeL l).1:Int),((Lib.decodeL l).2:Int))
theorem Tb (l:aC) (h:l≠ []):Lib.decodeGo (bs l)=Lib.decodeL l:=by
 have a:=nF (bs l) 0;rw[aY,List.drop_zero] at a;rw[a];unfold Lib.decodeGo;rw[if_neg];rw[aP];intro e;exact h (List.eq_nil_of_length_eq_zero a_)
theorem Tc (l:aC) (w:World) (hne:l≠ []) (hs:l.length<=4294967296) (hV:eQ w) (hT:dE w):
  Calls prog 184 #[bs l] w λe w'=>e=RW (fK l)/\aA w w':=by
 have sl:=aP l;have HV:=hid hV;clear hV;obtain⟨R,hR⟩:=exQ<|fK l;rw[hR];unfold fK at hR;have h0:0<(bs l).size:=by rw[aP];cases l with | nil=>exact absurd rfl hne | cons _ _=>simp
 have bF:=iX l 92 92 rfl h0;by_cases hb:l.head?=some 92
 .rw[if_pos hb] at hR;have t1:(((bs l)[0]'h0).toNat:Int)==92:=by rw[bF,hb];rfl
  have CE:=hid (λw h=>Ta l w hs h);obtain⟨ra,rb⟩:=R;rw[hR] at CE;unfold RW at CE;clear hR hb bF hne hT;go_in;go_wp2_with fail;refine aH (CE.out _ HV.out) λw1 o=>?_;exact bu
 .rw [if_neg hb] at hR;have t1:((((bs l)[0]'h0).toNat:Int)==92)=false:=by rw[bF];exact aI.2 hb
  have CD:=utf8_DecodeRuneInString (bs l) w hT;rw[Tb l hne] at CD;obtain⟨d,hd⟩:=exQ<|Lib.decodeL l;have bm:(d.1:Int)<=1114111:=by
   have h1:=nF (bs l) 0;rw[aY,List.drop_zero,hd] at h1;rw[h1];have:=(sP (bs l) 0).2;exact this
  rw[hd] at CD hR;obtain⟨c,z⟩:=d;unfold iY at hR;simp only[] at hR CD bm;have HC:=hid CD;clear CD hd bF hb hne hT HV;obtain⟨C,hC⟩: ∃C:Int,(c:Int)=C:=⟨_,rfl⟩;obtain⟨Z,hZ⟩: ∃Z:Int,(z:Int)=Z:=⟨_,rfl⟩;by_cases g1:c<32
  .rw[aQ g1,Bool.true_or,if_pos rfl] at hR;subst hR;have ga:C<32:=a_;simp only[hC,hZ] at HC;clear hC hZ g1 bm;exact OZ
  .rw[aJ g1,Bool.false_or] at hR;have ga: ¬C<32:=a_;by_cases g2:c=65533
   .have t2:(C==65533)=true:=beq_iff_eq.2 a_;by_cases g3:z=1
    .rw[if_pos (by simp[g2,g3])] at hR;subst hR;have t3:(Z==1)=true:=beq_iff_eq.2 a_;simp only[hC,hZ] at HC;clear hC hZ g1 g2 g3 bm;exact OZ
    .rw[if_neg (by simp[g2,g3])] at hR;subst hR;have t3:(Z==1)=false:=aI.2 a_;simp only[hC,hZ] at HC ⊢;clear hC hZ g1 g2 g3 bm;exact OZ
   .have t2:(C==65533)=false:=aI.2 a_;rw[if_neg (by simp[g2])] at hR;subst hR;simp only[hC,hZ] at HC ⊢;clear hC hZ g1 g2 bm;exact OZ
end Go.Proofs.YtfhjncbdgjlcoaaGreatDoor
namespace Go.Proofs
open Tryz
open Go.Shelf
def laysB168_ren:Go.Shelf.Ren:=⟨fun | 168=>183 | 240=>86 | 242=>208 | 276=>122 | 278=>218 | n=>n,fun | 0=>0 | 3=>3 | 4=>4 | 5=>5 | 9=>9 | 20=>20 | 21=>21 | 37=>97 | 46=>184 | 51=>212 | 53=>194 | 70=>96 | 72=>99 | 75=>102 | 80=>105 | 164=>149 | 127=>130 | n=>n,fun | n=>n⟩
theorem laysB168:Go.Proofs.Lays.n168 prog laysB168_ren:= {
 mixed:=by kernel_rfl
 f168:=func183.trans (congrArg some (by kernel_rfl))
 f240:=func86.trans (congrArg some (by kernel_rfl))
 f242:=func208.trans (congrArg some (by kernel_rfl))
 f276:=func122.trans (congrArg some (by kernel_rfl))
 f278:=func218.trans (congrArg some (by kernel_rfl))
 t0:=underlying0
 a0:=isAgg0
 z0:=sizeOf0
 v0:=zeroValue0
 t3:=underlying3
 a3:=isAgg3
 z3:=sizeOf3
 v3:=zeroValue3
 t4:=underlying4
 a4:=isAgg4
 z4:=sizeOf4
 v4:=zeroValue4
 t5:=underlying5
 a5:=isAgg5
 z5:=sizeOf5
 v5:=zeroValue5
 t9:=underlying9
 a9:=isAgg9
 z9:=sizeOf9
 v9:=zeroValue9
 t20:=underlying20
 a20:=isAgg20
 z20:=sizeOf20
 v20:=zeroValue20
 t21:=underlying21
 a21:=isAgg21
 z21:=sizeOf21
 v21:=zeroValue21
 t37:=underlying97
 a37:=isAgg97
 z37:=sizeOf97
 v37:=zeroValue97
 t46:=underlying184
 a46:=isAgg184
 z46:=sizeOf184
 v46:=zeroValue184
 t51:=underlying212
 a51:=isAgg212
 z51:=sizeOf212
 v51:=zeroValue212
 t70:=underlying96
 a70:=isAgg96
 z70:=sizeOf96
 v70:=zeroValue96
 t72:=underlying99
 a72:=isAgg99
 z72:=sizeOf99
 v72:=zeroValue99
 t75:=underlying102
 a75:=isAgg102
 z75:=sizeOf102
 v75:=zeroValue102
 t164:=underlying149
 a164:=isAgg149
 z164:=sizeOf149
 v164:=zeroValue149
}
theorem BuilderB168_Extra:Builder.Extra prog laysB168_ren where
 sizeBuilder:=by kernel_rfl
 liesBuilder:=by kernel_rfl
 t5:=underlying5
 a5:=isAgg5
 z5:=sizeOf5
 v5:=zeroValue5
 infoByte:=by kernel_rfl
 cellsByte:=by kernel_rfl
 sizeByte:=by kernel_rfl
 neB5:=by decide
namespace YtfhjncbdgjlcoaaGreatDoor
open Go.RowKit
def oS (B b:Nat) (l:aC) (w:World):Prop:=Lib.IsBuilderF 99 5 B b (Lib.byteCells l) w
theorem oS.new (w:World):oS w.heap.size w.heap.size [] (w.alloc (.cells #[.pointer none,()] 99)):=Lib.IsBuilderF.of (Lib.fresh_isBuilder 99 5 w)
theorem oS.keep {B b:Nat}{l:aC}{w w':World} (h:oS B b l w) (hb:aA w w'):oS B b l w':=Lib.IsBuilderF.below h hb
theorem zL (B b:Nat) (l:aC) (r:Int) (w:World) (h:oS B b l w) (hr:0<=r/\r<=1114111) (hl:l.length<=4294967296) (hB:B<=w.heap.size):
  Calls prog 183 #[some b, .int .i32 r] w λe w'=>e= .returned (.tuple #[.int .i64 (Lib.runeCells r).length, .nilIface])/\oS B b (l++Lib.encodeRune r) w'/\Below B w w'/\Lib.OthersKept 5 (some b) w w':=
 (Any.Builder_WriteRune_k laysB168 BuilderB168_Extra B b _ r (by omega) (by omega) w h (by rw[Lib.byteCells_length];omega) hB).mono λ_ _ ⟨a,d,c,f⟩=>⟨a,by unfold oS;rw[Lib.byteCells_append,Lib.byteCells_encodeRune];exact Or.inr d,c,f⟩
end YtfhjncbdgjlcoaaGreatDoor
end Go.Proofs
namespace Go.Proofs
open Tryz
open Go.Shelf
namespace YtfhjncbdgjlcoaaGreatDoor
open Go.RowKit
end YtfhjncbdgjlcoaaGreatDoor
end Go.Proofs
namespace Go.Proofs
open Tryz
open Go.Shelf
namespace YtfhjncbdgjlcoaaGreatDoor
open Go.RowKit
end YtfhjncbdgjlcoaaGreatDoor
end Go.Proofs
namespace Go.Proofs.YtfhjncbdgjlcoaaGreatDoor
open Tryz
open Go.RowKit
open Go.Lib hiding intOf
def eG:Nat->aC->Nat->aC->aC×Int×Int
 | 0,_,i,_=>([],(i:Int),2)
 | _+1,[],i,_=>([],(i:Int),2)
 | f+1,c::r,i,acc=>if c=34 then(acc,(i:Int)+1,0) else if(fK (c::r)).2=0 then([],(i:Int),2) else
  eG f ((c::r).drop (fK (c::r)).2.toNat) (i+(fK (c::r)).2.toNat) (acc++Lib.encodeRune (fK (c::r)).1)
def cD (l:aC) (at':Int):aC×Int×Int:=
 if 0<=at'/\l[at'.toNat]?=some 34 then eG (l.length+1) (l.drop (at'.toNat+1)) (at'.toNat+1) [] else([],at',2)
def iF (r:aC×Int×Int):Ending:= .returned (.tuple #[bs r.1,r.2.1,r.2.2])
theorem Td (l:aC):0<=(mL l).1/\(mL l).1<=1114111/\((mL l).2=0\/(1<=(mL l).2/\(mL l).2<=l.length)):=by
 unfold mL;cases h1:jE (l.drop 2) with
 | none=>simp
 | some h=>
  obtain⟨h2,a⟩:=uE h1;rw[bC] at a;simp only[];split
  .simp
  .split
   .exact am
   .split
    .simp
    .cases h4:jE (l.drop 8) with
     | none=>simp
     | some lo=>
      obtain⟨h5,b⟩:=uE h4;rw[bC] at b;simp only[];split
      .simp
      .exact am
theorem Te (n:Int):0<=(kI n).1/\(kI n).1<=1114111:=by
 unfold kI
 repeat' split
 all_goals simp
theorem sR (l:aC) (hne:l≠ []):0<=(fK l).1/\(fK l).1<=1114111/\((fK l).2=0\/(1<=(fK l).2/\(fK l).2<=l.length)):=by
 unfold fK;split
 .unfold oR;cases h:l[1]? with
  | none=>simp
  | some c=>
   have hl:1<l.length:=(aW.1 h).1;have hm:=Te c.toNat;simp only[];split
   .exact am
   .split
    .exact Td l
    .simp
 .split
  .simp
  .have a:=nF (bs l) 0;rw[aY,List.drop_zero] at a;have e:=sP (bs l) 0;have b:0<(bs l).size:=by rw[aP];cases l with | nil=>exact absurd rfl hne | cons _ _=>simp
   have d:=mJ (bs l) 0 b;have sl:=aP l;unfold bU at e;unfold bN at d;rw[a];simp only[];omega
theorem In (l:aC) (a:Nat) (w:World) (hs:l.length<=1073741824) (ha:a<=l.length) (hV:eQ w) (hT:dE w):
  Calls prog 149 #[bs l,a] w λe w'=>e=iF (cD l a)/\aA w w':=by
 have R6:=trivial;exact PY
def eH (l:aC):aC×Int×Int:=
 if(cD l 0).2.2=0/\(cD l 0).2.1<l.length then([],(cD l 0).2.1,2) else cD l 0
def lF (l:aC) (a:Int):Int×Int:=if a<0\/(l.length:Int)<a then(0,2) else((cD l a).2.1,(cD l a).2.2)
theorem Io (l:aC) (a:Int) (w:World) (hs:l.length<=1073741824) (hV:eQ w) (hT:dE w):
  Calls prog 178 #[bs l,a] w (aT w (.tuple #[.int .i64 (lF l a).1, .int .i64 (lF l a).2])):=by
 have M8:=trivial;exact I0
theorem zM (l:aC) (w:World) (hs:l.length<=1073741824) (hV:eQ w) (hT:dE w):
  Calls prog 112 #[bs l] w λe w'=>e=iF (eH l)/\aA w w':=by
 have MX:=trivial;exact IQ
end Go.Proofs.YtfhjncbdgjlcoaaGreatDoor
