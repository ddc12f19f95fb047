import Derived.Test.YtfhjncbdgjlcoaaGreatDoorYa0
import Derived.WalkSpells
import Derived.WalkLawsBesides
import Derived.Lib.RuneCountTail
import Derived.Test.YtfhjncbdgjlcoaaGreatDoorShelf
set_option linter.unusedVariables false
set_option linter.unusedSimpArgs false
namespace Go.Proofs.YtfhjncbdgjlcoaaGreatDoor
section
open Go.RowKit
abbrev aB:=@RowKit.Below.refl
abbrev aD:=@Nat.le_refl
abbrev aE:=@beq_eq_false_iff_ne
abbrev aG:=@decide_eq_false
abbrev aI:=@Array.getD_eq_getD_getElem?
abbrev aK:=@And.intro
abbrev aO:=@decide_eq_true
abbrev aR:=@List.getElem?_eq_some_iff
abbrev aT:=@List.length_append
abbrev aU:=@List.length_drop
abbrev aV:=@Option.some.inj
abbrev aZ:=@Nat.le_trans
abbrev bC:=@List.getElem?_eq_getElem
abbrev bD:=@List.mem_of_getElem?
abbrev bH:=@List.length_cons
abbrev bR:=@List.length_map
abbrev bT:=@List.length_take
abbrev bZ:=@List.getElem?_cons_succ
abbrev cG:=@Option.some.injEq
abbrev cP:=@List.set_cons_succ
abbrev cR:=@List.getElem?_cons_zero
abbrev dA:=@List.getElem?_toArray
abbrev dE:=@List.getElem?_map
abbrev dF:=@List.setIfInBounds_toArray
abbrev dG:=@List.set_cons_zero
abbrev dS:=@List.length_singleton
abbrev dY:=@Nat.zero_le
abbrev eC:=@RowKit.Below.heap_setCell
abbrev eF:=@bne_iff_ne
abbrev fK:=@Bool.and_eq_true
abbrev fL:=@List.drop_eq_getElem_cons
abbrev fV:=@Int.toNat_natCast
abbrev fY:=@List.mem_cons
abbrev gW:=@List.all_eq_true
abbrev iX:=@Nat.lt_of_lt_of_le
abbrev jJ:=@List.drop_drop
abbrev jS:=@decide_eq_true_eq
abbrev kR:=@List.getElem?_drop
abbrev kS:=@List.length_nil
abbrev kT:=@List.getElem?_append_right
abbrev lI:=@Array.getElem?_eq_some_iff
abbrev lN:=@List.mem_cons_self
abbrev mU:=@List.append_assoc
abbrev mW:=@Nat.le_of_eq
abbrev mX:=@List.mem_singleton
abbrev nE:=@List.map_append
abbrev oR:=@List.map_cons
abbrev qK:=@List.cons_append
abbrev qM:=@List.nil_append
abbrev qO:=@List.getElem?_append_left
abbrev qV:=@List.length_pos_iff
abbrev rQ:=@List.mem_map
abbrev rR:=@List.take_append_drop
abbrev rT:=@List.mem_append
abbrev rY:=@Nat.not_lt_zero
abbrev sK:=@World.size_alloc
abbrev tS:=@Option.map_eq_some_iff
abbrev tV:=@Nat.lt_succ_self
abbrev uC:=@List.take_of_length_le
abbrev Im:=@Array.getElem?_setIfInBounds
abbrev Iu:=@List.getElem?_eq_none_iff
theorem exQ{α:Sort _}(a:α):∃x,a=x:=⟨_,rfl⟩
theorem Pn {a b:Value} (h:a=b):Ending.returned a= .returned b:=by rw[h]
theorem mA {k:IntKind}{a b:Int} (h:a=b):Ending.returned (.int k a)= .returned (.int k b):=by rw[h]
theorem pL {a b:Bool} (h:a=b):Ending.returned (.bool a)= .returned (.bool b):=by rw[h]
theorem vD {W w1:World} (hb:Below W.heap.size W w1):(∀b o,b<W.heap.size->w1.cell? ⟨b,o,none⟩=W.cell? ⟨b,o,none⟩)/\(∀b o,b<W.heap.size->w1.frozen? ⟨b,o,none⟩=W.frozen? ⟨b,o,none⟩):=
 ⟨λb o h=>hb.cell (p:=⟨b,o,none⟩) h,λb o h=>hb.frozen (p:=⟨b,o,none⟩) h⟩
theorem rM {P:Program}{ops:Array Oper}{rest:List Oper}{o:Oper}{a:Act}{Q:Exit->Act->World->Prop} (hgd:o.guard=none) (s x:Operand) (t:TypeId)
  (ho:o.op= .call { callee:= .builtin .append,args:= #[s,x],argTypes:= #[t,t] })
  (base:Nat) (e:TypeId) (i:TypeInfo) (z:Value) (size bytes:Nat) (ht:P.underlying t=some (.slice e)) (hi:P.info? e=some i) (hz:i.zero=some z)
  (hsize:i.size=size) (hby:i.bytes=bytes) (hzs:z.cells.size=size) (hsz:0<size)
  (w:World) (v:Value) (n:Nat) (xs:List Value) (hs:a.eval s=v) (hown:w.ownsRow base e size v n xs)
  (cs:Array Value) (hx:a.eval x= .slice (some ⟨w.heap.size,0,none⟩) 1 1) (hcs:cs.size=size) (h1: ∀u∈cs.toList,u.oneCell'=true)
  (hn:n+1<=4294967296) (hbt:bytes<=256) (hbase:base<=w.heap.size)
  (h: ∀v' w',w'.ownsRow base e size v' (n+1) (xs++cs.toList)->w.heap.size<=w'.heap.size->Below base w w'->(∀k,k<w.heap.size->some k≠v.ownBlock->w'.heap[k]?=w.heap[k]?)->v'≠ .slice none 0 0->wpList P ops Q rest (a.put o.dst v') w'):wpList P ops Q (o::rest) a (w.alloc (.cells cs e)):=by
 have hmul:(n+1)*bytes<=4294967296*256:=Nat.mul_le_mul hn hbt;refine wpList_append_own _ hgd s x t ho base e i z size bytes ht hi hz hsize hby hzs hsz v n xs hs (hown.alloc _) ⟨w.heap.size,0,none⟩ 1 1 cs.toList hx (by simp[hcs]) ?_ h1 o_ a_ h_ ?_
 ·exact jm
 ·intro v' w' l f m;have b:Below base w w':=((aB base w).alloc hbase _).grown f h_ (λk d=>((hown.alloc (.cells cs e)).lt k d).1);refine h v' w' l b.size b (λk d c=>?_) (λp=>?_)
  ·rw[f.block k h_ c,Below.heap_alloc _ _ _ d]
  ·have:=(m.1 p).2;omega
theorem aC {W w w':World} (h:Below W.heap.size W w) (h2:Below w.heap.size w w'):Below W.heap.size W w':=h.trans (h2.mono h.size)
end
section
open Go.RowKit
open Go.Lib
def jH (c:Int):Int:=if c<128 then 1 else if 194<=c/\c<=223 then 2 else if 224<=c/\c<=239 then 3 else if 240<=c/\c<=244 then 4 else 0
def eU (s:ByteArray) (k:Nat):Int:=((s.data.toList.getD k 0).toNat:Int)
theorem yO (s:ByteArray) (k:Nat) (h:k<s.size):((s[k]'h).toNat:Int)=eU s k:=by
 unfold eU;rw[List.getD_eq_getElem?_getD,Array.getElem?_toList,Array.getElem?_eq_getElem h];rfl
theorem tJ (s:ByteArray) (k:Nat):0<=eU s k/\eU s k<=255:=by
 unfold eU;have:=(s.data.toList.getD k 0).toNat_lt;omega
def kI (s:ByteArray):Nat->Nat->Int->Option Int
 | 0,_,v=>some v
 | j+1,k,v=>if eU s k<128\/191<eU s k then none else kI s j (k+1) (64*v+eU s k-128)
def jI (b n:Int):Int:=if n=2 then b-192 else if n=3 then b-224 else if n=4 then b-240 else b
def oN (n v:Int):Bool:=decide (n=3/\v<2048\/n=4/\v<65536\/1114111<v\/55296<=v/\v<57344)
def qH (s:ByteArray) (i:Nat):Int×Int:=
 let n:=jH (eU s i)
 if n=0\/(s.size:Int)-i<n then(65533,1) else
 match kI s (n.toNat-1) (i+1) (jI (eU s i) n) with
 | none=>(65533,1)
 | some v=>if oN n v then(65533,1) else(v,n)
def rN (j:Nat):Int:=if j<=1 then 256 else if j=2 then 16384 else if j=3 then 1048576 else 67108864
theorem Po (j:Nat) (h:j<=3):rN j<=1048576:=by unfold rN;(repeat split)<;>omega
theorem Pp (j:Nat) (V b:Int) (hV:V<rN j) (h1:1<=j) (h3:j<=3) (hb:b<=191):64*V+b-128<rN (j+1):=by
 have:j=1\/j=2\/j=3:=a_
 rcases this with rfl|rfl|rfl<;>simp[rN] at hV ⊢ <;>omega
theorem Pq (c:Int):jH c=0\/jH c=1\/jH c=2\/jH c=3\/jH c=4:=by
 unfold jH;repeat' split
 all_goals omega
theorem Ps (c n:Int) (h:jH c=n) (h0:0<=c) (h255:c<=255):0<=jI c n/\jI c n<256:=by
 subst h;unfold jI jH;(repeat split)<;>omega
def qI (s:ByteArray) (i:Nat) (n:Int):Int×Int:=
 match kI s (n.toNat-1) (i+1) (jI (eU s i) n) with
 | none=>(65533,1)
 | some v=>if oN n v then(65533,1) else(v,n)
theorem Pt (b n:Int):(n=1->jI b n=b)/\(n=2->jI b n=b-192)/\(n=3->jI b n=b-224)/\(n=4->jI b n=b-240):=by
 unfold jI;refine⟨?_,?_,?_,?_⟩<;>rintro rfl<;>simp
theorem Gx (s:ByteArray) (n:Int) (i j:Nat) (V:Int) (hj:(j:Int)<n):kI s (n.toNat-j) (i+j) V=if eU s (i+j)<128\/191<eU s (i+j) then none else kI s (n.toNat-(j+1)) (i+(j+1)) (64*V+eU s (i+j)-128):=by
 rw[show n.toNat-j=(n.toNat-(j+1))+1 by omega];rfl
theorem Pu {s:ByteArray}{i j:Nat}{n V:Int}{R:Int×Int} (HR:Hid (qI s i n=R)) (HT:Hid (kI s (n.toNat-1) (i+1) (jI (eU s i) n)=kI s (n.toNat-j) (i+j) V)) (hj:(j:Int)<n)
  (hlt:i+j<s.size) (hb:((s[i+j]'hlt).toNat:Int)<128\/191<((s[i+j]'hlt).toNat:Int)):R=(65533,1):=by
 rw[yO] at hb;have h:=HT.out;rw[Gx s n i j V hj,if_pos hb] at h;rw[<-HR.out,qI,h]
theorem Pv {s:ByteArray}{i j:Nat}{n V:Int}{R:Int×Int} (HR:Hid (qI s i n=R)) (HT:Hid (kI s (n.toNat-1) (i+1) (jI (eU s i) n)=kI s (n.toNat-j) (i+j) V)) (hj:n<=(j:Int)):
  R=if oN n V then(65533,1) else(V,n):=by
 have h:=HT.out;rw[show n.toNat-j=0 by omega] at h;rw[<-HR.out,qI,h];rfl
theorem Pw {s:ByteArray}{i j:Nat}{n V:Int} (HT:Hid (kI s (n.toNat-1) (i+1) (jI (eU s i) n)=kI s (n.toNat-j) (i+j) V)) (hj:(j:Int)<n)
  (hlt:i+j<s.size) (h1:128<=((s[i+j]'hlt).toNat:Int)) (h2:((s[i+j]'hlt).toNat:Int)<=191):Hid (kI s (n.toNat-1) (i+1) (jI (eU s i) n)=kI s (n.toNat-(j+1)) (i+(j+1)) (64*V+((s[i+j]'hlt).toNat:Int)-128)):=by
 rw[yO] at h1 h2 ⊢;have h:=HT.out;rw[Gx s n i j V hj,if_neg a_] at h;exact h
theorem Gy {a b:Int}{R:Int×Int} (h:R=(a,b)):Ending.returned (.tuple #[.int .i32 a,b])= .returned (.tuple #[.int .i32 R.1,R.2]):=by subst h;rfl
def yP (b1 b2 b3:Int):Nat->Int->Option Int
 | 0,v=>some v
 | 1,v=>if b1<128\/191<b1 then none else some (64*v+b1-128)
 | 2,v=>if b1<128\/191<b1 then none else if b2<128\/191<b2 then none else some (64*(64*v+b1-128)+b2-128)
 | _,v=>if b1<128\/191<b1 then none else if b2<128\/191<b2 then none else if b3<128\/191<b3 then none else some (64*(64*(64*v+b1-128)+b2-128)+b3-128)
theorem Cc (s:ByteArray) (k j:Nat) (v:Int) (h:j<=3):kI s j k v=yP (eU s k) (eU s (k+1)) (eU s (k+2)) j v:=by
 rcases(show j=0\/j=1\/j=2\/j=3 by omega) with rfl|rfl|rfl|rfl<;>rfl
def mR (n b0 b1 b2 b3:Int):Int×Int:=
 if b0<128 then(if n<1 then(65533,1) else(b0,1)) else
 if 194<=b0/\b0<=223 then(if n<2 then(65533,1) else if b1<128\/191<b1 then(65533,1) else(64*(b0-192)+b1-128,2)) else
 if 224<=b0/\b0<=239 then(if n<3 then(65533,1) else if b1<128\/191<b1 then(65533,1) else if b2<128\/191<b2 then(65533,1) else
  if 64*(64*(b0-224)+b1-128)+b2-128<2048\/55296<=64*(64*(b0-224)+b1-128)+b2-128/\64*(64*(b0-224)+b1-128)+b2-128<57344 then(65533,1) else(64*(64*(b0-224)+b1-128)+b2-128,3)) else
 if 240<=b0/\b0<=244 then(if n<4 then(65533,1) else if b1<128\/191<b1 then(65533,1) else if b2<128\/191<b2 then(65533,1) else if b3<128\/191<b3 then(65533,1) else
  if 64*(64*(64*(b0-240)+b1-128)+b2-128)+b3-128<65536\/1114111<64*(64*(64*(b0-240)+b1-128)+b2-128)+b3-128 then(65533,1) else(64*(64*(64*(b0-240)+b1-128)+b2-128)+b3-128,4)) else(65533,1)
theorem Px (n b0 b1 b2 b3:Nat) (h0:b0<256) (h1:b1<256) (h2:b2<256) (h3:b3<256) (hn:1<=n):
  mR n b0 b1 b2 b3=(((decodeN n b0 b1 b2 b3).1:Int),((decodeN n b0 b1 b2 b3).2:Int)):=by
 by_cases c1:b0<128
 ·have: ¬(n:Int)<1:=a_
  simp[mR,decodeN,c1,show (b0:Int)<128 by omega,this]
 by_cases c2:194<=b0/\b0<=223
 ·simp only[mR,decodeN,c1,show ¬(b0:Int)<128 by omega,show (194<=(b0:Int)/\(b0:Int)<=223) by omega,if_false,if_true,and_self,show b0 / 32=6 by omega,true_and,show ¬b0 / 16=14 by omega,show ¬b0 / 8=30 by omega,false_and];exact fq
 by_cases c3:224<=b0/\b0<=239
 ·simp only[mR,decodeN,c1,show ¬(b0:Int)<128 by omega,show ¬(194<=(b0:Int)/\(b0:Int)<=223) by omega,show (224<=(b0:Int)/\(b0:Int)<=239) by omega,if_false,if_true,and_self,show ¬b0 / 32=6 by omega,true_and,show b0 / 16=14 by omega,show ¬b0 / 8=30 by omega,false_and];exact fq
 by_cases c4:240<=b0/\b0<=244
 ·simp only[mR,decodeN,c1,show ¬(b0:Int)<128 by omega,show ¬(194<=(b0:Int)/\(b0:Int)<=223) by omega,show ¬(224<=(b0:Int)/\(b0:Int)<=239) by omega,show (240<=(b0:Int)/\(b0:Int)<=244) by omega,if_false,if_true,and_self,show ¬b0 / 32=6 by omega,true_and,show ¬b0 / 16=14 by omega,show b0 / 8=30 by omega,false_and];exact fq
 ·rw[show mR n b0 b1 b2 b3=(65533,1) by unfold mR;rw[if_neg a_,if_neg a_,if_neg a_,if_neg a_]];simp only[decodeN,c1,if_false,show ¬b0 / 16=14 by omega,false_and]
  repeat' split
  all_goals first | rfl | (exfalso;omega)
theorem Py (s:ByteArray) (i:Nat):qH s i=mR ((s.size:Int)-i) (eU s i) (eU s (i+1)) (eU s (i+2)) (eU s (i+3)):=by
 have hb:=tJ s i;have e2:i+1+1=i+2:=rfl;have e3:i+1+2=i+3:=rfl;unfold qH;generalize eU s i=b0 at *;generalize (s.size:Int)-i=n;by_cases c1:b0<128
 ·simp only[jH,mR,c1,if_true];by_cases hn:n<1
  ·rw[if_pos a_,if_pos hn]
  ·rw[if_neg a_,if_neg hn];have c:jI b0 1=b0:=(by simp[jI]);simp only[show (1:Int).toNat-1=0 from rfl,kI,c];rw[if_neg];simp[oN];omega
 by_cases c2:194<=b0/\b0<=223
 ·simp only[jH,mR,c1,if_false,c2,and_self,if_true];by_cases hn:n<2
  ·rw[if_pos a_,if_pos hn]
  ·rw[if_neg a_,if_neg hn];rw[Cc _ _ _ _ b_,e2,e3];simp only[show (2:Int).toNat-1=1 from rfl,yP,jI,if_true];have a:=tJ s (i+1);generalize eU s (i+1)=b1 at *;by_cases h1:b1<128\/191<b1
   ·simp only[if_pos h1]
   ·simp only[if_neg h1];rw[if_neg];simp[oN];omega
 by_cases c3:224<=b0/\b0<=239
 ·have BL:=trivial;exact uj
 by_cases c4:240<=b0/\b0<=244
 ·have BM:=trivial;exact uj
 ·simp only[jH,mR,c1,if_false,c2,c3,c4];simp
theorem Pz (s:ByteArray) (i:Nat) (hi:i<s.size):qH s i=(((Utf8.decode s i).1:Int),((Utf8.decode s i).2:Int)):=by
 rw[Py,decode_N,<-Px _ _ _ _ _ (UInt8.toNat_lt _) (UInt8.toNat_lt _) (UInt8.toNat_lt _) (UInt8.toNat_lt _) z_];have:s.data.toList.length=s.size:=rfl;rw[this];unfold eU;congr 1;omega
def bL (s:ByteArray) (i:Nat):Int:=((Utf8.decode s i).1:Int)
def bG (s:ByteArray) (i:Nat):Nat:=(Utf8.decode s i).2
theorem rO (s:ByteArray) (i:Nat):0<=bL s i/\bL s i<=1114111:=by
 unfold bL;have:=rune_le s i;omega
theorem Qa (n b0 b1 b2 b3:Nat) (hn:1<=n):(decodeN n b0 b1 b2 b3).2<=4/\(decodeN n b0 b1 b2 b3).2<=n:=by
 unfold decodeN;repeat' split
 all_goals (simp only[];omega)
theorem lH (s:ByteArray) (i:Nat) (hi:i<s.size):1<=bG s i/\bG s i<=4/\i+bG s i<=s.size:=by
 unfold bG;have h1:=width_pos s i;rw[decode_at] at *;have:=Qa (s.size-i) (s.get! i).toNat (s.get! (i+1)).toNat (s.get! (i+2)).toNat (s.get! (i+3)).toNat a_;omega
def fB (s:ByteArray) (i:Nat):Bool:=!(bL s i==65533&&((bG s i:Nat):Int)==1)
theorem vE {w:World}{b o:Nat}{v:Value} (h:w.cell? ⟨b,o,none⟩=some v):b<w.heap.size:=World.block_lt_of_cell? w _ h
def mS (s:ByteArray):Nat->Nat->Option Nat
 | 0,_=>none
 | f+1,pos=>if pos<s.size then(if fB s pos then mS s f (pos+bG s pos) else some pos) else none
def wS (s:ByteArray):Option Nat:=mS s s.size 0
def kQ (s:ByteArray):Int×Bool:=match wS s with | some p=>(p,false) | none=>(s.size,true)
theorem Qb (s:ByteArray) (f pos:Nat) (h:s.size<=pos):mS s f pos=none:=by
 cases f
 ·rfl
 ·unfold mS;rw[if_neg a_]
theorem Qc (s:ByteArray) (f pos:Nat) (h:pos<s.size) (hg:fB s pos=true) (hf:s.size<=f+pos): ∃g,mS s f pos=mS s g (pos+bG s pos)/\s.size<=g+(pos+bG s pos):=by
 obtain⟨g,rfl⟩: ∃g,f=g+1:=⟨f-1,a_⟩;have:=lH s pos h;refine⟨g,?_,a_⟩;show (if pos<s.size then(if fB s pos then mS s g (pos+bG s pos) else some pos) else none)=_;rw[if_pos h,if_pos hg]
theorem Qd (s:ByteArray) (f pos:Nat) (h:pos<s.size) (hg:fB s pos=false) (hf:s.size<=f+pos):mS s f pos=some pos:=by
 obtain⟨g,rfl⟩: ∃g,f=g+1:=⟨f-1,a_⟩;show (if pos<s.size then(if fB s pos then mS s g (pos+bG s pos) else some pos) else none)=_;rw[if_pos h,hg];rfl
def mT (s:ByteArray) (pos:Nat):Prop:= ∃f,wS s=mS s f pos/\s.size<=f+pos
theorem mT.zero (s:ByteArray):mT s 0:=⟨s.size,rfl,a_⟩
theorem mT.next {s:ByteArray}{pos:Nat} (h:mT s pos) (hp:pos<s.size) (hg:fB s pos=true):mT s (pos+bG s pos):=by
 obtain⟨f,c,a⟩:=h;obtain⟨g,b,d⟩:=Qc s f pos hp hg a;exact⟨g,c.trans b,d⟩
theorem mT.bad {s:ByteArray}{pos:Nat} (h:mT s pos) (hp:pos<s.size) (hg:fB s pos=false):kQ s=((pos:Int),false):=by
 obtain⟨f,a,b⟩:=h;unfold kQ;rw[a,Qd s f pos hp hg b]
theorem mT.fin {s:ByteArray}{pos:Nat} (h:mT s pos) (hp:s.size<=pos):kQ s=((s.size:Int),true):=by
 obtain⟨f,a,h2⟩:=h;unfold kQ;rw[a,Qb s f pos hp]
theorem mB (s:ByteArray) (pos:Nat):decodeL (s.data.toList.drop pos)=Utf8.decode s pos:=by
 rw[decodeL_N,decode_N];simp only[aU,List.getD_eq_getElem?_getD,kR,Nat.add_zero]
theorem Qe (s:ByteArray) (pos:Nat):fB s pos=decide (¬((Utf8.decode s pos).1=65533/\(Utf8.decode s pos).2=1)):=by
 unfold fB bL bG;rw[Bool.eq_iff_iff];simp;omega
theorem Gz (s:ByteArray): ∀f pos,s.size<=f+pos->validGoD f (s.data.toList.drop pos)=(mS s f pos).isNone
 | 0,pos,h=>by simp[validGoD,mS]
 | f+1,pos,h=>by
  have hl:s.data.toList.length=s.size:=rfl;unfold validGoD mS;by_cases hp:pos<s.size
  ·have a: ¬(s.data.toList.drop pos= []):=by rw[List.drop_eq_nil_iff];omega
   have b:=lH s pos hp;rw[if_neg a,if_pos hp,mB,Qe];by_cases hb:(Utf8.decode s pos).1=65533/\(Utf8.decode s pos).2=1
   ·rw[if_pos hb];simp[hb]
   ·rw[if_neg hb,jJ];have ih:=Gz s f (pos+bG s pos) a_;unfold bG at ih b ⊢;rw[ih,aO hb];rfl
  ·have a:s.data.toList.drop pos= []:=by rw[List.drop_eq_nil_iff];omega
   rw[if_pos a,if_neg hp];rfl
theorem Ha (s:ByteArray):Lib.validD s.data.toList=(wS s).isNone:=by
 unfold Lib.validD wS;have:=Gz s s.size 0 a_;simpa using this
theorem Qf {s:ByteArray} (h:Lib.validD s.data.toList=true):kQ s=((s.size:Int),true):=by
 rw[Ha,Option.isNone_iff_eq_none] at h;unfold kQ;rw[h]
theorem wT {R:Int×Bool}{a:Int}{b:Bool} (h:R=(a,b)):Ending.returned (.tuple #[a,b])= .returned (.tuple #[R.1,R.2]):=by subst h;rfl
theorem Qg {s:ByteArray}{pos:Nat} (h:bL s pos≠65533):fB s pos=true:=by
 unfold fB;rw[aE.2 h];rfl
theorem Qh {s:ByteArray}{pos:Nat} (h:bG s pos≠1):fB s pos=true:=by
 unfold fB;rw[show (((bG s pos:Nat):Int)==1)=false from aE.2 a_];simp
theorem Qi {s:ByteArray}{pos:Nat} (h:bL s pos=65533) (h1:bG s pos=1):fB s pos=false:=by
 unfold fB;rw[h,h1];rfl
theorem aF {w:World}{k:Nat}{o:Obj} (h:w.heap[k]?=some o):k<w.heap.size:=(lI.1 h).1
end
section
def bs (l:List UInt8):ByteArray:=⟨l.toArray⟩
theorem aQ (l:List UInt8):(bs l).data.toList=l:=by simp[bs]
theorem aM (l:List UInt8):(bs l).size=l.length:=by simp[bs,ByteArray.size]
theorem wU (s:ByteArray):bs s.data.toList=s:=by cases s;simp[bs]
theorem Qj {a b:List UInt8} (h:bs a=bs b):a=b:=by rw[<-aQ a,h,aQ]
def dM (b:UInt8):Bool:=decide (48<=b.toNat/\b.toNat<=57)
def cV (l:List UInt8):Bool:=!l.isEmpty&&l.all dM
structure dU where
 neg:Bool
 dig:List UInt8
 exp:Int
deriving DecidableEq
def cF:dU:=⟨false,[],0⟩
def oO (n:dU):Prop:=cV n.dig=true/\n.dig.length<=1000/\n.dig.head?≠some 48/\n.dig.getLast?≠some 48/\ -1000000<=n.exp/\n.exp<=1000000
instance (n:dU):Decidable (oO n):=by unfold oO;infer_instance
def jO (n:dU):Bool:=decide (n=cF\/oO n)
def cI (p:UInt8->Bool) (l:List UInt8):List UInt8×List UInt8×Bool:=
 match l.dropWhile (λc=>!p c) with
 | []=>(l,[],false)
 | _::t=>(l.takeWhile (λc=>!p c),t,true)
def eV (c:UInt8):Bool:=c==101||c==69
def gV (c:UInt8):Bool:=c==46
structure vF where
 neg:Bool
 whole:List UInt8
 rest:List UInt8
 low:Bool
 exp:List UInt8
def fJ (l:List UInt8):List UInt8:=if l.head?=some 45 then l.drop 1 else l
def eW (l:List UInt8):List UInt8:=if l.head?=some 45\/l.head?=some 43 then l.drop 1 else l
def pM (has pt:Bool) (x whole rest:List UInt8):Bool:=(!has||cV x)&&(cV whole&&(!pt||cV rest))&&(whole== [48]||whole.head? !=some 48)
def kJ (l:List UInt8):Option vF:=
 let c:=cI eV (fJ l)
 let m:=cI gV c.1
 let x:=if c.2.2 then eW c.2.1 else []
 if pM c.2.2 m.2.2 x m.1 m.2.1 then some ⟨l.head?==some 45,m.1,m.2.1,c.2.2&&c.2.1.head?==some 45,x⟩ else none
def eL (l:List UInt8):Int:=l.foldl (λa c=>10*a+((c.toNat:Int)-48)) 0
def cJ (l:List UInt8):List UInt8:=l.dropWhile (· ==48)
def cN (l:List UInt8):List UInt8:=(l.reverse.dropWhile (· ==48)).reverse
def nN (x:vF):dU×Int:=
 if 1000<x.whole.length+x.rest.length then(cF,3) else
 if 9<(cJ x.exp).length then(cF,4) else
 let e:=if x.low then-eL x.exp else eL x.exp
 let d:=cJ (x.whole++x.rest)
 if d= [] then(cF,0) else
 let k:=e-x.rest.length+(d.length-(cN d).length)
 if k< -1000000\/1000000<k then(cF,4) else(⟨x.neg,cN d,k⟩,0)
def dP (l:List UInt8):dU×Int:=match kJ l with | none=>(cF,2) | some x=>nN x
theorem Cd (a:List UInt8) (c:UInt8):eL (a++ [c])=10*eL a+((c.toNat:Int)-48):=by
 unfold eL;rw[List.foldl_append];rfl
theorem yQ: ∀l:List UInt8,eL (cJ l)=eL l
 | []=>rfl
 | c::t=>by
  unfold cJ;rw[List.dropWhile_cons];by_cases h:c=48
  ·subst h;have:=yQ t;unfold cJ at this;rw[if_pos b_,this];unfold eL;rfl
  ·rw[if_neg r_]
theorem Hb: ∀l:List UInt8,l.all dM=true->0<=eL l/\eL l<10 ^ l.length:=by
 intro l
 induction hn:l.length generalizing l with
 | zero=>intro _;have:l= []:=List.eq_nil_of_length_eq_zero hn;subst this;simp[eL]
 | succ n ih=>
  intro h;have b:l≠ []:=by intro e;subst e;simp at hn
  obtain⟨a,c,rfl⟩: ∃a c,l=a++ [c]:=⟨l.dropLast,l.getLast b,(List.dropLast_concat_getLast b).symm⟩;rw[List.all_append,fK] at h;obtain⟨h1,h2⟩:=ih a (by simp at hn;omega) h.1;have hc:48<=c.toNat/\c.toNat<=57:=by have:=h.2;simp[dM] at this;exact this
  rw[Cd,Int.pow_succ];omega
end
section
open Go.RowKit
open Go.Lib hiding intOf
theorem Hc (s:ByteArray) (k:Nat):s.extract k s.size=bs (s.data.toList.drop k):=by rw[<-wU (s.extract k s.size),Lib.extract_to_end]
theorem wV (s:ByteArray) (h:0<s.size):s.data.toList.head?=some (s[0]'h):=by
 rw[List.head?_eq_getElem?,Array.getElem?_toList,Array.getElem?_eq_getElem h];rfl
theorem gL (s:ByteArray) (a b:Nat):s.extract a b=bs ((s.data.toList.drop a).take (b-a)):=by
 rw[<-wU (s.extract a b),Lib.extract_data]
theorem vG (s:ByteArray) (k:Nat):s.extract 0 k=bs (s.data.toList.take k):=by rw[gL,List.drop_zero,Nat.sub_zero]
theorem kK (a b:List UInt8):bs a++bs b=bs (a++b):=by
 rw[<-wU (bs a++bs b),ByteArray.data_append,Array.toList_append,aQ,aQ]
theorem iD (l:List UInt8) (k n:Nat) (h:n=l.length):(bs l).extract k n=bs (l.drop k):=by
 have:=Hc (bs l) k;rw[aQ,aM] at this;rw[h,this]
theorem fU (b c:UInt8) (n:Int) (hn:n=c.toNat):((b.toNat:Int)==n)=(b==c):=by
 rw[hn];by_cases hc:b=c
 ·rw[hc];simp
 ·rw[aE.2 ED,aE.2 hc]
theorem vH (b c:UInt8) (n:Int) (hn:n=c.toNat):((b.toNat:Int) !=n)=!(b==c):=by rw[bne,fU b c n hn]
theorem iE (l:List UInt8) (c:UInt8) (n:Int) (hn:n=c.toNat) (h:0<(bs l).size):(((((bs l)[0]'h).toNat:Int))==n)=(l.head?==some c):=by
 have a:=wV (bs l) h;rw[aQ] at a;rw[a,hn];by_cases hc:(bs l)[0]'h=c
 ·rw[hc];simp
 ·rw[aE.2 ED,aE.2 EC]
theorem Hd {w w':World}{n:String}{v:Array Value} (h:w.var? Tryz.prog n=some v) (hb:Below w.heap.size w w'):w'.var? Tryz.prog n=some v:=by
 unfold World.var? at h ⊢;cases hg:Tryz.prog.globalNamed n with
 | none=>rw[hg] at h;cases h
 | some g=>
  rw[hg] at h;simp only[Option.bind_some] at h ⊢;cases ho:w.heap[g]? with
  | none=>rw[ho] at h;cases h
  | some o=>rw[hb.block g (aF ho),ho];rw[ho] at h;exact h
theorem aL (w:World) (o:Obj):Below w.heap.size w (w.alloc o):=(aB _ _).alloc (aD _) _
theorem Qk (b:UInt8):((b.toNat:Int)).toNat.toUInt8=b:=by
 rw[fV];exact UInt8.ofNat_toNat
theorem wW (A:ByteArray) (b:UInt8) (w:World):
  Calls Tryz.prog 41 #[A, .int .u8 (b.toNat:Int)] w λe w'=>e= .returned (.int .i64 (Lib.indexByte A.data.toList b))/\w=w':=by
 have h:=Tryz.strings_IndexByte A (b.toNat:Int) w;rw[Qk] at h;exact av
def cW (w:World):Prop:=Lib.Utf8Tabs 1 2 w
theorem cW.below {w w':World} (h:cW w) {B:Nat} (hB:1<B/\2<B) (hb:Below B w w'):cW w':=by
 obtain⟨e,a⟩:=h;refine⟨λc d=>?_,λi b=>⟨?_,?_⟩⟩
 ·rw[hb.cell (p:=⟨_,c,none⟩) hB.1];exact e c d
 ·rw[hb.cell (p:=⟨_,2*i,none⟩) hB.2];exact(a i b).1
 ·rw[hb.cell (p:=⟨_,2*i+1,none⟩) hB.2];exact(a i b).2
theorem cW.lt {w:World} (h:cW w):1<w.heap.size/\2<w.heap.size:=
 ⟨vE (h.1 0 b_),vE (h.2 0 b_).1⟩
theorem cW.keep {w w':World} (h:cW w) (hb:Below w.heap.size w w'):cW w':=h.below h.lt hb
theorem Ql (s:ByteArray) (i:Nat) (hi:i<s.size):Lib.decodeGo (s.extract i s.size)=Utf8.decode s i:=by
 have hsz:(s.extract i s.size).size=s.size-i:=by rw[ByteArray.size_extract];omega
 unfold Lib.decodeGo;rw[if_neg a_,Lib.tail_decode,Nat.add_zero]
theorem Ce (s:ByteArray) (i:Nat) (w:World) (hi:i<s.size) (hT:cW w):
  Calls Tryz.prog 84 #[(s.extract i s.size)] w λe w'=>e= .returned (.tuple #[.int .i32 (bL s i),(bG s i)])/\Below w.heap.size w w':=by
 have h:=Tryz.utf8_DecodeRuneInString (s.extract i s.size) w hT;rw[Ql s i hi] at h;exact h
end
section
open Go.Lib
theorem He (r:Int):(Utf8.encode r).data.toList=Lib.encodeRune r:=by
 unfold Lib.encodeRune;by_cases hv:Utf8.valid r=true
 ·have a:=hv;simp[Utf8.valid] at a;obtain⟨m,rfl⟩: ∃m:Nat,r=m:=⟨r.toNat,a_⟩;unfold Utf8.encode;simp only[hv,if_true,fV];by_cases h1:m<128
  ·rw[Lib.encodeRuneZ_one a_ a_,if_pos h1];rfl
  rw[if_neg h1];by_cases h2:m<2048
  ·rw[Lib.encodeRuneZ_two a_ a_,if_pos h2];simp only[oR,List.map_nil];rw[show (192+(m:Int) / 64).toNat=192+m / 64 by omega,show (128+(m:Int) % 64).toNat=128+m % 64 by omega]
  rw[if_neg h2];by_cases h3:m<65536
  ·rw[Lib.encodeRuneZ_three a_,if_pos h3];simp only[oR,List.map_nil];rw[show (224+(m:Int) / 4096).toNat=224+m / 4096 by omega,show (128+(m:Int) / 64 % 64).toNat=128+m / 64 % 64 by omega,show (128+(m:Int) % 64).toNat=128+m % 64 by omega]
  have e4:Lib.encodeRuneZ (m:Int)= [240+(m:Int) / 262144,128+(m:Int) / 4096 % 64,128+(m:Int) / 64 % 64,128+(m:Int) % 64]:=lr;rw[if_neg h3,e4];simp only[oR,List.map_nil];rw[show (240+(m:Int) / 262144).toNat=240+m / 262144 by omega,show (128+(m:Int) / 4096 % 64).toNat=128+m / 4096 % 64 by omega,show (128+(m:Int) / 64 % 64).toNat=128+m / 64 % 64 by omega,show (128+(m:Int) % 64).toNat=128+m % 64 by omega]
 ·have a:=hv;simp[Utf8.valid] at a;have e:Utf8.valid r=false:=by simpa using hv
  have e5:Lib.encodeRuneZ r= [239,191,189]:=by
   unfold Lib.encodeRuneZ;rw[if_neg a_,if_neg a_,if_neg a_,if_neg a_]
  rw[e5];unfold Utf8.encode;simp only[e,Utf8.runeError,Bool.false_eq_true,if_false];decide
theorem Qm (r:Int) (h1:128<=r) (h2:r<=1114111) (h3:r<55296\/57343<r):
  ∃n,(2<=n/\n<=4)/\(Utf8.encode r).size=n/\ ∀h:n-1<(Utf8.encode r).size,128<=((Utf8.encode r)[n-1]'h).toNat:=by
 have d:=He r;have f: ∀x:Int,0<=x->(128+x % 64).toNat.toUInt8.toNat=(128+x % 64).toNat:=λx f=>by
  rw[show (128+x % 64).toNat.toUInt8=UInt8.ofNat (128+x % 64).toNat from rfl,UInt8.toNat_ofNat'];exact Nat.mod_eq_of_lt a_
 have a: ∀(l:List UInt8) (n:Nat),(Utf8.encode r).data.toList=l->l.length=n->(∀c,l[n-1]?=some c->128<=c.toNat)->(Utf8.encode r).size=n/\ ∀h:n-1<(Utf8.encode r).size,128<=((Utf8.encode r)[n-1]'h).toNat:=by
  intro l n e i b;have g:(Utf8.encode r).size=n:=by rw[<-i,<-e];rfl
  refine⟨g,λh=>b _ ?_⟩;have j:n-1<(Utf8.encode r).data.size:=h;rw[<-e,Array.getElem?_toList,Array.getElem?_eq_getElem j];rfl
 by_cases g2:r<=2047
 ·refine⟨2,a_,a _ 2 d ?_ ?_⟩
  ·unfold Lib.encodeRune;rw[Lib.encodeRuneZ_two h1 g2];rfl
  ·unfold Lib.encodeRune;rw[Lib.encodeRuneZ_two h1 g2];exact fh
 by_cases g3:r<=65535
 ·refine⟨3,a_,a _ 3 d ?_ ?_⟩
  ·unfold Lib.encodeRune;rw[Lib.encodeRuneZ_three a_];rfl
  ·unfold Lib.encodeRune;rw[Lib.encodeRuneZ_three a_];exact fh
 ·have e4:Lib.encodeRuneZ r= [240+r / 262144,128+r / 4096 % 64,128+r / 64 % 64,128+r % 64]:=lr;refine⟨4,a_,a _ 4 d ?_ ?_⟩
  ·unfold Lib.encodeRune;rw[e4];rfl
  ·unfold Lib.encodeRune;rw[e4];exact fh
end
end Go.Proofs.YtfhjncbdgjlcoaaGreatDoor
