import Derived.Test.YtfhjncbdgjlcoaaGreatDoorYn0
import Derived.WalkSpells
import Derived.WalkLawsBesides
import Derived.Lib.RuneCountTail
import Derived.Test.YtfhjncbdgjlcoaaGreatDoorShelf
set_option linter.unusedVariables false
set_option linter.unusedSimpArgs false
namespace Go.Proofs.YtfhjncbdgjlcoaaGreatDoor
open Tryz
section
open Go.RowKit
abbrev aD:=@RowKit.Below.refl
abbrev aF:=@Nat.le_refl
abbrev aI:=@beq_eq_false_iff_ne
abbrev aJ:=@decide_eq_false
abbrev aK:=@And.intro
abbrev aN:=@Array.getD_eq_getD_getElem?
abbrev aQ:=@decide_eq_true
abbrev aW:=@List.getElem?_eq_some_iff
abbrev aZ:=@List.length_append
abbrev bA:=@Option.some.inj
abbrev bC:=@List.length_drop
abbrev bF:=@Nat.le_trans
abbrev bH:=@List.mem_of_getElem?
abbrev bI:=@List.getElem?_eq_getElem
abbrev bM:=@List.length_cons
abbrev bP:=@List.length_map
abbrev bR:=@List.length_take
abbrev bY:=@List.getElem?_cons_succ
abbrev cC:=@Option.some.injEq
abbrev cF:=@List.getElem?_map
abbrev cI:=@Nat.zero_le
abbrev cP:=@List.getElem?_cons_zero
abbrev cQ:=@List.set_cons_succ
abbrev cR:=@List.getElem?_toArray
abbrev cY:=@List.setIfInBounds_toArray
abbrev cZ:=@List.set_cons_zero
abbrev dF:=@List.length_singleton
abbrev eN:=@bne_iff_ne
abbrev eW:=@RowKit.Below.heap_setCell
abbrev fQ:=@Bool.and_eq_true
abbrev fT:=@List.mem_cons
abbrev gA:=@Int.toNat_natCast
abbrev gB:=@List.drop_eq_getElem_cons
abbrev iG:=@Nat.lt_of_lt_of_le
abbrev iN:=@List.all_eq_true
abbrev jO:=@List.drop_drop
abbrev kB:=@decide_eq_true_eq
abbrev kG:=@List.getElem?_drop
abbrev kR:=@List.mem_cons_self
abbrev kT:=@List.mem_singleton
abbrev lJ:=@List.map_append
abbrev lQ:=@List.length_nil
abbrev lR:=@List.getElem?_append_right
abbrev mK:=@Array.getElem?_eq_some_iff
abbrev mP:=@Nat.le_of_eq
abbrev nX:=@List.append_assoc
abbrev oV:=@List.getElem?_append_left
abbrev oW:=@Nat.not_lt_zero
abbrev pN:=@List.map_cons
abbrev pO:=@List.mem_append
abbrev qJ:=@List.mem_map
abbrev qK:=@List.cons_append
abbrev rJ:=@List.nil_append
abbrev rL:=@Nat.lt_succ_self
abbrev rS:=@List.length_pos_iff
abbrev sS:=@List.take_append_drop
abbrev tH:=@World.size_alloc
abbrev uM:=@Option.map_eq_some_iff
abbrev uV:=@List.take_of_length_le
abbrev Jn:=@Array.getElem?_setIfInBounds
abbrev Jv:=@List.getElem?_eq_none_iff
theorem exQ{α:Sort _}(a:α):∃x,a=x:=⟨_,rfl⟩
abbrev aC:=List UInt8
abbrev aA(w w':World):Prop:=RowKit.Below w.heap.size w w'
abbrev aT(w:World)(v:Value)(e:Ending)(w2:World):Prop:=e= .returned v/\aA w w2
theorem aH{P:Program}{n:FuncId}{a:Array Value}{w:World}{v:Value}{B:World->Prop}{Q:Ending->World->Prop}(h:Calls P n a w λe w2=>e= .returned v/\B w2)(k:∀w2,B w2->Q (.returned v) w2):Calls P n a w Q:=h.mono (by rintro e w2 ⟨rfl,b⟩;exact k w2 b)
theorem Rj {a b:Value} (h:a=b):Ending.returned a= .returned b:=by rw[h]
theorem nE {k:IntKind}{a b:Int} (h:a=b):Ending.returned (.int k a)= .returned (.int k b):=by rw[h]
theorem qH {a b:Bool} (h:a=b):Ending.returned (.bool a)= .returned (.bool b):=by rw[h]
theorem vO {W w1:World} (hb:aA W w1):(∀b o,b<W.heap.size->w1.cell? ⟨b,o,none⟩=W.cell? ⟨b,o,none⟩)/\(∀b o,b<W.heap.size->w1.frozen? ⟨b,o,none⟩=W.frozen? ⟨b,o,none⟩):=
 ⟨λb o h=>hb.cell (p:=⟨b,o,none⟩) h,λb o h=>hb.frozen (p:=⟨b,o,none⟩) h⟩
theorem sN {P:Program}{ops:Array Oper}{rest:List Oper}{o:Oper}{a:Act}{Q:Exit->Act->World->Prop} (hgd:o.guard=none) (s x:Operand) (t:TypeId)
  (ho:o.op= .call { callee:= .builtin .append,args:= #[s,x],argTypes:= #[t,t] })
  (base:Nat) (e:TypeId) (i:TypeInfo) (z:Value) (size bytes:Nat) (ht:P.underlying t=some (.slice e)) (hi:P.info? e=some i) (hz:i.zero=some z)
  (hsize:i.size=size) (hby:i.bytes=bytes) (hzs:z.cells.size=size) (hsz:0<size)
  (w:World) (v:Value) (n:Nat) (xs:List Value) (hs:a.eval s=v) (hown:w.ownsRow base e size v n xs)
  (cs:Array Value) (hx:a.eval x= .slice (some ⟨w.heap.size,0,none⟩) 1 1) (hcs:cs.size=size) (h1: ∀u∈cs.toList,u.oneCell'=true)
  (hn:n+1<=4294967296) (hbt:bytes<=256) (hbase:base<=w.heap.size)
  (h: ∀v' w',w'.ownsRow base e size v' (n+1) (xs++cs.toList)->w.heap.size<=w'.heap.size->Below base w w'->(∀k,k<w.heap.size->some k≠v.ownBlock->w'.heap[k]?=w.heap[k]?)->v'≠ .slice none 0 0->wpList P ops Q rest (a.put o.dst v') w'):wpList P ops Q (o::rest) a (w.alloc (.cells cs e)):=by
 have hmul:(n+1)*bytes<=4294967296*256:=Nat.mul_le_mul hn hbt;refine wpList_append_own _ hgd s x t ho base e i z size bytes ht hi hz hsize hby hzs hsz v n xs hs (hown.alloc _) ⟨w.heap.size,0,none⟩ 1 1 cs.toList hx (by simp[hcs]) ?_ h1 r_ a_ h_ ?_
 .exact jy
 .intro v' w' l g m;have b:Below base w w':=((aD base w).alloc hbase _).grown g h_ (λk c=>((hown.alloc (.cells cs e)).lt k c).1);refine h v' w' l b.size b (λk c d=>?_) (λp=>?_)
  .rw[g.block k h_ d,Below.heap_alloc _ _ _ c]
  .have:=(m.1 p).2;omega
theorem aE {W w w':World} (h:aA W w) (h2:aA w w'):aA W w':=h.trans (h2.mono h.size)
end
section
open Go.RowKit
open Go.Lib
def jZ (c:Int):Int:=if c<128 then 1 else if 194<=c/\c<=223 then 2 else if 224<=c/\c<=239 then 3 else if 240<=c/\c<=244 then 4 else 0
def fH (s:ByteArray) (k:Nat):Int:=((s.data.toList.getD k 0).toNat:Int)
theorem zH (s:ByteArray) (k:Nat) (h:k<s.size):((s[k]'h).toNat:Int)=fH s k:=by
 unfold fH;rw[List.getD_eq_getElem?_getD,Array.getElem?_toList,Array.getElem?_eq_getElem h];rfl
theorem uD (s:ByteArray) (k:Nat):0<=fH s k/\fH s k<=255:=by
 unfold fH;have:=(s.data.toList.getD k 0).toNat_lt;omega
def lD (s:ByteArray):Nat->Nat->Int->Option Int
 | 0,_,v=>some v
 | j+1,k,v=>if fH s k<128\/191<fH s k then none else lD s j (k+1) (64*v+fH s k-128)
def kA (b n:Int):Int:=if n=2 then b-192 else if n=3 then b-224 else if n=4 then b-240 else b
def pL (n v:Int):Bool:=decide (n=3/\v<2048\/n=4/\v<65536\/1114111<v\/55296<=v/\v<57344)
def rF (s:ByteArray) (i:Nat):Int×Int:=
 let n:=jZ (fH s i)
 if n=0\/(s.size:Int)-i<n then(65533,1) else
 match lD s (n.toNat-1) (i+1) (kA (fH s i) n) with
 | none=>(65533,1)
 | some v=>if pL n v then(65533,1) else(v,n)
def sO (j:Nat):Int:=if j<=1 then 256 else if j=2 then 16384 else if j=3 then 1048576 else 67108864
theorem Rk (j:Nat) (h:j<=3):sO j<=1048576:=by unfold sO;(repeat split)<;>omega
theorem Rl (j:Nat) (V b:Int) (hV:V<sO j) (h1:1<=j) (h3:j<=3) (hb:b<=191):64*V+b-128<sO (j+1):=by
 have:j=1\/j=2\/j=3:=a_
 rcases this with rfl|rfl|rfl<;>simp[sO] at hV ⊢ <;>omega
theorem Rm (c:Int):jZ c=0\/jZ c=1\/jZ c=2\/jZ c=3\/jZ c=4:=by
 unfold jZ;repeat' split
 all_goals omega
theorem Rn (c n:Int) (h:jZ c=n) (h0:0<=c) (h255:c<=255):0<=kA c n/\kA c n<256:=by
 subst h;unfold kA jZ;(repeat split)<;>omega
def rG (s:ByteArray) (i:Nat) (n:Int):Int×Int:=
 match lD s (n.toNat-1) (i+1) (kA (fH s i) n) with
 | none=>(65533,1)
 | some v=>if pL n v then(65533,1) else(v,n)
theorem Ro (b n:Int):(n=1->kA b n=b)/\(n=2->kA b n=b-192)/\(n=3->kA b n=b-224)/\(n=4->kA b n=b-240):=by
 unfold kA;refine⟨?_,?_,?_,?_⟩<;>rintro rfl<;>simp
theorem Hx (s:ByteArray) (n:Int) (i j:Nat) (V:Int) (hj:(j:Int)<n):lD s (n.toNat-j) (i+j) V=if fH s (i+j)<128\/191<fH s (i+j) then none else lD s (n.toNat-(j+1)) (i+(j+1)) (64*V+fH s (i+j)-128):=by
 rw[show n.toNat-j=(n.toNat-(j+1))+1 by omega];rfl
theorem Rp {s:ByteArray}{i j:Nat}{n V:Int}{R:Int×Int} (HR:Hid (rG s i n=R)) (HT:Hid (lD s (n.toNat-1) (i+1) (kA (fH s i) n)=lD s (n.toNat-j) (i+j) V)) (hj:(j:Int)<n)
  (hlt:i+j<s.size) (hb:((s[i+j]'hlt).toNat:Int)<128\/191<((s[i+j]'hlt).toNat:Int)):R=(65533,1):=by
 rw[zH] at hb;have h:=HT.out;rw[Hx s n i j V hj,if_pos hb] at h;rw[<-HR.out,rG,h]
theorem Rq {s:ByteArray}{i j:Nat}{n V:Int}{R:Int×Int} (HR:Hid (rG s i n=R)) (HT:Hid (lD s (n.toNat-1) (i+1) (kA (fH s i) n)=lD s (n.toNat-j) (i+j) V)) (hj:n<=(j:Int)):
  R=if pL n V then(65533,1) else(V,n):=by
 have h:=HT.out;rw[show n.toNat-j=0 by omega] at h;rw[<-HR.out,rG,h];rfl
theorem Rr {s:ByteArray}{i j:Nat}{n V:Int} (HT:Hid (lD s (n.toNat-1) (i+1) (kA (fH s i) n)=lD s (n.toNat-j) (i+j) V)) (hj:(j:Int)<n)
  (hlt:i+j<s.size) (h1:128<=((s[i+j]'hlt).toNat:Int)) (h2:((s[i+j]'hlt).toNat:Int)<=191):Hid (lD s (n.toNat-1) (i+1) (kA (fH s i) n)=lD s (n.toNat-(j+1)) (i+(j+1)) (64*V+((s[i+j]'hlt).toNat:Int)-128)):=by
 rw[zH] at h1 h2 ⊢;have h:=HT.out;rw[Hx s n i j V hj,if_neg a_] at h;exact h
theorem Hy {a b:Int}{R:Int×Int} (h:R=(a,b)):Ending.returned (.tuple #[.int .i32 a,b])= .returned (.tuple #[.int .i32 R.1,R.2]):=by subst h;rfl
def zI (b1 b2 b3:Int):Nat->Int->Option Int
 | 0,v=>some v
 | 1,v=>if b1<128\/191<b1 then none else some (64*v+b1-128)
 | 2,v=>if b1<128\/191<b1 then none else if b2<128\/191<b2 then none else some (64*(64*v+b1-128)+b2-128)
 | _,v=>if b1<128\/191<b1 then none else if b2<128\/191<b2 then none else if b3<128\/191<b3 then none else some (64*(64*(64*v+b1-128)+b2-128)+b3-128)
theorem Db (s:ByteArray) (k j:Nat) (v:Int) (h:j<=3):lD s j k v=zI (fH s k) (fH s (k+1)) (fH s (k+2)) j v:=by
 rcases(show j=0\/j=1\/j=2\/j=3 by omega) with rfl|rfl|rfl|rfl<;>rfl
def nU (n b0 b1 b2 b3:Int):Int×Int:=
 if b0<128 then(if n<1 then(65533,1) else(b0,1)) else
 if 194<=b0/\b0<=223 then(if n<2 then(65533,1) else if b1<128\/191<b1 then(65533,1) else(64*(b0-192)+b1-128,2)) else
 if 224<=b0/\b0<=239 then(if n<3 then(65533,1) else if b1<128\/191<b1 then(65533,1) else if b2<128\/191<b2 then(65533,1) else
  if 64*(64*(b0-224)+b1-128)+b2-128<2048\/55296<=64*(64*(b0-224)+b1-128)+b2-128/\64*(64*(b0-224)+b1-128)+b2-128<57344 then(65533,1) else(64*(64*(b0-224)+b1-128)+b2-128,3)) else
 if 240<=b0/\b0<=244 then(if n<4 then(65533,1) else if b1<128\/191<b1 then(65533,1) else if b2<128\/191<b2 then(65533,1) else if b3<128\/191<b3 then(65533,1) else
  if 64*(64*(64*(b0-240)+b1-128)+b2-128)+b3-128<65536\/1114111<64*(64*(64*(b0-240)+b1-128)+b2-128)+b3-128 then(65533,1) else(64*(64*(64*(b0-240)+b1-128)+b2-128)+b3-128,4)) else(65533,1)
theorem Rs (n b0 b1 b2 b3:Nat) (h0:b0<256) (h1:b1<256) (h2:b2<256) (h3:b3<256) (hn:1<=n):
  nU n b0 b1 b2 b3=(((decodeN n b0 b1 b2 b3).1:Int),((decodeN n b0 b1 b2 b3).2:Int)):=by
 by_cases c1:b0<128
 .have: ¬(n:Int)<1:=a_
  simp[nU,decodeN,c1,show (b0:Int)<128 by omega,this]
 by_cases c2:194<=b0/\b0<=223
 .simp only[nU,decodeN,c1,show ¬(b0:Int)<128 by omega,show (194<=(b0:Int)/\(b0:Int)<=223) by omega,if_false,if_true,and_self,show b0 / 32=6 by omega,true_and,show ¬b0 / 16=14 by omega,show ¬b0 / 8=30 by omega,false_and];exact f9
 by_cases c3:224<=b0/\b0<=239
 .simp only[nU,decodeN,c1,show ¬(b0:Int)<128 by omega,show ¬(194<=(b0:Int)/\(b0:Int)<=223) by omega,show (224<=(b0:Int)/\(b0:Int)<=239) by omega,if_false,if_true,and_self,show ¬b0 / 32=6 by omega,true_and,show b0 / 16=14 by omega,show ¬b0 / 8=30 by omega,false_and];exact f9
 by_cases c4:240<=b0/\b0<=244
 .simp only[nU,decodeN,c1,show ¬(b0:Int)<128 by omega,show ¬(194<=(b0:Int)/\(b0:Int)<=223) by omega,show ¬(224<=(b0:Int)/\(b0:Int)<=239) by omega,show (240<=(b0:Int)/\(b0:Int)<=244) by omega,if_false,if_true,and_self,show ¬b0 / 32=6 by omega,true_and,show ¬b0 / 16=14 by omega,show b0 / 8=30 by omega,false_and];exact f9
 .rw[show nU n b0 b1 b2 b3=(65533,1) by unfold nU;rw[if_neg a_,if_neg a_,if_neg a_,if_neg a_]];simp only[decodeN,c1,if_false,show ¬b0 / 16=14 by omega,false_and]
  repeat' split
  all_goals first | rfl | (exfalso;omega)
theorem Rt (s:ByteArray) (i:Nat):rF s i=nU ((s.size:Int)-i) (fH s i) (fH s (i+1)) (fH s (i+2)) (fH s (i+3)):=by
 have hb:=uD s i;have e2:i+1+1=i+2:=rfl;have e3:i+1+2=i+3:=rfl;unfold rF;generalize fH s i=b0 at *;generalize (s.size:Int)-i=n;by_cases c1:b0<128
 .simp only[jZ,nU,c1,if_true];by_cases hn:n<1
  .rw[if_pos a_,if_pos hn]
  .rw[if_neg a_,if_neg hn];have c:kA b0 1=b0:=(by simp[kA]);simp only[show (1:Int).toNat-1=0 from rfl,lD,c];rw[if_neg];simp[pL];omega
 by_cases c2:194<=b0/\b0<=223
 .simp only[jZ,nU,c1,if_false,c2,and_self,if_true];by_cases hn:n<2
  .rw[if_pos a_,if_pos hn]
  .rw[if_neg a_,if_neg hn];rw[Db _ _ _ _ b_,e2,e3];simp only[show (2:Int).toNat-1=1 from rfl,zI,kA,if_true];have a:=uD s (i+1);generalize fH s (i+1)=b1 at *;by_cases h1:b1<128\/191<b1
   .simp only[if_pos h1]
   .simp only[if_neg h1];rw[if_neg];simp[pL];omega
 by_cases c3:224<=b0/\b0<=239
 .have N7:=trivial;exact JJ
 by_cases c4:240<=b0/\b0<=244
 .have N8:=trivial;exact JJ
 .simp only[jZ,nU,c1,if_false,c2,c3,c4];simp
theorem Ru (s:ByteArray) (i:Nat) (hi:i<s.size):rF s i=(((Utf8.decode s i).1:Int),((Utf8.decode s i).2:Int)):=by
 rw[Rt,decode_N,<-Rs _ _ _ _ _ (UInt8.toNat_lt _) (UInt8.toNat_lt _) (UInt8.toNat_lt _) (UInt8.toNat_lt _) A'];have:s.data.toList.length=s.size:=rfl;rw[this];unfold fH;congr 1;omega
def bU (s:ByteArray) (i:Nat):Int:=((Utf8.decode s i).1:Int)
def bN (s:ByteArray) (i:Nat):Nat:=(Utf8.decode s i).2
theorem sP (s:ByteArray) (i:Nat):0<=bU s i/\bU s i<=1114111:=by
 unfold bU;have:=rune_le s i;omega
theorem Rv (n b0 b1 b2 b3:Nat) (hn:1<=n):(decodeN n b0 b1 b2 b3).2<=4/\(decodeN n b0 b1 b2 b3).2<=n:=by
 unfold decodeN;repeat' split
 all_goals (simp only[];omega)
theorem mJ (s:ByteArray) (i:Nat) (hi:i<s.size):1<=bN s i/\bN s i<=4/\i+bN s i<=s.size:=by
 unfold bN;have h1:=width_pos s i;rw[decode_at] at *;have:=Rv (s.size-i) (s.get! i).toNat (s.get! (i+1)).toNat (s.get! (i+2)).toNat (s.get! (i+3)).toNat a_;omega
def fP (s:ByteArray) (i:Nat):Bool:=!(bU s i==65533&&((bN s i:Nat):Int)==1)
theorem vP {w:World}{b o:Nat}{v:Value} (h:w.cell? (b,o)=some v):b<w.heap.size:=World.block_lt_of_cell? w _ h
def nV (s:ByteArray):Nat->Nat->Option Nat
 | 0,_=>none
 | f+1,pos=>if pos<s.size then(if fP s pos then nV s f (pos+bN s pos) else some pos) else none
def xH (s:ByteArray):Option Nat:=nV s s.size 0
def lO (s:ByteArray):Int×Bool:=match xH s with | some p=>(p,false) | none=>(s.size,true)
theorem Rw (s:ByteArray) (f pos:Nat) (h:s.size<=pos):nV s f pos=none:=by
 cases f
 .rfl
 .unfold nV;rw[if_neg a_]
theorem Rx (s:ByteArray) (f pos:Nat) (h:pos<s.size) (hg:fP s pos=true) (hf:s.size<=f+pos): ∃g,nV s f pos=nV s g (pos+bN s pos)/\s.size<=g+(pos+bN s pos):=by
 obtain⟨g,rfl⟩: ∃g,f=g+1:=⟨f-1,a_⟩;have:=mJ s pos h;refine⟨g,?_,a_⟩;show (if pos<s.size then(if fP s pos then nV s g (pos+bN s pos) else some pos) else none)=_;rw[if_pos h,if_pos hg]
theorem Ry (s:ByteArray) (f pos:Nat) (h:pos<s.size) (hg:fP s pos=false) (hf:s.size<=f+pos):nV s f pos=some pos:=by
 obtain⟨g,rfl⟩: ∃g,f=g+1:=⟨f-1,a_⟩;show (if pos<s.size then(if fP s pos then nV s g (pos+bN s pos) else some pos) else none)=_;rw[if_pos h,hg];rfl
def nW (s:ByteArray) (pos:Nat):Prop:= ∃f,xH s=nV s f pos/\s.size<=f+pos
theorem nW.zero (s:ByteArray):nW s 0:=⟨s.size,rfl,a_⟩
theorem nW.next {s:ByteArray}{pos:Nat} (h:nW s pos) (hp:pos<s.size) (hg:fP s pos=true):nW s (pos+bN s pos):=by
 obtain⟨f,a,c⟩:=h;obtain⟨g,b,d⟩:=Rx s f pos hp hg c;exact⟨g,a.trans b,d⟩
theorem nW.bad {s:ByteArray}{pos:Nat} (h:nW s pos) (hp:pos<s.size) (hg:fP s pos=false):lO s=((pos:Int),false):=by
 obtain⟨f,a,b⟩:=h;unfold lO;rw[a,Ry s f pos hp hg b]
theorem nW.fin {s:ByteArray}{pos:Nat} (h:nW s pos) (hp:s.size<=pos):lO s=((s.size:Int),true):=by
 obtain⟨f,a,h2⟩:=h;unfold lO;rw[a,Rw s f pos hp]
theorem nF (s:ByteArray) (pos:Nat):decodeL (s.data.toList.drop pos)=Utf8.decode s pos:=by
 rw[decodeL_N,decode_N];simp only[bC,List.getD_eq_getElem?_getD,kG,Nat.add_zero]
theorem Rz (s:ByteArray) (pos:Nat):fP s pos=decide (¬((Utf8.decode s pos).1=65533/\(Utf8.decode s pos).2=1)):=by
 unfold fP bU bN;rw[Bool.eq_iff_iff];simp;omega
theorem Hz (s:ByteArray): ∀f pos,s.size<=f+pos->validGoD f (s.data.toList.drop pos)=(nV s f pos).isNone
 | 0,pos,h=>by simp[validGoD,nV]
 | f+1,pos,h=>by
  have hl:s.data.toList.length=s.size:=rfl;unfold validGoD nV;by_cases hp:pos<s.size
  .have a: ¬(s.data.toList.drop pos= []):=by rw[List.drop_eq_nil_iff];omega
   have b:=mJ s pos hp;rw[if_neg a,if_pos hp,nF,Rz];by_cases hb:(Utf8.decode s pos).1=65533/\(Utf8.decode s pos).2=1
   .rw[if_pos hb];simp[hb]
   .rw[if_neg hb,jO];have ih:=Hz s f (pos+bN s pos) a_;unfold bN at ih b ⊢;rw[ih,aQ hb];rfl
  .have a:s.data.toList.drop pos= []:=by rw[List.drop_eq_nil_iff];omega
   rw[if_pos a,if_neg hp];rfl
theorem Ia (s:ByteArray):Lib.validD s.data.toList=(xH s).isNone:=by
 unfold Lib.validD xH;have:=Hz s s.size 0 a_;simpa using this
theorem Sa {s:ByteArray} (h:Lib.validD s.data.toList=true):lO s=((s.size:Int),true):=by
 rw[Ia,Option.isNone_iff_eq_none] at h;unfold lO;rw[h]
theorem xI {R:Int×Bool}{a:Int}{b:Bool} (h:R=(a,b)):Ending.returned (.tuple #[a,b])= .returned (.tuple #[R.1,R.2]):=by subst h;rfl
theorem Sb {s:ByteArray}{pos:Nat} (h:bU s pos≠65533):fP s pos=true:=by
 unfold fP;rw[aI.2 h];rfl
theorem Sc {s:ByteArray}{pos:Nat} (h:bN s pos≠1):fP s pos=true:=by
 unfold fP;rw[show (((bN s pos:Nat):Int)==1)=false from aI.2 a_];simp
theorem Sd {s:ByteArray}{pos:Nat} (h:bU s pos=65533) (h1:bN s pos=1):fP s pos=false:=by
 unfold fP;rw[h,h1];rfl
theorem aG {w:World}{k:Nat}{o:Obj} (h:w.heap[k]?=some o):k<w.heap.size:=(mK.1 h).1
end
section
def bs (l:aC):ByteArray:=⟨l.toArray⟩
theorem aY (l:aC):(bs l).data.toList=l:=by simp[bs]
theorem aP (l:aC):(bs l).size=l.length:=by simp[bs,ByteArray.size]
theorem xJ (s:ByteArray):bs s.data.toList=s:=by cases s;simp[bs]
theorem Se {a b:aC} (h:bs a=bs b):a=b:=by rw[<-aY a,h,aY]
def eC (b:UInt8):Bool:=decide (48<=b.toNat/\b.toNat<=57)
def dC (l:aC):Bool:=!l.isEmpty&&l.all eC
structure eJ where
 neg:Bool
 dig:aC
 exp:Int
deriving DecidableEq
def cM:eJ:=⟨false,[],0⟩
def pM (n:eJ):Prop:=dC n.dig=true/\n.dig.length<=1000/\n.dig.head?≠some 48/\n.dig.getLast?≠some 48/\ -1000000<=n.exp/\n.exp<=1000000
instance (n:eJ):Decidable (pM n):=by unfold pM;infer_instance
def kH (n:eJ):Bool:=decide (n=cM\/pM n)
def cO (p:UInt8->Bool) (l:aC):aC×aC×Bool:=
 match l.dropWhile (λc=>!p c) with
 | []=>(l,[],false)
 | _::t=>(l.takeWhile (λc=>!p c),t,true)
def fI (c:UInt8):Bool:=c==101||c==69
def iM (c:UInt8):Bool:=c==46
structure sQ where
 neg:Bool
 whole:aC
 rest:aC
 low:Bool
 exp:aC
def fZ (l:aC):aC:=if l.head?=some 45 then l.drop 1 else l
def fJ (l:aC):aC:=if l.head?=some 45\/l.head?=some 43 then l.drop 1 else l
def qI (has pt:Bool) (x whole rest:aC):Bool:=(!has||dC x)&&(dC whole&&(!pt||dC rest))&&(whole== [48]||whole.head? !=some 48)
def lE (l:aC):Option sQ:=
 let c:=cO fI (fZ l)
 let m:=cO iM c.1
 let x:=if c.2.2 then fJ c.2.1 else []
 if qI c.2.2 m.2.2 x m.1 m.2.1 then some ⟨l.head?==some 45,m.1,m.2.1,c.2.2&&c.2.1.head?==some 45,x⟩ else none
def fA (l:aC):Int:=l.foldl (λa c=>10*a+((c.toNat:Int)-48)) 0
def cS (l:aC):aC:=l.dropWhile (· ==48)
def cW (l:aC):aC:=(l.reverse.dropWhile (· ==48)).reverse
def oO (x:sQ):eJ×Int:=
 if 1000<x.whole.length+x.rest.length then(cM,3) else
 if 9<(cS x.exp).length then(cM,4) else
 let e:=if x.low then-fA x.exp else fA x.exp
 let d:=cS (x.whole++x.rest)
 if d= [] then(cM,0) else
 let k:=e-x.rest.length+(d.length-(cW d).length)
 if k< -1000000\/1000000<k then(cM,4) else(⟨x.neg,cW d,k⟩,0)
def eF (l:aC):eJ×Int:=match lE l with | none=>(cM,2) | some x=>oO x
theorem Dc (a:aC) (c:UInt8):fA (a++ [c])=10*fA a+((c.toNat:Int)-48):=by
 unfold fA;rw[List.foldl_append];rfl
theorem zJ: ∀l:aC,fA (cS l)=fA l
 | []=>rfl
 | c::t=>by
  unfold cS;rw[List.dropWhile_cons];by_cases h:c=48
  .subst h;have:=zJ t;unfold cS at this;rw[if_pos b_,this];unfold fA;rfl
  .rw[if_neg s']
theorem Ib: ∀l:aC,l.all eC=true->0<=fA l/\fA l<10 ^ l.length:=by
 intro l
 induction hn:l.length generalizing l with
 | zero=>intro _;have:l= []:=List.eq_nil_of_length_eq_zero hn;subst this;simp[fA]
 | succ n ih=>
  intro h;have b:l≠ []:=by intro e;subst e;simp at hn
  obtain⟨a,c,rfl⟩: ∃a c,l=a++ [c]:=⟨l.dropLast,l.getLast b,(List.dropLast_concat_getLast b).symm⟩;rw[List.all_append,fQ] at h;obtain⟨h1,h2⟩:=ih a (by simp at hn;omega) h.1;have hc:48<=c.toNat/\c.toNat<=57:=by have:=h.2;simp[eC] at this;exact this
  rw[Dc,Int.pow_succ];omega
end
section
open Go.RowKit
open Go.Lib hiding intOf
theorem Ic (s:ByteArray) (k:Nat):s.extract k s.size=bs (s.data.toList.drop k):=by rw[<-xJ (s.extract k s.size),Lib.extract_to_end]
theorem xK (s:ByteArray) (h:0<s.size):s.data.toList.head?=some (s[0]'h):=by
 rw[List.head?_eq_getElem?,Array.getElem?_toList,Array.getElem?_eq_getElem h];rfl
theorem gO (s:ByteArray) (a b:Nat):s.extract a b=bs ((s.data.toList.drop a).take (b-a)):=by
 rw[<-xJ (s.extract a b),Lib.extract_data]
theorem vQ (s:ByteArray) (k:Nat):s.extract 0 k=bs (s.data.toList.take k):=by rw[gO,List.drop_zero,Nat.sub_zero]
theorem jP (a b:aC):bs a++bs b=bs (a++b):=by
 rw[<-xJ (bs a++bs b),ByteArray.data_append,Array.toList_append,aY,aY]
theorem iW (l:aC) (k n:Nat) (h:n=l.length):(bs l).extract k n=bs (l.drop k):=by
 have:=Ic (bs l) k;rw[aY,aP] at this;rw[h,this]
theorem gJ (b c:UInt8) (n:Int) (hn:n=c.toNat):((b.toNat:Int)==n)=(b==c):=by
 rw[hn];by_cases hc:b=c
 .rw[hc];simp
 .rw[aI.2 N',aI.2 hc]
theorem vR (b c:UInt8) (n:Int) (hn:n=c.toNat):((b.toNat:Int) !=n)=!(b==c):=by rw[bne,gJ b c n hn]
theorem iX (l:aC) (c:UInt8) (n:Int) (hn:n=c.toNat) (h:0<(bs l).size):(((((bs l)[0]'h).toNat:Int))==n)=(l.head?==some c):=by
 have a:=xK (bs l) h;rw[aY] at a;rw[a,hn];by_cases hc:(bs l)[0]'h=c
 .rw[hc];simp
 .rw[aI.2 N',aI.2 F_]
theorem Id {w w':World}{n:String}{v:Array Value} (h:w.var? prog n=some v) (hb:aA w w'):w'.var? prog n=some v:=by
 unfold World.var? at h ⊢;cases hg:prog.globalNamed n with
 | none=>rw[hg] at h;cases h
 | some g=>
  rw[hg] at h;simp only[Option.bind_some] at h ⊢;cases ho:w.heap[g]? with
  | none=>rw[ho] at h;cases h
  | some o=>rw[hb.block g (aG ho),ho];rw[ho] at h;exact h
theorem aL (w:World) (o:Obj):aA w (w.alloc o):=(aD _ _).alloc (aF _) _
theorem Sf (b:UInt8):((b.toNat:Int)).toNat.toUInt8=b:=by
 rw[gA];exact UInt8.ofNat_toNat
theorem xL (A:ByteArray) (b:UInt8) (w:World):
  Calls prog 41 #[A, .int .u8 (b.toNat:Int)] w λe w'=>e= .returned (.int .i64 (Lib.indexByte A.data.toList b))/\w=w':=by
 have h:=strings_IndexByte A (b.toNat:Int) w;rw[Sf] at h;exact au
def dE (w:World):Prop:=Lib.Utf8Tabs 1 2 w
theorem dE.below {w w':World} (h:dE w) {B:Nat} (hB:1<B/\2<B) (hb:Below B w w'):dE w':=by
 obtain⟨d,b⟩:=h;refine⟨λc e=>?_,λi a=>⟨?_,?_⟩⟩
 .rw[hb.cell (p:=⟨_,c,none⟩) hB.1];exact d c e
 .rw[hb.cell (p:=⟨_,2*i,none⟩) hB.2];exact(b i a).1
 .rw[hb.cell (p:=⟨_,2*i+1,none⟩) hB.2];exact(b i a).2
theorem dE.lt {w:World} (h:dE w):1<w.heap.size/\2<w.heap.size:=
 ⟨vP (h.1 0 b_),vP (h.2 0 b_).1⟩
theorem dE.keep {w w':World} (h:dE w) (hb:aA w w'):dE w':=h.below h.lt hb
theorem Sg (s:ByteArray) (i:Nat) (hi:i<s.size):Lib.decodeGo (s.extract i s.size)=Utf8.decode s i:=by
 have hsz:(s.extract i s.size).size=s.size-i:=by rw[ByteArray.size_extract];omega
 unfold Lib.decodeGo;rw[if_neg a_,Lib.tail_decode,Nat.add_zero]
theorem Dd (s:ByteArray) (i:Nat) (w:World) (hi:i<s.size) (hT:dE w):
  Calls prog 84 #[(s.extract i s.size)] w (aT w (.tuple #[.int .i32 (bU s i),(bN s i)])):=by
 have h:=utf8_DecodeRuneInString (s.extract i s.size) w hT;rw[Sg s i hi] at h;exact h
end
section
open Go.Lib
theorem Ie (r:Int):(Utf8.encode r).data.toList=Lib.encodeRune r:=by
 unfold Lib.encodeRune;by_cases hv:Utf8.valid r=true
 .have a:=hv;simp[Utf8.valid] at a;obtain⟨m,rfl⟩: ∃m:Nat,r=m:=⟨r.toNat,a_⟩;unfold Utf8.encode;simp only[hv,if_true,gA];by_cases h1:m<128
  .rw[Lib.encodeRuneZ_one a_ a_,if_pos h1];rfl
  rw[if_neg h1];by_cases h2:m<2048
  .rw[Lib.encodeRuneZ_two a_ a_,if_pos h2];simp only[pN,List.map_nil];rw[show (192+(m:Int) / 64).toNat=192+m / 64 by omega,show (128+(m:Int) % 64).toNat=128+m % 64 by omega]
  rw[if_neg h2];by_cases h3:m<65536
  .rw[Lib.encodeRuneZ_three a_,if_pos h3];simp only[pN,List.map_nil];rw[show (224+(m:Int) / 4096).toNat=224+m / 4096 by omega,show (128+(m:Int) / 64 % 64).toNat=128+m / 64 % 64 by omega,show (128+(m:Int) % 64).toNat=128+m % 64 by omega]
  have e4:Lib.encodeRuneZ (m:Int)= [240+(m:Int) / 262144,128+(m:Int) / 4096 % 64,128+(m:Int) / 64 % 64,128+(m:Int) % 64]:=mr;rw[if_neg h3,e4];simp only[pN,List.map_nil];rw[show (240+(m:Int) / 262144).toNat=240+m / 262144 by omega,show (128+(m:Int) / 4096 % 64).toNat=128+m / 4096 % 64 by omega,show (128+(m:Int) / 64 % 64).toNat=128+m / 64 % 64 by omega,show (128+(m:Int) % 64).toNat=128+m % 64 by omega]
 .have a:=hv;simp[Utf8.valid] at a;have e:Utf8.valid r=false:=by simpa using hv
  have e5:Lib.encodeRuneZ r= [239,191,189]:=by
   unfold Lib.encodeRuneZ;rw[if_neg a_,if_neg a_,if_neg a_,if_neg a_]
  rw[e5];unfold Utf8.encode;simp only[e,Utf8.runeError,Bool.false_eq_true,if_false];decide
theorem Sh (r:Int) (h1:128<=r) (h2:r<=1114111) (h3:r<55296\/57343<r):
  ∃n,(2<=n/\n<=4)/\(Utf8.encode r).size=n/\ ∀h:n-1<(Utf8.encode r).size,128<=((Utf8.encode r)[n-1]'h).toNat:=by
 have d:=Ie r;have f: ∀x:Int,0<=x->(128+x % 64).toNat.toUInt8.toNat=(128+x % 64).toNat:=λx f=>by
  rw[show (128+x % 64).toNat.toUInt8=UInt8.ofNat (128+x % 64).toNat from rfl,UInt8.toNat_ofNat'];exact Nat.mod_eq_of_lt a_
 have a: ∀(l:aC) (n:Nat),(Utf8.encode r).data.toList=l->l.length=n->(∀c,l[n-1]?=some c->128<=c.toNat)->(Utf8.encode r).size=n/\ ∀h:n-1<(Utf8.encode r).size,128<=((Utf8.encode r)[n-1]'h).toNat:=by
  intro l n e j b;have i:(Utf8.encode r).size=n:=by rw[<-j,<-e];rfl
  refine⟨i,λh=>b _ ?_⟩;have g:n-1<(Utf8.encode r).data.size:=h;rw[<-e,Array.getElem?_toList,Array.getElem?_eq_getElem g];rfl
 by_cases g2:r<=2047
 .refine⟨2,a_,a _ 2 d ?_ ?_⟩
  .unfold Lib.encodeRune;rw[Lib.encodeRuneZ_two h1 g2];rfl
  .unfold Lib.encodeRune;rw[Lib.encodeRuneZ_two h1 g2];exact ED
 by_cases g3:r<=65535
 .refine⟨3,a_,a _ 3 d ?_ ?_⟩
  .unfold Lib.encodeRune;rw[Lib.encodeRuneZ_three a_];rfl
  .unfold Lib.encodeRune;rw[Lib.encodeRuneZ_three a_];exact ED
 .have e4:Lib.encodeRuneZ r= [240+r / 262144,128+r / 4096 % 64,128+r / 64 % 64,128+r % 64]:=mr;refine⟨4,a_,a _ 4 d ?_ ?_⟩
  .unfold Lib.encodeRune;rw[e4];rfl
  .unfold Lib.encodeRune;rw[e4];exact ED
end
end Go.Proofs.YtfhjncbdgjlcoaaGreatDoor
