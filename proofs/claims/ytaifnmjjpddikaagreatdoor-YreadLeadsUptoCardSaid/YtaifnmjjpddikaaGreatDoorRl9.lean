import Derived.Test.YtaifnmjjpddikaaGreatDoorRl3
import Derived.Test.YtaifnmjjpddikaaGreatDoorRl2
import Derived.Test.YtaifnmjjpddikaaGreatDoorRl8
import Derived.Deep.RegionHeld3
import Derived.Deep.DeepCutAuto
import Derived.RangeFuncNested
import Derived.RangeFuncBound
import Derived.RangeFuncCalls
import Derived.RangeFuncLeaves
import Derived.RangeFuncBox
import Derived.Shelf.Abstract
import Derived.Shelf.RegionOpen
import Derived.OwnWalkIn
import Derived.TacticsInMore
import Derived.LoopNIn
import Derived.LoopIn
import Derived.Maps.AppendAt
import Derived.Maps.OwnIn
set_option maxRecDepth 100000
set_option maxHeartbeats 4000000
namespace Go.Proofs.YtaifnmjjpddikaaGreatDoor
set_option linter.unusedVariables false
set_option linter.unusedSimpArgs false
section
open Go.RowKit
open Go.Lib hiding intOf
theorem Je (l:List UInt8) (k:Nat) (h:k<l.length) (h2:k<(bs l).size):(bs l)[k]'h2=l[k]'h:=by
 have:=rB l k h2;rw[bE h] at this;exact(bD this).symm
theorem Ue (b:UInt8) (w:World):Calls Tryz.prog 136 #[.int .u8 (b.toNat:Int)] w λe w'=>e= .returned (.bool (gR b))/\w=w':=by
 obtain⟨R,a⟩:=exQ<|gR b;rw[a];unfold gR at a;obtain⟨n,c⟩: ∃n:Int,(b.toNat:Int)=n:=⟨_,rfl⟩;rw[c];by_cases h1:97<=n
 ·by_cases h2:n<=122
  ·rw[aM (by omega)] at a;subst a;clear c;go_enter Tryz.func136,Tryz.ntmps136;go_wp2_with fail;go_ret;exact⟨rfl,rfl⟩
  ·rw[aH (by omega)] at a;subst a;have h2':decide (n<=122)=false:=aH h2;clear c h2;go_enter Tryz.func136,Tryz.ntmps136;go_wp2_with fail;go_ret;exact⟨rfl,rfl⟩
 ·rw[aH (by omega)] at a;subst a;have h1':decide (97<=n)=false:=aH h1;clear c h1;go_enter Tryz.func136,Tryz.ntmps136;go_wp2_with fail;go_ret;exact⟨rfl,rfl⟩
theorem Uf (X:Nat) (A:ByteArray) (b:UInt8) (w:World) (hc:w.cell? ⟨X,0,none⟩=some (.string A)):
  Calls Tryz.prog 173 #[.int .u8 (b.toNat:Int), .pointer (some ⟨X,0,none⟩)] w λe w'=>e= .returned (.bool (decide (0<=Lib.indexByte A.data.toList b)))/\w=w':=by
 have C:=hid (vL A b w);obtain⟨K,a⟩:=exQ<|Lib.indexByte A.data.toList b;rw[a] at C ⊢;obtain⟨B,c⟩:=exQ<|decide (0<=K);rw[c];clear a;go_enter Tryz.func173,Tryz.ntmps173;go_wp2_with (go_at_call 32;refine C.out.mono ?_;rintro e w' ⟨rfl,rfl⟩);go_ret;exact⟨rfl,rfl⟩
theorem Ug (A:ByteArray) (w:World):
  Calls Tryz.prog 134 #[.string A] w λe w'=>e= .returned (.func (.func 173) #[] #[.pointer (some ⟨w.heap.size,0,none⟩)])/\w'=w.alloc (.cells #[.string A] 9):=by
 have hmf: ∀(fn:Fn) (first cap:Array Value) (w:World),(Instr.makeFunc fn first cap).run Tryz.prog w= .ok (.func fn first cap) w:=λ_ _ _ _=>rfl;go_enter Tryz.func134,Tryz.ntmps134;go_wp2_with fail;go_ret;exact⟨rfl,rfl⟩
theorem Jf (l:List UInt8) (X:Nat) (A:ByteArray) (p:UInt8->Bool) (hp: ∀b,decide (0<=Lib.indexByte A.data.toList b)=p b) (w:World) (hs:l.length<=1073741824) (hc:w.cell? ⟨X,0,none⟩=some (.string A)):
  Calls Tryz.prog 133 #[.string (bs l), .func (.func 173) #[] #[.pointer (some ⟨X,0,none⟩)]] w λe w'=>e= .returned (.int .i64 (dF p l))/\w=w':=by
 have sl:=aT l;obtain⟨R,m⟩:=exQ<|dF p l;rw[m];have n:=hid m;clear m;have CA:Hid (∀b:UInt8,Calls Tryz.prog 173 #[.int .u8 (b.toNat:Int), .pointer (some ⟨X,0,none⟩)] w λe w'=>e= .returned (.bool (p b))/\w=w'):=hid (λb=>by rw[<-hp b];exact Uf X A b w hc);clear hp hc;go_enter Tryz.func133,Tryz.ntmps133;go_wp2_with fail;go_loop [8] (λs8=> ∃k:Nat,s8= .int .i64 k/\k<=l.length/\Hid (R=k+dF p (l.drop k))) (λs8=>l.length-(RowKit.intOf s8).toNat)
 case atStart=>exact⟨0,rfl,by omega,hid (by rw[List.drop_zero,n.out];omega)⟩
 case round=>
  obtain⟨k,rfl,hk,g⟩:=hrel;by_cases hlt:k<l.length
  ·have a:k<(bs l).size:=(by omega);have d:=Je l k hlt a;have f:=g.out;rw[iH hlt,xY,<-d] at f;have h:=congrArg (λc:UInt8=>(c.toNat:Int)) d;have CC:=hid (CA.out ((bs l)[k]'a));cases hp:p ((bs l)[k]'a) with
   | true=>
    rw[hp] at CC;rw[hp,if_pos rfl] at f;have i:Hid (R=(k+1)+dF p (l.drop (k+1))):=hid (by omega);clear hp f d h g;go_wp2_with (go_at_call 173;(with_reducible refine CC.out.mono ?_);rintro e w' ⟨rfl,rfl⟩);go_round
    case rel=>exact⟨k+1,by go_num,by omega,i.out⟩
    case measure=>simp[RowKit.intOf];omega
   | false=>
    rw[hp] at CC;rw[hp,if_neg (by simp)] at f;have j:Hid (R=k):=hid (by omega);clear hp f d h g;go_wp2_with (go_at_call 173;(with_reducible refine CC.out.mono ?_);rintro e w' ⟨rfl,rfl⟩);go_ret;exact⟨tT (by rw[j.out]),rfl⟩
  ·have j:Hid (R=l.length):=by
    have f:=g.out;rw[List.drop_of_length_le (by omega)] at f;exact hid (by rw[f];show k+0=_;omega)
   clear g;go_wp2_with fail;go_ret;exact⟨tT (by rw[j.out]),rfl⟩
theorem Uh (l:List UInt8) (w:World) (hs:l.length<=1073741824):
  Calls Tryz.prog 133 #[.string (bs l), .func (.func 136) #[] #[]] w λe w'=>e= .returned (.int .i64 (dF gR l))/\w=w':=by
 have sl:=aT l;obtain⟨R,m⟩:=exQ<|dF gR l;rw[m];have n:=hid m;clear m;have CA:=hid (λb:UInt8=>Ue b w);go_enter Tryz.func133,Tryz.ntmps133;go_wp2_with fail;go_loop [8] (λs8=> ∃k:Nat,s8= .int .i64 k/\k<=l.length/\Hid (R=k+dF gR (l.drop k))) (λs8=>l.length-(RowKit.intOf s8).toNat)
 case atStart=>exact⟨0,rfl,by omega,hid (by rw[List.drop_zero,n.out];omega)⟩
 case round=>
  obtain⟨k,rfl,hk,g⟩:=hrel;by_cases hlt:k<l.length
  ·have a:k<(bs l).size:=(by omega);have d:=Je l k hlt a;have f:=g.out;rw[iH hlt,xY,<-d] at f;have h:=congrArg (λc:UInt8=>(c.toNat:Int)) d;have CC:=hid (CA.out ((bs l)[k]'a));cases hp:gR ((bs l)[k]'a) with
   | true=>
    rw[hp] at CC;rw[hp,if_pos rfl] at f;have i:Hid (R=(k+1)+dF gR (l.drop (k+1))):=hid (by omega);clear hp f d h g;go_wp2_with (go_at_call 136;(with_reducible refine CC.out.mono ?_);rintro e w' ⟨rfl,rfl⟩);go_round
    case rel=>exact⟨k+1,by go_num,by omega,i.out⟩
    case measure=>simp[RowKit.intOf];omega
   | false=>
    rw[hp] at CC;rw[hp,if_neg (by simp)] at f;have j:Hid (R=k):=hid (by omega);clear hp f d h g;go_wp2_with (go_at_call 136;(with_reducible refine CC.out.mono ?_);rintro e w' ⟨rfl,rfl⟩);go_ret;exact⟨tT (by rw[j.out]),rfl⟩
  ·have j:Hid (R=l.length):=by
    have f:=g.out;rw[List.drop_of_length_le (by omega)] at f;exact hid (by rw[f];show k+0=_;omega)
   clear g;go_wp2_with fail;go_ret;exact⟨tT (by rw[j.out]),rfl⟩
theorem Ui (l:List UInt8) (w:World):
  Calls Tryz.prog 137 #[.string (bs l)] w λe w'=>e= .returned (.int .i64 (mB l))/\w=w':=by
 obtain⟨R,a⟩:=exQ<|mB l;rw[a];unfold mB at a;have b:(bs l).toList=l:=by rw[Lib.toList_data,aZ]
 by_cases h1:l= [116,114,117,101]
 ·rw[if_pos h1] at a;subst a h1;go_enter Tryz.func137,Tryz.ntmps137;go_wp2_with fail;go_ret;exact⟨rfl,rfl⟩
 rw[if_neg h1] at a;by_cases h2:l= [102,97,108,115,101]
 ·rw[if_pos h2] at a;subst a h2;go_enter Tryz.func137,Tryz.ntmps137;go_wp2_with fail;go_ret;exact⟨rfl,rfl⟩
 rw[if_neg h2] at a;by_cases h3:l= [110,117,108,108]
 ·rw[if_pos h3] at a;subst a h3;go_enter Tryz.func137,Tryz.ntmps137;go_wp2_with fail;go_ret;exact⟨rfl,rfl⟩
 rw[if_neg h3] at a;subst a;have e1:((bs l).toList== [116,114,117,101])=false:=by rw[b];simpa using h1
 have e2:((bs l).toList== [102,97,108,115,101])=false:=by rw[b];simpa using h2
 have e3:((bs l).toList== [110,117,108,108])=false:=by rw[b];simpa using h3
 clear b h1 h2 h3;go_enter Tryz.func137,Tryz.ntmps137;go_wp2_with fail;go_ret;exact⟨rfl,rfl⟩
def Uj (A:ByteArray) (w:World) (e:Ending) (w':World):Prop:= ∃X:Nat,e= .returned (.func (.func 173) #[] #[.pointer (some ⟨X,0,none⟩)])/\w'.cell? ⟨X,0,none⟩=some (.string A)/\Below w.heap.size w w'
theorem Jg (A:ByteArray) (w:World):Calls Tryz.prog 134 #[.string A] w (Uj A w):=
 (Ug A w).mono λ_ _ ⟨b,a⟩=>⟨_,b,by rw[a];exact cell_of_one (heap_alloc_new w _),by rw[a];exact aI w _⟩
def iB (w:World) (X:Nat) (k a b:Int):Prop:=w.heap[X]?=some (.cells #[.int .i64 k, .int .i64 a, .int .i64 b] 77 (0,0))
abbrev Bw (w:World) (X:Nat) (k a b:Int):Prop:=w.cell? ⟨X,0,none⟩=some (.int .i64 k)/\w.cell? ⟨X,1,none⟩=some (.int .i64 a)/\w.cell? ⟨X,2,none⟩=some (.int .i64 b)/\
 w.frozen? ⟨X,0,none⟩=false/\w.frozen? ⟨X,1,none⟩=false/\w.frozen? ⟨X,2,none⟩=false
theorem iB.cells {w:World}{X:Nat}{k a b:Int} (h:iB w X k a b):Bw w X k a b:=
 ⟨cell_of_row w X 0 _ _ (0,0) h,cell_of_row w X 1 _ _ (0,0) h,cell_of_row w X 2 _ _ (0,0) h,by simp[World.frozen?,show w.heap[X]?=_ from h],by simp[World.frozen?,show w.heap[X]?=_ from h],by simp[World.frozen?,show w.heap[X]?=_ from h]⟩
theorem iB.lt {w:World}{X:Nat}{k a b:Int} (h:iB w X k a b):X<w.heap.size:=aF h
theorem iB.keep {w w':World}{X:Nat}{k a b:Int} (h:iB w X k a b) (hb:Below w.heap.size w w'):iB w' X k a b:=(hb.block X h.lt).trans h
def fY (w:World) (X:Nat) (k a b:Int):World:=((w.setCell ⟨X,0,none⟩ (.int .i64 k)).setCell ⟨X,1,none⟩ (.int .i64 a)).setCell ⟨X,2,none⟩ (.int .i64 b)
theorem iB.put {w:World}{X:Nat}{k a b k2 a2 b2:Int} (h:iB w X k a b):iB (fY w X k2 a2 b2) X k2 a2 b2:=by
 unfold iB at h ⊢;unfold fY;simp[World.setCell,Array.getElem?_modify,h]
theorem Jh {B:Nat}{w w':World}{X:Nat}{k a b:Int} (h:Below B w w') (hX:B<=X):Below B w (fY w' X k a b):=
 ((h.setCell (p:=⟨X,0,none⟩) hX _).setCell (p:=⟨X,1,none⟩) hX _).setCell (p:=⟨X,2,none⟩) hX _
theorem Uk (kd a tw:Int) (X:Nat) (w:World) (hc:w.cell? ⟨X,0,none⟩=some (.int .i64 a)):
  Calls Tryz.prog 131 #[.int .i64 kd, .int .i64 tw, .pointer (some ⟨X,0,none⟩)] w λe w'=>e= .returned (.tuple #[.agg #[.int .i64 kd, .int .i64 a, .int .i64 tw], .int .i64 0])/\Below w.heap.size w w':=by
 have hX:X<w.heap.size:=rA hc;go_enter Tryz.func131,Tryz.ntmps131;go_wp2_with fail;have c:iB (w.alloc (.cells #[.int .i64 kd, .int .i64 a, .int .i64 tw] 77)) w.heap.size kd a tw:=heap_alloc_new w _;have b:=aI w (.cells #[.int .i64 kd, .int .i64 a, .int .i64 tw] 77);obtain⟨W,d⟩:=exQ<|w.alloc (.cells #[.int .i64 kd, .int .i64 a, .int .i64 tw] 77);rw[d] at c b ⊢;obtain⟨c0,c1,c2,_⟩:=c.cells;refine bodyPost_ret (v:= .tuple #[.agg #[.int .i64 kd, .int .i64 a, .int .i64 tw], .int .i64 0]) ?_ rfl ⟨rfl,b⟩;simp[results,Tryz.results131,go_sem,c0,c1,c2]
theorem Ul (a er:Int) (w:World):
  Calls Tryz.prog 132 #[.int .i64 a, .int .i64 er] w λe w'=>e= .returned (.tuple #[.agg #[.int .i64 0, .int .i64 a, .int .i64 a], .int .i64 er])/\Below w.heap.size w w':=by
 go_enter Tryz.func132,Tryz.ntmps132;go_wp2_with fail;have c:iB (w.alloc (.cells #[.int .i64 0, .int .i64 a, .int .i64 a] 77)) w.heap.size 0 a a:=heap_alloc_new w _;have b:=aI w (.cells #[.int .i64 0, .int .i64 a, .int .i64 a] 77);obtain⟨W,d⟩:=exQ<|w.alloc (.cells #[.int .i64 0, .int .i64 a, .int .i64 a] 77);rw[d] at c b ⊢;obtain⟨c0,c1,c2,_⟩:=c.cells;refine bodyPost_ret (v:= .tuple #[.agg #[.int .i64 0, .int .i64 a, .int .i64 a], .int .i64 er]) ?_ rfl ⟨rfl,b⟩;simp[results,Tryz.results132,go_sem,c0,c1,c2]
theorem Um (c:UInt8):Lib.indexByte [123,125,91,93,44,58] c=match qC c with | some k=>(k:Int) | none=> -1:=by
 have: ∀n:Fin 256,Lib.indexByte [123,125,91,93,44,58] (UInt8.ofNat n.val)=match qC (UInt8.ofNat n.val) with | some k=>(k:Int) | none=> -1:=by decide+kernel
 have:=this ⟨c.toNat,c.toNat_lt⟩;simpa only[UInt8.ofNat_toNat] using this
theorem Ji (c:UInt8):decide (0<=Lib.indexByte [32,9,10,13] c)=mA c:=by
 have: ∀n:Fin 256,decide (0<=Lib.indexByte [32,9,10,13] (UInt8.ofNat n.val))=mA (UInt8.ofNat n.val):=by decide+kernel
 have:=this ⟨c.toNat,c.toNat_lt⟩;simpa only[UInt8.ofNat_toNat] using this
theorem Un (c:UInt8):decide (0<=Lib.indexByte [45,43,46,48,49,50,51,52,53,54,55,56,57,101,69] c)=jX c:=by
 have: ∀n:Fin 256,decide (0<=Lib.indexByte [45,43,46,48,49,50,51,52,53,54,55,56,57,101,69] (UInt8.ofNat n.val))=jX (UInt8.ofNat n.val):=by decide+kernel
 have:=this ⟨c.toNat,c.toNat_lt⟩;simpa only[UInt8.ofNat_toNat] using this
theorem Uo (c:UInt8):dZ c=decide (48<=(c.toNat:Int)/\(c.toNat:Int)<=57):=by
 unfold dZ;rw[Bool.eq_iff_iff];simp;omega
def mX (T:Nat×Nat×Int) (a:Nat):Int×Int×Int×Int:=if T.2.2=0 then(T.1,a,a+T.2.1,0) else(0,a+T.2.1,a+T.2.1,T.2.2)
def pD (l:List UInt8) (a:Nat):Int×Int×Int×Int:=mX (cA (l.drop a)) a
def Jj (r:Int×Int×Int×Int):Ending:= .returned (.tuple #[.agg #[.int .i64 r.1, .int .i64 r.2.1, .int .i64 r.2.2.1], .int .i64 r.2.2.2])
structure mG (w:World) (a:Int) (w':World):Prop where
 p:w'.heap[w.heap.size]?=some (.cells #[.int .i64 a] 3 (0,0))
 t:iB w' (w.heap.size+1) 0 0 0
 b:Below w.heap.size w w'
abbrev Up (w:World) (a:Int) (w':World):Prop:=w'.cell? ⟨w.heap.size,0,none⟩=some (.int .i64 a)/\w'.frozen? ⟨w.heap.size,0,none⟩=false/\Bw w' (w.heap.size+1) 0 0 0
theorem mG.cells {w w':World}{a:Int} (h:mG w a w'):Up w a w':=⟨cell_of_one h.p,free_of_one h.p,h.t.cells⟩
theorem mG.keep {w w1 w2:World}{a:Int} (h:mG w a w1) (hb:Below w1.heap.size w1 w2):mG w a w2:=
 ⟨(hb.block _ (aF h.p)).trans h.p,h.t.keep hb,h.b.trans (hb.mono h.b.size)⟩
theorem mG.start (w:World) (a:Int):mG w a ((w.alloc (.cells #[.int .i64 a] 3)).alloc (.cells #[.int .i64 0, .int .i64 0, .int .i64 0] 77)):=by
 refine⟨?_,?_,?_⟩
 ·exact(Below.heap_alloc _ _ w.heap.size (by simp)).trans (heap_alloc_new w _)
 ·have:=heap_alloc_new (w.alloc (.cells #[.int .i64 a] 3)) (.cells #[.int .i64 0, .int .i64 0, .int .i64 0] 77);rw[kT] at this;exact this
 ·exact(aI w _).trans ((aI (w.alloc (.cells #[.int .i64 a] 3)) _).mono (by simp))
def Jk (w:World) (a:Int) (w':World):Prop:= ∃k x y,w'.heap[w.heap.size]?=some (.cells #[.int .i64 a] 3 (0,0))/\iB w' (w.heap.size+1) k x y/\Below w.heap.size w w'
abbrev cQ (w:World) (a:Int) (w':World):Prop:=w'.cell? ⟨w.heap.size,0,none⟩=some (.int .i64 a)/\Hid (Jk w a w')
theorem cQ.of {w w':World}{a:Int} (h:Jk w a w'):cQ w a w':=by
 obtain⟨k,x,y,b,c,d⟩:=h;exact⟨cell_of_one b,hid ⟨k,x,y,b,c,d⟩⟩
theorem cQ.start {w w':World}{a:Int} (h:mG w a w'):cQ w a w':=cQ.of ⟨0,0,0,h.p,h.t,h.b⟩
theorem cQ.drew {w w':World}{a:Int} (h:cQ w a w'):cQ w a w'.drew:=by
 obtain⟨k,x,y,b,c,d⟩:=h.2.out;exact cQ.of ⟨k,x,y,b,c,d.drew⟩
theorem cQ.step {w w1 w2:World}{a:Int} (h:cQ w a w1) (hb:Below w1.heap.size w1 w2):cQ w a w2:=by
 obtain⟨k,x,y,b,d,c⟩:=h.2.out;exact cQ.of ⟨k,x,y,(hb.block _ (aF b)).trans b,d.keep hb,c.trans (hb.mono c.size)⟩
theorem cQ.cellsE {w w1:World}{a:Int} (h:cQ w a w1): ∃k x y,Bw w1 (w.heap.size+1) k x y:=by
 obtain⟨k,x,y,h1,b,h3⟩:=h.2.out;exact⟨k,x,y,b.cells⟩
theorem By {w:World}{p:Addr}{u:Value}{g:Nat} (h:g≠p.block):(w.setCell p u).heap[g]?=w.heap[g]?:=cP w p u g h
theorem cQ.putG {w w1:World}{a:Int} (h:cQ w a w1) (k x y:Int):(fY w1 (w.heap.size+1) k x y).heap[w.heap.size]?=some (.cells #[.int .i64 a] 3 (0,0))/\iB (fY w1 (w.heap.size+1) k x y) (w.heap.size+1) k x y/\Below w.heap.size w (fY w1 (w.heap.size+1) k x y):=by
 obtain⟨k0,x0,y0,b,c,d⟩:=h.2.out;refine⟨?_,c.put,Jh d (sS _)⟩;unfold fY;rw[By (by simp),By (by simp),By (by simp)];exact b
theorem cQ.put {w w1:World}{a:Int} (h:cQ w a w1) (k x y:Int):cQ w a (((w1.setCell ⟨w.heap.size+1,0,none⟩ (.int .i64 k)).setCell ⟨w.heap.size+1,1,none⟩ (.int .i64 x)).setCell ⟨w.heap.size+1,2,none⟩ (.int .i64 y)):=by
 obtain⟨b,c,d⟩:=h.putG k x y;exact cQ.of ⟨k,x,y,b,c,d⟩
theorem mG.put {w w1:World}{a:Int} (h:mG w a w1) (k x y:Int):iB (fY w1 (w.heap.size+1) k x y) (w.heap.size+1) k x y/\Below w.heap.size w (fY w1 (w.heap.size+1) k x y):=
 ⟨h.t.put,Jh h.b (sS _)⟩
theorem Uq (l:List UInt8) (a:Nat) (ha:a<l.length):mU l a=((bT (l.drop a) 0).2.1+a,(bT (l.drop a) 0).2.2):=by
 unfold mU;rw[if_neg (by omega),Rv l a (by omega)]
theorem Ur {u:List UInt8}{c:UInt8} (h:u.head?=some c):cA u=(match qC c with
  | some k=>(2+k,1,0)
  | none=>if mA c then(1,dF mA u,0) else if c=34 then(if(bT u 0).2.2=0 then(8,(bT u 0).2.1.toNat,0) else(0,(bT u 0).2.1.toNat,(bT u 0).2.2)) else
   if c=45\/dZ c=true then(if(cL (u.take (dF jX u))).2=0 then(9,dF jX u,0) else(0,0,(cL (u.take (dF jX u))).2)) else
   if mB (u.take (dF gR u))=0 then(0,0,2) else(mB (u.take (dF gR u)),dF gR u,0):Nat×Nat×Int):=by
 cases u with
 | nil=>cases h
 | cons d r=>
  obtain rfl:d=c:=by simpa using h
  rfl
theorem Us (l:List UInt8) (a:Nat) (w:World) (hs:l.length<=1048576) (ha:a<l.length) (hV:cM w) (hT:bZ w):
  Calls Tryz.prog 98 #[.string (bs l), .int .i64 a] w λe w'=>e=Jj (pD l a)/\Below w.heap.size w w':=by
 have hmf: ∀(fn:Fn) (first cap:Array Value) (w:World),(Instr.makeFunc fn first cap).run Tryz.prog w= .ok (.func fn first cap) w:=λ_ _ _ _=>rfl;have sl:=aT l;obtain⟨R,D⟩:=exQ<|pD l a;rw[D];unfold pD at D;have al:(bs l).extract a l.length=bs (l.drop a):=lX l a _ rfl;have p:=Uq l a ha;have CE0:=hid (λw hV hT=>Gn l a w (by omega) hV hT);obtain⟨EE,Z⟩:=exQ<|mU l a;rw[Z] at CE0 p;obtain⟨ek,ee⟩:=EE;simp only[] at CE0 p;have E: ∀n,(bs l).extract a (a+n)=bs ((l.drop a).take n):=λn=>by rw[lG,aZ,Nat.add_sub_cancel_left]
 obtain⟨u,hu⟩:=exQ<|l.drop a;have aj:u.length=l.length-a:=by rw[<-hu,bB]
 have hub:u.length<=1048576:=by omega
 have hua:a+u.length<=l.length:=by omega
 have am:0<u.length:=by omega
 have su:=aT u;rw[hu] at al D p;simp only[hu] at E;have h0:0<(bs u).size:=by omega
 obtain⟨c,hc⟩: ∃c,u.head?=some c:=by cases u with | nil=>simp at am | cons c r=>exact⟨c,rfl⟩
 have ak:(((bs u)[0]'h0).toNat:Int)=(c.toNat:Int):=by
  have:=xS (bs u) h0;rw[aZ,hc] at this;rw[<-bD this]
 have HV:=hid hV;have HT:=hid hT;clear hV hT;have CI:=hid (λw=>vL ⟨#[123,125,91,93,44,58]⟩ c w);have CB:=hid (λw=>vL ⟨#[32,9,10,13]⟩ c w);rw[show (⟨#[123,125,91,93,44,58]⟩:ByteArray).data.toList= [123,125,91,93,44,58] from rfl,Um] at CI;rw[show (⟨#[32,9,10,13]⟩:ByteArray).data.toList= [32,9,10,13] from rfl] at CB;have I:=Ji c;obtain⟨KB,ab⟩:=exQ<|Lib.indexByte [32,9,10,13] c;rw[ab] at CB I;have M:=Uo c;have C:c=34↔(c.toNat:Int)=34:=⟨λh=>by rw[h];rfl,λh=>UInt8.toNat_inj.1 (by show c.toNat=34;omega)⟩;have A:c=45↔(c.toNat:Int)=45:=⟨λh=>by rw[h];rfl,λh=>UInt8.toNat_inj.1 (by show c.toNat=45;omega)⟩;rw[Ur hc] at D;have RB:Hid (∀(X:Nat) (w:World),w.cell? ⟨X,0,none⟩=some (.string ⟨#[32,9,10,13]⟩)->Calls Tryz.prog 133 #[.string (bs u), .func (.func 173) #[] #[.pointer (some ⟨X,0,none⟩)]] w λe w'=>e= .returned (.int .i64 (dF mA u))/\w=w'):=hid (λX w h=>Jf _ X _ mA Ji w (by omega) h);have RN:Hid (∀(X:Nat) (w:World),w.cell? ⟨X,0,none⟩=some (.string ⟨#[45,43,46,48,49,50,51,52,53,54,55,56,57,101,69]⟩)->Calls Tryz.prog 133 #[.string (bs u), .func (.func 173) #[] #[.pointer (some ⟨X,0,none⟩)]] w λe w'=>e= .returned (.int .i64 (dF jX u))/\w=w'):=hid (λX w h=>Jf _ X _ jX Un w (by omega) h);have RS:=hid (λw=>Uh u w (by omega));have ai:=tY mA u;have ah:=tY jX u;have an:=tY gR u;have CW:=hid (λw=>Ui (u.take (dF gR u)) w);have CP:=hid (λw=>yM (u.take (dF jX u)) w (by rw[cD];omega));have F:=Gv (u.take (dF gR u));have ef:(bs u).extract 0 (dF gR u)=bs (u.take (dF gR u)):=by rw[Al,aZ]
 have en:=E (dF jX u);obtain⟨nb,T⟩:=exQ<|dF mA u;obtain⟨nn,ae⟩:=exQ<|dF jX u;obtain⟨ns,Y⟩:=exQ<|dF gR u;rw[T] at RB ai D;rw[ae] at RN ah CP D en;rw[Y] at RS an CW D ef F;obtain⟨wd,U⟩:=exQ<|mB (u.take ns);obtain⟨PR,aa⟩:=exQ<|cL (u.take nn);rw[U] at CW F D;rw[aa] at CP D;obtain⟨n,s⟩: ∃n:Int,(c.toNat:Int)=n:=⟨_,rfl⟩;rw[s] at CI CB M C A ak;have ha1:(a:Int)+1<=1048576:=by omega
 have hab:(a:Int)+(nb:Int)<=1048576:=by omega
 have han:(a:Int)+(nn:Int)<=1048576:=by omega
 have has:(a:Int)+(ns:Int)<=1048576:=by omega
 have wab:IntKind.i64.wrap ((a:Int)+(nb:Int))=(a:Int)+(nb:Int):=by rw[IntKind.wrap_i64];omega
 have wan:IntKind.i64.wrap ((a:Int)+(nn:Int))=(a:Int)+(nn:Int):=by rw[IntKind.wrap_i64];omega
 have ag:=Gw u;have z:Hid (ek=a+(bT u 0).2.1.toNat/\ee=(bT u 0).2.2):=hid (by obtain⟨g1,g2⟩:=Prod.mk.inj p;exact⟨by rw[g1];omega,g2⟩);have CE:=CE0;have TK:=hid (λkd tw W hc=>Uk kd a tw w.heap.size W hc);have TF:=hid (λx er W=>Ul x er W);have hek:0<=ek/\ek<=1048576:=by have:=z.out.1;omega
 have HR:=hid D;have y:=hid (aJ E (aJ p (aJ F (aJ M (aJ C A)))));have O:=hid (aJ wab wan);have HB:=hid I;clear ab hu aj D E p F M C A wab wan I T ae Y hc U aa s Z ag CE0;go_enter Tryz.func98,Tryz.ntmps98;go_wp2_with fail;have j:=hid (mG.start w a);obtain⟨W0,Q⟩:=exQ ((w.alloc (.cells #[.int .i64 a] 3)).alloc (.cells #[.int .i64 0, .int .i64 0, .int .i64 0] 77));rw[Q] at j ⊢;clear Q;cases hsg:qC c with
 | some k=>
  have hk5:=Gu c k hsg;have q:Hid (((2:Int)+(k:Int),(a:Int),(a:Int)+1,(0:Int))=R):=hid (by have:=HR.out;rw[hsg] at this;rw[<-this];unfold mX;simp);rw[hsg] at CI;clear hsg HR y HB z;obtain⟨p0,q0,t0,t1,t2,f0,f1,f2⟩:=j.out.cells;(with_reducible refine(CI.out _).mono ?_);rintro e w' ⟨rfl,rfl⟩;go_wp2_with fail;clear t0 t1 t2 f0 f1 f2 q0;(with_reducible refine(TK.out _ _ _ p0).mono ?_);rintro e w3 ⟨rfl,o⟩;have j:=hid (j.out.keep o);clear p0 o;obtain⟨p0,q0,t0,t1,t2,f0,f1,f2⟩:=j.out.cells;go_wp2_with fail;have m:=hid (j.out.put (2+(k:Int)) ((a:Int)) ((a:Int)+1));obtain⟨WF,f⟩:=exQ<|fY w3 (w.heap.size+1) (2+(k:Int)) ((a:Int)) ((a:Int)+1);rw[f] at m;dsimp only[fY] at f;rw[f];clear f p0 q0 t0 t1 t2 f0 f1 f2;obtain⟨c0,c1,c2,_⟩:=m.out.1.cells;refine bodyPost_ret (v:= .tuple #[.agg #[.int .i64 (2+(k:Int)), .int .i64 ((a:Int)), .int .i64 ((a:Int)+1)], .int .i64 0]) ?_ rfl ⟨by rw[<-q.out];rfl,m.out.2⟩;simp[results,Tryz.results98,go_sem,c0,c1,c2]
 | none=>
  have i:Hid (mX (if mA c=true then(1,nb,0) else if c=34 then(if(bT u 0).2.2=0 then(8,(bT u 0).2.1.toNat,0) else(0,(bT u 0).2.1.toNat,(bT u 0).2.2)) else
    if c=45\/dZ c=true then(if PR.2=0 then(9,nn,0) else(0,0,PR.2)) else if wd=0 then(0,0,2) else(wd,ns,0)) a=R):=hid (by
   have:=HR.out;rw[hsg] at this;exact this)
  rw[hsg] at CI;clear hsg HR;obtain⟨p0,q0,t0,t1,t2,f0,f1,f2⟩:=j.out.cells;(with_reducible refine(CI.out _).mono ?_);rintro e w' ⟨rfl,rfl⟩;go_wp2_with fail;(with_reducible refine(CB.out _).mono ?_);rintro e w' ⟨rfl,rfl⟩;by_cases hbl:mA c=true
  ·have q:Hid (((1:Int),(a:Int),(a:Int)+(nb:Int),(0:Int))=R):=hid (by have:=i.out;rw[if_pos hbl] at this;rw[<-this];unfold mX;simp);have dKB:decide (0<=KB)=true:=by rw[HB.out];exact hbl
   have wab:=O.out.1;clear hbl i y HB z O;clear p0 q0 t0 t1 t2 f0 f1 f2;have hS:cQ w a W0:=cQ.start j.out;go_upto_region 9 with fail;go_region_held3 (λw'=>cQ w a w') ((first | exact cQ.drew (by assumption) | exact cQ.step (by assumption) (by assumption) | exact cQ.put (by assumption) _ _ _ | assumption))
    (first
     | (go_at_call 134;(with_reducible refine(Jg _ _).mono ?_);rintro e w1 ⟨X,rfl,hx,H⟩)
     | (go_at_call 133;(with_reducible refine(RB.out _ _ (by exact hx)).mono ?_);rintro e w2 ⟨rfl,rfl⟩)
     | (go_at_call 131;(with_reducible refine(TK.out _ _ _ ((by assumption:cQ w a _).1)).mono ?_);rintro e w3 ⟨rfl,ad⟩;have J:cQ w a w3:=cQ.step (by assumption) ad;obtain⟨k3,x3,y3,t0,t1,t2,f0,f1,f2⟩:=J.cellsE))
   have m:=hid (J.putG (1) ((a:Int)) ((a:Int)+(nb:Int)));obtain⟨WF,f⟩:=exQ<|fY w3 (w.heap.size+1) (1) ((a:Int)) ((a:Int)+(nb:Int));rw[f] at m;dsimp only[fY] at f;rw[f];clear f;clear hx H ad J t0 t1 t2 f0 f1 f2;obtain⟨c0,c1,c2,_⟩:=m.out.2.1.cells;go_wp2_with fail;refine bodyPost_ret (v:= .tuple #[.agg #[.int .i64 (1), .int .i64 ((a:Int)), .int .i64 ((a:Int)+(nb:Int))], .int .i64 0]) ?_ rfl ⟨by rw[<-q.out];rfl,m.out.2.2⟩;simp[results,Tryz.results98,go_sem,c0,c1,c2]
  rw[if_neg hbl] at i;have dKB:decide (0<=KB)=false:=by rw[HB.out];simpa using hbl
  clear HB hbl RB;by_cases h34:c=34
  ·have S:=y.out.2.2.2.2.1.1 h34;rw[if_pos h34] at i;subst S;by_cases he0:ee=0
   ·have q:Hid (((8:Int),(a:Int),ek,(0:Int))=R):=hid (by have:=i.out;rw[if_pos (by rw[<-z.out.2];exact he0)] at this;rw[<-this,z.out.1];unfold mX;simp);subst he0;clear i y z O h34;go_wp2_with fail;(with_reducible refine(CE.out _ (HV.out.keep j.out.b) (HT.out.keep j.out.b)).mono ?_);rintro e w2 ⟨rfl,o⟩;have j:=hid (j.out.keep o);clear p0 q0 t0 t1 t2 f0 f1 f2 o;obtain⟨p0,q0,t0,t1,t2,f0,f1,f2⟩:=j.out.cells;go_wp2_with fail;clear t0 t1 t2 f0 f1 f2 q0;(with_reducible refine(TK.out _ _ _ p0).mono ?_);rintro e w3 ⟨rfl,o⟩;have j:=hid (j.out.keep o);clear p0 o;obtain⟨p0,q0,t0,t1,t2,f0,f1,f2⟩:=j.out.cells;go_wp2_with fail;have m:=hid (j.out.put (8) ((a:Int)) (ek));obtain⟨WF,f⟩:=exQ<|fY w3 (w.heap.size+1) (8) ((a:Int)) (ek);rw[f] at m;dsimp only[fY] at f;rw[f];clear f;clear p0 q0 t0 t1 t2 f0 f1 f2;obtain⟨c0,c1,c2,_⟩:=m.out.1.cells;refine bodyPost_ret (v:= .tuple #[.agg #[.int .i64 (8), .int .i64 ((a:Int)), .int .i64 (ek)], .int .i64 0]) ?_ rfl ⟨by rw[<-q.out];rfl,m.out.2⟩;simp[results,Tryz.results98,go_sem,c0,c1,c2]
   ·have q:Hid (((0:Int),ek,ek,ee)=R):=hid (by have:=i.out;rw[if_neg (by rw[<-z.out.2];exact he0)] at this;rw[<-this,z.out.1];unfold mX;simp only[];rw[if_neg (by rw[<-z.out.2];exact he0),<-z.out.2]);have te:(ee !=0)=true:=gD.2 he0;clear i y z O h34 he0;go_wp2_with fail;(with_reducible refine(CE.out _ (HV.out.keep j.out.b) (HT.out.keep j.out.b)).mono ?_);rintro e w2 ⟨rfl,o⟩;have j:=hid (j.out.keep o);clear p0 q0 t0 t1 t2 f0 f1 f2 o;go_wp2_with fail;(with_reducible refine(TF.out _ _ _).mono ?_);rintro e w3 ⟨rfl,o⟩;have j:=hid (j.out.keep o);clear o;obtain⟨p0,q0,t0,t1,t2,f0,f1,f2⟩:=j.out.cells;go_wp2_with fail;have m:=hid (j.out.put (0) (ek) (ek));obtain⟨WF,f⟩:=exQ<|fY w3 (w.heap.size+1) (0) (ek) (ek);rw[f] at m;dsimp only[fY] at f;rw[f];clear f;clear p0 q0 t0 t1 t2 f0 f1 f2;obtain⟨c0,c1,c2,_⟩:=m.out.1.cells;refine bodyPost_ret (v:= .tuple #[.agg #[.int .i64 (0), .int .i64 (ek), .int .i64 (ek)], .int .i64 ee]) ?_ rfl ⟨by rw[<-q.out];rfl,m.out.2⟩;simp[results,Tryz.results98,go_sem,c0,c1,c2]
  rw[if_neg h34] at i;have t34:(n==34)=false:=aK.2 (λe=>h34 (y.out.2.2.2.2.1.2 e));by_cases t:c=45\/dZ c=true
  ·rw [if_pos t] at i;have K:n=45\/((n==45)=false/\decide (48<=n)=true/\decide (n<=57)=true):=by
    by_cases h:n=45
    ·exact .inl h
    ·right;rcases t with t | t
     ·exact absurd (y.out.2.2.2.2.2.1 t) h
     ·rw[y.out.2.2.2.1,kQ] at t;exact⟨aK.2 h,aM t.1,aM t.2⟩
   have wan:=O.out.2;obtain⟨P1,P2⟩:=PR;clear y O z t h34;go_upto_region 15 with fail;go_cut [72] (λs72 wx=>s72= .bool true/\Hid (mG w a wx))
   case first=>
    rcases K with rfl | ⟨d1,d2,d3⟩
    all_goals
     go_wp2_with fail;go_meet;exact⟨rfl,j⟩
   clear p0 q0 t0 t1 t2 f0 f1 f2 j;obtain⟨rfl,j⟩:=hcut;have hS:cQ w a wc:=cQ.start j.out;go_upto_region 16 with fail;go_region_held3 (λw'=>cQ w a w') ((first | exact cQ.drew (by assumption) | exact cQ.step (by assumption) (by assumption) | assumption))
    (first
     | (go_at_call 134;(with_reducible refine(Jg _ _).mono ?_);rintro e w1 ⟨X,rfl,hx,H⟩)
     | (go_at_call 133;(with_reducible refine(RN.out _ _ (by exact hx)).mono ?_);rintro e w2 ⟨rfl,rfl⟩))
   have L:cQ w a w1:=(by assumption);clear hx H hS;have N:=hid L;have B:=L.1;clear L;have HBn:Hid (Below w.heap.size w w1):=hid (by obtain⟨_,_,_,_,_,h3⟩:=N.out.2.out;exact h3);unfold uM gG at CP;obtain⟨g,d,e⟩:=P1;simp only[] at CP i;go_wp2_with fail;(with_reducible refine(CP.out _).mono ?_);rintro e w2 ⟨rfl,af⟩;have P:=hid (cQ.step N.out af);clear N af B;go_upto_region 18 with fail;have G:=hid (cQ.step P.out (aI w2 (.cells #[.bool g, .string (bs d), .int .i64 e] 113)));obtain⟨W2,V⟩:=exQ<|w2.alloc (.cells #[.bool g, .string (bs d), .int .i64 e] 113);rw[V] at G ⊢;clear V P;have B:=G.out.1;by_cases hp:P2=0
   ·have q:Hid (((9:Int),(a:Int),(a:Int)+(nn:Int),(0:Int))=R):=hid (by have:=i.out;rw[if_pos hp] at this;rw[<-this];unfold mX;simp);subst hp;clear i;go_wp2_with fail;(with_reducible refine(TK.out _ _ _ B).mono ?_);rintro e w3 ⟨rfl,o⟩;have s:=cQ.step G.out o;clear o B;obtain⟨k3,x3,y3,t0,t1,t2,f0,f1,f2⟩:=s.cellsE;go_wp2_with fail;have m:=hid (s.putG (9) ((a:Int)) ((a:Int)+(nn:Int)));obtain⟨WF,f⟩:=exQ<|fY w3 (w.heap.size+1) (9) ((a:Int)) ((a:Int)+(nn:Int));rw[f] at m;dsimp only[fY] at f;rw[f];clear f t0 t1 t2 f0 f1 f2;obtain⟨c0,c1,c2,_⟩:=m.out.2.1.cells;refine bodyPost_ret (v:= .tuple #[.agg #[.int .i64 (9), .int .i64 ((a:Int)), .int .i64 ((a:Int)+(nn:Int))], .int .i64 0]) ?_ rfl ⟨by rw[<-q.out];rfl,m.out.2.2⟩;simp[results,Tryz.results98,go_sem,c0,c1,c2]
   ·have q:Hid (((0:Int),(a:Int),(a:Int),P2)=R):=hid (by have:=i.out;rw[if_neg hp] at this;rw[<-this];unfold mX;simp only[];rw[if_neg hp];simp);have te:(P2 !=0)=true:=gD.2 hp;clear i hp;go_wp2_with fail;(with_reducible refine(TF.out _ _ _).mono ?_);rintro e w3 ⟨rfl,o⟩;have s:=cQ.step G.out o;clear o B;obtain⟨k3,x3,y3,t0,t1,t2,f0,f1,f2⟩:=s.cellsE;go_wp2_with fail;have m:=hid (s.putG (0) ((a:Int)) ((a:Int)));obtain⟨WF,f⟩:=exQ<|fY w3 (w.heap.size+1) (0) ((a:Int)) ((a:Int));rw[f] at m;dsimp only[fY] at f;rw[f];clear f t0 t1 t2 f0 f1 f2;obtain⟨c0,c1,c2,_⟩:=m.out.2.1.cells;refine bodyPost_ret (v:= .tuple #[.agg #[.int .i64 (0), .int .i64 ((a:Int)), .int .i64 ((a:Int))], .int .i64 P2]) ?_ rfl ⟨by rw[<-q.out];rfl,m.out.2.2⟩;simp[results,Tryz.results98,go_sem,c0,c1,c2]
  ·rw[if_neg t] at i;have K:(n==45)=false/\(decide (48<=n)=false\/(decide (48<=n)=true/\decide (n<=57)=false)):=by
    refine⟨aK.2 (λe=>t (.inl (y.out.2.2.2.2.2.2 e))),?_⟩;by_cases h:48<=n
    ·right;exact⟨aM h,aH (λh2=>t (.inr (by rw[y.out.2.2.2.1];exact aM ⟨h,h2⟩)))⟩
    ·left;exact aH h
   obtain⟨d1,d2⟩:=K;have hw12:wd<=12:=by have:=y.out.2.2.1;omega
   have wns:IntKind.i64.wrap ((a:Int)+(ns:Int))=(a:Int)+(ns:Int):=by rw[IntKind.wrap_i64];omega
   clear y O z t h34 CP RN;go_upto_region 15 with fail;go_cut [72] (λs72 wx=>s72= .bool false/\Hid (mG w a wx))
   case first=>
    rcases d2 with d2 | ⟨d2,d3⟩
    all_goals
     go_wp2_with fail;go_meet;exact⟨rfl,j⟩
   clear p0 q0 t0 t1 t2 f0 f1 f2 j;obtain⟨rfl,j⟩:=hcut;obtain⟨p0,q0,t0,t1,t2,f0,f1,f2⟩:=j.out.cells;by_cases hw0:wd=0
   ·have q:Hid (((0:Int),(a:Int),(a:Int),(2:Int))=R):=hid (by have:=i.out;rw[if_pos hw0] at this;rw[<-this];unfold mX;simp);subst hw0;clear i;go_wp2_with (go_at_call 133;(with_reducible refine(RS.out _).mono ?_);rintro e w' ⟨rfl,rfl⟩);(with_reducible refine(CW.out _).mono ?_);rintro e w' ⟨rfl,rfl⟩;go_wp2_with fail;(with_reducible refine(TF.out _ _ _).mono ?_);rintro e w3 ⟨rfl,o⟩;have s:=cQ.step (cQ.start j.out) o;clear o p0 q0 t0 t1 t2 f0 f1 f2;obtain⟨k3,x3,y3,t0,t1,t2,f0,f1,f2⟩:=s.cellsE;go_wp2_with fail;have m:=hid (s.putG (0) ((a:Int)) ((a:Int)));obtain⟨WF,f⟩:=exQ<|fY w3 (w.heap.size+1) (0) ((a:Int)) ((a:Int));rw[f] at m;dsimp only[fY] at f;rw[f];clear f t0 t1 t2 f0 f1 f2;obtain⟨c0,c1,c2,_⟩:=m.out.2.1.cells;refine bodyPost_ret (v:= .tuple #[.agg #[.int .i64 (0), .int .i64 ((a:Int)), .int .i64 ((a:Int))], .int .i64 2]) ?_ rfl ⟨by rw[<-q.out];rfl,m.out.2.2⟩;simp[results,Tryz.results98,go_sem,c0,c1,c2]
   ·have q:Hid (((wd:Int),(a:Int),(a:Int)+(ns:Int),(0:Int))=R):=hid (by have:=i.out;rw[if_neg hw0] at this;rw[<-this];unfold mX;simp);have tw:((wd:Int) !=0)=true:=gD.2 (by omega);clear i hw0;go_wp2_with (go_at_call 133;(with_reducible refine(RS.out _).mono ?_);rintro e w' ⟨rfl,rfl⟩);(with_reducible refine(CW.out _).mono ?_);rintro e w' ⟨rfl,rfl⟩;go_wp2_with fail;(with_reducible refine(TK.out _ _ _ p0).mono ?_);rintro e w3 ⟨rfl,o⟩;have s:=cQ.step (cQ.start j.out) o;clear o p0 q0 t0 t1 t2 f0 f1 f2;obtain⟨k3,x3,y3,t0,t1,t2,f0,f1,f2⟩:=s.cellsE;go_wp2_with fail;have m:=hid (s.putG ((wd:Int)) ((a:Int)) ((a:Int)+(ns:Int)));obtain⟨WF,f⟩:=exQ<|fY w3 (w.heap.size+1) ((wd:Int)) ((a:Int)) ((a:Int)+(ns:Int));rw[f] at m;dsimp only[fY] at f;rw[f];clear f t0 t1 t2 f0 f1 f2;obtain⟨c0,c1,c2,_⟩:=m.out.2.1.cells;refine bodyPost_ret (v:= .tuple #[.agg #[.int .i64 ((wd:Int)), .int .i64 ((a:Int)), .int .i64 ((a:Int)+(ns:Int))], .int .i64 0]) ?_ rfl ⟨by rw[<-q.out];rfl,m.out.2.2⟩;simp[results,Tryz.results98,go_sem,c0,c1,c2]
end
section
open Go.RowKit Go.Shelf
open Go.Lib hiding intOf
abbrev Ev:=Int×Int×Int×Int
def wG (t:aQ):Ev:=((t.kind:Int),(t.sf:Int),(t.st:Int),0)
def uN (o:Option (Nat×Int)):List Ev:=match o with | none=> [] | some x=> [(0,(x.1:Int),(x.1:Int),x.2)]
def kU (f:Nat) (l:List UInt8) (i:Nat):List Ev:=(eU f l i).1.map wG++uN (eU f l i).2
def iY (l:List UInt8):List Ev:=if 65536<l.length then [(0,0,0,3)] else kU l.length l 0
theorem Ut (f i:Nat):kU f [] i= []:=by unfold kU;rw[sG];rfl
theorem Uu (f:Nat) (l:List UInt8) (a:Nat) (ha:a<l.length): ∃k:Nat,(pD l a).2.2.1=k/\k<=l.length/\((pD l a).2.2.2=0->a<k)/\
  kU (f+1) (l.drop a) a=pD l a::(if(pD l a).2.2.2=0 then kU f (l.drop k) k else []):=by
 obtain⟨c,r,d⟩: ∃c r,l.drop a=c::r:=by
  cases h:l.drop a with
  | nil=>have:=congrArg List.length h;simp at this;omega
  | cons c r=>exact⟨c,r,rfl⟩
 have g:=congrArg List.length d;rw[bB] at g;have b:=rC (c::r) (List.cons_ne_nil _ _);have i:pD l a=mX (cA (c::r)) a:=by unfold pD;rw[d]
 have j:l.drop (a+(cA (c::r)).2.1)=(c::r).drop (cA (c::r)).2.1:=by rw[<-d,jH]
 rw[i,d];unfold kU;rw[sF];unfold mX;by_cases h:(cA (c::r)).2.2=0
 ·have h3:=b.2 h;refine⟨a+(cA (c::r)).2.1,?_,by have:=b.1;omega,λ_=>by omega,?_⟩
  ·simp only[if_pos h];omega
  ·simp only[if_pos h,if_true,j];unfold wG;simp only[fU,jW,List.cons.injEq,and_true,Prod.mk.injEq,true_and];omega
 ·refine⟨a+(cA (c::r)).2.1,?_,by have:=b.1;omega,λe=>?_,?_⟩
  ·simp only[if_neg h];omega
  ·simp only[if_neg h] at e;exact absurd e h
  ·simp only[if_neg h,List.map_nil,jJ];unfold uN;simp only[List.cons.injEq,and_true,Prod.mk.injEq,true_and];omega
def wH (x:Ev):Array Value:= #[.agg #[.int .i64 x.1, .int .i64 x.2.1, .int .i64 x.2.2.1], .int .i64 x.2.2.2]
def qG (O:Nat) (A:World) (i:Nat):Prop:= ∃v,A.heap[O]?=some (.cells #[v] 70 (0,0))/\v.ownBlock=some i
def kC (n O:Nat) (A B:World):Prop:=Below n A B/\(∀i,qG O B i->qG O A i\/(A.heap.size<=i/\i<B.heap.size))/\(∀i o,A.heap[i]?=some o->o.isCells=true->i≠O-> ¬qG O A i->B.heap[i]?=some o)
theorem kC.trans {n O:Nat}{A B C:World} (h:kC n O A B) (k:kC n O B C):kC n O A C:=by
 refine⟨h.1.trans k.1,λi j=>?_,λi o f e b c=>?_⟩
 ·rcases k.2.1 i j with d | ⟨d,m⟩
  ·rcases h.2.1 i d with a | ⟨a,g⟩
   ·exact .inl a
   ·exact .inr ⟨a,fV g k.1.size⟩
  ·exact .inr ⟨aY h.1.size d,m⟩
 ·refine k.2.2 i o (h.2.2 i o f e b c) e b (λl=>?_);rcases h.2.1 i l with a | ⟨a,_⟩
  ·exact c a
  ·have:=(cJ.1 f).1;omega
theorem kC.putObj {n O S:Nat} (hn:n<=S) (hO:O<S) (W:World) (j:Nat) (o o':Obj) (hj:S<=j) (h:W.heap[j]?=some o) (hc:o.isCells=false):kC n O W (W.putObj j o'):=by
 have a: ∀i,i≠j->(W.putObj j o').heap[i]?=W.heap[i]?:=λi c=>World.putObj_heap_other c;refine⟨(aB n W).grown (grownBy_putObj' W j o') (by have:=(cJ.1 h).1;omega) (λk e=>by cases e;omega),λi c=>?_,λi o2 d b _ _=>?_⟩
 ·obtain⟨v,f,g⟩:=c;rw[a O (by omega)] at f;exact .inl ⟨v,f,g⟩
 ·by_cases e:i=j
  ·rw[e,h] at d;cases d;rw[hc] at b;cases b
  ·rw[a i e];exact d
def mH (O X:Nat) (W:World):Prop:= ∀i,qG O W i->X<i/\i<W.heap.size
theorem qG.back {O:Nat}{A B:World}{i:Nat} (hb:Below A.heap.size A B) (hO:O<A.heap.size) (h:qG O B i):qG O A i:=by
 obtain⟨v,a,b⟩:=h;rw[hb.block O hO] at a;exact⟨v,a,b⟩
theorem mH.keep {O X:Nat}{A B:World} (h:mH O X A) (hb:Below A.heap.size A B) (hO:O<A.heap.size):mH O X B:=λi a=>by
 have:=h i (a.back hb hO);exact⟨this.1,fV this.2 hb.size⟩
theorem mH.kp {n O X:Nat}{A B:World} (h:mH O X A) (hX:X<A.heap.size) (k:kC n O A B):mH O X B:=λi b=>by
 rcases k.2.1 i b with a | ⟨a,c⟩
 ·have:=h i a;exact⟨this.1,fV this.2 k.1.size⟩
 ·exact⟨by omega,c⟩
theorem Bz {A B:World} (h:Below A.heap.size A B):A.grownBy B none:=⟨h.os,h.tape,h.output,h.size,λi a _=>h.block i a⟩
theorem Uv {β:Type}{S:Nat}{J:β->World->Prop} (hJ:AbidesFrom S J) {s:β}{A B:World} (h:J s A) (hb:Below A.heap.size A B):J s B:=hJ s A B none h (Bz hb) (λr e=>by cases e)
theorem Uw (n:Nat) (hn:1<=n) (q X O S:Nat) (w0:World) (l:List UInt8) (hs:l.length<=4611686018427387904) (hV:cM w0) (hT:bZ w0) (J Jx:List Ev->World->Prop) (hJ:AbidesFrom S J)
  (hY: ∀pre x W,J pre W->pre.length<(iY l).length->YieldAt Fence.wide (n-1) Tryz.prog q (wH x) W λe W'=>
   (e= .returned (.bool true)/\J (pre++ [x]) W'/\kC w0.heap.size O W W')\/(e= .returned (.bool false)/\Jx (pre++ [x]) W'))
  (W:World) (hX:W.heap[X]?=some (.cells #[.string (bs l)] 9 (0,0))) (hO:O<W.heap.size) (hne:O≠X) (hP:mH O X W) (hB:Below w0.heap.size w0 W) (h0:J [] W):
  CallsIn Fence.wide n Tryz.prog 97 #[.func (.yield q) #[] #[], .pointer (some ⟨X,0,none⟩)] W λe W'=>(∃v,e= .returned v)/\
   ((∃ys,ys=iY l/\J ys W')\/(∃pre,pre <+:iY l/\Jx pre W')):=by
 have sl:=aT l;have K:=cell_of_one hX;refine callsIn_of_wp Tryz.func97 rfl trivial ?_ rfl;simp only[Tryz.ntmps97,List.size_toArray,aV,gY,Nat.reduceAdd,Nat.reduceSub,Array.replicate_succ,Array.replicate_zero,List.push_toArray,List.append_toArray,jJ,jW];obtain⟨E,C⟩:=exQ<|iY l;rw[C] at hY ⊢;unfold iY at C;by_cases hlong:65536<l.length
 ·rw[if_pos hlong] at C;subst C;obtain⟨fn,tmps,assign,body,G,hR⟩:=hY [] (0,0,0,3) W h0 (by simp);unfold wH at G;gi_wp2;refine hR.mono ?_;rintro e W3 (⟨rfl,z,i⟩ | ⟨rfl,p⟩)
  ·gi_wp2;refine bodyPost_ret (results_none rfl _ _ _) rfl ?_;exact⟨⟨_,rfl⟩, .inl ⟨_,rfl,z⟩⟩
  ·gi_wp2;refine bodyPost_ret (results_none rfl _ _ _) rfl ?_;exact⟨⟨_,rfl⟩, .inr ⟨_,List.prefix_refl _,p⟩⟩
 ·rw [if_neg hlong] at C;have CN:=hid (λa w ha hV hT=>Us l a w (by omega) ha hV hT);have HE:=hid C;have HV:=hid hV;have HT:=hid hT;have HJ:=hid (fun(s:List Ev) (A B:World) (h:J s A) (hb:Below A.heap.size A B)=>Uv hJ h hb);have HY:=hid hY;have HS:Hid (∃f,E= []++kU f (l.drop 0) 0/\l.length<=0+f):=hid ⟨l.length,by rw[<-C,List.drop_zero,jJ],by omega⟩;have hO':=hO;have o:Hid (J [] W/\Below w0.heap.size w0 W/\W.heap[X]?=some (.cells #[.string (bs l)] 9 (0,0))/\mH O X W):=hid ⟨h0,hB,hX,hP⟩;have hlong2:(l.length:Int)<=65536:=by omega
  have dlong:decide (65536<(l.length:Int))=false:=aH (by omega);clear C hV hT hJ hY h0 hB hX hP;gi_wp2;gi_loopw [3] (λs3 wr=> ∃(pre:List Ev) (a:Nat),s3= .int .i64 a/\a<=l.length/\Hid (∃f,E=pre++kU f (l.drop a) a/\l.length<=a+f)/\Hid (J pre wr/\Below w0.heap.size w0 wr/\wr.heap[X]?=some (.cells #[.string (bs l)] 9 (0,0))/\mH O X wr)/\O<wr.heap.size) (λs3 wr=>l.length-(RowKit.intOf s3).toNat)
  case atStart=>exact⟨[],0,rfl,by omega,HS.out,o.out,hO⟩
  case round=>
   obtain⟨pre,a,rfl,ha,HG,o,hO⟩:=hrel;have K:=cell_of_one o.out.2.2.1;by_cases hlt:a<l.length
   ·obtain⟨x,hx⟩:=exQ<|pD l a;have aa: ∃k:Nat,x.2.2.1=k/\k<=l.length/\(x.2.2.2=0->a<k)/\Hid (∃f,E=pre++(x::(if x.2.2.2=0 then kU f (l.drop k) k else []))/\l.length<=a+f+1):=by
     obtain⟨f,j,Y⟩:=HG.out;obtain⟨g,rfl⟩: ∃g,f=g+1:=⟨f-1,by omega⟩;obtain⟨k,k1,k2,k3,k4⟩:=Uu g l a hlt;rw[hx] at k1 k3 k4;rw[k4] at j;exact⟨k,k1,k2,k3,hid ⟨g,j,by omega⟩⟩
    obtain⟨k,R,ag,b,d⟩:=aa;have CN2:=hid (CN.out a wr hlt (HV.out.keep o.out.2.1) (HT.out.keep o.out.2.1));rw[hx] at CN2;obtain⟨xk,xf,xt,xe⟩:=x;simp only[] at R b d;subst R;unfold Jj at CN2;simp only[] at CN2;clear HG hx;gi_wp2_with fail;refine⟨trivial,?_⟩;(with_reducible refine(callsIn_wide.2 CN2.out).mono ?_);rintro e w1 ⟨rfl,t⟩;have m:Below wr.heap.size wr (w1.alloc (.cells #[.int .i64 xk, .int .i64 xf, .int .i64 k] 77)):=aC t (aI w1 _);have u:iB (w1.alloc (.cells #[.int .i64 xk, .int .i64 xf, .int .i64 k] 77)) w1.heap.size xk xf k:=heap_alloc_new w1 _;obtain⟨W2,M⟩:=exQ<|w1.alloc (.cells #[.int .i64 xk, .int .i64 xf, .int .i64 k] 77);rw[M] at m u;obtain⟨Z,hZ⟩:=exQ<|w1.heap.size;have hOZ:O<Z:=by rw[<-hZ];exact fV hO t.size
    have H:mH O X w1:=o.out.2.2.2.keep t hO;have F:mH O X W2:=o.out.2.2.2.keep m hO;have N: ¬qG O W2 Z:=λhw=>by
     have ad:Below w1.heap.size w1 W2:=by rw[<-M];exact aI w1 _
     have:=(H Z (hw.back ad (fV hO t.size))).2;omega
    have U:W2.heap[X]?=some (.cells #[.string (bs l)] 9 (0,0)):=(m.block X (aF o.out.2.2.1)).trans o.out.2.2.1;have T: ¬qG O W2 X:=λhw=>Nat.lt_irrefl _ (F X hw).1;rw[hZ] at u;have V:=HJ.out pre _ _ o.out.1 m;have Q:Below w0.heap.size w0 W2:=o.out.2.1.trans (m.mono o.out.2.1.size);have ae:O<W2.heap.size:=fV hO m.size;have y:=hid (aJ F (aJ N (aJ U (aJ T (aJ Q u)))));have D:pre.length<E.length:=by
     obtain⟨f,j,_⟩:=d.out;rw[j,aW,aV];omega
    obtain⟨fn,tmps,assign,body,G,hR⟩:=HY.out pre (xk,xf,(k:Int),xe) W2 V D;obtain⟨t0,t1,t2,f0,f1,f2⟩:=u.cells;unfold wH at G;simp only[] at G;clear V t m H F N U T Q D o CN2 K u;gi_wp2_with fail;refine hR.mono ?_;clear G hR t0 t1 t2 f0 f1 f2;rintro e W3 (⟨rfl,z,i⟩ | ⟨rfl,p⟩)
    ·have P:iB W3 Z xk xf k:=i.2.2 Z _ y.out.2.2.2.2.2 rfl (by omega) y.out.2.1;have I:W3.heap[X]?=some (.cells #[.string (bs l)] 9 (0,0)):=i.2.2 X _ y.out.2.2.1 rfl (λe=>hne e.symm) y.out.2.2.2.1;have af:O<W3.heap.size:=fV ae i.1.size;have L:Hid (J (pre++ [(xk,xf,(k:Int),xe)]) W3/\Below w0.heap.size w0 W3/\W3.heap[X]?=some (.cells #[.string (bs l)] 9 (0,0))/\mH O X W3):=hid ⟨z,y.out.2.2.2.2.1.trans i.1,I,y.out.1.kp (aF y.out.2.2.1) i⟩;clear z i I y;by_cases hxe:xe=0
     ·have ab:Hid (∃f,E=(pre++ [(xk,xf,(k:Int),xe)])++kU f (l.drop k) k/\l.length<=k+f):=hid (by obtain⟨f,j,Y⟩:=d.out;rw[if_pos hxe] at j;have:=b hxe;exact⟨f,by rw[j];simp,by omega⟩);have hak:=b hxe;subst hxe;clear d b;obtain⟨t0,t1,t2,f0,f1,f2⟩:=P.cells;gi_wp2_with fail;go_roundw
      case rel=>exact⟨_,k,rfl,ag,ab.out,L.out,af⟩
      case measure=>simp[RowKit.intOf];omega
     ·have c:E=pre++ [(xk,xf,(k:Int),xe)]:=by
       obtain⟨f,j,Y⟩:=d.out;rw[if_neg hxe] at j;exact j
      have r:=hid c;have te:(xe !=0)=true:=gD.2 hxe;clear c hxe d b P;gi_wp2_with fail;refine bodyPost_ret (results_none rfl _ _ _) rfl ?_;exact⟨⟨_,rfl⟩, .inl ⟨_,r.out.symm,L.out.1⟩⟩
    ·have c:pre++ [(xk,xf,(k:Int),xe)] <+:E:=by
      obtain⟨f,j,Y⟩:=d.out;exact⟨_,by rw[j];simp;rfl⟩
     have r:=hid (aJ c p);clear c d b y p;gi_wp2_with fail;refine bodyPost_ret (results_none rfl _ _ _) rfl ?_;exact⟨⟨_,rfl⟩, .inr ⟨_,r.out.1,r.out.2⟩⟩
   ·have c:E=pre:=by
     obtain⟨f,j,Y⟩:=HG.out;rw[List.drop_of_length_le (by omega),Ut,List.append_nil] at j;exact j
    have r:=hid c;clear c;gi_wp2_with fail;go_end0;exact⟨⟨_,rfl⟩, .inl ⟨_,r.out.symm,o.out.1⟩⟩
attribute [local go_sem] Oper.semAt_some
theorem Tryz.infoTok:(Tryz.prog.info? 77).map (λi=>(i.zero,i.size,i.bytes))=some (some (.agg #[.int .i64 0, .int .i64 0, .int .i64 0]),3,24):=by kernel_rfl
theorem Ux (A:ByteArray) (w:World):
  Calls Tryz.prog 54 #[.string A] w λe w'=>e= .returned (.func (.func 97) #[] #[.pointer (some ⟨w.heap.size,0,none⟩)])/\w'=w.alloc (.cells #[.string A] 9):=by
 have hmf: ∀(fn:Fn) (first cap:Array Value) (w:World),(Instr.makeFunc fn first cap).run Tryz.prog w= .ok (.func fn first cap) w:=λ_ _ _ _=>rfl;go_enter Tryz.func54,Tryz.ntmps54;go_wp2_with fail;go_ret;exact⟨rfl,rfl⟩
def qH (xs:List Ev):List Value:=xs.flatMap λx=> [.int .i64 x.1, .int .i64 x.2.1, .int .i64 x.2.2.1]
def pE (ts:List aQ):List Value:=ts.flatMap λt=> [.int .i64 t.kind, .int .i64 t.sf, .int .i64 t.st]
theorem Uy (ts:List aQ):qH (ts.map wG)=pE ts:=by
 unfold qH pE;rw[List.flatMap_map];rfl
theorem Uz (xs:List Ev) (x:Ev):qH (xs++ [x])=qH xs++ [.int .i64 x.1, .int .i64 x.2.1, .int .i64 x.2.2.1]:=by unfold qH;simp
def iZ (B:Nat) (w:World) (v:Value) (ts:List aQ):Prop:=w.ownsRow B 77 3 v ts.length (pE ts)
def Va (r:List aQ×Int×Int) (w:World) (e:Ending) (w':World):Prop:= ∃v,e= .returned (.tuple #[v, .int .i64 r.2.1, .int .i64 r.2.2])/\iZ w.heap.size w' v r.1/\(r.1= []->v= .slice none 0 0)/\Below w.heap.size w w'
theorem Vb (l:List UInt8):(iY l).length<=65537:=by
 have a: ∀(f:Nat) (l:List UInt8) (i:Nat),(eU f l i).1.length<=f:=by
  intro f
  induction f with
  | zero=>intro l i;simp[eU]
  | succ f ih=>
   intro l i;cases l with
   | nil=>rw[sG];simp
   | cons c r=>
    rw[sF];split
    ·simp only[aV];have:=ih ((c::r).drop (cA (c::r)).2.1) (i+(cA (c::r)).2.1);omega
    ·simp
 unfold iY;split
 ·simp
 ·unfold kU;rw[aW,bK];have:=a l.length l 0;have h2:(uN (eU l.length l 0).2).length<=1:=by unfold uN;split<;>simp
  omega
theorem yO {W:World}{B base n size:Nat}{t e:TypeId}{u v:Value}{xs:List Value} (hb:Boxed W B t u) (hte:t≠e) (hrow:W.ownsRow base e size v n xs) (x:Value):(W.setCell ⟨B,0,none⟩ x).ownsRow base e size v n xs:=
 hrow.kept (grownBy_setCell' W B x) (.inr (hb.not_row hte hrow).symm)
theorem Vc (X:Nat) (k a b:Int):Own (fun(_:Unit) W=>iB W X k a b):=λs A B row d g c=>
 (g.block X (aF d) (λe'=>by obtain⟨o,e,f⟩:=c X e'.symm;rw[show A.heap[X]?=_ from d] at e;cases e;cases f)).trans d
theorem kC.of_below {n O:Nat}{A B:World} (hb:Below A.heap.size A B) (hn:n<=A.heap.size) (hO:O<A.heap.size):kC n O A B:=
 ⟨hb.mono hn,λi b=> .inl (b.back hb hO),λi o a _ _ _=>(hb.block i (aF a)).trans a⟩
theorem kC.push {n O:Nat}{W w1:World}{v v':Value}{tmp:Obj} (hv:Boxed W O 70 v) (hgrow:(W.alloc tmp).grownBy w1 v.ownBlock) (hv2:Boxed (w1.setCell ⟨O,0,none⟩ v') O 70 v') (hb:Below n W (w1.setCell ⟨O,0,none⟩ v'))
  (hat:v'.ownBlock=v.ownBlock\/v'.ownBlock=some (W.alloc tmp).heap.size) (hlt: ∀k,v'.ownBlock=some k->k<w1.heap.size):kC n O W (w1.setCell ⟨O,0,none⟩ v'):=by
 have hsz:(w1.setCell ⟨O,0,none⟩ v').heap.size=w1.heap.size:=by simp[World.setCell]
 refine⟨hb,λi c=>?_,λi o g hc a b=>?_⟩
 ·obtain⟨u,d,f⟩:=c;rw[show (w1.setCell ⟨O,0,none⟩ v').heap[O]?=_ from hv2] at d;simp only[cN,Obj.cells.injEq,Array.mk.injEq,List.cons.injEq,and_true,true_and] at d;subst d;rcases hat with h | h
  ·exact .inl ⟨v,hv,by rw[<-h,f]⟩
  ·rw[f,kT] at h;have:=hlt i f;simp only[cN] at h;exact .inr ⟨by omega,by omega⟩
 ·have c:=aF g;have e1:(w1.setCell ⟨O,0,none⟩ v').heap[i]?=w1.heap[i]?:=cP w1 ⟨O,0,none⟩ v' i a;rw[e1,hgrow.block i (by rw[kT];omega) (λe=>b ⟨v,hv,e.symm⟩),Below.heap_alloc _ _ _ c];exact g
theorem Vd (w:World) (cs:Array Value) (t:TypeId): ∀j u,cs.toList[j]?=some u->(w.alloc (.cells cs t)).cell? ((⟨w.heap.size,0,none⟩:Addr).add j)=some u:=by
 intro j u a;rw[Array.getElem?_toList] at a;have e1:((⟨w.heap.size,0,none⟩:Addr).add j)=⟨w.heap.size,j,none⟩:=by unfold Addr.add;split<;>simp_all
 rw[e1,World.cell?_alloc_new];exact a
def Jl (w:World) (S:Nat) (pre:List Ev) (W:World):Prop:=(((((∃v,Boxed W (w.heap.size+3) 70 v/\W.ownsRow w.heap.size 77 3 v pre.length (qH pre)/\((∀x∈pre,x.2.2.2=0)/\(pre= []->v= .slice none 0 0)))/\Boxed W w.heap.size 70 (.slice none 0 0))/\Boxed W (w.heap.size+1) 3 (.int .i64 0))/\Boxed W (w.heap.size+2) 27 (.int .i64 0))/\(Below w.heap.size w W/\S<=W.heap.size))
def Ca (w:World) (c:Code) (pre:List Ev) (W:World):Prop:=((c= .ret/\ ∃ys x,pre=ys++ [x]/\x.2.2.2≠0/\Boxed W w.heap.size 70 (.slice none 0 0)/\Boxed W (w.heap.size+1) 3 (.int .i64 x.2.1)/\Boxed W (w.heap.size+2) 27 (.int .i64 x.2.2.2)))/\Below w.heap.size w W
theorem Ve (w:World) (S B:Nat) (hB:w.heap.size<=B):OwnFrom B (Jl w S):=
 OwnFrom.and (OwnFrom.and (OwnFrom.and (OwnFrom.and (Own.from (holdsRow_own w.heap.size (w.heap.size+3) 70 77 3 (λpre=>pre.length) qH (λpre v=>(∀x∈pre,x.2.2.2=0)/\(pre= []->v= .slice none 0 0))) _) (Own.from (boxed_own _ _ (λ_=>_)) _)) (Own.from (boxed_own _ _ (λ_=>_)) _)) (Own.from (boxed_own _ _ (λ_=>_)) _)) (OwnFrom.and (ownFrom_below (aE _) hB) (λ_ _ _ _ b a _=>aY b a.size))
theorem Vf (w:World) (c:Code) (B:Nat) (hB:w.heap.size<=B):OwnFrom B (Ca w c):=
 OwnFrom.and (λs A B row i a b=>by obtain⟨g,ys,x,j,f,d,h,k⟩:=i;exact⟨g,ys,x,j,f,boxed_own _ _ (fun(_:Unit)=>_) () A B row d a (λr e=>(b r e).2),boxed_own _ _ (fun(_:Unit)=>_) () A B row h a (λr e=>(b r e).2),boxed_own _ _ (fun(_:Unit)=>_) () A B row k a (λr e=>(b r e).2)⟩) (ownFrom_below (aE _) hB)
theorem Vg {w W:World}{S:Nat}{Kp:World->World->Prop}{I:List Ev->World->Prop}{a:Act} (c2:Boxed W w.heap.size 70 (.slice none 0 0)) (c3:Boxed W (w.heap.size+1) 3 (.int .i64 0)) (c4:Boxed W (w.heap.size+2) 27 (.int .i64 0)) (hB:Below w.heap.size w W) (pre:List Ev) (x:Ev) (hx:x.2.2.2≠0):
  ownPostG S Kp I (Ca w) (pre++ [x]) W .ret a (((W.setCell ⟨w.heap.size,0,none⟩ (.slice none 0 0)).setCell ⟨w.heap.size+1,0,none⟩ (.int .i64 x.2.1)).setCell ⟨w.heap.size+2,0,none⟩ (.int .i64 x.2.2.2)).drew:=by
 refine⟨((((KeepsOthers.setCell _ _ _).trans (KeepsOthers.setCell _ _ _)).trans (KeepsOthers.setCell _ _ _)).trans (KeepsOthers.drew _)).from _,⟨rfl,pre,x,rfl,hx,?_,?_,?_⟩,?_⟩
 ·exact(show Boxed (((W.setCell ⟨w.heap.size,0,none⟩ (.slice none 0 0)).setCell ⟨w.heap.size+1,0,none⟩ (.int .i64 x.2.1)).setCell ⟨w.heap.size+2,0,none⟩ (.int .i64 x.2.2.2)) _ _ _ from ((c2.set _).other (by omega) _).other (by omega) _)
 ·exact((c3.other (by omega) _).set _).other (by omega) _
 ·exact((c4.other (by omega) _).other (by omega) _).set _
 ·exact(((hB.setCell (p:=⟨w.heap.size,0,none⟩) (aE _) _).setCell (p:=⟨w.heap.size+1,0,none⟩) (sS _) _).setCell (p:=⟨w.heap.size+2,0,none⟩) (by show w.heap.size<=w.heap.size+2;omega) _).drew
theorem Vh (f:Nat) (l:List UInt8) (i:Nat) (hf:l.length<=f) (h: ∀x∈kU f l i,x.2.2.2=0):(eU f l i).2=none/\kU f l i=(eU f l i).1.map wG:=by
 unfold kU at h ⊢;cases ho:(eU f l i).2 with
 | none=>exact⟨rfl,by unfold uN;simp⟩
 | some x=>
  exfalso;obtain⟨p,e⟩:=x;have:=xZ f l i p e hf ho;rw[ho] at h;have a:=h (0,(p:Int),(p:Int),e) (by unfold uN;simp);exact this.2.2 a
theorem Vi (l:List UInt8) (h: ∀x∈iY l,x.2.2.2=0):(eR l).2=((l.length:Int),0)/\iY l=(eR l).1.map wG:=by
 unfold iY at h ⊢;unfold eR;by_cases hl:65536<l.length
 ·rw[if_pos hl] at h;have:=h (0,0,0,3) (by simp);exact absurd this (by decide)
 ·rw[if_neg hl] at h;obtain⟨a,b⟩:=Vh l.length l 0 (aE _) h;rw[if_neg hl,if_neg hl,a];exact⟨rfl,b⟩
theorem Vj (l:List UInt8) (ys:List Ev) (x:Ev) (hp:ys++ [x] <+:iY l) (hx:x.2.2.2≠0):eR l=([],x.2.1,x.2.2.2):=by
 have a:x∈iY l:=hp.mem (by simp);unfold iY at a;unfold eR;by_cases hl:65536<l.length
 ·rw[if_pos hl] at a ⊢;rw[iQ.1 a]
 ·rw[if_neg hl] at a;simp only[if_neg hl];unfold kU at a;rcases nN.1 a with a | a
  ·obtain⟨t,_,rfl⟩:=oQ.1 a;exact absurd rfl hx
  ·cases ho:(eU l.length l 0).2 with
   | none=>rw[ho] at a;cases a
   | some y=>
    rw[ho] at a;obtain⟨p,e⟩:=y;rw[iQ.1 a]
theorem Vk (l:List UInt8) (w:World) (hs:l.length<=4611686018427387904) (hV:cM w) (hT:bZ w):
  Calls Tryz.prog 26 #[.string (bs l)] w (Va (eR l) w):=by
 have sl:=aT l;refine(callsIn_wide (n:=9)).1 ?_;refine callsIn_of_wp_marks Tryz.func26 rfl trivial ?_ rfl;simp only[Tryz.ntmps26,List.size_toArray,aV,gY,Nat.reduceAdd,Nat.reduceSub,Array.replicate_succ,Array.replicate_zero,List.push_toArray,List.append_toArray,jJ,jW];gi_wp2_with fail;refine⟨trivial,?_⟩;refine(callsIn_wide.2 (Ux _ _)).mono ?_;rintro e w' ⟨rfl,rfl⟩;gi_wp2_with fail;obtain⟨W0,d⟩:=exQ (((((w.alloc (.cells #[.slice none 0 0] 70)).alloc (.cells #[.int .i64 0] 3)).alloc (.cells #[.int .i64 0] 27)).alloc (.cells #[.slice none 0 0] 70)).alloc (.cells #[.string (bs l)] 9));have b2:Boxed W0 w.heap.size 70 (.slice none 0 0):=by rw[<-d];exact((((Boxed.new w _ _).alloc _).alloc _).alloc _).alloc _
 have b3:Boxed W0 (w.heap.size+1) 3 (.int .i64 0):=by
  have:=(((Boxed.new (w.alloc (.cells #[.slice none 0 0] 70)) 3 (.int .i64 0)).alloc (.cells #[.int .i64 0] 27)).alloc (.cells #[.slice none 0 0] 70)).alloc (.cells #[.string (bs l)] 9);rw[kT] at this;rw[<-d];exact this
 have b4:Boxed W0 (w.heap.size+2) 27 (.int .i64 0):=by
  have:=((Boxed.new ((w.alloc (.cells #[.slice none 0 0] 70)).alloc (.cells #[.int .i64 0] 3)) 27 (.int .i64 0)).alloc (.cells #[.slice none 0 0] 70)).alloc (.cells #[.string (bs l)] 9);simp only[kT,Nat.add_assoc,Nat.reduceAdd] at this;rw[<-d];exact this
 have b5:Boxed W0 (w.heap.size+3) 70 (.slice none 0 0):=by
  have:=(Boxed.new (((w.alloc (.cells #[.slice none 0 0] 70)).alloc (.cells #[.int .i64 0] 3)).alloc (.cells #[.int .i64 0] 27)) 70 (.slice none 0 0)).alloc (.cells #[.string (bs l)] 9);simp only[kT,Nat.add_assoc,Nat.reduceAdd] at this;rw[<-d];exact this
 have b6:Boxed W0 (w.heap.size+4) 9 (.string (bs l)):=by
  have:=(Boxed.new ((((w.alloc (.cells #[.slice none 0 0] 70)).alloc (.cells #[.int .i64 0] 3)).alloc (.cells #[.int .i64 0] 27)).alloc (.cells #[.slice none 0 0] 70)) 9 (.string (bs l)));simp only[kT,Nat.add_assoc,Nat.reduceAdd] at this;rw[<-d];exact this
 have O:Below w.heap.size w W0:=by
  rw[<-d];exact(((((aB _ w).alloc (aE _) _).alloc (by simp) _).alloc (by simp;omega) _).alloc (by simp;omega) _).alloc (by simp;omega) _
 have M:W0.heap.size=w.heap.size+5:=by rw[<-d];simp
 simp only[kT,Nat.add_assoc,Nat.reduceAdd] at d ⊢;rw[d];clear d;have U:mH (w.heap.size+3) (w.heap.size+4) W0:=λi hi=>by
  obtain⟨v,L,h2⟩:=hi;rw[show W0.heap[w.heap.size+3]?=_ from b5] at L;simp only[cN,Obj.cells.injEq,Array.mk.injEq,List.cons.injEq,and_true,true_and] at L;subst L;cases h2
 refine wpIn_rangeFunc_ownH rfl (by omega) (gf:=97) (lb:= #[.pointer (some ⟨w.heap.size+4,0,none⟩)]) rfl trivial (enters_of Tryz.func97 (by kernel_rfl) rfl)
  (α:=Ev) (encs:=wH) (Kp:=kC w.heap.size (w.heap.size+3)) (S:=λys=>ys=iY l) (Sp:=λpre=>pre <+:iY l) (N:=(iY l).length) (w0:=W0)
  (λq J Jx W T hJ _ hY h0=>Uw 8 (by omega) q (w.heap.size+4) (w.heap.size+3) W.heap.size w l hs hV hT J Jx hJ hY W ((T.block _ (by omega)).trans b6) (fV (by omega) T.size) (by omega) (U.keep T (by omega)) (O.trans (T.mono (by omega))) h0)
  (λh k=>h.trans k) (λW j o o' hj ho hc _=>kC.putObj (by omega) (by omega) W j o o' hj ho hc) (aB _ _) (λ_=>rfl)
  (Jl w W0.heap.size) (Ca w) (Ve w _ _ (by omega)) (λc=>Vf w c _ (by omega))
  ⟨⟨⟨⟨⟨_,b5,World.ownsRow_nil _ _ _ _,by simp,λ_=>rfl⟩,b2⟩,b3⟩,b4⟩,O,aE _⟩
  (λx a' W=> ∃Bx,W0.heap.size<=Bx/\iB W Bx x.1 x.2.1 x.2.2.1/\a'= { tmps:= #[.string (bs l),undef, .pointer (some ⟨w.heap.size,0,none⟩), .pointer (some ⟨w.heap.size+1,0,none⟩), .pointer (some ⟨w.heap.size+2,0,none⟩), .pointer (some ⟨w.heap.size+3,0,none⟩), .pointer (some ⟨Bx,0,none⟩), .int .i64 x.2.2.2, .string (bs l), .func (.func 97) #[] #[.pointer (some ⟨w.heap.size+4,0,none⟩)], .agg #[.int .i64 x.1, .int .i64 x.2.1, .int .i64 x.2.2.1], .int .i64 x.2.2.2,undef,undef,undef,undef,undef,undef,undef,undef,undef,undef,undef,undef,undef],defers:= [] })
  (λx a' _ A B row hs hg R=>by obtain⟨Bx,L,h2,h3⟩:=hs;exact⟨Bx,L,Vc Bx _ _ _ () A B row h2 hg (λr e=>(R r e).2),h3⟩)
  ?assign ?body ?done ?stop
 case assign=>
  rintro q pre x W K ⟨⟨⟨⟨⟨v,bO,a,f⟩,c2⟩,c3⟩,c4⟩,s,C⟩ E;obtain⟨xk,xf,xt,xe⟩:=x;dsimp only[wH];gi_wp2_with fail;refine E _ _ ((KeepsOthers.alloc _ _).from _) (kC.of_below (aI W _) s.size (by omega)) ?_ ⟨W.heap.size,C,heap_alloc_new W _,rfl⟩;exact⟨⟨⟨⟨⟨v,bO.alloc _,a.alloc _,f⟩,c2.alloc _⟩,c3.alloc _⟩,c4.alloc _⟩,s.alloc s.size _,aY C (by simp)⟩
 case body=>
  rintro q pre x a' W hl R ⟨⟨⟨⟨⟨v,bO,a,f⟩,c2⟩,c3⟩,c4⟩,s,C⟩ ⟨Bx,hBx,bX,rfl⟩ hlt;obtain⟨i0,Y,aa,ah,ad⟩:=info_parts Tryz.infoTok;have hEl:=Vb l;obtain⟨xk,xf,xt,xe⟩:=x;simp only[] at bX;obtain⟨t0,t1,t2,f0,f1,f2⟩:=bX.cells;have V:=bO.cell;have hfO:=bO.frozen;have HZ:=hid M;obtain⟨S,X⟩:=exQ<|W0.heap.size;rw[X] at HZ C ⊢;have HS:=hid X;clear M X;by_cases hxe:xe=0
  ·subst hxe;gi_wp2_with (gi_at_builtin;go_must (refine wpListIn_append_own_at _ rfl _ _ 70 rfl w.heap.size 77 i0 _ 3 24 Tryz.underlying70 Y aa ah ad rfl (by decide) v pre.length (qH pre) rfl (a.alloc _) ⟨W.heap.size,0,none⟩ 1 1 (#[.int .i64 xk, .int .i64 xf, .int .i64 xt]:Array Value).toList rfl rfl (Vd _ _ _) (by simp[Value.oneCell']) (by unfold maxLen;omega) (by omega) (by have:=s.size;simp;omega) ?_);intro v' w1 m b hnil ae;obtain⟨g',cap',rfl⟩:=ownsRow_succ m;obtain⟨F,Q,t,ag,z⟩:=bO.appended (by decide) a s.size (by omega) m b;have hc1:=F.cell;have hf1:=F.frozen);refine⟨ag.from _,kC.push bO b Q z ae (λk hk=>(m.lt k hk).2),?_⟩;refine⟨⟨⟨⟨⟨_,Q,?_,?_,λh=>absurd h (by simp)⟩,((c2.alloc _).kept b (c2.not_row (by decide) a)).other (by omega) _⟩,((c3.alloc _).kept b (c3.not_row (by decide) a)).other (by omega) _⟩,((c4.alloc _).kept b (c4.not_row (by decide) a)).other (by omega) _⟩,s.trans z,aY C z.size⟩
   ·rw[Uz,aW];exact t
   ·intro y G;rcases nN.1 G with G | G
    ·exact f.1 y G
    ·rw[iQ.1 G]
  ·have te:(xe !=0)=true:=gD.2 hxe;have c2c:=c2.cell;have c3c:=c3.cell;have c4c:=c4.cell;have c2f:=c2.frozen;have c3f:=c3.frozen;have c4f:=c4.frozen;gi_wp2_with fail;gi_region
   all_goals gi_wp2
   all_goals exact Vg c2 c3 c4 s pre (xk,xf,xt,xe) hxe
 case done=>
  rintro D ys W hD rfl ⟨⟨⟨⟨⟨v,bO,a,f⟩,c2⟩,c3⟩,c4⟩,s,C⟩ E;obtain⟨vp,vn,vc,rfl⟩: ∃p n c,v= .slice p n c:=by
   rcases a.2 with⟨h,_⟩ | ⟨g,cap,cur,h,_⟩
   ·exact⟨_,_,_,h⟩
   ·exact⟨_,_,_,h⟩
  have V:=bO.cell;have c2c:=c2.cell;have c3c:=c3.cell;have c4c:=c4.cell;have c2f:=c2.frozen;have c3f:=c3.frozen;have c4f:=c4.frozen;gi_wp2_with fail;obtain⟨Z,P⟩:=Vi l f.1;have k1:KeepsOthers W (((W.setCell ⟨w.heap.size,0,none⟩ (.slice vp vn vc)).setCell ⟨w.heap.size+1,0,none⟩ (.int .i64 l.length)).setCell ⟨w.heap.size+2,0,none⟩ (.int .i64 0)):=((KeepsOthers.setCell _ _ _).trans (KeepsOthers.setCell _ _ _)).trans (KeepsOthers.setCell _ _ _);have d2:Boxed (((W.setCell ⟨w.heap.size,0,none⟩ (.slice vp vn vc)).setCell ⟨w.heap.size+1,0,none⟩ (.int .i64 l.length)).setCell ⟨w.heap.size+2,0,none⟩ (.int .i64 0)) w.heap.size 70 (.slice vp vn vc):=((c2.set _).other (by omega) _).other (by omega) _;have d3:Boxed (((W.setCell ⟨w.heap.size,0,none⟩ (.slice vp vn vc)).setCell ⟨w.heap.size+1,0,none⟩ (.int .i64 l.length)).setCell ⟨w.heap.size+2,0,none⟩ (.int .i64 0)) (w.heap.size+1) 3 (.int .i64 l.length):=((c3.other (by omega) _).set _).other (by omega) _;have d4:Boxed (((W.setCell ⟨w.heap.size,0,none⟩ (.slice vp vn vc)).setCell ⟨w.heap.size+1,0,none⟩ (.int .i64 l.length)).setCell ⟨w.heap.size+2,0,none⟩ (.int .i64 0)) (w.heap.size+2) 27 (.int .i64 0):=((c4.other (by omega) _).other (by omega) _).set _;have dB:Below w.heap.size w (((W.setCell ⟨w.heap.size,0,none⟩ (.slice vp vn vc)).setCell ⟨w.heap.size+1,0,none⟩ (.int .i64 l.length)).setCell ⟨w.heap.size+2,0,none⟩ (.int .i64 0)):=((s.setCell (p:=⟨w.heap.size,0,none⟩) (aE _) _).setCell (p:=⟨w.heap.size+1,0,none⟩) (sS _) _).setCell (p:=⟨w.heap.size+2,0,none⟩) (by show w.heap.size<=w.heap.size+2;omega) _;have H:(((W.setCell ⟨w.heap.size,0,none⟩ (.slice vp vn vc)).setCell ⟨w.heap.size+1,0,none⟩ (.int .i64 l.length)).setCell ⟨w.heap.size+2,0,none⟩ (.int .i64 0)).ownsRow w.heap.size 77 3 (.slice vp vn vc) (iY l).length (qH (iY l)):=yO ((c4.other (by omega) (.slice vp vn vc)).other (by omega) (.int .i64 l.length)) (by decide) (yO (c3.other (by omega) (.slice vp vn vc)) (by decide) (yO c2 (by decide) a (.slice vp vn vc)) (.int .i64 l.length)) (.int .i64 0);have u:=k1.same D _ E rfl;obtain⟨W3,af⟩:=exQ (((W.setCell ⟨w.heap.size,0,none⟩ (.slice vp vn vc)).setCell ⟨w.heap.size+1,0,none⟩ (.int .i64 l.length)).setCell ⟨w.heap.size+2,0,none⟩ (.int .i64 0));rw[af] at d2 d3 d4 dB H u ⊢;refine⟨by simp, .inl ⟨_,_,rfl,run_takeDeferred u,?_⟩⟩;have ab:w.heap.size+5<=D:=by omega
  have g2:=(d2.kept (grownBy_putObj' W3 D (.deferred none)) (by simp;omega)).cell;have g3:=(d3.kept (grownBy_putObj' W3 D (.deferred none)) (by simp;omega)).cell;have g4:=(d4.kept (grownBy_putObj' W3 D (.deferred none)) (by simp;omega)).cell;have t:=ownsRow_putObj H (.deferred none) u rfl;have dB2:Below w.heap.size w (W3.putObj D (.deferred none)):=dB.trans (belowK_b (w:=w) (aE _) W3 D _ _ (by omega) u rfl rfl);refine⟨.tuple #[.slice vp vn vc, .int .i64 l.length, .int .i64 0],?_,?_⟩
  ·simp[results,Tryz.results26,go_sem,g2,g3,g4]
  ·rw[P,Uy,bK] at t;refine⟨_,by rw[Z],t,λh0=>f.2 (by rw[P,h0];rfl),dB2⟩
 case stop=>
  rintro D c pre W hD I ⟨⟨rfl,ys,x,rfl,hx,c2,c3,c4⟩,s⟩ E;gi_wp2_with fail;have R:=Vj l ys x I hx;refine⟨by simp, .inl ⟨_,_,rfl,run_takeDeferred E,?_⟩⟩;have ab:w.heap.size+5<=D:=by omega
  have g2:=(c2.kept (grownBy_putObj' W D (.deferred none)) (by simp;omega)).cell;have g3:=(c3.kept (grownBy_putObj' W D (.deferred none)) (by simp;omega)).cell;have g4:=(c4.kept (grownBy_putObj' W D (.deferred none)) (by simp;omega)).cell;have dB2:Below w.heap.size w (W.putObj D (.deferred none)):=s.trans (belowK_b (w:=w) (aE _) W D _ _ (by omega) E rfl rfl);refine⟨.tuple #[.slice none 0 0, .int .i64 x.2.1, .int .i64 x.2.2.2],?_,?_⟩
  ·simp[results,Tryz.results26,go_sem,g2,g3,g4]
  ·rw[R];exact⟨_,rfl,World.ownsRow_nil _ _ _ _,λ_=>rfl,dB2⟩
end
end Go.Proofs.YtaifnmjjpddikaaGreatDoor
