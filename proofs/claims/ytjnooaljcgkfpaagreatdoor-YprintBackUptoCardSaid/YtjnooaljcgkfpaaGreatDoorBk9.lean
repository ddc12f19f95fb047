import Derived.Test.YtjnooaljcgkfpaaGreatDoorBk3
import Derived.Test.YtjnooaljcgkfpaaGreatDoorBk8
import Derived.Deep.RegionHeld3
import Derived.Deep.DeepCutAuto
import Derived.RangeFuncNested
import Derived.RangeFuncBound
import Derived.RangeFuncCalls
import Derived.RangeFuncLeaves
import Derived.RangeFuncBox
import Derived.Shelf.Abstract
import Derived.Shelf.RegionOpen
import Derived.OwnWalkIn
import Derived.TacticsInMore
import Derived.LoopNIn
import Derived.LoopIn
import Derived.Maps.AppendAt
import Derived.Maps.OwnIn
set_option maxRecDepth 100000
set_option maxHeartbeats 4000000
namespace Go.Proofs.YtjnooaljcgkfpaaGreatDoor
set_option linter.unusedVariables false
set_option linter.unusedSimpArgs false
section
open Go.RowKit
open Go.Lib hiding intOf
theorem Lf (l:List UInt8) (k:Nat) (h:k<l.length) (h2:k<(bs l).size):(bs l)[k]'h2=l[k]'h:=by
 have:=rZ l k h2;rw[bH h] at this;exact(bC this).symm
theorem Yj (b:UInt8) (w:World):Calls Tryz.prog 224 #[.int .u8 (b.toNat:Int)] w λe w'=>e= .returned (.bool (iN b))/\w=w':=by
 obtain⟨R,a⟩:=exQ<|iN b;rw[a];unfold iN at a;obtain⟨n,c⟩: ∃n:Int,(b.toNat:Int)=n:=⟨_,rfl⟩;rw[c];by_cases h1:97<=n
 ·by_cases h2:n<=122
  ·rw[aN (by omega)] at a;subst a;clear c;go_enter Tryz.func224,Tryz.ntmps224;go_wp2_with fail;go_ret;exact⟨rfl,rfl⟩
  ·rw[aJ (by omega)] at a;subst a;have h2':decide (n<=122)=false:=aJ h2;clear c h2;go_enter Tryz.func224,Tryz.ntmps224;go_wp2_with fail;go_ret;exact⟨rfl,rfl⟩
 ·rw[aJ (by omega)] at a;subst a;have h1':decide (97<=n)=false:=aJ h1;clear c h1;go_enter Tryz.func224,Tryz.ntmps224;go_wp2_with fail;go_ret;exact⟨rfl,rfl⟩
theorem Yk (X:Nat) (A:ByteArray) (b:UInt8) (w:World) (hc:w.cell? ⟨X,0,none⟩=some (.string A)):
  Calls Tryz.prog 227 #[.int .u8 (b.toNat:Int), .pointer (some ⟨X,0,none⟩)] w λe w'=>e= .returned (.bool (decide (0<=Lib.indexByte A.data.toList b)))/\w=w':=by
 have C:=hid (wR A b w);obtain⟨K,a⟩:=exQ<|Lib.indexByte A.data.toList b;rw[a] at C ⊢;obtain⟨B,c⟩:=exQ<|decide (0<=K);rw[c];clear a;go_enter Tryz.func227,Tryz.ntmps227;go_wp2_with (go_at_call 55;refine C.out.mono ?_;rintro e w' ⟨rfl,rfl⟩);go_ret;exact⟨rfl,rfl⟩
theorem Yl (A:ByteArray) (w:World):
  Calls Tryz.prog 223 #[.string A] w λe w'=>e= .returned (.func (.func 227) #[] #[.pointer (some ⟨w.heap.size,0,none⟩)])/\w'=w.alloc (.cells #[.string A] 9):=by
 have hmf: ∀(fn:Fn) (first cap:Array Value) (w:World),(Instr.makeFunc fn first cap).run Tryz.prog w= .ok (.func fn first cap) w:=λ_ _ _ _=>rfl;go_enter Tryz.func223,Tryz.ntmps223;go_wp2_with fail;go_ret;exact⟨rfl,rfl⟩
theorem Lg (l:List UInt8) (X:Nat) (A:ByteArray) (p:UInt8->Bool) (hp: ∀b,decide (0<=Lib.indexByte A.data.toList b)=p b) (w:World) (hs:l.length<=1073741824) (hc:w.cell? ⟨X,0,none⟩=some (.string A)):
  Calls Tryz.prog 222 #[.string (bs l), .func (.func 227) #[] #[.pointer (some ⟨X,0,none⟩)]] w λe w'=>e= .returned (.int .i64 (dF p l))/\w=w':=by
 have sl:=aQ l;obtain⟨R,m⟩:=exQ<|dF p l;rw[m];have n:=hid m;clear m;have CA:Hid (∀b:UInt8,Calls Tryz.prog 227 #[.int .u8 (b.toNat:Int), .pointer (some ⟨X,0,none⟩)] w λe w'=>e= .returned (.bool (p b))/\w=w'):=hid (λb=>by rw[<-hp b];exact Yk X A b w hc);clear hp hc;go_enter Tryz.func222,Tryz.ntmps222;go_wp2_with fail;go_loop [8] (λs8=> ∃k:Nat,s8= .int .i64 k/\k<=l.length/\Hid (R=k+dF p (l.drop k))) (λs8=>l.length-(RowKit.intOf s8).toNat)
 case atStart=>exact⟨0,rfl,by omega,hid (by rw[List.drop_zero,n.out];omega)⟩
 case round=>
  obtain⟨k,rfl,hk,h⟩:=hrel;by_cases hlt:k<l.length
  ·have a:k<(bs l).size:=(by omega);have d:=Lf l k hlt a;have f:=h.out;rw[iJ hlt,zR,<-d] at f;have g:=congrArg (λc:UInt8=>(c.toNat:Int)) d;have CC:=hid (CA.out ((bs l)[k]'a));cases hp:p ((bs l)[k]'a) with
   | true=>
    rw[hp] at CC;rw[hp,if_pos rfl] at f;have i:Hid (R=(k+1)+dF p (l.drop (k+1))):=hid (by omega);clear hp f d g h;go_wp2_with (go_at_call 227;(with_reducible refine CC.out.mono ?_);rintro e w' ⟨rfl,rfl⟩);go_round
    case rel=>exact⟨k+1,by go_num,by omega,i.out⟩
    case measure=>simp[RowKit.intOf];omega
   | false=>
    rw[hp] at CC;rw[hp,if_neg (by simp)] at f;have j:Hid (R=k):=hid (by omega);clear hp f d g h;go_wp2_with (go_at_call 227;(with_reducible refine CC.out.mono ?_);rintro e w' ⟨rfl,rfl⟩);go_ret;exact⟨uX (by rw[j.out]),rfl⟩
  ·have j:Hid (R=l.length):=by
    have f:=h.out;rw[List.drop_of_length_le (by omega)] at f;exact hid (by rw[f];show k+0=_;omega)
   clear h;go_wp2_with fail;go_ret;exact⟨uX (by rw[j.out]),rfl⟩
theorem Ym (l:List UInt8) (w:World) (hs:l.length<=1073741824):
  Calls Tryz.prog 222 #[.string (bs l), .func (.func 224) #[] #[]] w λe w'=>e= .returned (.int .i64 (dF iN l))/\w=w':=by
 have sl:=aQ l;obtain⟨R,m⟩:=exQ<|dF iN l;rw[m];have n:=hid m;clear m;have CA:=hid (λb:UInt8=>Yj b w);go_enter Tryz.func222,Tryz.ntmps222;go_wp2_with fail;go_loop [8] (λs8=> ∃k:Nat,s8= .int .i64 k/\k<=l.length/\Hid (R=k+dF iN (l.drop k))) (λs8=>l.length-(RowKit.intOf s8).toNat)
 case atStart=>exact⟨0,rfl,by omega,hid (by rw[List.drop_zero,n.out];omega)⟩
 case round=>
  obtain⟨k,rfl,hk,h⟩:=hrel;by_cases hlt:k<l.length
  ·have a:k<(bs l).size:=(by omega);have d:=Lf l k hlt a;have f:=h.out;rw[iJ hlt,zR,<-d] at f;have g:=congrArg (λc:UInt8=>(c.toNat:Int)) d;have CC:=hid (CA.out ((bs l)[k]'a));cases hp:iN ((bs l)[k]'a) with
   | true=>
    rw[hp] at CC;rw[hp,if_pos rfl] at f;have i:Hid (R=(k+1)+dF iN (l.drop (k+1))):=hid (by omega);clear hp f d g h;go_wp2_with (go_at_call 224;(with_reducible refine CC.out.mono ?_);rintro e w' ⟨rfl,rfl⟩);go_round
    case rel=>exact⟨k+1,by go_num,by omega,i.out⟩
    case measure=>simp[RowKit.intOf];omega
   | false=>
    rw[hp] at CC;rw[hp,if_neg (by simp)] at f;have j:Hid (R=k):=hid (by omega);clear hp f d g h;go_wp2_with (go_at_call 224;(with_reducible refine CC.out.mono ?_);rintro e w' ⟨rfl,rfl⟩);go_ret;exact⟨uX (by rw[j.out]),rfl⟩
  ·have j:Hid (R=l.length):=by
    have f:=h.out;rw[List.drop_of_length_le (by omega)] at f;exact hid (by rw[f];show k+0=_;omega)
   clear h;go_wp2_with fail;go_ret;exact⟨uX (by rw[j.out]),rfl⟩
theorem Yn (l:List UInt8) (w:World):
  Calls Tryz.prog 225 #[.string (bs l)] w λe w'=>e= .returned (.int .i64 (nS l))/\w=w':=by
 obtain⟨R,a⟩:=exQ<|nS l;rw[a];unfold nS at a;have b:(bs l).toList=l:=by rw[Lib.toList_data,aW]
 by_cases h1:l= [116,114,117,101]
 ·rw[if_pos h1] at a;subst a h1;go_enter Tryz.func225,Tryz.ntmps225;go_wp2_with fail;go_ret;exact⟨rfl,rfl⟩
 rw[if_neg h1] at a;by_cases h2:l= [102,97,108,115,101]
 ·rw[if_pos h2] at a;subst a h2;go_enter Tryz.func225,Tryz.ntmps225;go_wp2_with fail;go_ret;exact⟨rfl,rfl⟩
 rw[if_neg h2] at a;by_cases h3:l= [110,117,108,108]
 ·rw[if_pos h3] at a;subst a h3;go_enter Tryz.func225,Tryz.ntmps225;go_wp2_with fail;go_ret;exact⟨rfl,rfl⟩
 rw[if_neg h3] at a;subst a;have e1:((bs l).toList== [116,114,117,101])=false:=by rw[b];simpa using h1
 have e2:((bs l).toList== [102,97,108,115,101])=false:=by rw[b];simpa using h2
 have e3:((bs l).toList== [110,117,108,108])=false:=by rw[b];simpa using h3
 clear b h1 h2 h3;go_enter Tryz.func225,Tryz.ntmps225;go_wp2_with fail;go_ret;exact⟨rfl,rfl⟩
def Yo (A:ByteArray) (w:World) (e:Ending) (w':World):Prop:= ∃X:Nat,e= .returned (.func (.func 227) #[] #[.pointer (some ⟨X,0,none⟩)])/\w'.cell? ⟨X,0,none⟩=some (.string A)/\Below w.heap.size w w'
theorem Lh (A:ByteArray) (w:World):Calls Tryz.prog 223 #[.string A] w (Yo A w):=
 (Yl A w).mono λ_ _ ⟨b,a⟩=>⟨_,b,by rw[a];exact cell_of_one (heap_alloc_new w _),by rw[a];exact aH w _⟩
def iO (w:World) (X:Nat) (k a b:Int):Prop:=w.heap[X]?=some (.cells #[.int .i64 k, .int .i64 a, .int .i64 b] 211 (0,0))
abbrev Eb (w:World) (X:Nat) (k a b:Int):Prop:=w.cell? ⟨X,0,none⟩=some (.int .i64 k)/\w.cell? ⟨X,1,none⟩=some (.int .i64 a)/\w.cell? ⟨X,2,none⟩=some (.int .i64 b)/\
 w.frozen? ⟨X,0,none⟩=false/\w.frozen? ⟨X,1,none⟩=false/\w.frozen? ⟨X,2,none⟩=false
theorem iO.cells {w:World}{X:Nat}{k a b:Int} (h:iO w X k a b):Eb w X k a b:=
 ⟨cell_of_row w X 0 _ _ (0,0) h,cell_of_row w X 1 _ _ (0,0) h,cell_of_row w X 2 _ _ (0,0) h,by simp[World.frozen?,show w.heap[X]?=_ from h],by simp[World.frozen?,show w.heap[X]?=_ from h],by simp[World.frozen?,show w.heap[X]?=_ from h]⟩
theorem iO.lt {w:World}{X:Nat}{k a b:Int} (h:iO w X k a b):X<w.heap.size:=aE h
theorem iO.keep {w w':World}{X:Nat}{k a b:Int} (h:iO w X k a b) (hb:Below w.heap.size w w'):iO w' X k a b:=(hb.block X h.lt).trans h
def gF (w:World) (X:Nat) (k a b:Int):World:=((w.setCell ⟨X,0,none⟩ (.int .i64 k)).setCell ⟨X,1,none⟩ (.int .i64 a)).setCell ⟨X,2,none⟩ (.int .i64 b)
theorem iO.put {w:World}{X:Nat}{k a b k2 a2 b2:Int} (h:iO w X k a b):iO (gF w X k2 a2 b2) X k2 a2 b2:=by
 unfold iO at h ⊢;unfold gF;simp[World.setCell,Array.getElem?_modify,h]
theorem Li {B:Nat}{w w':World}{X:Nat}{k a b:Int} (h:Below B w w') (hX:B<=X):Below B w (gF w' X k a b):=
 ((h.setCell (p:=⟨X,0,none⟩) hX _).setCell (p:=⟨X,1,none⟩) hX _).setCell (p:=⟨X,2,none⟩) hX _
theorem Yp (kd a tw:Int) (X:Nat) (w:World) (hc:w.cell? ⟨X,0,none⟩=some (.int .i64 a)):
  Calls Tryz.prog 220 #[.int .i64 kd, .int .i64 tw, .pointer (some ⟨X,0,none⟩)] w λe w'=>e= .returned (.tuple #[.agg #[.int .i64 kd, .int .i64 a, .int .i64 tw], .int .i64 0])/\Below w.heap.size w w':=by
 have hX:X<w.heap.size:=qZ hc;go_enter Tryz.func220,Tryz.ntmps220;go_wp2_with fail;have b:iO (w.alloc (.cells #[.int .i64 kd, .int .i64 a, .int .i64 tw] 211)) w.heap.size kd a tw:=heap_alloc_new w _;have c:=aH w (.cells #[.int .i64 kd, .int .i64 a, .int .i64 tw] 211);obtain⟨W,d⟩:=exQ<|w.alloc (.cells #[.int .i64 kd, .int .i64 a, .int .i64 tw] 211);rw[d] at b c ⊢;obtain⟨c0,c1,c2,_⟩:=b.cells;refine bodyPost_ret (v:= .tuple #[.agg #[.int .i64 kd, .int .i64 a, .int .i64 tw], .int .i64 0]) ?_ rfl ⟨rfl,c⟩;simp[results,Tryz.results220,go_sem,c0,c1,c2]
theorem Yq (a er:Int) (w:World):
  Calls Tryz.prog 221 #[.int .i64 a, .int .i64 er] w λe w'=>e= .returned (.tuple #[.agg #[.int .i64 0, .int .i64 a, .int .i64 a], .int .i64 er])/\Below w.heap.size w w':=by
 go_enter Tryz.func221,Tryz.ntmps221;go_wp2_with fail;have b:iO (w.alloc (.cells #[.int .i64 0, .int .i64 a, .int .i64 a] 211)) w.heap.size 0 a a:=heap_alloc_new w _;have c:=aH w (.cells #[.int .i64 0, .int .i64 a, .int .i64 a] 211);obtain⟨W,d⟩:=exQ<|w.alloc (.cells #[.int .i64 0, .int .i64 a, .int .i64 a] 211);rw[d] at b c ⊢;obtain⟨c0,c1,c2,_⟩:=b.cells;refine bodyPost_ret (v:= .tuple #[.agg #[.int .i64 0, .int .i64 a, .int .i64 a], .int .i64 er]) ?_ rfl ⟨rfl,c⟩;simp[results,Tryz.results221,go_sem,c0,c1,c2]
theorem Yr (c:UInt8):Lib.indexByte [123,125,91,93,44,58] c=match sB c with | some k=>(k:Int) | none=> -1:=by
 have: ∀n:Fin 256,Lib.indexByte [123,125,91,93,44,58] (UInt8.ofNat n.val)=match sB (UInt8.ofNat n.val) with | some k=>(k:Int) | none=> -1:=by decide+kernel
 have:=this ⟨c.toNat,c.toNat_lt⟩;simpa only[UInt8.ofNat_toNat] using this
theorem Lj (c:UInt8):decide (0<=Lib.indexByte [32,9,10,13] c)=mY c:=by
 have: ∀n:Fin 256,decide (0<=Lib.indexByte [32,9,10,13] (UInt8.ofNat n.val))=mY (UInt8.ofNat n.val):=by decide+kernel
 have:=this ⟨c.toNat,c.toNat_lt⟩;simpa only[UInt8.ofNat_toNat] using this
theorem Ys (c:UInt8):decide (0<=Lib.indexByte [45,43,46,48,49,50,51,52,53,54,55,56,57,101,69] c)=kV c:=by
 have: ∀n:Fin 256,decide (0<=Lib.indexByte [45,43,46,48,49,50,51,52,53,54,55,56,57,101,69] (UInt8.ofNat n.val))=kV (UInt8.ofNat n.val):=by decide+kernel
 have:=this ⟨c.toNat,c.toNat_lt⟩;simpa only[UInt8.ofNat_toNat] using this
theorem Yt (c:UInt8):cT c=decide (48<=(c.toNat:Int)/\(c.toNat:Int)<=57):=by
 unfold cT;rw[Bool.eq_iff_iff];simp;omega
def nW (T:Nat×Nat×Int) (a:Nat):Int×Int×Int×Int:=if T.2.2=0 then(T.1,a,a+T.2.1,0) else(0,a+T.2.1,a+T.2.1,T.2.2)
def pS (l:List UInt8) (a:Nat):Int×Int×Int×Int:=nW (dL (l.drop a)) a
def Ll (r:Int×Int×Int×Int):Ending:= .returned (.tuple #[.agg #[.int .i64 r.1, .int .i64 r.2.1, .int .i64 r.2.2.1], .int .i64 r.2.2.2])
structure nD (w:World) (a:Int) (w':World):Prop where
 p:w'.heap[w.heap.size]?=some (.cells #[.int .i64 a] 3 (0,0))
 t:iO w' (w.heap.size+1) 0 0 0
 b:Below w.heap.size w w'
abbrev Yu (w:World) (a:Int) (w':World):Prop:=w'.cell? ⟨w.heap.size,0,none⟩=some (.int .i64 a)/\w'.frozen? ⟨w.heap.size,0,none⟩=false/\Eb w' (w.heap.size+1) 0 0 0
theorem nD.cells {w w':World}{a:Int} (h:nD w a w'):Yu w a w':=⟨cell_of_one h.p,free_of_one h.p,h.t.cells⟩
theorem nD.keep {w w1 w2:World}{a:Int} (h:nD w a w1) (hb:Below w1.heap.size w1 w2):nD w a w2:=
 ⟨(hb.block _ (aE h.p)).trans h.p,h.t.keep hb,h.b.trans (hb.mono h.b.size)⟩
theorem nD.start (w:World) (a:Int):nD w a ((w.alloc (.cells #[.int .i64 a] 3)).alloc (.cells #[.int .i64 0, .int .i64 0, .int .i64 0] 211)):=by
 refine⟨?_,?_,?_⟩
 ·exact(Below.heap_alloc _ _ w.heap.size (by simp)).trans (heap_alloc_new w _)
 ·have:=heap_alloc_new (w.alloc (.cells #[.int .i64 a] 3)) (.cells #[.int .i64 0, .int .i64 0, .int .i64 0] 211);rw[rD] at this;exact this
 ·exact(aH w _).trans ((aH (w.alloc (.cells #[.int .i64 a] 3)) _).mono (by simp))
def Lm (w:World) (a:Int) (w':World):Prop:= ∃k x y,w'.heap[w.heap.size]?=some (.cells #[.int .i64 a] 3 (0,0))/\iO w' (w.heap.size+1) k x y/\Below w.heap.size w w'
abbrev cQ (w:World) (a:Int) (w':World):Prop:=w'.cell? ⟨w.heap.size,0,none⟩=some (.int .i64 a)/\Hid (Lm w a w')
theorem cQ.of {w w':World}{a:Int} (h:Lm w a w'):cQ w a w':=by
 obtain⟨k,x,y,b,c,d⟩:=h;exact⟨cell_of_one b,hid ⟨k,x,y,b,c,d⟩⟩
theorem cQ.start {w w':World}{a:Int} (h:nD w a w'):cQ w a w':=cQ.of ⟨0,0,0,h.p,h.t,h.b⟩
theorem cQ.drew {w w':World}{a:Int} (h:cQ w a w'):cQ w a w'.drew:=by
 obtain⟨k,x,y,b,c,d⟩:=h.2.out;exact cQ.of ⟨k,x,y,b,c,d.drew⟩
theorem cQ.step {w w1 w2:World}{a:Int} (h:cQ w a w1) (hb:Below w1.heap.size w1 w2):cQ w a w2:=by
 obtain⟨k,x,y,b,d,c⟩:=h.2.out;exact cQ.of ⟨k,x,y,(hb.block _ (aE b)).trans b,d.keep hb,c.trans (hb.mono c.size)⟩
theorem cQ.cellsE {w w1:World}{a:Int} (h:cQ w a w1): ∃k x y,Eb w1 (w.heap.size+1) k x y:=by
 obtain⟨k,x,y,h1,b,h3⟩:=h.2.out;exact⟨k,x,y,b.cells⟩
theorem Ec {w:World}{p:Addr}{u:Value}{g:Nat} (h:g≠p.block):(w.setCell p u).heap[g]?=w.heap[g]?:=eQ w p u g h
theorem cQ.putG {w w1:World}{a:Int} (h:cQ w a w1) (k x y:Int):(gF w1 (w.heap.size+1) k x y).heap[w.heap.size]?=some (.cells #[.int .i64 a] 3 (0,0))/\iO (gF w1 (w.heap.size+1) k x y) (w.heap.size+1) k x y/\Below w.heap.size w (gF w1 (w.heap.size+1) k x y):=by
 obtain⟨k0,x0,y0,b,c,d⟩:=h.2.out;refine⟨?_,c.put,Li d (tU _)⟩;unfold gF;rw[Ec (by simp),Ec (by simp),Ec (by simp)];exact b
theorem cQ.put {w w1:World}{a:Int} (h:cQ w a w1) (k x y:Int):cQ w a (((w1.setCell ⟨w.heap.size+1,0,none⟩ (.int .i64 k)).setCell ⟨w.heap.size+1,1,none⟩ (.int .i64 x)).setCell ⟨w.heap.size+1,2,none⟩ (.int .i64 y)):=by
 obtain⟨c,d,b⟩:=h.putG k x y;exact cQ.of ⟨k,x,y,c,d,b⟩
theorem nD.put {w w1:World}{a:Int} (h:nD w a w1) (k x y:Int):iO (gF w1 (w.heap.size+1) k x y) (w.heap.size+1) k x y/\Below w.heap.size w (gF w1 (w.heap.size+1) k x y):=
 ⟨h.t.put,Li h.b (tU _)⟩
theorem Ln (l:List UInt8) (a:Nat) (ha:a<l.length):mW l a=((bZ (l.drop a) 0).2.1+a,(bZ (l.drop a) 0).2.2):=by
 unfold mW;rw[if_neg (by omega),Vm l a (by omega)]
theorem Yv {u:List UInt8}{c:UInt8} (h:u.head?=some c):dL u=(match sB c with
  | some k=>(2+k,1,0)
  | none=>if mY c then(1,dF mY u,0) else if c=34 then(if(bZ u 0).2.2=0 then(8,(bZ u 0).2.1.toNat,0) else(0,(bZ u 0).2.1.toNat,(bZ u 0).2.2)) else
   if c=45\/cT c=true then(if(cO (u.take (dF kV u))).2=0 then(9,dF kV u,0) else(0,0,(cO (u.take (dF kV u))).2)) else
   if nS (u.take (dF iN u))=0 then(0,0,2) else(nS (u.take (dF iN u)),dF iN u,0):Nat×Nat×Int):=by
 cases u with
 | nil=>cases h
 | cons d r=>
  obtain rfl:d=c:=by simpa using h
  rfl
theorem Yw (l:List UInt8) (a:Nat) (w:World) (hs:l.length<=1048576) (ha:a<l.length) (hV:dC w) (hT:cD w):
  Calls Tryz.prog 216 #[.string (bs l), .int .i64 a] w λe w'=>e=Ll (pS l a)/\Below w.heap.size w w':=by
 have hmf: ∀(fn:Fn) (first cap:Array Value) (w:World),(Instr.makeFunc fn first cap).run Tryz.prog w= .ok (.func fn first cap) w:=λ_ _ _ _=>rfl;have sl:=aQ l;obtain⟨R,C⟩:=exQ<|pS l a;rw[C];unfold pS at C;have am:(bs l).extract a l.length=bs (l.drop a):=mV l a _ rfl;have p:=Ln l a ha;have CE0:=hid (λw hV hT=>Jb l a w (by omega) hV hT);obtain⟨EE,Z⟩:=exQ<|mW l a;rw[Z] at CE0 p;obtain⟨ek,ee⟩:=EE;simp only[] at CE0 p;have E: ∀n,(bs l).extract a (a+n)=bs ((l.drop a).take n):=λn=>by rw[mT,aW,Nat.add_sub_cancel_left]
 obtain⟨u,hu⟩:=exQ<|l.drop a;have ak:u.length=l.length-a:=by rw[<-hu,aZ]
 have hub:u.length<=1048576:=by omega
 have hua:a+u.length<=l.length:=by omega
 have ai:0<u.length:=by omega
 have su:=aQ u;rw[hu] at am C p;simp only[hu] at E;have h0:0<(bs u).size:=by omega
 obtain⟨c,hc⟩: ∃c,u.head?=some c:=by cases u with | nil=>simp at ai | cons c r=>exact⟨c,rfl⟩
 have aj:(((bs u)[0]'h0).toNat:Int)=(c.toNat:Int):=by
  have:=zJ (bs u) h0;rw[aW,hc] at this;rw[<-bC this]
 have HV:=hid hV;have HT:=hid hT;clear hV hT;have CI:=hid (λw=>wR ⟨#[123,125,91,93,44,58]⟩ c w);have CB:=hid (λw=>wR ⟨#[32,9,10,13]⟩ c w);rw[show (⟨#[123,125,91,93,44,58]⟩:ByteArray).data.toList= [123,125,91,93,44,58] from rfl,Yr] at CI;rw[show (⟨#[32,9,10,13]⟩:ByteArray).data.toList= [32,9,10,13] from rfl] at CB;have L:=Lj c;obtain⟨KB,T⟩:=exQ<|Lib.indexByte [32,9,10,13] c;rw[T] at CB L;have I:=Yt c;have D:c=34↔(c.toNat:Int)=34:=⟨λh=>by rw[h];rfl,λh=>UInt8.toNat_inj.1 (by show c.toNat=34;omega)⟩;have B:c=45↔(c.toNat:Int)=45:=⟨λh=>by rw[h];rfl,λh=>UInt8.toNat_inj.1 (by show c.toNat=45;omega)⟩;rw[Yv hc] at C;have RB:Hid (∀(X:Nat) (w:World),w.cell? ⟨X,0,none⟩=some (.string ⟨#[32,9,10,13]⟩)->Calls Tryz.prog 222 #[.string (bs u), .func (.func 227) #[] #[.pointer (some ⟨X,0,none⟩)]] w λe w'=>e= .returned (.int .i64 (dF mY u))/\w=w'):=hid (λX w h=>Lg _ X _ mY Lj w (by omega) h);have RN:Hid (∀(X:Nat) (w:World),w.cell? ⟨X,0,none⟩=some (.string ⟨#[45,43,46,48,49,50,51,52,53,54,55,56,57,101,69]⟩)->Calls Tryz.prog 222 #[.string (bs u), .func (.func 227) #[] #[.pointer (some ⟨X,0,none⟩)]] w λe w'=>e= .returned (.int .i64 (dF kV u))/\w=w'):=hid (λX w h=>Lg _ X _ kV Ys w (by omega) h);have RS:=hid (λw=>Ym u w (by omega));have an:=vC mY u;have al:=vC kV u;have ag:=vC iN u;have CW:=hid (λw=>Yn (u.take (dF iN u)) w);have CP:=hid (λw=>xJ (u.take (dF kV u)) w (by rw[cB];omega));have F:=Jg (u.take (dF iN u));have ef:(bs u).extract 0 (dF iN u)=bs (u.take (dF iN u)):=by rw[Cu,aW]
 have en:=E (dF kV u);obtain⟨nb,V⟩:=exQ<|dF mY u;obtain⟨nn,P⟩:=exQ<|dF kV u;obtain⟨ns,U⟩:=exQ<|dF iN u;rw[V] at RB an C;rw[P] at RN al CP C en;rw[U] at RS ag CW C ef F;obtain⟨wd,S⟩:=exQ<|nS (u.take ns);obtain⟨PR,af⟩:=exQ<|cO (u.take nn);rw[S] at CW F C;rw[af] at CP C;obtain⟨n,s⟩: ∃n:Int,(c.toNat:Int)=n:=⟨_,rfl⟩;rw[s] at CI CB I D B aj;have ha1:(a:Int)+1<=1048576:=by omega
 have hab:(a:Int)+(nb:Int)<=1048576:=by omega
 have han:(a:Int)+(nn:Int)<=1048576:=by omega
 have has:(a:Int)+(ns:Int)<=1048576:=by omega
 have wab:IntKind.i64.wrap ((a:Int)+(nb:Int))=(a:Int)+(nb:Int):=by rw[IntKind.wrap_i64];omega
 have wan:IntKind.i64.wrap ((a:Int)+(nn:Int))=(a:Int)+(nn:Int):=by rw[IntKind.wrap_i64];omega
 have ah:=Jh u;have t:Hid (ek=a+(bZ u 0).2.1.toNat/\ee=(bZ u 0).2.2):=hid (by obtain⟨g1,g2⟩:=Prod.mk.inj p;exact⟨by rw[g1];omega,g2⟩);have CE:=CE0;have TK:=hid (λkd tw W hc=>Yp kd a tw w.heap.size W hc);have TF:=hid (λx er W=>Yq x er W);have hek:0<=ek/\ek<=1048576:=by have:=t.out.1;omega
 have HR:=hid C;have y:=hid (aT E (aT p (aT F (aT I (aT D B)))));have H:=hid (aT wab wan);have HB:=hid L;clear T hu ak C E p F I D B wab wan L V P U hc S af s Z ah CE0;go_enter Tryz.func216,Tryz.ntmps216;go_wp2_with fail;have j:=hid (nD.start w a);obtain⟨W0,ad⟩:=exQ ((w.alloc (.cells #[.int .i64 a] 3)).alloc (.cells #[.int .i64 0, .int .i64 0, .int .i64 0] 211));rw[ad] at j ⊢;clear ad;cases hsg:sB c with
 | some k=>
  have hk5:=Jf c k hsg;have q:Hid (((2:Int)+(k:Int),(a:Int),(a:Int)+1,(0:Int))=R):=hid (by have:=HR.out;rw[hsg] at this;rw[<-this];unfold nW;simp);rw[hsg] at CI;clear hsg HR y HB t;obtain⟨p0,q0,t0,t1,t2,f0,f1,f2⟩:=j.out.cells;(with_reducible refine(CI.out _).mono ?_);rintro e w' ⟨rfl,rfl⟩;go_wp2_with fail;clear t0 t1 t2 f0 f1 f2 q0;(with_reducible refine(TK.out _ _ _ p0).mono ?_);rintro e w3 ⟨rfl,o⟩;have j:=hid (j.out.keep o);clear p0 o;obtain⟨p0,q0,t0,t1,t2,f0,f1,f2⟩:=j.out.cells;go_wp2_with fail;have m:=hid (j.out.put (2+(k:Int)) ((a:Int)) ((a:Int)+1));obtain⟨WF,f⟩:=exQ<|gF w3 (w.heap.size+1) (2+(k:Int)) ((a:Int)) ((a:Int)+1);rw[f] at m;dsimp only[gF] at f;rw[f];clear f p0 q0 t0 t1 t2 f0 f1 f2;obtain⟨c0,c1,c2,_⟩:=m.out.1.cells;refine bodyPost_ret (v:= .tuple #[.agg #[.int .i64 (2+(k:Int)), .int .i64 ((a:Int)), .int .i64 ((a:Int)+1)], .int .i64 0]) ?_ rfl ⟨by rw[<-q.out];rfl,m.out.2⟩;simp[results,Tryz.results216,go_sem,c0,c1,c2]
 | none=>
  have i:Hid (nW (if mY c=true then(1,nb,0) else if c=34 then(if(bZ u 0).2.2=0 then(8,(bZ u 0).2.1.toNat,0) else(0,(bZ u 0).2.1.toNat,(bZ u 0).2.2)) else
    if c=45\/cT c=true then(if PR.2=0 then(9,nn,0) else(0,0,PR.2)) else if wd=0 then(0,0,2) else(wd,ns,0)) a=R):=hid (by
   have:=HR.out;rw[hsg] at this;exact this)
  rw[hsg] at CI;clear hsg HR;obtain⟨p0,q0,t0,t1,t2,f0,f1,f2⟩:=j.out.cells;(with_reducible refine(CI.out _).mono ?_);rintro e w' ⟨rfl,rfl⟩;go_wp2_with fail;(with_reducible refine(CB.out _).mono ?_);rintro e w' ⟨rfl,rfl⟩;by_cases hbl:mY c=true
  ·have q:Hid (((1:Int),(a:Int),(a:Int)+(nb:Int),(0:Int))=R):=hid (by have:=i.out;rw[if_pos hbl] at this;rw[<-this];unfold nW;simp);have dKB:decide (0<=KB)=true:=by rw[HB.out];exact hbl
   have wab:=H.out.1;clear hbl i y HB t H;clear p0 q0 t0 t1 t2 f0 f1 f2;have hS:cQ w a W0:=cQ.start j.out;go_upto_region 9 with fail;go_region_held3 (λw'=>cQ w a w') ((first | exact cQ.drew (by assumption) | exact cQ.step (by assumption) (by assumption) | exact cQ.put (by assumption) _ _ _ | assumption))
    (first
     | (go_at_call 223;(with_reducible refine(Lh _ _).mono ?_);rintro e w1 ⟨X,rfl,hx,K⟩)
     | (go_at_call 222;(with_reducible refine(RB.out _ _ (by exact hx)).mono ?_);rintro e w2 ⟨rfl,rfl⟩)
     | (go_at_call 220;(with_reducible refine(TK.out _ _ _ ((by assumption:cQ w a _).1)).mono ?_);rintro e w3 ⟨rfl,ae⟩;have N:cQ w a w3:=cQ.step (by assumption) ae;obtain⟨k3,x3,y3,t0,t1,t2,f0,f1,f2⟩:=N.cellsE))
   have m:=hid (N.putG (1) ((a:Int)) ((a:Int)+(nb:Int)));obtain⟨WF,f⟩:=exQ<|gF w3 (w.heap.size+1) (1) ((a:Int)) ((a:Int)+(nb:Int));rw[f] at m;dsimp only[gF] at f;rw[f];clear f;clear hx K ae N t0 t1 t2 f0 f1 f2;obtain⟨c0,c1,c2,_⟩:=m.out.2.1.cells;go_wp2_with fail;refine bodyPost_ret (v:= .tuple #[.agg #[.int .i64 (1), .int .i64 ((a:Int)), .int .i64 ((a:Int)+(nb:Int))], .int .i64 0]) ?_ rfl ⟨by rw[<-q.out];rfl,m.out.2.2⟩;simp[results,Tryz.results216,go_sem,c0,c1,c2]
  rw[if_neg hbl] at i;have dKB:decide (0<=KB)=false:=by rw[HB.out];simpa using hbl
  clear HB hbl RB;by_cases h34:c=34
  ·have Y:=y.out.2.2.2.2.1.1 h34;rw[if_pos h34] at i;subst Y;by_cases he0:ee=0
   ·have q:Hid (((8:Int),(a:Int),ek,(0:Int))=R):=hid (by have:=i.out;rw[if_pos (by rw[<-t.out.2];exact he0)] at this;rw[<-this,t.out.1];unfold nW;simp);subst he0;clear i y t H h34;go_wp2_with fail;(with_reducible refine(CE.out _ (HV.out.keep j.out.b) (HT.out.keep j.out.b)).mono ?_);rintro e w2 ⟨rfl,o⟩;have j:=hid (j.out.keep o);clear p0 q0 t0 t1 t2 f0 f1 f2 o;obtain⟨p0,q0,t0,t1,t2,f0,f1,f2⟩:=j.out.cells;go_wp2_with fail;clear t0 t1 t2 f0 f1 f2 q0;(with_reducible refine(TK.out _ _ _ p0).mono ?_);rintro e w3 ⟨rfl,o⟩;have j:=hid (j.out.keep o);clear p0 o;obtain⟨p0,q0,t0,t1,t2,f0,f1,f2⟩:=j.out.cells;go_wp2_with fail;have m:=hid (j.out.put (8) ((a:Int)) (ek));obtain⟨WF,f⟩:=exQ<|gF w3 (w.heap.size+1) (8) ((a:Int)) (ek);rw[f] at m;dsimp only[gF] at f;rw[f];clear f;clear p0 q0 t0 t1 t2 f0 f1 f2;obtain⟨c0,c1,c2,_⟩:=m.out.1.cells;refine bodyPost_ret (v:= .tuple #[.agg #[.int .i64 (8), .int .i64 ((a:Int)), .int .i64 (ek)], .int .i64 0]) ?_ rfl ⟨by rw[<-q.out];rfl,m.out.2⟩;simp[results,Tryz.results216,go_sem,c0,c1,c2]
   ·have q:Hid (((0:Int),ek,ek,ee)=R):=hid (by have:=i.out;rw[if_neg (by rw[<-t.out.2];exact he0)] at this;rw[<-this,t.out.1];unfold nW;simp only[];rw[if_neg (by rw[<-t.out.2];exact he0),<-t.out.2]);have te:(ee !=0)=true:=gP.2 he0;clear i y t H h34 he0;go_wp2_with fail;(with_reducible refine(CE.out _ (HV.out.keep j.out.b) (HT.out.keep j.out.b)).mono ?_);rintro e w2 ⟨rfl,o⟩;have j:=hid (j.out.keep o);clear p0 q0 t0 t1 t2 f0 f1 f2 o;go_wp2_with fail;(with_reducible refine(TF.out _ _ _).mono ?_);rintro e w3 ⟨rfl,o⟩;have j:=hid (j.out.keep o);clear o;obtain⟨p0,q0,t0,t1,t2,f0,f1,f2⟩:=j.out.cells;go_wp2_with fail;have m:=hid (j.out.put (0) (ek) (ek));obtain⟨WF,f⟩:=exQ<|gF w3 (w.heap.size+1) (0) (ek) (ek);rw[f] at m;dsimp only[gF] at f;rw[f];clear f;clear p0 q0 t0 t1 t2 f0 f1 f2;obtain⟨c0,c1,c2,_⟩:=m.out.1.cells;refine bodyPost_ret (v:= .tuple #[.agg #[.int .i64 (0), .int .i64 (ek), .int .i64 (ek)], .int .i64 ee]) ?_ rfl ⟨by rw[<-q.out];rfl,m.out.2⟩;simp[results,Tryz.results216,go_sem,c0,c1,c2]
  rw[if_neg h34] at i;have t34:(n==34)=false:=aG.2 (λe=>h34 (y.out.2.2.2.2.1.2 e));by_cases z:c=45\/cT c=true
  ·rw [if_pos z] at i;have J:n=45\/((n==45)=false/\decide (48<=n)=true/\decide (n<=57)=true):=by
    by_cases h:n=45
    ·exact .inl h
    ·right;rcases z with z | z
     ·exact absurd (y.out.2.2.2.2.2.1 z) h
     ·rw[y.out.2.2.2.1,eA] at z;exact⟨aG.2 h,aN z.1,aN z.2⟩
   have wan:=H.out.2;obtain⟨P1,P2⟩:=PR;clear y H t z h34;go_upto_region 15 with fail;go_cut [72] (λs72 wx=>s72= .bool true/\Hid (nD w a wx))
   case first=>
    rcases J with rfl | ⟨d1,d2,d3⟩
    all_goals
     go_wp2_with fail;go_meet;exact⟨rfl,j⟩
   clear p0 q0 t0 t1 t2 f0 f1 f2 j;obtain⟨rfl,j⟩:=hcut;have hS:cQ w a wc:=cQ.start j.out;go_upto_region 16 with fail;go_region_held3 (λw'=>cQ w a w') ((first | exact cQ.drew (by assumption) | exact cQ.step (by assumption) (by assumption) | assumption))
    (first
     | (go_at_call 223;(with_reducible refine(Lh _ _).mono ?_);rintro e w1 ⟨X,rfl,hx,K⟩)
     | (go_at_call 222;(with_reducible refine(RN.out _ _ (by exact hx)).mono ?_);rintro e w2 ⟨rfl,rfl⟩))
   have M:cQ w a w1:=(by assumption);clear hx K hS;have O:=hid M;have A:=M.1;clear M;have HBn:Hid (Below w.heap.size w w1):=hid (by obtain⟨_,_,_,_,_,h3⟩:=O.out.2.out;exact h3);unfold tT fQ at CP;obtain⟨g,d,e⟩:=P1;simp only[] at CP i;go_wp2_with fail;(with_reducible refine(CP.out _).mono ?_);rintro e w2 ⟨rfl,aa⟩;have Q:=hid (cQ.step O.out aa);clear O aa A;go_upto_region 18 with fail;have G:=hid (cQ.step Q.out (aH w2 (.cells #[.bool g, .string (bs d), .int .i64 e] 52)));obtain⟨W2,ab⟩:=exQ<|w2.alloc (.cells #[.bool g, .string (bs d), .int .i64 e] 52);rw[ab] at G ⊢;clear ab Q;have A:=G.out.1;by_cases hp:P2=0
   ·have q:Hid (((9:Int),(a:Int),(a:Int)+(nn:Int),(0:Int))=R):=hid (by have:=i.out;rw[if_pos hp] at this;rw[<-this];unfold nW;simp);subst hp;clear i;go_wp2_with fail;(with_reducible refine(TK.out _ _ _ A).mono ?_);rintro e w3 ⟨rfl,o⟩;have s:=cQ.step G.out o;clear o A;obtain⟨k3,x3,y3,t0,t1,t2,f0,f1,f2⟩:=s.cellsE;go_wp2_with fail;have m:=hid (s.putG (9) ((a:Int)) ((a:Int)+(nn:Int)));obtain⟨WF,f⟩:=exQ<|gF w3 (w.heap.size+1) (9) ((a:Int)) ((a:Int)+(nn:Int));rw[f] at m;dsimp only[gF] at f;rw[f];clear f t0 t1 t2 f0 f1 f2;obtain⟨c0,c1,c2,_⟩:=m.out.2.1.cells;refine bodyPost_ret (v:= .tuple #[.agg #[.int .i64 (9), .int .i64 ((a:Int)), .int .i64 ((a:Int)+(nn:Int))], .int .i64 0]) ?_ rfl ⟨by rw[<-q.out];rfl,m.out.2.2⟩;simp[results,Tryz.results216,go_sem,c0,c1,c2]
   ·have q:Hid (((0:Int),(a:Int),(a:Int),P2)=R):=hid (by have:=i.out;rw[if_neg hp] at this;rw[<-this];unfold nW;simp only[];rw[if_neg hp];simp);have te:(P2 !=0)=true:=gP.2 hp;clear i hp;go_wp2_with fail;(with_reducible refine(TF.out _ _ _).mono ?_);rintro e w3 ⟨rfl,o⟩;have s:=cQ.step G.out o;clear o A;obtain⟨k3,x3,y3,t0,t1,t2,f0,f1,f2⟩:=s.cellsE;go_wp2_with fail;have m:=hid (s.putG (0) ((a:Int)) ((a:Int)));obtain⟨WF,f⟩:=exQ<|gF w3 (w.heap.size+1) (0) ((a:Int)) ((a:Int));rw[f] at m;dsimp only[gF] at f;rw[f];clear f t0 t1 t2 f0 f1 f2;obtain⟨c0,c1,c2,_⟩:=m.out.2.1.cells;refine bodyPost_ret (v:= .tuple #[.agg #[.int .i64 (0), .int .i64 ((a:Int)), .int .i64 ((a:Int))], .int .i64 P2]) ?_ rfl ⟨by rw[<-q.out];rfl,m.out.2.2⟩;simp[results,Tryz.results216,go_sem,c0,c1,c2]
  ·rw[if_neg z] at i;have J:(n==45)=false/\(decide (48<=n)=false\/(decide (48<=n)=true/\decide (n<=57)=false)):=by
    refine⟨aG.2 (λe=>z (.inl (y.out.2.2.2.2.2.2 e))),?_⟩;by_cases h:48<=n
    ·right;exact⟨aN h,aJ (λh2=>z (.inr (by rw[y.out.2.2.2.1];exact aN ⟨h,h2⟩)))⟩
    ·left;exact aJ h
   obtain⟨d1,d2⟩:=J;have hw12:wd<=12:=by have:=y.out.2.2.1;omega
   have wns:IntKind.i64.wrap ((a:Int)+(ns:Int))=(a:Int)+(ns:Int):=by rw[IntKind.wrap_i64];omega
   clear y H t z h34 CP RN;go_upto_region 15 with fail;go_cut [72] (λs72 wx=>s72= .bool false/\Hid (nD w a wx))
   case first=>
    rcases d2 with d2 | ⟨d2,d3⟩
    all_goals
     go_wp2_with fail;go_meet;exact⟨rfl,j⟩
   clear p0 q0 t0 t1 t2 f0 f1 f2 j;obtain⟨rfl,j⟩:=hcut;obtain⟨p0,q0,t0,t1,t2,f0,f1,f2⟩:=j.out.cells;by_cases hw0:wd=0
   ·have q:Hid (((0:Int),(a:Int),(a:Int),(2:Int))=R):=hid (by have:=i.out;rw[if_pos hw0] at this;rw[<-this];unfold nW;simp);subst hw0;clear i;go_wp2_with (go_at_call 222;(with_reducible refine(RS.out _).mono ?_);rintro e w' ⟨rfl,rfl⟩);(with_reducible refine(CW.out _).mono ?_);rintro e w' ⟨rfl,rfl⟩;go_wp2_with fail;(with_reducible refine(TF.out _ _ _).mono ?_);rintro e w3 ⟨rfl,o⟩;have s:=cQ.step (cQ.start j.out) o;clear o p0 q0 t0 t1 t2 f0 f1 f2;obtain⟨k3,x3,y3,t0,t1,t2,f0,f1,f2⟩:=s.cellsE;go_wp2_with fail;have m:=hid (s.putG (0) ((a:Int)) ((a:Int)));obtain⟨WF,f⟩:=exQ<|gF w3 (w.heap.size+1) (0) ((a:Int)) ((a:Int));rw[f] at m;dsimp only[gF] at f;rw[f];clear f t0 t1 t2 f0 f1 f2;obtain⟨c0,c1,c2,_⟩:=m.out.2.1.cells;refine bodyPost_ret (v:= .tuple #[.agg #[.int .i64 (0), .int .i64 ((a:Int)), .int .i64 ((a:Int))], .int .i64 2]) ?_ rfl ⟨by rw[<-q.out];rfl,m.out.2.2⟩;simp[results,Tryz.results216,go_sem,c0,c1,c2]
   ·have q:Hid (((wd:Int),(a:Int),(a:Int)+(ns:Int),(0:Int))=R):=hid (by have:=i.out;rw[if_neg hw0] at this;rw[<-this];unfold nW;simp);have tw:((wd:Int) !=0)=true:=gP.2 (by omega);clear i hw0;go_wp2_with (go_at_call 222;(with_reducible refine(RS.out _).mono ?_);rintro e w' ⟨rfl,rfl⟩);(with_reducible refine(CW.out _).mono ?_);rintro e w' ⟨rfl,rfl⟩;go_wp2_with fail;(with_reducible refine(TK.out _ _ _ p0).mono ?_);rintro e w3 ⟨rfl,o⟩;have s:=cQ.step (cQ.start j.out) o;clear o p0 q0 t0 t1 t2 f0 f1 f2;obtain⟨k3,x3,y3,t0,t1,t2,f0,f1,f2⟩:=s.cellsE;go_wp2_with fail;have m:=hid (s.putG ((wd:Int)) ((a:Int)) ((a:Int)+(ns:Int)));obtain⟨WF,f⟩:=exQ<|gF w3 (w.heap.size+1) ((wd:Int)) ((a:Int)) ((a:Int)+(ns:Int));rw[f] at m;dsimp only[gF] at f;rw[f];clear f t0 t1 t2 f0 f1 f2;obtain⟨c0,c1,c2,_⟩:=m.out.2.1.cells;refine bodyPost_ret (v:= .tuple #[.agg #[.int .i64 ((wd:Int)), .int .i64 ((a:Int)), .int .i64 ((a:Int)+(ns:Int))], .int .i64 0]) ?_ rfl ⟨by rw[<-q.out];rfl,m.out.2.2⟩;simp[results,Tryz.results216,go_sem,c0,c1,c2]
end
section
open Go.RowKit Go.Shelf
open Go.Lib hiding intOf
abbrev Ev:=Int×Int×Int×Int
def xK (t:aS):Ev:=((t.kind:Int),(t.sf:Int),(t.st:Int),0)
def vN (o:Option (Nat×Int)):List Ev:=match o with | none=> [] | some x=> [(0,(x.1:Int),(x.1:Int),x.2)]
def lU (f:Nat) (l:List UInt8) (i:Nat):List Ev:=(gK f l i).1.map xK++vN (gK f l i).2
def jZ (l:List UInt8):List Ev:=if 65536<l.length then [(0,0,0,3)] else lU l.length l 0
theorem Yx (f i:Nat):lU f [] i= []:=by unfold lU;rw[wX];rfl
theorem Yy (f:Nat) (l:List UInt8) (a:Nat) (ha:a<l.length): ∃k:Nat,(pS l a).2.2.1=k/\k<=l.length/\((pS l a).2.2.2=0->a<k)/\
  lU (f+1) (l.drop a) a=pS l a::(if(pS l a).2.2.2=0 then lU f (l.drop k) k else []):=by
 obtain⟨c,r,d⟩: ∃c r,l.drop a=c::r:=by
  cases h:l.drop a with
  | nil=>have:=congrArg List.length h;simp at this;omega
  | cons c r=>exact⟨c,r,rfl⟩
 have i:=congrArg List.length d;rw[aZ] at i;have b:=zS (c::r) (List.cons_ne_nil _ _);have j:pS l a=nW (dL (c::r)) a:=by unfold pS;rw[d]
 have g:l.drop (a+(dL (c::r)).2.1)=(c::r).drop (dL (c::r)).2.1:=by rw[<-d,lP]
 rw[j,d];unfold lU;rw[wW];unfold nW;by_cases h:(dL (c::r)).2.2=0
 ·have h3:=b.2 h;refine⟨a+(dL (c::r)).2.1,?_,by have:=b.1;omega,λ_=>by omega,?_⟩
  ·simp only[if_pos h];omega
  ·simp only[if_pos h,if_true,g];unfold xK;simp only[lQ,cU,List.cons.injEq,and_true,Prod.mk.injEq,true_and];omega
 ·refine⟨a+(dL (c::r)).2.1,?_,by have:=b.1;omega,λe=>?_,?_⟩
  ·simp only[if_neg h];omega
  ·simp only[if_neg h] at e;exact absurd e h
  ·simp only[if_neg h,List.map_nil,eE];unfold vN;simp only[List.cons.injEq,and_true,Prod.mk.injEq,true_and];omega
def xL (x:Ev):Array Value:= #[.agg #[.int .i64 x.1, .int .i64 x.2.1, .int .i64 x.2.2.1], .int .i64 x.2.2.2]
def rE (O:Nat) (A:World) (i:Nat):Prop:= ∃v,A.heap[O]?=some (.cells #[v] 204 (0,0))/\v.ownBlock=some i
def lA (n O:Nat) (A B:World):Prop:=Below n A B/\(∀i,rE O B i->rE O A i\/(A.heap.size<=i/\i<B.heap.size))/\(∀i o,A.heap[i]?=some o->o.isCells=true->i≠O-> ¬rE O A i->B.heap[i]?=some o)
theorem lA.trans {n O:Nat}{A B C:World} (h:lA n O A B) (k:lA n O B C):lA n O A C:=by
 refine⟨h.1.trans k.1,λi l=>?_,λi o e f c b=>?_⟩
 ·rcases k.2.1 i l with d | ⟨d,g⟩
  ·rcases h.2.1 i d with a | ⟨a,j⟩
   ·exact .inl a
   ·exact .inr ⟨a,iI j k.1.size⟩
  ·exact .inr ⟨aV h.1.size d,g⟩
 ·refine k.2.2 i o (h.2.2 i o e f c b) f c (λm=>?_);rcases h.2.1 i m with a | ⟨a,_⟩
  ·exact b a
  ·have:=(dW.1 e).1;omega
theorem lA.putObj {n O S:Nat} (hn:n<=S) (hO:O<S) (W:World) (j:Nat) (o o':Obj) (hj:S<=j) (h:W.heap[j]?=some o) (hc:o.isCells=false):lA n O W (W.putObj j o'):=by
 have a: ∀i,i≠j->(W.putObj j o').heap[i]?=W.heap[i]?:=λi d=>World.putObj_heap_other d;refine⟨(aB n W).grown (grownBy_putObj' W j o') (by have:=(dW.1 h).1;omega) (λk e=>by cases e;omega),λi d=>?_,λi o2 c b _ _=>?_⟩
 ·obtain⟨v,f,g⟩:=d;rw[a O (by omega)] at f;exact .inl ⟨v,f,g⟩
 ·by_cases e:i=j
  ·rw[e,h] at c;cases c;rw[hc] at b;cases b
  ·rw[a i e];exact c
def nE (O X:Nat) (W:World):Prop:= ∀i,rE O W i->X<i/\i<W.heap.size
theorem rE.back {O:Nat}{A B:World}{i:Nat} (hb:Below A.heap.size A B) (hO:O<A.heap.size) (h:rE O B i):rE O A i:=by
 obtain⟨v,a,b⟩:=h;rw[hb.block O hO] at a;exact⟨v,a,b⟩
theorem nE.keep {O X:Nat}{A B:World} (h:nE O X A) (hb:Below A.heap.size A B) (hO:O<A.heap.size):nE O X B:=λi a=>by
 have:=h i (a.back hb hO);exact⟨this.1,iI this.2 hb.size⟩
theorem nE.kp {n O X:Nat}{A B:World} (h:nE O X A) (hX:X<A.heap.size) (k:lA n O A B):nE O X B:=λi b=>by
 rcases k.2.1 i b with a | ⟨a,c⟩
 ·have:=h i a;exact⟨this.1,iI this.2 k.1.size⟩
 ·exact⟨by omega,c⟩
theorem Yz {A B:World} (h:Below A.heap.size A B):A.grownBy B none:=⟨h.os,h.tape,h.output,h.size,λi a _=>h.block i a⟩
theorem Za {β:Type}{S:Nat}{J:β->World->Prop} (hJ:AbidesFrom S J) {s:β}{A B:World} (h:J s A) (hb:Below A.heap.size A B):J s B:=hJ s A B none h (Yz hb) (λr e=>by cases e)
theorem Zb (n:Nat) (hn:1<=n) (q X O S:Nat) (w0:World) (l:List UInt8) (hs:l.length<=4611686018427387904) (hV:dC w0) (hT:cD w0) (J Jx:List Ev->World->Prop) (hJ:AbidesFrom S J)
  (hY: ∀pre x W,J pre W->pre.length<(jZ l).length->YieldAt Fence.wide (n-1) Tryz.prog q (xL x) W λe W'=>
   (e= .returned (.bool true)/\J (pre++ [x]) W'/\lA w0.heap.size O W W')\/(e= .returned (.bool false)/\Jx (pre++ [x]) W'))
  (W:World) (hX:W.heap[X]?=some (.cells #[.string (bs l)] 9 (0,0))) (hO:O<W.heap.size) (hne:O≠X) (hP:nE O X W) (hB:Below w0.heap.size w0 W) (h0:J [] W):
  CallsIn Fence.wide n Tryz.prog 215 #[.func (.yield q) #[] #[], .pointer (some ⟨X,0,none⟩)] W λe W'=>(∃v,e= .returned v)/\
   ((∃ys,ys=jZ l/\J ys W')\/(∃pre,pre <+:jZ l/\Jx pre W')):=by
 have sl:=aQ l;have H:=cell_of_one hX;refine callsIn_of_wp Tryz.func215 rfl trivial ?_ rfl;simp only[Tryz.ntmps215,List.size_toArray,aL,bY,Nat.reduceAdd,Nat.reduceSub,Array.replicate_succ,Array.replicate_zero,List.push_toArray,List.append_toArray,eE,cU];obtain⟨E,D⟩:=exQ<|jZ l;rw[D] at hY ⊢;unfold jZ at D;by_cases hlong:65536<l.length
 ·rw[if_pos hlong] at D;subst D;obtain⟨fn,tmps,assign,body,V,hR⟩:=hY [] (0,0,0,3) W h0 (by simp);unfold xL at V;gi_wp2;refine hR.mono ?_;rintro e W3 (⟨rfl,z,m⟩ | ⟨rfl,p⟩)
  ·gi_wp2;refine bodyPost_ret (results_none rfl _ _ _) rfl ?_;exact⟨⟨_,rfl⟩, .inl ⟨_,rfl,z⟩⟩
  ·gi_wp2;refine bodyPost_ret (results_none rfl _ _ _) rfl ?_;exact⟨⟨_,rfl⟩, .inr ⟨_,List.prefix_refl _,p⟩⟩
 ·rw [if_neg hlong] at D;have CN:=hid (λa w ha hV hT=>Yw l a w (by omega) ha hV hT);have HE:=hid D;have HV:=hid hV;have HT:=hid hT;have HJ:=hid (fun(s:List Ev) (A B:World) (h:J s A) (hb:Below A.heap.size A B)=>Za hJ h hb);have HY:=hid hY;have HS:Hid (∃f,E= []++lU f (l.drop 0) 0/\l.length<=0+f):=hid ⟨l.length,by rw[<-D,List.drop_zero,eE],by omega⟩;have hO':=hO;have o:Hid (J [] W/\Below w0.heap.size w0 W/\W.heap[X]?=some (.cells #[.string (bs l)] 9 (0,0))/\nE O X W):=hid ⟨h0,hB,hX,hP⟩;have hlong2:(l.length:Int)<=65536:=by omega
  have dlong:decide (65536<(l.length:Int))=false:=aJ (by omega);clear D hV hT hJ hY h0 hB hX hP;gi_wp2;gi_loopw [3] (λs3 wr=> ∃(pre:List Ev) (a:Nat),s3= .int .i64 a/\a<=l.length/\Hid (∃f,E=pre++lU f (l.drop a) a/\l.length<=a+f)/\Hid (J pre wr/\Below w0.heap.size w0 wr/\wr.heap[X]?=some (.cells #[.string (bs l)] 9 (0,0))/\nE O X wr)/\O<wr.heap.size) (λs3 wr=>l.length-(RowKit.intOf s3).toNat)
  case atStart=>exact⟨[],0,rfl,by omega,HS.out,o.out,hO⟩
  case round=>
   obtain⟨pre,a,rfl,ha,HG,o,hO⟩:=hrel;have H:=cell_of_one o.out.2.2.1;by_cases hlt:a<l.length
   ·obtain⟨x,hx⟩:=exQ<|pS l a;have ad: ∃k:Nat,x.2.2.1=k/\k<=l.length/\(x.2.2.2=0->a<k)/\Hid (∃f,E=pre++(x::(if x.2.2.2=0 then lU f (l.drop k) k else []))/\l.length<=a+f+1):=by
     obtain⟨f,i,Y⟩:=HG.out;obtain⟨g,rfl⟩: ∃g,f=g+1:=⟨f-1,by omega⟩;obtain⟨k,k1,k2,k3,k4⟩:=Yy g l a hlt;rw[hx] at k1 k3 k4;rw[k4] at i;exact⟨k,k1,k2,k3,hid ⟨g,i,by omega⟩⟩
    obtain⟨k,R,aa,b,c⟩:=ad;have CN2:=hid (CN.out a wr hlt (HV.out.keep o.out.2.1) (HT.out.keep o.out.2.1));rw[hx] at CN2;obtain⟨xk,xf,xt,xe⟩:=x;simp only[] at R b c;subst R;unfold Ll at CN2;simp only[] at CN2;clear HG hx;gi_wp2_with fail;refine⟨trivial,?_⟩;(with_reducible refine(callsIn_wide.2 CN2.out).mono ?_);rintro e w1 ⟨rfl,u⟩;have j:Below wr.heap.size wr (w1.alloc (.cells #[.int .i64 xk, .int .i64 xf, .int .i64 k] 211)):=aC u (aH w1 _);have t:iO (w1.alloc (.cells #[.int .i64 xk, .int .i64 xf, .int .i64 k] 211)) w1.heap.size xk xf k:=heap_alloc_new w1 _;obtain⟨W2,Q⟩:=exQ<|w1.alloc (.cells #[.int .i64 xk, .int .i64 xf, .int .i64 k] 211);rw[Q] at j t;obtain⟨Z,hZ⟩:=exQ<|w1.heap.size;have hOZ:O<Z:=by rw[<-hZ];exact iI hO u.size
    have M:nE O X w1:=o.out.2.2.2.keep u hO;have F:nE O X W2:=o.out.2.2.2.keep j hO;have T: ¬rE O W2 Z:=λhw=>by
     have ae:Below w1.heap.size w1 W2:=by rw[<-Q];exact aH w1 _
     have:=(M Z (hw.back ae (iI hO u.size))).2;omega
    have L:W2.heap[X]?=some (.cells #[.string (bs l)] 9 (0,0)):=(j.block X (aE o.out.2.2.1)).trans o.out.2.2.1;have P: ¬rE O W2 X:=λhw=>Nat.lt_irrefl _ (F X hw).1;rw[hZ] at t;have N:=HJ.out pre _ _ o.out.1 j;have U:Below w0.heap.size w0 W2:=o.out.2.1.trans (j.mono o.out.2.1.size);have ag:O<W2.heap.size:=iI hO j.size;have y:=hid (aT F (aT T (aT L (aT P (aT U t)))));have C:pre.length<E.length:=by
     obtain⟨f,i,_⟩:=c.out;rw[i,aI,aL];omega
    obtain⟨fn,tmps,assign,body,V,hR⟩:=HY.out pre (xk,xf,(k:Int),xe) W2 N C;obtain⟨t0,t1,t2,f0,f1,f2⟩:=t.cells;unfold xL at V;simp only[] at V;clear N u j M F T L P U C o CN2 H t;gi_wp2_with fail;refine hR.mono ?_;clear V hR t0 t1 t2 f0 f1 f2;rintro e W3 (⟨rfl,z,m⟩ | ⟨rfl,p⟩)
    ·have K:iO W3 Z xk xf k:=m.2.2 Z _ y.out.2.2.2.2.2 rfl (by omega) y.out.2.1;have I:W3.heap[X]?=some (.cells #[.string (bs l)] 9 (0,0)):=m.2.2 X _ y.out.2.2.1 rfl (λe=>hne e.symm) y.out.2.2.2.1;have af:O<W3.heap.size:=iI ag m.1.size;have G:Hid (J (pre++ [(xk,xf,(k:Int),xe)]) W3/\Below w0.heap.size w0 W3/\W3.heap[X]?=some (.cells #[.string (bs l)] 9 (0,0))/\nE O X W3):=hid ⟨z,y.out.2.2.2.2.1.trans m.1,I,y.out.1.kp (aE y.out.2.2.1) m⟩;clear z m I y;by_cases hxe:xe=0
     ·have ab:Hid (∃f,E=(pre++ [(xk,xf,(k:Int),xe)])++lU f (l.drop k) k/\l.length<=k+f):=hid (by obtain⟨f,i,Y⟩:=c.out;rw[if_pos hxe] at i;have:=b hxe;exact⟨f,by rw[i];simp,by omega⟩);have hak:=b hxe;subst hxe;clear c b;obtain⟨t0,t1,t2,f0,f1,f2⟩:=K.cells;gi_wp2_with fail;go_roundw
      case rel=>exact⟨_,k,rfl,aa,ab.out,G.out,af⟩
      case measure=>simp[RowKit.intOf];omega
     ·have d:E=pre++ [(xk,xf,(k:Int),xe)]:=by
       obtain⟨f,i,Y⟩:=c.out;rw[if_neg hxe] at i;exact i
      have r:=hid d;have te:(xe !=0)=true:=gP.2 hxe;clear d hxe c b K;gi_wp2_with fail;refine bodyPost_ret (results_none rfl _ _ _) rfl ?_;exact⟨⟨_,rfl⟩, .inl ⟨_,r.out.symm,G.out.1⟩⟩
    ·have d:pre++ [(xk,xf,(k:Int),xe)] <+:E:=by
      obtain⟨f,i,Y⟩:=c.out;exact⟨_,by rw[i];simp;rfl⟩
     have r:=hid (aT d p);clear d c b y p;gi_wp2_with fail;refine bodyPost_ret (results_none rfl _ _ _) rfl ?_;exact⟨⟨_,rfl⟩, .inr ⟨_,r.out.1,r.out.2⟩⟩
   ·have d:E=pre:=by
     obtain⟨f,i,Y⟩:=HG.out;rw[List.drop_of_length_le (by omega),Yx,List.append_nil] at i;exact i
    have r:=hid d;clear d;gi_wp2_with fail;go_end0;exact⟨⟨_,rfl⟩, .inl ⟨_,r.out.symm,o.out.1⟩⟩
attribute [local go_sem] Oper.semAt_some
theorem Tryz.infoTok:(Tryz.prog.info? 211).map (λi=>(i.zero,i.size,i.bytes))=some (some (.agg #[.int .i64 0, .int .i64 0, .int .i64 0]),3,24):=by kernel_rfl
theorem Zc (A:ByteArray) (w:World):
  Calls Tryz.prog 200 #[.string A] w λe w'=>e= .returned (.func (.func 215) #[] #[.pointer (some ⟨w.heap.size,0,none⟩)])/\w'=w.alloc (.cells #[.string A] 9):=by
 have hmf: ∀(fn:Fn) (first cap:Array Value) (w:World),(Instr.makeFunc fn first cap).run Tryz.prog w= .ok (.func fn first cap) w:=λ_ _ _ _=>rfl;go_enter Tryz.func200,Tryz.ntmps200;go_wp2_with fail;go_ret;exact⟨rfl,rfl⟩
def rF (xs:List Ev):List Value:=xs.flatMap λx=> [.int .i64 x.1, .int .i64 x.2.1, .int .i64 x.2.2.1]
def pU (ts:List aS):List Value:=ts.flatMap λt=> [.int .i64 t.kind, .int .i64 t.sf, .int .i64 t.st]
theorem Zd (ts:List aS):rF (ts.map xK)=pU ts:=by
 unfold rF pU;rw[List.flatMap_map];rfl
theorem Ze (xs:List Ev) (x:Ev):rF (xs++ [x])=rF xs++ [.int .i64 x.1, .int .i64 x.2.1, .int .i64 x.2.2.1]:=by unfold rF;simp
def kA (B:Nat) (w:World) (v:Value) (ts:List aS):Prop:=w.ownsRow B 211 3 v ts.length (pU ts)
def Zf (r:List aS×Int×Int) (w:World) (e:Ending) (w':World):Prop:= ∃v,e= .returned (.tuple #[v, .int .i64 r.2.1, .int .i64 r.2.2])/\kA w.heap.size w' v r.1/\(r.1= []->v= .slice none 0 0)/\Below w.heap.size w w'
theorem Zg (l:List UInt8):(jZ l).length<=65537:=by
 have a: ∀(f:Nat) (l:List UInt8) (i:Nat),(gK f l i).1.length<=f:=by
  intro f
  induction f with
  | zero=>intro l i;simp[gK]
  | succ f ih=>
   intro l i;cases l with
   | nil=>rw[wX];simp
   | cons c r=>
    rw[wW];split
    ·simp only[aL];have:=ih ((c::r).drop (dL (c::r)).2.1) (i+(dL (c::r)).2.1);omega
    ·simp
 unfold jZ;split
 ·simp
 ·unfold lU;rw[aI,cA];have:=a l.length l 0;have h2:(vN (gK l.length l 0).2).length<=1:=by unfold vN;split<;>simp
  omega
theorem Ed {W:World}{B base n size:Nat}{t e:TypeId}{u v:Value}{xs:List Value} (hb:Boxed W B t u) (hte:t≠e) (hrow:W.ownsRow base e size v n xs) (x:Value):(W.setCell ⟨B,0,none⟩ x).ownsRow base e size v n xs:=
 hrow.kept (grownBy_setCell' W B x) (.inr (hb.not_row hte hrow).symm)
theorem Zh (X:Nat) (k a b:Int):Own (fun(_:Unit) W=>iO W X k a b):=λs A B row d g c=>
 (g.block X (aE d) (λe'=>by obtain⟨o,e,f⟩:=c X e'.symm;rw[show A.heap[X]?=_ from d] at e;cases e;cases f)).trans d
theorem lA.of_below {n O:Nat}{A B:World} (hb:Below A.heap.size A B) (hn:n<=A.heap.size) (hO:O<A.heap.size):lA n O A B:=
 ⟨hb.mono hn,λi b=> .inl (b.back hb hO),λi o a _ _ _=>(hb.block i (aE a)).trans a⟩
theorem lA.push {n O:Nat}{W w1:World}{v v':Value}{tmp:Obj} (hv:Boxed W O 204 v) (hgrow:(W.alloc tmp).grownBy w1 v.ownBlock) (hv2:Boxed (w1.setCell ⟨O,0,none⟩ v') O 204 v') (hb:Below n W (w1.setCell ⟨O,0,none⟩ v'))
  (hat:v'.ownBlock=v.ownBlock\/v'.ownBlock=some (W.alloc tmp).heap.size) (hlt: ∀k,v'.ownBlock=some k->k<w1.heap.size):lA n O W (w1.setCell ⟨O,0,none⟩ v'):=by
 have hsz:(w1.setCell ⟨O,0,none⟩ v').heap.size=w1.heap.size:=by simp[World.setCell]
 refine⟨hb,λi d=>?_,λi o g hc f c=>?_⟩
 ·obtain⟨u,a,b⟩:=d;rw[show (w1.setCell ⟨O,0,none⟩ v').heap[O]?=_ from hv2] at a;simp only[cP,Obj.cells.injEq,Array.mk.injEq,List.cons.injEq,and_true,true_and] at a;subst a;rcases hat with h | h
  ·exact .inl ⟨v,hv,by rw[<-h,b]⟩
  ·rw[b,rD] at h;have:=hlt i b;simp only[cP] at h;exact .inr ⟨by omega,by omega⟩
 ·have d:=aE g;have e1:(w1.setCell ⟨O,0,none⟩ v').heap[i]?=w1.heap[i]?:=eQ w1 ⟨O,0,none⟩ v' i f;rw[e1,hgrow.block i (by rw[rD];omega) (λe=>c ⟨v,hv,e.symm⟩),Below.heap_alloc _ _ _ d];exact g
theorem Zi (w:World) (cs:Array Value) (t:TypeId): ∀j u,cs.toList[j]?=some u->(w.alloc (.cells cs t)).cell? ((⟨w.heap.size,0,none⟩:Addr).add j)=some u:=by
 intro j u a;rw[Array.getElem?_toList] at a;have e1:((⟨w.heap.size,0,none⟩:Addr).add j)=⟨w.heap.size,j,none⟩:=by unfold Addr.add;split<;>simp_all
 rw[e1,World.cell?_alloc_new];exact a
def Lo (w:World) (S:Nat) (pre:List Ev) (W:World):Prop:=(((((∃v,Boxed W (w.heap.size+3) 204 v/\W.ownsRow w.heap.size 211 3 v pre.length (rF pre)/\((∀x∈pre,x.2.2.2=0)/\(pre= []->v= .slice none 0 0)))/\Boxed W w.heap.size 204 (.slice none 0 0))/\Boxed W (w.heap.size+1) 3 (.int .i64 0))/\Boxed W (w.heap.size+2) 28 (.int .i64 0))/\(Below w.heap.size w W/\S<=W.heap.size))
def Ee (w:World) (c:Code) (pre:List Ev) (W:World):Prop:=((c= .ret/\ ∃ys x,pre=ys++ [x]/\x.2.2.2≠0/\Boxed W w.heap.size 204 (.slice none 0 0)/\Boxed W (w.heap.size+1) 3 (.int .i64 x.2.1)/\Boxed W (w.heap.size+2) 28 (.int .i64 x.2.2.2)))/\Below w.heap.size w W
theorem Zj (w:World) (S B:Nat) (hB:w.heap.size<=B):OwnFrom B (Lo w S):=
 OwnFrom.and (OwnFrom.and (OwnFrom.and (OwnFrom.and (Own.from (holdsRow_own w.heap.size (w.heap.size+3) 204 211 3 (λpre=>pre.length) rF (λpre v=>(∀x∈pre,x.2.2.2=0)/\(pre= []->v= .slice none 0 0))) _) (Own.from (boxed_own _ _ (λ_=>_)) _)) (Own.from (boxed_own _ _ (λ_=>_)) _)) (Own.from (boxed_own _ _ (λ_=>_)) _)) (OwnFrom.and (ownFrom_below (aD _) hB) (λ_ _ _ _ a b _=>aV a b.size))
theorem Zk (w:World) (c:Code) (B:Nat) (hB:w.heap.size<=B):OwnFrom B (Ee w c):=
 OwnFrom.and (λs A B row j b a=>by obtain⟨g,ys,x,h,d,i,k,f⟩:=j;exact⟨g,ys,x,h,d,boxed_own _ _ (fun(_:Unit)=>_) () A B row i b (λr e=>(a r e).2),boxed_own _ _ (fun(_:Unit)=>_) () A B row k b (λr e=>(a r e).2),boxed_own _ _ (fun(_:Unit)=>_) () A B row f b (λr e=>(a r e).2)⟩) (ownFrom_below (aD _) hB)
theorem Zl {w W:World}{S:Nat}{Kp:World->World->Prop}{I:List Ev->World->Prop}{a:Act} (c2:Boxed W w.heap.size 204 (.slice none 0 0)) (c3:Boxed W (w.heap.size+1) 3 (.int .i64 0)) (c4:Boxed W (w.heap.size+2) 28 (.int .i64 0)) (hB:Below w.heap.size w W) (pre:List Ev) (x:Ev) (hx:x.2.2.2≠0):
  ownPostG S Kp I (Ee w) (pre++ [x]) W .ret a (((W.setCell ⟨w.heap.size,0,none⟩ (.slice none 0 0)).setCell ⟨w.heap.size+1,0,none⟩ (.int .i64 x.2.1)).setCell ⟨w.heap.size+2,0,none⟩ (.int .i64 x.2.2.2)).drew:=by
 refine⟨((((KeepsOthers.setCell _ _ _).trans (KeepsOthers.setCell _ _ _)).trans (KeepsOthers.setCell _ _ _)).trans (KeepsOthers.drew _)).from _,⟨rfl,pre,x,rfl,hx,?_,?_,?_⟩,?_⟩
 ·exact(show Boxed (((W.setCell ⟨w.heap.size,0,none⟩ (.slice none 0 0)).setCell ⟨w.heap.size+1,0,none⟩ (.int .i64 x.2.1)).setCell ⟨w.heap.size+2,0,none⟩ (.int .i64 x.2.2.2)) _ _ _ from ((c2.set _).other (by omega) _).other (by omega) _)
 ·exact((c3.other (by omega) _).set _).other (by omega) _
 ·exact((c4.other (by omega) _).other (by omega) _).set _
 ·exact(((hB.setCell (p:=⟨w.heap.size,0,none⟩) (aD _) _).setCell (p:=⟨w.heap.size+1,0,none⟩) (tU _) _).setCell (p:=⟨w.heap.size+2,0,none⟩) (by show w.heap.size<=w.heap.size+2;omega) _).drew
theorem Zm (f:Nat) (l:List UInt8) (i:Nat) (hf:l.length<=f) (h: ∀x∈lU f l i,x.2.2.2=0):(gK f l i).2=none/\lU f l i=(gK f l i).1.map xK:=by
 unfold lU at h ⊢;cases ho:(gK f l i).2 with
 | none=>exact⟨rfl,by unfold vN;simp⟩
 | some x=>
  exfalso;obtain⟨p,e⟩:=x;have:=zT f l i p e hf ho;rw[ho] at h;have a:=h (0,(p:Int),(p:Int),e) (by unfold vN;simp);exact this.2.2 a
theorem Zn (l:List UInt8) (h: ∀x∈jZ l,x.2.2.2=0):(eW l).2=((l.length:Int),0)/\jZ l=(eW l).1.map xK:=by
 unfold jZ at h ⊢;unfold eW;by_cases hl:65536<l.length
 ·rw[if_pos hl] at h;have:=h (0,0,0,3) (by simp);exact absurd this (by decide)
 ·rw[if_neg hl] at h;obtain⟨a,b⟩:=Zm l.length l 0 (aD _) h;rw[if_neg hl,if_neg hl,a];exact⟨rfl,b⟩
theorem Zo (l:List UInt8) (ys:List Ev) (x:Ev) (hp:ys++ [x] <+:jZ l) (hx:x.2.2.2≠0):eW l=([],x.2.1,x.2.2.2):=by
 have a:x∈jZ l:=hp.mem (by simp);unfold jZ at a;unfold eW;by_cases hl:65536<l.length
 ·rw[if_pos hl] at a ⊢;rw[jX.1 a]
 ·rw[if_neg hl] at a;simp only[if_neg hl];unfold lU at a;rcases mZ.1 a with a | a
  ·obtain⟨t,_,rfl⟩:=pJ.1 a;exact absurd rfl hx
  ·cases ho:(gK l.length l 0).2 with
   | none=>rw[ho] at a;cases a
   | some y=>
    rw[ho] at a;obtain⟨p,e⟩:=y;rw[jX.1 a]
theorem Zp (l:List UInt8) (w:World) (hs:l.length<=4611686018427387904) (hV:dC w) (hT:cD w):
  Calls Tryz.prog 176 #[.string (bs l)] w (Zf (eW l) w):=by
 have sl:=aQ l;refine(callsIn_wide (n:=9)).1 ?_;refine callsIn_of_wp_marks Tryz.func176 rfl trivial ?_ rfl;simp only[Tryz.ntmps176,List.size_toArray,aL,bY,Nat.reduceAdd,Nat.reduceSub,Array.replicate_succ,Array.replicate_zero,List.push_toArray,List.append_toArray,eE,cU];gi_wp2_with fail;refine⟨trivial,?_⟩;refine(callsIn_wide.2 (Zc _ _)).mono ?_;rintro e w' ⟨rfl,rfl⟩;gi_wp2_with fail;obtain⟨W0,d⟩:=exQ (((((w.alloc (.cells #[.slice none 0 0] 204)).alloc (.cells #[.int .i64 0] 3)).alloc (.cells #[.int .i64 0] 28)).alloc (.cells #[.slice none 0 0] 204)).alloc (.cells #[.string (bs l)] 9));have b2:Boxed W0 w.heap.size 204 (.slice none 0 0):=by rw[<-d];exact((((Boxed.new w _ _).alloc _).alloc _).alloc _).alloc _
 have b3:Boxed W0 (w.heap.size+1) 3 (.int .i64 0):=by
  have:=(((Boxed.new (w.alloc (.cells #[.slice none 0 0] 204)) 3 (.int .i64 0)).alloc (.cells #[.int .i64 0] 28)).alloc (.cells #[.slice none 0 0] 204)).alloc (.cells #[.string (bs l)] 9);rw[rD] at this;rw[<-d];exact this
 have b4:Boxed W0 (w.heap.size+2) 28 (.int .i64 0):=by
  have:=((Boxed.new ((w.alloc (.cells #[.slice none 0 0] 204)).alloc (.cells #[.int .i64 0] 3)) 28 (.int .i64 0)).alloc (.cells #[.slice none 0 0] 204)).alloc (.cells #[.string (bs l)] 9);simp only[rD,Nat.add_assoc,Nat.reduceAdd] at this;rw[<-d];exact this
 have b5:Boxed W0 (w.heap.size+3) 204 (.slice none 0 0):=by
  have:=(Boxed.new (((w.alloc (.cells #[.slice none 0 0] 204)).alloc (.cells #[.int .i64 0] 3)).alloc (.cells #[.int .i64 0] 28)) 204 (.slice none 0 0)).alloc (.cells #[.string (bs l)] 9);simp only[rD,Nat.add_assoc,Nat.reduceAdd] at this;rw[<-d];exact this
 have b6:Boxed W0 (w.heap.size+4) 9 (.string (bs l)):=by
  have:=(Boxed.new ((((w.alloc (.cells #[.slice none 0 0] 204)).alloc (.cells #[.int .i64 0] 3)).alloc (.cells #[.int .i64 0] 28)).alloc (.cells #[.slice none 0 0] 204)) 9 (.string (bs l)));simp only[rD,Nat.add_assoc,Nat.reduceAdd] at this;rw[<-d];exact this
 have F:Below w.heap.size w W0:=by
  rw[<-d];exact(((((aB _ w).alloc (aD _) _).alloc (by simp) _).alloc (by simp;omega) _).alloc (by simp;omega) _).alloc (by simp;omega) _
 have O:W0.heap.size=w.heap.size+5:=by rw[<-d];simp
 simp only[rD,Nat.add_assoc,Nat.reduceAdd] at d ⊢;rw[d];clear d;have U:nE (w.heap.size+3) (w.heap.size+4) W0:=λi hi=>by
  obtain⟨v,H,V⟩:=hi;rw[show W0.heap[w.heap.size+3]?=_ from b5] at H;simp only[cP,Obj.cells.injEq,Array.mk.injEq,List.cons.injEq,and_true,true_and] at H;subst H;cases V
 refine wpIn_rangeFunc_ownH rfl (by omega) (gf:=215) (lb:= #[.pointer (some ⟨w.heap.size+4,0,none⟩)]) rfl trivial (enters_of Tryz.func215 (by kernel_rfl) rfl)
  (α:=Ev) (encs:=xL) (Kp:=lA w.heap.size (w.heap.size+3)) (S:=λys=>ys=jZ l) (Sp:=λpre=>pre <+:jZ l) (N:=(jZ l).length) (w0:=W0)
  (λq J Jx W R hJ _ hY h0=>Zb 8 (by omega) q (w.heap.size+4) (w.heap.size+3) W.heap.size w l hs hV hT J Jx hJ hY W ((R.block _ (by omega)).trans b6) (iI (by omega) R.size) (by omega) (U.keep R (by omega)) (F.trans (R.mono (by omega))) h0)
  (λh k=>h.trans k) (λW j o o' hj ho hc _=>lA.putObj (by omega) (by omega) W j o o' hj ho hc) (aB _ _) (λ_=>rfl)
  (Lo w W0.heap.size) (Ee w) (Zj w _ _ (by omega)) (λc=>Zk w c _ (by omega))
  ⟨⟨⟨⟨⟨_,b5,World.ownsRow_nil _ _ _ _,by simp,λ_=>rfl⟩,b2⟩,b3⟩,b4⟩,F,aD _⟩
  (λx a' W=> ∃Bx,W0.heap.size<=Bx/\iO W Bx x.1 x.2.1 x.2.2.1/\a'= { tmps:= #[.string (bs l),undef, .pointer (some ⟨w.heap.size,0,none⟩), .pointer (some ⟨w.heap.size+1,0,none⟩), .pointer (some ⟨w.heap.size+2,0,none⟩), .pointer (some ⟨w.heap.size+3,0,none⟩), .pointer (some ⟨Bx,0,none⟩), .int .i64 x.2.2.2, .string (bs l), .func (.func 215) #[] #[.pointer (some ⟨w.heap.size+4,0,none⟩)], .agg #[.int .i64 x.1, .int .i64 x.2.1, .int .i64 x.2.2.1], .int .i64 x.2.2.2,undef,undef,undef,undef,undef,undef,undef,undef,undef,undef,undef,undef,undef],defers:= [] })
  (λx a' _ A B row hs hg T=>by obtain⟨Bx,H,V,h3⟩:=hs;exact⟨Bx,H,Zh Bx _ _ _ () A B row V hg (λr e=>(T r e).2),h3⟩)
  ?assign ?body ?done ?stop
 case assign=>
  rintro q pre x W K ⟨⟨⟨⟨⟨v,bO,a,f⟩,c2⟩,c3⟩,c4⟩,s,C⟩ E;obtain⟨xk,xf,xt,xe⟩:=x;dsimp only[xL];gi_wp2_with fail;refine E _ _ ((KeepsOthers.alloc _ _).from _) (lA.of_below (aH W _) s.size (by omega)) ?_ ⟨W.heap.size,C,heap_alloc_new W _,rfl⟩;exact⟨⟨⟨⟨⟨v,bO.alloc _,a.alloc _,f⟩,c2.alloc _⟩,c3.alloc _⟩,c4.alloc _⟩,s.alloc s.size _,aV C (by simp)⟩
 case body=>
  rintro q pre x a' W hl T ⟨⟨⟨⟨⟨v,bO,a,f⟩,c2⟩,c3⟩,c4⟩,s,C⟩ ⟨Bx,hBx,bX,rfl⟩ hlt;obtain⟨i0,ad,X,ae,ag⟩:=info_parts Tryz.infoTok;have hEl:=Zg l;obtain⟨xk,xf,xt,xe⟩:=x;simp only[] at bX;obtain⟨t0,t1,t2,f0,f1,f2⟩:=bX.cells;have aa:=bO.cell;have hfO:=bO.frozen;have HZ:=hid O;obtain⟨S,hS⟩:=exQ<|W0.heap.size;rw[hS] at HZ C ⊢;have HS:=hid hS;clear O hS;by_cases hxe:xe=0
  ·subst hxe;gi_wp2_with (gi_at_builtin;go_must (refine wpListIn_append_own_at _ rfl _ _ 204 rfl w.heap.size 211 i0 _ 3 24 Tryz.underlying204 ad X ae ag rfl (by decide) v pre.length (rF pre) rfl (a.alloc _) ⟨W.heap.size,0,none⟩ 1 1 (#[.int .i64 xk, .int .i64 xf, .int .i64 xt]:Array Value).toList rfl rfl (Zi _ _ _) (by simp[Value.oneCell']) (by unfold maxLen;omega) (by omega) (by have:=s.size;simp;omega) ?_);intro v' w1 m b hnil af;obtain⟨g',cap',rfl⟩:=ownsRow_succ m;obtain⟨I,G,t,Y,z⟩:=bO.appended (by decide) a s.size (by omega) m b;have hc1:=I.cell;have hf1:=I.frozen);refine⟨Y.from _,lA.push bO b G z af (λk hk=>(m.lt k hk).2),?_⟩;refine⟨⟨⟨⟨⟨_,G,?_,?_,λh=>absurd h (by simp)⟩,((c2.alloc _).kept b (c2.not_row (by decide) a)).other (by omega) _⟩,((c3.alloc _).kept b (c3.not_row (by decide) a)).other (by omega) _⟩,((c4.alloc _).kept b (c4.not_row (by decide) a)).other (by omega) _⟩,s.trans z,aV C z.size⟩
   ·rw[Ze,aI];exact t
   ·intro y Q;rcases mZ.1 Q with Q | Q
    ·exact f.1 y Q
    ·rw[jX.1 Q]
  ·have te:(xe !=0)=true:=gP.2 hxe;have c2c:=c2.cell;have c3c:=c3.cell;have c4c:=c4.cell;have c2f:=c2.frozen;have c3f:=c3.frozen;have c4f:=c4.frozen;gi_wp2_with fail;gi_region
   all_goals gi_wp2
   all_goals exact Zl c2 c3 c4 s pre (xk,xf,xt,xe) hxe
 case done=>
  rintro D ys W hD rfl ⟨⟨⟨⟨⟨v,bO,a,f⟩,c2⟩,c3⟩,c4⟩,s,C⟩ E;obtain⟨vp,vn,vc,rfl⟩: ∃p n c,v= .slice p n c:=by
   rcases a.2 with⟨h,_⟩ | ⟨g,cap,cur,h,_⟩
   ·exact⟨_,_,_,h⟩
   ·exact⟨_,_,_,h⟩
  have aa:=bO.cell;have c2c:=c2.cell;have c3c:=c3.cell;have c4c:=c4.cell;have c2f:=c2.frozen;have c3f:=c3.frozen;have c4f:=c4.frozen;gi_wp2_with fail;obtain⟨ah,P⟩:=Zn l f.1;have k1:KeepsOthers W (((W.setCell ⟨w.heap.size,0,none⟩ (.slice vp vn vc)).setCell ⟨w.heap.size+1,0,none⟩ (.int .i64 l.length)).setCell ⟨w.heap.size+2,0,none⟩ (.int .i64 0)):=((KeepsOthers.setCell _ _ _).trans (KeepsOthers.setCell _ _ _)).trans (KeepsOthers.setCell _ _ _);have d2:Boxed (((W.setCell ⟨w.heap.size,0,none⟩ (.slice vp vn vc)).setCell ⟨w.heap.size+1,0,none⟩ (.int .i64 l.length)).setCell ⟨w.heap.size+2,0,none⟩ (.int .i64 0)) w.heap.size 204 (.slice vp vn vc):=((c2.set _).other (by omega) _).other (by omega) _;have d3:Boxed (((W.setCell ⟨w.heap.size,0,none⟩ (.slice vp vn vc)).setCell ⟨w.heap.size+1,0,none⟩ (.int .i64 l.length)).setCell ⟨w.heap.size+2,0,none⟩ (.int .i64 0)) (w.heap.size+1) 3 (.int .i64 l.length):=((c3.other (by omega) _).set _).other (by omega) _;have d4:Boxed (((W.setCell ⟨w.heap.size,0,none⟩ (.slice vp vn vc)).setCell ⟨w.heap.size+1,0,none⟩ (.int .i64 l.length)).setCell ⟨w.heap.size+2,0,none⟩ (.int .i64 0)) (w.heap.size+2) 28 (.int .i64 0):=((c4.other (by omega) _).other (by omega) _).set _;have dB:Below w.heap.size w (((W.setCell ⟨w.heap.size,0,none⟩ (.slice vp vn vc)).setCell ⟨w.heap.size+1,0,none⟩ (.int .i64 l.length)).setCell ⟨w.heap.size+2,0,none⟩ (.int .i64 0)):=((s.setCell (p:=⟨w.heap.size,0,none⟩) (aD _) _).setCell (p:=⟨w.heap.size+1,0,none⟩) (tU _) _).setCell (p:=⟨w.heap.size+2,0,none⟩) (by show w.heap.size<=w.heap.size+2;omega) _;have L:(((W.setCell ⟨w.heap.size,0,none⟩ (.slice vp vn vc)).setCell ⟨w.heap.size+1,0,none⟩ (.int .i64 l.length)).setCell ⟨w.heap.size+2,0,none⟩ (.int .i64 0)).ownsRow w.heap.size 211 3 (.slice vp vn vc) (jZ l).length (rF (jZ l)):=Ed ((c4.other (by omega) (.slice vp vn vc)).other (by omega) (.int .i64 l.length)) (by decide) (Ed (c3.other (by omega) (.slice vp vn vc)) (by decide) (Ed c2 (by decide) a (.slice vp vn vc)) (.int .i64 l.length)) (.int .i64 0);have u:=k1.same D _ E rfl;obtain⟨W3,Z⟩:=exQ (((W.setCell ⟨w.heap.size,0,none⟩ (.slice vp vn vc)).setCell ⟨w.heap.size+1,0,none⟩ (.int .i64 l.length)).setCell ⟨w.heap.size+2,0,none⟩ (.int .i64 0));rw[Z] at d2 d3 d4 dB L u ⊢;refine⟨by simp, .inl ⟨_,_,rfl,run_takeDeferred u,?_⟩⟩;have ab:w.heap.size+5<=D:=by omega
  have g2:=(d2.kept (grownBy_putObj' W3 D (.deferred none)) (by simp;omega)).cell;have g3:=(d3.kept (grownBy_putObj' W3 D (.deferred none)) (by simp;omega)).cell;have g4:=(d4.kept (grownBy_putObj' W3 D (.deferred none)) (by simp;omega)).cell;have t:=ownsRow_putObj L (.deferred none) u rfl;have dB2:Below w.heap.size w (W3.putObj D (.deferred none)):=dB.trans (belowK_b (w:=w) (aD _) W3 D _ _ (by omega) u rfl rfl);refine⟨.tuple #[.slice vp vn vc, .int .i64 l.length, .int .i64 0],?_,?_⟩
  ·simp[results,Tryz.results176,go_sem,g2,g3,g4]
  ·rw[P,Zd,cA] at t;refine⟨_,by rw[ah],t,λh0=>f.2 (by rw[P,h0];rfl),dB2⟩
 case stop=>
  rintro D c pre W hD M ⟨⟨rfl,ys,x,rfl,hx,c2,c3,c4⟩,s⟩ E;gi_wp2_with fail;have T:=Zo l ys x M hx;refine⟨by simp, .inl ⟨_,_,rfl,run_takeDeferred E,?_⟩⟩;have ab:w.heap.size+5<=D:=by omega
  have g2:=(c2.kept (grownBy_putObj' W D (.deferred none)) (by simp;omega)).cell;have g3:=(c3.kept (grownBy_putObj' W D (.deferred none)) (by simp;omega)).cell;have g4:=(c4.kept (grownBy_putObj' W D (.deferred none)) (by simp;omega)).cell;have dB2:Below w.heap.size w (W.putObj D (.deferred none)):=s.trans (belowK_b (w:=w) (aD _) W D _ _ (by omega) E rfl rfl);refine⟨.tuple #[.slice none 0 0, .int .i64 x.2.1, .int .i64 x.2.2.2],?_,?_⟩
  ·simp[results,Tryz.results176,go_sem,g2,g3,g4]
  ·rw[T];exact⟨_,rfl,World.ownsRow_nil _ _ _ _,λ_=>rfl,dB2⟩
end
end Go.Proofs.YtjnooaljcgkfpaaGreatDoor
