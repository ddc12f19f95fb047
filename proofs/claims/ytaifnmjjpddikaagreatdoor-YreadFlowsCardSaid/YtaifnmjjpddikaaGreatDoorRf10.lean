import Derived.Test.YtaifnmjjpddikaaGreatDoorRf3
import Derived.Test.YtaifnmjjpddikaaGreatDoorRf2
import Derived.Test.YtaifnmjjpddikaaGreatDoorRf9
import Derived.Deep.RegionHeld3
import Derived.Deep.DeepCutAuto
import Derived.RangeFuncNested
import Derived.RangeFuncBound
import Derived.RangeFuncCalls
import Derived.RangeFuncLeaves
import Derived.RangeFuncBox
import Derived.Shelf.Abstract
import Derived.Shelf.RegionOpen
import Derived.OwnWalkIn
import Derived.TacticsInMore
import Derived.LoopNIn
import Derived.LoopIn
import Derived.Maps.AppendAt
import Derived.Maps.OwnIn
set_option maxRecDepth 100000
set_option maxHeartbeats 4000000
namespace Go.Proofs.YtaifnmjjpddikaaGreatDoor
set_option linter.unusedVariables false
set_option linter.unusedSimpArgs false
section
open Go.RowKit
open Go.Lib hiding intOf
theorem Ia (l:List UInt8) (k:Nat) (h:k<l.length) (h2:k<(bs l).size):(bs l)[k]'h2=l[k]'h:=by
 have:=nO l k h2;rw[bJ h] at this;exact(bD this).symm
theorem Td (b:UInt8) (w:World):Calls Tryz.prog 136 #[.int .u8 (b.toNat:Int)] w λe w'=>e= .returned (.bool (dS b))/\w=w':=by
 obtain⟨R,hR⟩:=exQ<|dS b;rw[hR];unfold dS at hR;obtain⟨n,hn⟩: ∃n:Int,(b.toNat:Int)=n:=⟨_,rfl⟩;rw[hn];by_cases h1:97<=n
 ·by_cases h2:n<=122
  ·rw[aN (by omega)] at hR;subst hR;clear hn;go_enter Tryz.func136,Tryz.ntmps136;go_wp2_with fail;go_ret;exact⟨rfl,rfl⟩
  ·rw[aJ (by omega)] at hR;subst hR;have h2':decide (n<=122)=false:=aJ h2;clear hn h2;go_enter Tryz.func136,Tryz.ntmps136;go_wp2_with fail;go_ret;exact⟨rfl,rfl⟩
 ·rw[aJ (by omega)] at hR;subst hR;have h1':decide (97<=n)=false:=aJ h1;clear hn h1;go_enter Tryz.func136,Tryz.ntmps136;go_wp2_with fail;go_ret;exact⟨rfl,rfl⟩
theorem Te (X:Nat) (A:ByteArray) (b:UInt8) (w:World) (hc:w.cell? ⟨X,0,none⟩=some (.string A)):
  Calls Tryz.prog 173 #[.int .u8 (b.toNat:Int), .pointer (some ⟨X,0,none⟩)] w λe w'=>e= .returned (.bool (decide (0<=Lib.indexByte A.data.toList b)))/\w=w':=by
 have C:=hid (uU A b w);obtain⟨K,hK⟩:=exQ<|Lib.indexByte A.data.toList b;rw[hK] at C ⊢;obtain⟨B,hB⟩:=exQ<|decide (0<=K);rw[hB];clear hK;go_enter Tryz.func173,Tryz.ntmps173;go_wp2_with (go_at_call 32;refine C.out.mono ?_;rintro e w' ⟨rfl,rfl⟩);go_ret;exact⟨rfl,rfl⟩
theorem Tf (A:ByteArray) (w:World):
  Calls Tryz.prog 134 #[.string A] w λe w'=>e= .returned (.func (.func 173) #[] #[.pointer (some ⟨w.heap.size,0,none⟩)])/\w'=w.alloc (.cells #[.string A] 9):=by
 have hmf: ∀(fn:Fn) (first cap:Array Value) (w:World),(Instr.makeFunc fn first cap).run Tryz.prog w= .ok (.func fn first cap) w:=λ_ _ _ _=>rfl;go_enter Tryz.func134,Tryz.ntmps134;go_wp2_with fail;go_ret;exact⟨rfl,rfl⟩
theorem Ib (l:List UInt8) (X:Nat) (A:ByteArray) (p:UInt8->Bool) (hp: ∀b,decide (0<=Lib.indexByte A.data.toList b)=p b) (w:World) (hs:l.length<=1073741824) (hc:w.cell? ⟨X,0,none⟩=some (.string A)):
  Calls Tryz.prog 133 #[.string (bs l), .func (.func 173) #[] #[.pointer (some ⟨X,0,none⟩)]] w λe w'=>e= .returned (.int .i64 (bA p l))/\w=w':=by
 have sl:=aR l;obtain⟨R,hR⟩:=exQ<|bA p l;rw[hR];have HR:=hid hR;clear hR;have CA:Hid (∀b:UInt8,Calls Tryz.prog 173 #[.int .u8 (b.toNat:Int), .pointer (some ⟨X,0,none⟩)] w λe w'=>e= .returned (.bool (p b))/\w=w'):=hid (λb=>by rw[<-hp b];exact Te X A b w hc);clear hp hc;go_enter Tryz.func133,Tryz.ntmps133;go_wp2_with fail;go_loop [8] (λs8=> ∃k:Nat,s8= .int .i64 k/\k<=l.length/\Hid (R=k+bA p (l.drop k))) (λs8=>l.length-(RowKit.intOf s8).toNat)
 case atStart=>exact⟨0,rfl,by omega,hid (by rw[List.drop_zero,HR.out];omega)⟩
 case round=>
  obtain⟨k,rfl,hk,HG⟩:=hrel;by_cases hlt:k<l.length
  ·have hlt':k<(bs l).size:=(by omega);have hge:=Ia l k hlt hlt';have hg:=HG.out;rw[iK hlt,jO,<-hge] at hg;have hgN:=congrArg (λc:UInt8=>(c.toNat:Int)) hge;have CC:=hid (CA.out ((bs l)[k]'hlt'));cases hp:p ((bs l)[k]'hlt') with
   | true=>
    rw[hp] at CC;rw[hp,if_pos rfl] at hg;have HG2:Hid (R=(k+1)+bA p (l.drop (k+1))):=hid (by omega);clear hp hg hge hgN HG;go_wp2_with (go_at_call 173;(with_reducible refine CC.out.mono ?_);rintro e w' ⟨rfl,rfl⟩);go_round
    case rel=>exact⟨k+1,by go_num,by omega,HG2.out⟩
    case measure=>simp[RowKit.intOf];omega
   | false=>
    rw[hp] at CC;rw[hp,if_neg (by simp)] at hg;have HF:Hid (R=k):=hid (by omega);clear hp hg hge hgN HG;go_wp2_with (go_at_call 173;(with_reducible refine CC.out.mono ?_);rintro e w' ⟨rfl,rfl⟩);go_ret;exact⟨tG (by rw[HF.out]),rfl⟩
  ·have HF:Hid (R=l.length):=by
    have hg:=HG.out;rw[List.drop_of_length_le (by omega)] at hg;exact hid (by rw[hg];show k+0=_;omega)
   clear HG;go_wp2_with fail;go_ret;exact⟨tG (by rw[HF.out]),rfl⟩
theorem Tg (l:List UInt8) (w:World) (hs:l.length<=1073741824):
  Calls Tryz.prog 133 #[.string (bs l), .func (.func 136) #[] #[]] w λe w'=>e= .returned (.int .i64 (bA dS l))/\w=w':=by
 have sl:=aR l;obtain⟨R,hR⟩:=exQ<|bA dS l;rw[hR];have HR:=hid hR;clear hR;have CA:=hid (λb:UInt8=>Td b w);go_enter Tryz.func133,Tryz.ntmps133;go_wp2_with fail;go_loop [8] (λs8=> ∃k:Nat,s8= .int .i64 k/\k<=l.length/\Hid (R=k+bA dS (l.drop k))) (λs8=>l.length-(RowKit.intOf s8).toNat)
 case atStart=>exact⟨0,rfl,by omega,hid (by rw[List.drop_zero,HR.out];omega)⟩
 case round=>
  obtain⟨k,rfl,hk,HG⟩:=hrel;by_cases hlt:k<l.length
  ·have hlt':k<(bs l).size:=(by omega);have hge:=Ia l k hlt hlt';have hg:=HG.out;rw[iK hlt,jO,<-hge] at hg;have hgN:=congrArg (λc:UInt8=>(c.toNat:Int)) hge;have CC:=hid (CA.out ((bs l)[k]'hlt'));cases hp:dS ((bs l)[k]'hlt') with
   | true=>
    rw[hp] at CC;rw[hp,if_pos rfl] at hg;have HG2:Hid (R=(k+1)+bA dS (l.drop (k+1))):=hid (by omega);clear hp hg hge hgN HG;go_wp2_with (go_at_call 136;(with_reducible refine CC.out.mono ?_);rintro e w' ⟨rfl,rfl⟩);go_round
    case rel=>exact⟨k+1,by go_num,by omega,HG2.out⟩
    case measure=>simp[RowKit.intOf];omega
   | false=>
    rw[hp] at CC;rw[hp,if_neg (by simp)] at hg;have HF:Hid (R=k):=hid (by omega);clear hp hg hge hgN HG;go_wp2_with (go_at_call 136;(with_reducible refine CC.out.mono ?_);rintro e w' ⟨rfl,rfl⟩);go_ret;exact⟨tG (by rw[HF.out]),rfl⟩
  ·have HF:Hid (R=l.length):=by
    have hg:=HG.out;rw[List.drop_of_length_le (by omega)] at hg;exact hid (by rw[hg];show k+0=_;omega)
   clear HG;go_wp2_with fail;go_ret;exact⟨tG (by rw[HF.out]),rfl⟩
theorem Th (l:List UInt8) (w:World):
  Calls Tryz.prog 137 #[.string (bs l)] w λe w'=>e= .returned (.int .i64 (iT l))/\w=w':=by
 obtain⟨R,hR⟩:=exQ<|iT l;rw[hR];unfold iT at hR;have hd:(bs l).toList=l:=by rw[Lib.toList_data,aU]
 by_cases h1:l= [116,114,117,101]
 ·rw[if_pos h1] at hR;subst hR h1;go_enter Tryz.func137,Tryz.ntmps137;go_wp2_with fail;go_ret;exact⟨rfl,rfl⟩
 rw[if_neg h1] at hR;by_cases h2:l= [102,97,108,115,101]
 ·rw[if_pos h2] at hR;subst hR h2;go_enter Tryz.func137,Tryz.ntmps137;go_wp2_with fail;go_ret;exact⟨rfl,rfl⟩
 rw[if_neg h2] at hR;by_cases h3:l= [110,117,108,108]
 ·rw[if_pos h3] at hR;subst hR h3;go_enter Tryz.func137,Tryz.ntmps137;go_wp2_with fail;go_ret;exact⟨rfl,rfl⟩
 rw[if_neg h3] at hR;subst hR;have e1:((bs l).toList== [116,114,117,101])=false:=by rw[hd];simpa using h1
 have e2:((bs l).toList== [102,97,108,115,101])=false:=by rw[hd];simpa using h2
 have e3:((bs l).toList== [110,117,108,108])=false:=by rw[hd];simpa using h3
 clear hd h1 h2 h3;go_enter Tryz.func137,Tryz.ntmps137;go_wp2_with fail;go_ret;exact⟨rfl,rfl⟩
def Ti (A:ByteArray) (w:World) (e:Ending) (w':World):Prop:= ∃X:Nat,e= .returned (.func (.func 173) #[] #[.pointer (some ⟨X,0,none⟩)])/\w'.cell? ⟨X,0,none⟩=some (.string A)/\Below w.heap.size w w'
theorem Ic (A:ByteArray) (w:World):Calls Tryz.prog 134 #[.string A] w (Ti A w):=
 (Tf A w).mono λ_ _ ⟨he,hw⟩=>⟨_,he,by rw[hw];exact cell_of_one (heap_alloc_new w _),by rw[hw];exact aH w _⟩
def gV (w:World) (X:Nat) (k a b:Int):Prop:=w.heap[X]?=some (.cells #[.int .i64 k, .int .i64 a, .int .i64 b] 77 (0,0))
abbrev Bf (w:World) (X:Nat) (k a b:Int):Prop:=w.cell? ⟨X,0,none⟩=some (.int .i64 k)/\w.cell? ⟨X,1,none⟩=some (.int .i64 a)/\w.cell? ⟨X,2,none⟩=some (.int .i64 b)/\
 w.frozen? ⟨X,0,none⟩=false/\w.frozen? ⟨X,1,none⟩=false/\w.frozen? ⟨X,2,none⟩=false
theorem gV.cells {w:World}{X:Nat}{k a b:Int} (h:gV w X k a b):Bf w X k a b:=
 ⟨cell_of_row w X 0 _ _ (0,0) h,cell_of_row w X 1 _ _ (0,0) h,cell_of_row w X 2 _ _ (0,0) h,by simp[World.frozen?,show w.heap[X]?=_ from h],by simp[World.frozen?,show w.heap[X]?=_ from h],by simp[World.frozen?,show w.heap[X]?=_ from h]⟩
theorem gV.lt {w:World}{X:Nat}{k a b:Int} (h:gV w X k a b):X<w.heap.size:=aF h
theorem gV.keep {w w':World}{X:Nat}{k a b:Int} (h:gV w X k a b) (hb:Below w.heap.size w w'):gV w' X k a b:=(hb.block X h.lt).trans h
def fP (w:World) (X:Nat) (k a b:Int):World:=((w.setCell ⟨X,0,none⟩ (.int .i64 k)).setCell ⟨X,1,none⟩ (.int .i64 a)).setCell ⟨X,2,none⟩ (.int .i64 b)
theorem gV.put {w:World}{X:Nat}{k a b k2 a2 b2:Int} (h:gV w X k a b):gV (fP w X k2 a2 b2) X k2 a2 b2:=by
 unfold gV at h ⊢;unfold fP;simp[World.setCell,Array.getElem?_modify,h]
theorem Id {B:Nat}{w w':World}{X:Nat}{k a b:Int} (h:Below B w w') (hX:B<=X):Below B w (fP w' X k a b):=
 ((h.setCell (p:=⟨X,0,none⟩) hX _).setCell (p:=⟨X,1,none⟩) hX _).setCell (p:=⟨X,2,none⟩) hX _
theorem Tj (kd a tw:Int) (X:Nat) (w:World) (hc:w.cell? ⟨X,0,none⟩=some (.int .i64 a)):
  Calls Tryz.prog 131 #[.int .i64 kd, .int .i64 tw, .pointer (some ⟨X,0,none⟩)] w λe w'=>e= .returned (.tuple #[.agg #[.int .i64 kd, .int .i64 a, .int .i64 tw], .int .i64 0])/\Below w.heap.size w w':=by
 have hX:X<w.heap.size:=rK hc;go_enter Tryz.func131,Tryz.ntmps131;go_wp2_with fail;have hT:gV (w.alloc (.cells #[.int .i64 kd, .int .i64 a, .int .i64 tw] 77)) w.heap.size kd a tw:=heap_alloc_new w _;have hb:=aH w (.cells #[.int .i64 kd, .int .i64 a, .int .i64 tw] 77);obtain⟨W,hW⟩:=exQ<|w.alloc (.cells #[.int .i64 kd, .int .i64 a, .int .i64 tw] 77);rw[hW] at hT hb ⊢;obtain⟨c0,c1,c2,_⟩:=hT.cells;refine bodyPost_ret (v:= .tuple #[.agg #[.int .i64 kd, .int .i64 a, .int .i64 tw], .int .i64 0]) ?_ rfl ⟨rfl,hb⟩;simp[results,Tryz.results131,go_sem,c0,c1,c2]
theorem Tk (a er:Int) (w:World):
  Calls Tryz.prog 132 #[.int .i64 a, .int .i64 er] w λe w'=>e= .returned (.tuple #[.agg #[.int .i64 0, .int .i64 a, .int .i64 a], .int .i64 er])/\Below w.heap.size w w':=by
 go_enter Tryz.func132,Tryz.ntmps132;go_wp2_with fail;have hT:gV (w.alloc (.cells #[.int .i64 0, .int .i64 a, .int .i64 a] 77)) w.heap.size 0 a a:=heap_alloc_new w _;have hb:=aH w (.cells #[.int .i64 0, .int .i64 a, .int .i64 a] 77);obtain⟨W,hW⟩:=exQ<|w.alloc (.cells #[.int .i64 0, .int .i64 a, .int .i64 a] 77);rw[hW] at hT hb ⊢;obtain⟨c0,c1,c2,_⟩:=hT.cells;refine bodyPost_ret (v:= .tuple #[.agg #[.int .i64 0, .int .i64 a, .int .i64 a], .int .i64 er]) ?_ rfl ⟨rfl,hb⟩;simp[results,Tryz.results132,go_sem,c0,c1,c2]
theorem Tl (c:UInt8):Lib.indexByte [123,125,91,93,44,58] c=match jG c with | some k=>(k:Int) | none=> -1:=by
 have: ∀n:Fin 256,Lib.indexByte [123,125,91,93,44,58] (UInt8.ofNat n.val)=match jG (UInt8.ofNat n.val) with | some k=>(k:Int) | none=> -1:=by decide+kernel
 have:=this ⟨c.toNat,c.toNat_lt⟩;simpa only[UInt8.ofNat_toNat] using this
theorem Ie (c:UInt8):decide (0<=Lib.indexByte [32,9,10,13] c)=bR c:=by
 have: ∀n:Fin 256,decide (0<=Lib.indexByte [32,9,10,13] (UInt8.ofNat n.val))=bR (UInt8.ofNat n.val):=by decide+kernel
 have:=this ⟨c.toNat,c.toNat_lt⟩;simpa only[UInt8.ofNat_toNat] using this
theorem Tm (c:UInt8):decide (0<=Lib.indexByte [45,43,46,48,49,50,51,52,53,54,55,56,57,101,69] c)=gD c:=by
 have: ∀n:Fin 256,decide (0<=Lib.indexByte [45,43,46,48,49,50,51,52,53,54,55,56,57,101,69] (UInt8.ofNat n.val))=gD (UInt8.ofNat n.val):=by decide+kernel
 have:=this ⟨c.toNat,c.toNat_lt⟩;simpa only[UInt8.ofNat_toNat] using this
theorem Tn (c:UInt8):dR c=decide (48<=(c.toNat:Int)/\(c.toNat:Int)<=57):=by
 unfold dR;rw[Bool.eq_iff_iff];simp;omega
def mG (T:Nat×Nat×Int) (a:Nat):Int×Int×Int×Int:=if T.2.2=0 then(T.1,a,a+T.2.1,0) else(0,a+T.2.1,a+T.2.1,T.2.2)
def oD (l:List UInt8) (a:Nat):Int×Int×Int×Int:=mG (bB (l.drop a)) a
def If (r:Int×Int×Int×Int):Ending:= .returned (.tuple #[.agg #[.int .i64 r.1, .int .i64 r.2.1, .int .i64 r.2.2.1], .int .i64 r.2.2.2])
structure lP (w:World) (a:Int) (w':World):Prop where
 p:w'.heap[w.heap.size]?=some (.cells #[.int .i64 a] 3 (0,0))
 t:gV w' (w.heap.size+1) 0 0 0
 b:Below w.heap.size w w'
abbrev To (w:World) (a:Int) (w':World):Prop:=w'.cell? ⟨w.heap.size,0,none⟩=some (.int .i64 a)/\w'.frozen? ⟨w.heap.size,0,none⟩=false/\Bf w' (w.heap.size+1) 0 0 0
theorem lP.cells {w w':World}{a:Int} (h:lP w a w'):To w a w':=⟨cell_of_one h.p,free_of_one h.p,h.t.cells⟩
theorem lP.keep {w w1 w2:World}{a:Int} (h:lP w a w1) (hb:Below w1.heap.size w1 w2):lP w a w2:=
 ⟨(hb.block _ (aF h.p)).trans h.p,h.t.keep hb,h.b.trans (hb.mono h.b.size)⟩
theorem lP.start (w:World) (a:Int):lP w a ((w.alloc (.cells #[.int .i64 a] 3)).alloc (.cells #[.int .i64 0, .int .i64 0, .int .i64 0] 77)):=by
 refine⟨?_,?_,?_⟩
 ·exact(Below.heap_alloc _ _ w.heap.size (by simp)).trans (heap_alloc_new w _)
 ·have:=heap_alloc_new (w.alloc (.cells #[.int .i64 a] 3)) (.cells #[.int .i64 0, .int .i64 0, .int .i64 0] 77);rw[kK] at this;exact this
 ·exact(aH w _).trans ((aH (w.alloc (.cells #[.int .i64 a] 3)) _).mono (by simp))
def Ig (w:World) (a:Int) (w':World):Prop:= ∃k x y,w'.heap[w.heap.size]?=some (.cells #[.int .i64 a] 3 (0,0))/\gV w' (w.heap.size+1) k x y/\Below w.heap.size w w'
abbrev cP (w:World) (a:Int) (w':World):Prop:=w'.cell? ⟨w.heap.size,0,none⟩=some (.int .i64 a)/\Hid (Ig w a w')
theorem cP.of {w w':World}{a:Int} (h:Ig w a w'):cP w a w':=by
 obtain⟨k,x,y,h1,h2,h3⟩:=h;exact⟨cell_of_one h1,hid ⟨k,x,y,h1,h2,h3⟩⟩
theorem cP.start {w w':World}{a:Int} (h:lP w a w'):cP w a w':=cP.of ⟨0,0,0,h.p,h.t,h.b⟩
theorem cP.drew {w w':World}{a:Int} (h:cP w a w'):cP w a w'.drew:=by
 obtain⟨k,x,y,h1,h2,h3⟩:=h.2.out;exact cP.of ⟨k,x,y,h1,h2,h3.drew⟩
theorem cP.step {w w1 w2:World}{a:Int} (h:cP w a w1) (hb:Below w1.heap.size w1 w2):cP w a w2:=by
 obtain⟨k,x,y,h1,h2,h3⟩:=h.2.out;exact cP.of ⟨k,x,y,(hb.block _ (aF h1)).trans h1,h2.keep hb,h3.trans (hb.mono h3.size)⟩
theorem cP.cellsE {w w1:World}{a:Int} (h:cP w a w1): ∃k x y,Bf w1 (w.heap.size+1) k x y:=by
 obtain⟨k,x,y,h1,h2,h3⟩:=h.2.out;exact⟨k,x,y,h2.cells⟩
theorem Bg {w:World}{p:Addr}{u:Value}{g:Nat} (h:g≠p.block):(w.setCell p u).heap[g]?=w.heap[g]?:=dC w p u g h
theorem cP.putG {w w1:World}{a:Int} (h:cP w a w1) (k x y:Int):(fP w1 (w.heap.size+1) k x y).heap[w.heap.size]?=some (.cells #[.int .i64 a] 3 (0,0))/\gV (fP w1 (w.heap.size+1) k x y) (w.heap.size+1) k x y/\Below w.heap.size w (fP w1 (w.heap.size+1) k x y):=by
 obtain⟨k0,x0,y0,h1,h2,h3⟩:=h.2.out;refine⟨?_,h2.put,Id h3 (Nat.le_succ _)⟩;unfold fP;rw[Bg (by simp),Bg (by simp),Bg (by simp)];exact h1
theorem cP.put {w w1:World}{a:Int} (h:cP w a w1) (k x y:Int):cP w a (((w1.setCell ⟨w.heap.size+1,0,none⟩ (.int .i64 k)).setCell ⟨w.heap.size+1,1,none⟩ (.int .i64 x)).setCell ⟨w.heap.size+1,2,none⟩ (.int .i64 y)):=by
 obtain⟨h1,h2,h3⟩:=h.putG k x y;exact cP.of ⟨k,x,y,h1,h2,h3⟩
theorem lP.put {w w1:World}{a:Int} (h:lP w a w1) (k x y:Int):gV (fP w1 (w.heap.size+1) k x y) (w.heap.size+1) k x y/\Below w.heap.size w (fP w1 (w.heap.size+1) k x y):=
 ⟨h.t.put,Id h.b (Nat.le_succ _)⟩
theorem Tp (l:List UInt8) (a:Nat) (ha:a<l.length):mA l a=((bN (l.drop a) 0).2.1+a,(bN (l.drop a) 0).2.2):=by
 unfold mA;rw[if_neg (by omega),Qh l a (by omega)]
theorem Tq {u:List UInt8}{c:UInt8} (h:u.head?=some c):bB u=(match jG c with
  | some k=>(2+k,1,0)
  | none=>if bR c then(1,bA bR u,0) else if c=34 then(if(bN u 0).2.2=0 then(8,(bN u 0).2.1.toNat,0) else(0,(bN u 0).2.1.toNat,(bN u 0).2.2)) else
   if c=45\/dR c=true then(if(cZ (u.take (bA gD u))).2=0 then(9,bA gD u,0) else(0,0,(cZ (u.take (bA gD u))).2)) else
   if iT (u.take (bA dS u))=0 then(0,0,2) else(iT (u.take (bA dS u)),bA dS u,0):Nat×Nat×Int):=by
 cases u with
 | nil=>cases h
 | cons d r=>
  obtain rfl:d=c:=by simpa using h
  rfl
theorem Tr (l:List UInt8) (a:Nat) (w:World) (hs:l.length<=1048576) (ha:a<l.length) (hV:cO w) (hT:cC w):
  Calls Tryz.prog 98 #[.string (bs l), .int .i64 a] w λe w'=>e=If (oD l a)/\Below w.heap.size w w':=by
 have hmf: ∀(fn:Fn) (first cap:Array Value) (w:World),(Instr.makeFunc fn first cap).run Tryz.prog w= .ok (.func fn first cap) w:=λ_ _ _ _=>rfl;have sl:=aR l;obtain⟨R,hR⟩:=exQ<|oD l a;rw[hR];unfold oD at hR;have hex:(bs l).extract a l.length=bs (l.drop a):=lK l a _ rfl;have hEnd:=Tp l a ha;have CE0:=hid (λw hV hT=>Fc l a w (by omega) hV hT);obtain⟨EE,hEE⟩:=exQ<|mA l a;rw[hEE] at CE0 hEnd;obtain⟨ek,ee⟩:=EE;simp only[] at CE0 hEnd;have hsl: ∀n,(bs l).extract a (a+n)=bs ((l.drop a).take n):=λn=>by rw[kV,aU,Nat.add_sub_cancel_left]
 obtain⟨u,hu⟩:=exQ<|l.drop a;have hul:u.length=l.length-a:=by rw[<-hu,aV]
 have hub:u.length<=1048576:=by omega
 have hua:a+u.length<=l.length:=by omega
 have hu0:0<u.length:=by omega
 have su:=aR u;rw[hu] at hex hR hEnd;simp only[hu] at hsl;have h0:0<(bs u).size:=by omega
 obtain⟨c,hc⟩: ∃c,u.head?=some c:=by cases u with | nil=>simp at hu0 | cons c r=>exact⟨c,rfl⟩
 have hc0:(((bs u)[0]'h0).toNat:Int)=(c.toNat:Int):=by
  have:=xB (bs u) h0;rw[aU,hc] at this;rw[<-bD this]
 have HV:=hid hV;have HT:=hid hT;clear hV hT;have CI:=hid (λw=>uU ⟨#[123,125,91,93,44,58]⟩ c w);have CB:=hid (λw=>uU ⟨#[32,9,10,13]⟩ c w);rw[show (⟨#[123,125,91,93,44,58]⟩:ByteArray).data.toList= [123,125,91,93,44,58] from rfl,Tl] at CI;rw[show (⟨#[32,9,10,13]⟩:ByteArray).data.toList= [32,9,10,13] from rfl] at CB;have hbi:=Ie c;obtain⟨KB,hKB⟩:=exQ<|Lib.indexByte [32,9,10,13] c;rw[hKB] at CB hbi;have hdi:=Tn c;have h34i:c=34↔(c.toNat:Int)=34:=⟨λh=>by rw[h];rfl,λh=>UInt8.toNat_inj.1 (by show c.toNat=34;omega)⟩;have h45i:c=45↔(c.toNat:Int)=45:=⟨λh=>by rw[h];rfl,λh=>UInt8.toNat_inj.1 (by show c.toNat=45;omega)⟩;rw[Tq hc] at hR;have RB:Hid (∀(X:Nat) (w:World),w.cell? ⟨X,0,none⟩=some (.string ⟨#[32,9,10,13]⟩)->Calls Tryz.prog 133 #[.string (bs u), .func (.func 173) #[] #[.pointer (some ⟨X,0,none⟩)]] w λe w'=>e= .returned (.int .i64 (bA bR u))/\w=w'):=hid (λX w h=>Ib _ X _ bR Ie w (by omega) h);have RN:Hid (∀(X:Nat) (w:World),w.cell? ⟨X,0,none⟩=some (.string ⟨#[45,43,46,48,49,50,51,52,53,54,55,56,57,101,69]⟩)->Calls Tryz.prog 133 #[.string (bs u), .func (.func 173) #[] #[.pointer (some ⟨X,0,none⟩)]] w λe w'=>e= .returned (.int .i64 (bA gD u))/\w=w'):=hid (λX w h=>Ib _ X _ gD Tm w (by omega) h);have RS:=hid (λw=>Tg u w (by omega));have hrb:=mO bR u;have hrn:=mO gD u;have hrs:=mO dS u;have CW:=hid (λw=>Th (u.take (bA dS u)) w);have CP:=hid (λw=>xT (u.take (bA gD u)) w (by rw[cF];omega));have hwc:=Fo (u.take (bA dS u));have ef:(bs u).extract 0 (bA dS u)=bs (u.take (bA dS u)):=by rw[zO,aU]
 have en:=hsl (bA gD u);obtain⟨nb,hnb⟩:=exQ<|bA bR u;obtain⟨nn,hnn⟩:=exQ<|bA gD u;obtain⟨ns,hns⟩:=exQ<|bA dS u;rw[hnb] at RB hrb hR;rw[hnn] at RN hrn CP hR en;rw[hns] at RS hrs CW hR ef hwc;obtain⟨wd,hwd⟩:=exQ<|iT (u.take ns);obtain⟨PR,hPR⟩:=exQ<|cZ (u.take nn);rw[hwd] at CW hwc hR;rw[hPR] at CP hR;obtain⟨n,hn⟩: ∃n:Int,(c.toNat:Int)=n:=⟨_,rfl⟩;rw[hn] at CI CB hdi h34i h45i hc0;have ha1:(a:Int)+1<=1048576:=by omega
 have hab:(a:Int)+(nb:Int)<=1048576:=by omega
 have han:(a:Int)+(nn:Int)<=1048576:=by omega
 have has:(a:Int)+(ns:Int)<=1048576:=by omega
 have wab:IntKind.i64.wrap ((a:Int)+(nb:Int))=(a:Int)+(nb:Int):=by rw[IntKind.wrap_i64];omega
 have wan:IntKind.i64.wrap ((a:Int)+(nn:Int))=(a:Int)+(nn:Int):=by rw[IntKind.wrap_i64];omega
 have hrf:=Fp u;have HE:Hid (ek=a+(bN u 0).2.1.toNat/\ee=(bN u 0).2.2):=hid (by obtain⟨g1,g2⟩:=Prod.mk.inj hEnd;exact⟨by rw[g1];omega,g2⟩);have CE:=CE0;have TK:=hid (λkd tw W hc=>Tj kd a tw w.heap.size W hc);have TF:=hid (λx er W=>Tk x er W);have hek:0<=ek/\ek<=1048576:=by have:=HE.out.1;omega
 have HR:=hid hR;have HX:=hid (aI hsl (aI hEnd (aI hwc (aI hdi (aI h34i h45i)))));have HA:=hid (aI wab wan);have HB:=hid hbi;clear hKB hu hul hR hsl hEnd hwc hdi h34i h45i wab wan hbi hnb hnn hns hc hwd hPR hn hEE hrf CE0;go_enter Tryz.func98,Tryz.ntmps98;go_wp2_with fail;have HN:=hid (lP.start w a);obtain⟨W0,hW0⟩:=exQ ((w.alloc (.cells #[.int .i64 a] 3)).alloc (.cells #[.int .i64 0, .int .i64 0, .int .i64 0] 77));rw[hW0] at HN ⊢;clear hW0;cases hsg:jG c with
 | some k=>
  have hk5:=Fm c k hsg;have HF:Hid (((2:Int)+(k:Int),(a:Int),(a:Int)+1,(0:Int))=R):=hid (by have:=HR.out;rw[hsg] at this;rw[<-this];unfold mG;simp);rw[hsg] at CI;clear hsg HR HX HB HE;obtain⟨p0,q0,t0,t1,t2,f0,f1,f2⟩:=HN.out.cells;(with_reducible refine(CI.out _).mono ?_);rintro e w' ⟨rfl,rfl⟩;go_wp2_with fail;clear t0 t1 t2 f0 f1 f2 q0;(with_reducible refine(TK.out _ _ _ p0).mono ?_);rintro e w3 ⟨rfl,hb⟩;have HN:=hid (HN.out.keep hb);clear p0 hb;obtain⟨p0,q0,t0,t1,t2,f0,f1,f2⟩:=HN.out.cells;go_wp2_with fail;have HP:=hid (HN.out.put (2+(k:Int)) ((a:Int)) ((a:Int)+1));obtain⟨WF,hWF⟩:=exQ<|fP w3 (w.heap.size+1) (2+(k:Int)) ((a:Int)) ((a:Int)+1);rw[hWF] at HP;dsimp only[fP] at hWF;rw[hWF];clear hWF p0 q0 t0 t1 t2 f0 f1 f2;obtain⟨c0,c1,c2,_⟩:=HP.out.1.cells;refine bodyPost_ret (v:= .tuple #[.agg #[.int .i64 (2+(k:Int)), .int .i64 ((a:Int)), .int .i64 ((a:Int)+1)], .int .i64 0]) ?_ rfl ⟨by rw[<-HF.out];rfl,HP.out.2⟩;simp[results,Tryz.results98,go_sem,c0,c1,c2]
 | none=>
  have HR2:Hid (mG (if bR c=true then(1,nb,0) else if c=34 then(if(bN u 0).2.2=0 then(8,(bN u 0).2.1.toNat,0) else(0,(bN u 0).2.1.toNat,(bN u 0).2.2)) else
    if c=45\/dR c=true then(if PR.2=0 then(9,nn,0) else(0,0,PR.2)) else if wd=0 then(0,0,2) else(wd,ns,0)) a=R):=hid (by
   have:=HR.out;rw[hsg] at this;exact this)
  rw[hsg] at CI;clear hsg HR;obtain⟨p0,q0,t0,t1,t2,f0,f1,f2⟩:=HN.out.cells;(with_reducible refine(CI.out _).mono ?_);rintro e w' ⟨rfl,rfl⟩;go_wp2_with fail;(with_reducible refine(CB.out _).mono ?_);rintro e w' ⟨rfl,rfl⟩;by_cases hbl:bR c=true
  ·have HF:Hid (((1:Int),(a:Int),(a:Int)+(nb:Int),(0:Int))=R):=hid (by have:=HR2.out;rw[if_pos hbl] at this;rw[<-this];unfold mG;simp);have dKB:decide (0<=KB)=true:=by rw[HB.out];exact hbl
   have wab:=HA.out.1;clear hbl HR2 HX HB HE HA;clear p0 q0 t0 t1 t2 f0 f1 f2;have hS:cP w a W0:=cP.start HN.out;go_upto_region 9 with fail;go_region_held3 (λw'=>cP w a w') ((first | exact cP.drew (by assumption) | exact cP.step (by assumption) (by assumption) | exact cP.put (by assumption) _ _ _ | assumption))
    (first
     | (go_at_call 134;(with_reducible refine(Ic _ _).mono ?_);rintro e w1 ⟨X,rfl,hx,hb1⟩)
     | (go_at_call 133;(with_reducible refine(RB.out _ _ (by exact hx)).mono ?_);rintro e w2 ⟨rfl,rfl⟩)
     | (go_at_call 131;(with_reducible refine(TK.out _ _ _ ((by assumption:cP w a _).1)).mono ?_);rintro e w3 ⟨rfl,hb3⟩;have hn3:cP w a w3:=cP.step (by assumption) hb3;obtain⟨k3,x3,y3,t0,t1,t2,f0,f1,f2⟩:=hn3.cellsE))
   have HP:=hid (hn3.putG (1) ((a:Int)) ((a:Int)+(nb:Int)));obtain⟨WF,hWF⟩:=exQ<|fP w3 (w.heap.size+1) (1) ((a:Int)) ((a:Int)+(nb:Int));rw[hWF] at HP;dsimp only[fP] at hWF;rw[hWF];clear hWF;clear hx hb1 hb3 hn3 t0 t1 t2 f0 f1 f2;obtain⟨c0,c1,c2,_⟩:=HP.out.2.1.cells;go_wp2_with fail;refine bodyPost_ret (v:= .tuple #[.agg #[.int .i64 (1), .int .i64 ((a:Int)), .int .i64 ((a:Int)+(nb:Int))], .int .i64 0]) ?_ rfl ⟨by rw[<-HF.out];rfl,HP.out.2.2⟩;simp[results,Tryz.results98,go_sem,c0,c1,c2]
  rw[if_neg hbl] at HR2;have dKB:decide (0<=KB)=false:=by rw[HB.out];simpa using hbl
  clear HB hbl RB;by_cases h34:c=34
  ·have hn34:=HX.out.2.2.2.2.1.1 h34;rw[if_pos h34] at HR2;subst hn34;by_cases he0:ee=0
   ·have HF:Hid (((8:Int),(a:Int),ek,(0:Int))=R):=hid (by have:=HR2.out;rw[if_pos (by rw[<-HE.out.2];exact he0)] at this;rw[<-this,HE.out.1];unfold mG;simp);subst he0;clear HR2 HX HE HA h34;go_wp2_with fail;(with_reducible refine(CE.out _ (HV.out.keep HN.out.b) (HT.out.keep HN.out.b)).mono ?_);rintro e w2 ⟨rfl,hb⟩;have HN:=hid (HN.out.keep hb);clear p0 q0 t0 t1 t2 f0 f1 f2 hb;obtain⟨p0,q0,t0,t1,t2,f0,f1,f2⟩:=HN.out.cells;go_wp2_with fail;clear t0 t1 t2 f0 f1 f2 q0;(with_reducible refine(TK.out _ _ _ p0).mono ?_);rintro e w3 ⟨rfl,hb⟩;have HN:=hid (HN.out.keep hb);clear p0 hb;obtain⟨p0,q0,t0,t1,t2,f0,f1,f2⟩:=HN.out.cells;go_wp2_with fail;have HP:=hid (HN.out.put (8) ((a:Int)) (ek));obtain⟨WF,hWF⟩:=exQ<|fP w3 (w.heap.size+1) (8) ((a:Int)) (ek);rw[hWF] at HP;dsimp only[fP] at hWF;rw[hWF];clear hWF;clear p0 q0 t0 t1 t2 f0 f1 f2;obtain⟨c0,c1,c2,_⟩:=HP.out.1.cells;refine bodyPost_ret (v:= .tuple #[.agg #[.int .i64 (8), .int .i64 ((a:Int)), .int .i64 (ek)], .int .i64 0]) ?_ rfl ⟨by rw[<-HF.out];rfl,HP.out.2⟩;simp[results,Tryz.results98,go_sem,c0,c1,c2]
   ·have HF:Hid (((0:Int),ek,ek,ee)=R):=hid (by have:=HR2.out;rw[if_neg (by rw[<-HE.out.2];exact he0)] at this;rw[<-this,HE.out.1];unfold mG;simp only[];rw[if_neg (by rw[<-HE.out.2];exact he0),<-HE.out.2]);have te:(ee !=0)=true:=fH.2 he0;clear HR2 HX HE HA h34 he0;go_wp2_with fail;(with_reducible refine(CE.out _ (HV.out.keep HN.out.b) (HT.out.keep HN.out.b)).mono ?_);rintro e w2 ⟨rfl,hb⟩;have HN:=hid (HN.out.keep hb);clear p0 q0 t0 t1 t2 f0 f1 f2 hb;go_wp2_with fail;(with_reducible refine(TF.out _ _ _).mono ?_);rintro e w3 ⟨rfl,hb⟩;have HN:=hid (HN.out.keep hb);clear hb;obtain⟨p0,q0,t0,t1,t2,f0,f1,f2⟩:=HN.out.cells;go_wp2_with fail;have HP:=hid (HN.out.put (0) (ek) (ek));obtain⟨WF,hWF⟩:=exQ<|fP w3 (w.heap.size+1) (0) (ek) (ek);rw[hWF] at HP;dsimp only[fP] at hWF;rw[hWF];clear hWF;clear p0 q0 t0 t1 t2 f0 f1 f2;obtain⟨c0,c1,c2,_⟩:=HP.out.1.cells;refine bodyPost_ret (v:= .tuple #[.agg #[.int .i64 (0), .int .i64 (ek), .int .i64 (ek)], .int .i64 ee]) ?_ rfl ⟨by rw[<-HF.out];rfl,HP.out.2⟩;simp[results,Tryz.results98,go_sem,c0,c1,c2]
  rw[if_neg h34] at HR2;have t34:(n==34)=false:=aG.2 (λe=>h34 (HX.out.2.2.2.2.1.2 e));by_cases hd:c=45\/dR c=true
  ·rw [if_pos hd] at HR2;have hd2:n=45\/((n==45)=false/\decide (48<=n)=true/\decide (n<=57)=true):=by
    by_cases h:n=45
    ·exact .inl h
    ·right;rcases hd with hd | hd
     ·exact absurd (HX.out.2.2.2.2.2.1 hd) h
     ·rw[HX.out.2.2.2.1,kY] at hd;exact⟨aG.2 h,aN hd.1,aN hd.2⟩
   have wan:=HA.out.2;obtain⟨P1,P2⟩:=PR;clear HX HA HE hd h34;go_upto_region 15 with fail;go_cut [72] (λs72 wx=>s72= .bool true/\Hid (lP w a wx))
   case first=>
    rcases hd2 with rfl | ⟨d1,d2,d3⟩
    all_goals
     go_wp2_with fail;go_meet;exact⟨rfl,HN⟩
   clear p0 q0 t0 t1 t2 f0 f1 f2 HN;obtain⟨rfl,HN⟩:=hcut;have hS:cP w a wc:=cP.start HN.out;go_upto_region 16 with fail;go_region_held3 (λw'=>cP w a w') ((first | exact cP.drew (by assumption) | exact cP.step (by assumption) (by assumption) | assumption))
    (first
     | (go_at_call 134;(with_reducible refine(Ic _ _).mono ?_);rintro e w1 ⟨X,rfl,hx,hb1⟩)
     | (go_at_call 133;(with_reducible refine(RN.out _ _ (by exact hx)).mono ?_);rintro e w2 ⟨rfl,rfl⟩))
   have hn1:cP w a w1:=(by assumption);clear hx hb1 hS;have HN1:=hid hn1;have hna:=hn1.1;clear hn1;have HBn:Hid (Below w.heap.size w w1):=hid (by obtain⟨_,_,_,_,_,h3⟩:=HN1.out.2.out;exact h3);unfold tX fZ at CP;obtain⟨g,d,e⟩:=P1;simp only[] at CP HR2;go_wp2_with fail;(with_reducible refine(CP.out _).mono ?_);rintro e w2 ⟨rfl,hb2⟩;have HN2:=hid (cP.step HN1.out hb2);clear HN1 hb2 hna;go_upto_region 18 with fail;have HN3:=hid (cP.step HN2.out (aH w2 (.cells #[.bool g, .string (bs d), .int .i64 e] 113)));obtain⟨W2,hW2⟩:=exQ<|w2.alloc (.cells #[.bool g, .string (bs d), .int .i64 e] 113);rw[hW2] at HN3 ⊢;clear hW2 HN2;have hna:=HN3.out.1;by_cases hp:P2=0
   ·have HF:Hid (((9:Int),(a:Int),(a:Int)+(nn:Int),(0:Int))=R):=hid (by have:=HR2.out;rw[if_pos hp] at this;rw[<-this];unfold mG;simp);subst hp;clear HR2;go_wp2_with fail;(with_reducible refine(TK.out _ _ _ hna).mono ?_);rintro e w3 ⟨rfl,hb⟩;have hn:=cP.step HN3.out hb;clear hb hna;obtain⟨k3,x3,y3,t0,t1,t2,f0,f1,f2⟩:=hn.cellsE;go_wp2_with fail;have HP:=hid (hn.putG (9) ((a:Int)) ((a:Int)+(nn:Int)));obtain⟨WF,hWF⟩:=exQ<|fP w3 (w.heap.size+1) (9) ((a:Int)) ((a:Int)+(nn:Int));rw[hWF] at HP;dsimp only[fP] at hWF;rw[hWF];clear hWF t0 t1 t2 f0 f1 f2;obtain⟨c0,c1,c2,_⟩:=HP.out.2.1.cells;refine bodyPost_ret (v:= .tuple #[.agg #[.int .i64 (9), .int .i64 ((a:Int)), .int .i64 ((a:Int)+(nn:Int))], .int .i64 0]) ?_ rfl ⟨by rw[<-HF.out];rfl,HP.out.2.2⟩;simp[results,Tryz.results98,go_sem,c0,c1,c2]
   ·have HF:Hid (((0:Int),(a:Int),(a:Int),P2)=R):=hid (by have:=HR2.out;rw[if_neg hp] at this;rw[<-this];unfold mG;simp only[];rw[if_neg hp];simp);have te:(P2 !=0)=true:=fH.2 hp;clear HR2 hp;go_wp2_with fail;(with_reducible refine(TF.out _ _ _).mono ?_);rintro e w3 ⟨rfl,hb⟩;have hn:=cP.step HN3.out hb;clear hb hna;obtain⟨k3,x3,y3,t0,t1,t2,f0,f1,f2⟩:=hn.cellsE;go_wp2_with fail;have HP:=hid (hn.putG (0) ((a:Int)) ((a:Int)));obtain⟨WF,hWF⟩:=exQ<|fP w3 (w.heap.size+1) (0) ((a:Int)) ((a:Int));rw[hWF] at HP;dsimp only[fP] at hWF;rw[hWF];clear hWF t0 t1 t2 f0 f1 f2;obtain⟨c0,c1,c2,_⟩:=HP.out.2.1.cells;refine bodyPost_ret (v:= .tuple #[.agg #[.int .i64 (0), .int .i64 ((a:Int)), .int .i64 ((a:Int))], .int .i64 P2]) ?_ rfl ⟨by rw[<-HF.out];rfl,HP.out.2.2⟩;simp[results,Tryz.results98,go_sem,c0,c1,c2]
  ·rw[if_neg hd] at HR2;have hd2:(n==45)=false/\(decide (48<=n)=false\/(decide (48<=n)=true/\decide (n<=57)=false)):=by
    refine⟨aG.2 (λe=>hd (.inl (HX.out.2.2.2.2.2.2 e))),?_⟩;by_cases h:48<=n
    ·right;exact⟨aN h,aJ (λh2=>hd (.inr (by rw[HX.out.2.2.2.1];exact aN ⟨h,h2⟩)))⟩
    ·left;exact aJ h
   obtain⟨d1,d2⟩:=hd2;have hw12:wd<=12:=by have:=HX.out.2.2.1;omega
   have wns:IntKind.i64.wrap ((a:Int)+(ns:Int))=(a:Int)+(ns:Int):=by rw[IntKind.wrap_i64];omega
   clear HX HA HE hd h34 CP RN;go_upto_region 15 with fail;go_cut [72] (λs72 wx=>s72= .bool false/\Hid (lP w a wx))
   case first=>
    rcases d2 with d2 | ⟨d2,d3⟩
    all_goals
     go_wp2_with fail;go_meet;exact⟨rfl,HN⟩
   clear p0 q0 t0 t1 t2 f0 f1 f2 HN;obtain⟨rfl,HN⟩:=hcut;obtain⟨p0,q0,t0,t1,t2,f0,f1,f2⟩:=HN.out.cells;by_cases hw0:wd=0
   ·have HF:Hid (((0:Int),(a:Int),(a:Int),(2:Int))=R):=hid (by have:=HR2.out;rw[if_pos hw0] at this;rw[<-this];unfold mG;simp);subst hw0;clear HR2;go_wp2_with (go_at_call 133;(with_reducible refine(RS.out _).mono ?_);rintro e w' ⟨rfl,rfl⟩);(with_reducible refine(CW.out _).mono ?_);rintro e w' ⟨rfl,rfl⟩;go_wp2_with fail;(with_reducible refine(TF.out _ _ _).mono ?_);rintro e w3 ⟨rfl,hb⟩;have hn:=cP.step (cP.start HN.out) hb;clear hb p0 q0 t0 t1 t2 f0 f1 f2;obtain⟨k3,x3,y3,t0,t1,t2,f0,f1,f2⟩:=hn.cellsE;go_wp2_with fail;have HP:=hid (hn.putG (0) ((a:Int)) ((a:Int)));obtain⟨WF,hWF⟩:=exQ<|fP w3 (w.heap.size+1) (0) ((a:Int)) ((a:Int));rw[hWF] at HP;dsimp only[fP] at hWF;rw[hWF];clear hWF t0 t1 t2 f0 f1 f2;obtain⟨c0,c1,c2,_⟩:=HP.out.2.1.cells;refine bodyPost_ret (v:= .tuple #[.agg #[.int .i64 (0), .int .i64 ((a:Int)), .int .i64 ((a:Int))], .int .i64 2]) ?_ rfl ⟨by rw[<-HF.out];rfl,HP.out.2.2⟩;simp[results,Tryz.results98,go_sem,c0,c1,c2]
   ·have HF:Hid (((wd:Int),(a:Int),(a:Int)+(ns:Int),(0:Int))=R):=hid (by have:=HR2.out;rw[if_neg hw0] at this;rw[<-this];unfold mG;simp);have tw:((wd:Int) !=0)=true:=fH.2 (by omega);clear HR2 hw0;go_wp2_with (go_at_call 133;(with_reducible refine(RS.out _).mono ?_);rintro e w' ⟨rfl,rfl⟩);(with_reducible refine(CW.out _).mono ?_);rintro e w' ⟨rfl,rfl⟩;go_wp2_with fail;(with_reducible refine(TK.out _ _ _ p0).mono ?_);rintro e w3 ⟨rfl,hb⟩;have hn:=cP.step (cP.start HN.out) hb;clear hb p0 q0 t0 t1 t2 f0 f1 f2;obtain⟨k3,x3,y3,t0,t1,t2,f0,f1,f2⟩:=hn.cellsE;go_wp2_with fail;have HP:=hid (hn.putG ((wd:Int)) ((a:Int)) ((a:Int)+(ns:Int)));obtain⟨WF,hWF⟩:=exQ<|fP w3 (w.heap.size+1) ((wd:Int)) ((a:Int)) ((a:Int)+(ns:Int));rw[hWF] at HP;dsimp only[fP] at hWF;rw[hWF];clear hWF t0 t1 t2 f0 f1 f2;obtain⟨c0,c1,c2,_⟩:=HP.out.2.1.cells;refine bodyPost_ret (v:= .tuple #[.agg #[.int .i64 ((wd:Int)), .int .i64 ((a:Int)), .int .i64 ((a:Int)+(ns:Int))], .int .i64 0]) ?_ rfl ⟨by rw[<-HF.out];rfl,HP.out.2.2⟩;simp[results,Tryz.results98,go_sem,c0,c1,c2]
end
section
open Go.RowKit Go.Shelf
open Go.Lib hiding intOf
abbrev Ev:=Int×Int×Int×Int
def vP (t:aL):Ev:=((t.kind:Int),(t.sf:Int),(t.st:Int),0)
def tY (o:Option (Nat×Int)):List Ev:=match o with | none=> [] | some x=> [(0,(x.1:Int),(x.1:Int),x.2)]
def kL (f:Nat) (l:List UInt8) (i:Nat):List Ev:=(bS f l i).1.map vP++tY (bS f l i).2
def iX (l:List UInt8):List Ev:=if 65536<l.length then [(0,0,0,3)] else kL l.length l 0
theorem Ts (f i:Nat):kL f [] i= []:=by unfold kL;rw[lM];rfl
theorem Tt (f:Nat) (l:List UInt8) (a:Nat) (ha:a<l.length): ∃k:Nat,(oD l a).2.2.1=k/\k<=l.length/\((oD l a).2.2.2=0->a<k)/\
  kL (f+1) (l.drop a) a=oD l a::(if(oD l a).2.2.2=0 then kL f (l.drop k) k else []):=by
 obtain⟨c,r,hu⟩: ∃c r,l.drop a=c::r:=by
  cases h:l.drop a with
  | nil=>have:=congrArg List.length h;simp at this;omega
  | cons c r=>exact⟨c,r,rfl⟩
 have hl:=congrArg List.length hu;rw[aV] at hl;have hok:=nS (c::r) (List.cons_ne_nil _ _);have hr:oD l a=mG (bB (c::r)) a:=by unfold oD;rw[hu]
 have hd:l.drop (a+(bB (c::r)).2.1)=(c::r).drop (bB (c::r)).2.1:=by rw[<-hu,kB]
 rw[hr,hu];unfold kL;rw[iU];unfold mG;by_cases h:(bB (c::r)).2.2=0
 ·have h3:=hok.2 h;refine⟨a+(bB (c::r)).2.1,?_,by have:=hok.1;omega,λ_=>by omega,?_⟩
  ·simp only[if_pos h];omega
  ·simp only[if_pos h,if_true,hd];unfold vP;simp only[kD,dH,List.cons.injEq,and_true,Prod.mk.injEq,true_and];omega
 ·refine⟨a+(bB (c::r)).2.1,?_,by have:=hok.1;omega,λh0=>?_,?_⟩
  ·simp only[if_neg h];omega
  ·simp only[if_neg h] at h0;exact absurd h0 h
  ·simp only[if_neg h,List.map_nil,iL];unfold tY;simp only[List.cons.injEq,and_true,Prod.mk.injEq,true_and];omega
def vQ (x:Ev):Array Value:= #[.agg #[.int .i64 x.1, .int .i64 x.2.1, .int .i64 x.2.2.1], .int .i64 x.2.2.2]
def pW (O:Nat) (A:World) (i:Nat):Prop:= ∃v,A.heap[O]?=some (.cells #[v] 70 (0,0))/\v.ownBlock=some i
def jT (n O:Nat) (A B:World):Prop:=Below n A B/\(∀i,pW O B i->pW O A i\/(A.heap.size<=i/\i<B.heap.size))/\(∀i o,A.heap[i]?=some o->o.isCells=true->i≠O-> ¬pW O A i->B.heap[i]?=some o)
theorem jT.trans {n O:Nat}{A B C:World} (h:jT n O A B) (k:jT n O B C):jT n O A C:=by
 refine⟨h.1.trans k.1,λi hi=>?_,λi o ho hc hne hno=>?_⟩
 ·rcases k.2.1 i hi with h1 | ⟨h1,h2⟩
  ·rcases h.2.1 i h1 with h3 | ⟨h3,h4⟩
   ·exact .inl h3
   ·exact .inr ⟨h3,iN h4 k.1.size⟩
  ·exact .inr ⟨aW h.1.size h1,h2⟩
 ·refine k.2.2 i o (h.2.2 i o ho hc hne hno) hc hne (λhw=>?_);rcases h.2.1 i hw with h3 | ⟨h3,_⟩
  ·exact hno h3
  ·have:=(cM.1 ho).1;omega
theorem jT.putObj {n O S:Nat} (hn:n<=S) (hO:O<S) (W:World) (j:Nat) (o o':Obj) (hj:S<=j) (h:W.heap[j]?=some o) (hc:o.isCells=false):jT n O W (W.putObj j o'):=by
 have hoth: ∀i,i≠j->(W.putObj j o').heap[i]?=W.heap[i]?:=λi hi=>World.putObj_heap_other hi;refine⟨(aB n W).grown (grownBy_putObj' W j o') (by have:=(cM.1 h).1;omega) (λk e=>by cases e;omega),λi hi=>?_,λi o2 ho hc2 _ _=>?_⟩
 ·obtain⟨v,h1,h2⟩:=hi;rw[hoth O (by omega)] at h1;exact .inl ⟨v,h1,h2⟩
 ·by_cases e:i=j
  ·rw[e,h] at ho;cases ho;rw[hc] at hc2;cases hc2
  ·rw[hoth i e];exact ho
def lQ (O X:Nat) (W:World):Prop:= ∀i,pW O W i->X<i/\i<W.heap.size
theorem pW.back {O:Nat}{A B:World}{i:Nat} (hb:Below A.heap.size A B) (hO:O<A.heap.size) (h:pW O B i):pW O A i:=by
 obtain⟨v,h1,h2⟩:=h;rw[hb.block O hO] at h1;exact⟨v,h1,h2⟩
theorem lQ.keep {O X:Nat}{A B:World} (h:lQ O X A) (hb:Below A.heap.size A B) (hO:O<A.heap.size):lQ O X B:=λi hi=>by
 have:=h i (hi.back hb hO);exact⟨this.1,iN this.2 hb.size⟩
theorem lQ.kp {n O X:Nat}{A B:World} (h:lQ O X A) (hX:X<A.heap.size) (k:jT n O A B):lQ O X B:=λi hi=>by
 rcases k.2.1 i hi with h1 | ⟨h1,h2⟩
 ·have:=h i h1;exact⟨this.1,iN this.2 k.1.size⟩
 ·exact⟨by omega,h2⟩
theorem Bh {A B:World} (h:Below A.heap.size A B):A.grownBy B none:=⟨h.os,h.tape,h.output,h.size,λi hi _=>h.block i hi⟩
theorem Tu {β:Type}{S:Nat}{J:β->World->Prop} (hJ:AbidesFrom S J) {s:β}{A B:World} (h:J s A) (hb:Below A.heap.size A B):J s B:=hJ s A B none h (Bh hb) (λr e=>by cases e)
theorem Tv (n:Nat) (hn:1<=n) (q X O S:Nat) (w0:World) (l:List UInt8) (hs:l.length<=4611686018427387904) (hV:cO w0) (hT:cC w0) (J Jx:List Ev->World->Prop) (hJ:AbidesFrom S J)
  (hY: ∀pre x W,J pre W->pre.length<(iX l).length->YieldAt Fence.wide (n-1) Tryz.prog q (vQ x) W λe W'=>
   (e= .returned (.bool true)/\J (pre++ [x]) W'/\jT w0.heap.size O W W')\/(e= .returned (.bool false)/\Jx (pre++ [x]) W'))
  (W:World) (hX:W.heap[X]?=some (.cells #[.string (bs l)] 9 (0,0))) (hO:O<W.heap.size) (hne:O≠X) (hP:lQ O X W) (hB:Below w0.heap.size w0 W) (h0:J [] W):
  CallsIn Fence.wide n Tryz.prog 97 #[.func (.yield q) #[] #[], .pointer (some ⟨X,0,none⟩)] W λe W'=>(∃v,e= .returned v)/\
   ((∃ys,ys=iX l/\J ys W')\/(∃pre,pre <+:iX l/\Jx pre W')):=by
 have sl:=aR l;have hcX:=cell_of_one hX;refine callsIn_of_wp Tryz.func97 rfl trivial ?_ rfl;simp only[Tryz.ntmps97,List.size_toArray,aT,gR,Nat.reduceAdd,Nat.reduceSub,Array.replicate_succ,Array.replicate_zero,List.push_toArray,List.append_toArray,iL,dH];obtain⟨E,hE⟩:=exQ<|iX l;rw[hE] at hY ⊢;unfold iX at hE;by_cases hlong:65536<l.length
 ·rw[if_pos hlong] at hE;subst hE;obtain⟨fn,tmps,assign,body,hy,hR⟩:=hY [] (0,0,0,3) W h0 (by simp);unfold vQ at hy;gi_wp2;refine hR.mono ?_;rintro e W3 (⟨rfl,hJ3,hk3⟩ | ⟨rfl,hJx3⟩)
  ·gi_wp2;refine bodyPost_ret (results_none rfl _ _ _) rfl ?_;exact⟨⟨_,rfl⟩, .inl ⟨_,rfl,hJ3⟩⟩
  ·gi_wp2;refine bodyPost_ret (results_none rfl _ _ _) rfl ?_;exact⟨⟨_,rfl⟩, .inr ⟨_,List.prefix_refl _,hJx3⟩⟩
 ·rw [if_neg hlong] at hE;have CN:=hid (λa w ha hV hT=>Tr l a w (by omega) ha hV hT);have HE:=hid hE;have HV:=hid hV;have HT:=hid hT;have HJ:=hid (fun(s:List Ev) (A B:World) (h:J s A) (hb:Below A.heap.size A B)=>Tu hJ h hb);have HY:=hid hY;have HS:Hid (∃f,E= []++kL f (l.drop 0) 0/\l.length<=0+f):=hid ⟨l.length,by rw[<-hE,List.drop_zero,iL],by omega⟩;have hO':=hO;have HI:Hid (J [] W/\Below w0.heap.size w0 W/\W.heap[X]?=some (.cells #[.string (bs l)] 9 (0,0))/\lQ O X W):=hid ⟨h0,hB,hX,hP⟩;have hlong2:(l.length:Int)<=65536:=by omega
  have dlong:decide (65536<(l.length:Int))=false:=aJ (by omega);clear hE hV hT hJ hY h0 hB hX hP;gi_wp2;gi_loopw [3] (λs3 wr=> ∃(pre:List Ev) (a:Nat),s3= .int .i64 a/\a<=l.length/\Hid (∃f,E=pre++kL f (l.drop a) a/\l.length<=a+f)/\Hid (J pre wr/\Below w0.heap.size w0 wr/\wr.heap[X]?=some (.cells #[.string (bs l)] 9 (0,0))/\lQ O X wr)/\O<wr.heap.size) (λs3 wr=>l.length-(RowKit.intOf s3).toNat)
  case atStart=>exact⟨[],0,rfl,by omega,HS.out,HI.out,hO⟩
  case round=>
   obtain⟨pre,a,rfl,ha,HG,HI,hO⟩:=hrel;have hcX:=cell_of_one HI.out.2.2.1;by_cases hlt:a<l.length
   ·obtain⟨x,hx⟩:=exQ<|oD l a;have hst: ∃k:Nat,x.2.2.1=k/\k<=l.length/\(x.2.2.2=0->a<k)/\Hid (∃f,E=pre++(x::(if x.2.2.2=0 then kL f (l.drop k) k else []))/\l.length<=a+f+1):=by
     obtain⟨f,h1,h2⟩:=HG.out;obtain⟨g,rfl⟩: ∃g,f=g+1:=⟨f-1,by omega⟩;obtain⟨k,k1,k2,k3,k4⟩:=Tt g l a hlt;rw[hx] at k1 k3 k4;rw[k4] at h1;exact⟨k,k1,k2,k3,hid ⟨g,h1,by omega⟩⟩
    obtain⟨k,hk1,hk2,hk3',HG2⟩:=hst;have CN2:=hid (CN.out a wr hlt (HV.out.keep HI.out.2.1) (HT.out.keep HI.out.2.1));rw[hx] at CN2;obtain⟨xk,xf,xt,xe⟩:=x;simp only[] at hk1 hk3' HG2;subst hk1;unfold If at CN2;simp only[] at CN2;clear HG hx;gi_wp2_with fail;refine⟨trivial,?_⟩;(with_reducible refine(callsIn_wide.2 CN2.out).mono ?_);rintro e w1 ⟨rfl,hb1⟩;have hb2:Below wr.heap.size wr (w1.alloc (.cells #[.int .i64 xk, .int .i64 xf, .int .i64 k] 77)):=aC hb1 (aH w1 _);have hT2:gV (w1.alloc (.cells #[.int .i64 xk, .int .i64 xf, .int .i64 k] 77)) w1.heap.size xk xf k:=heap_alloc_new w1 _;obtain⟨W2,hW2⟩:=exQ<|w1.alloc (.cells #[.int .i64 xk, .int .i64 xf, .int .i64 k] 77);rw[hW2] at hb2 hT2;obtain⟨Z,hZ⟩:=exQ<|w1.heap.size;have hOZ:O<Z:=by rw[<-hZ];exact iN hO hb1.size
    have hP1:lQ O X w1:=HI.out.2.2.2.keep hb1 hO;have hP2:lQ O X W2:=HI.out.2.2.2.keep hb2 hO;have hnZ: ¬pW O W2 Z:=λhw=>by
     have hb3:Below w1.heap.size w1 W2:=by rw[<-hW2];exact aH w1 _
     have:=(hP1 Z (hw.back hb3 (iN hO hb1.size))).2;omega
    have hX2:W2.heap[X]?=some (.cells #[.string (bs l)] 9 (0,0)):=(hb2.block X (aF HI.out.2.2.1)).trans HI.out.2.2.1;have hnX: ¬pW O W2 X:=λhw=>Nat.lt_irrefl _ (hP2 X hw).1;rw[hZ] at hT2;have hJ2:=HJ.out pre _ _ HI.out.1 hb2;have hB2:Below w0.heap.size w0 W2:=HI.out.2.1.trans (hb2.mono HI.out.2.1.size);have hO2:O<W2.heap.size:=iN hO hb2.size;have HQ:=hid (aI hP2 (aI hnZ (aI hX2 (aI hnX (aI hB2 hT2)))));have hlen:pre.length<E.length:=by
     obtain⟨f,h1,_⟩:=HG2.out;rw[h1,aS,aT];omega
    obtain⟨fn,tmps,assign,body,hy,hR⟩:=HY.out pre (xk,xf,(k:Int),xe) W2 hJ2 hlen;obtain⟨t0,t1,t2,f0,f1,f2⟩:=hT2.cells;unfold vQ at hy;simp only[] at hy;clear hJ2 hb1 hb2 hP1 hP2 hnZ hX2 hnX hB2 hlen HI CN2 hcX hT2;gi_wp2_with fail;refine hR.mono ?_;clear hy hR t0 t1 t2 f0 f1 f2;rintro e W3 (⟨rfl,hJ3,hk3⟩ | ⟨rfl,hJx3⟩)
    ·have hT3:gV W3 Z xk xf k:=hk3.2.2 Z _ HQ.out.2.2.2.2.2 rfl (by omega) HQ.out.2.1;have hX3:W3.heap[X]?=some (.cells #[.string (bs l)] 9 (0,0)):=hk3.2.2 X _ HQ.out.2.2.1 rfl (λe=>hne e.symm) HQ.out.2.2.2.1;have hO3:O<W3.heap.size:=iN hO2 hk3.1.size;have HI3:Hid (J (pre++ [(xk,xf,(k:Int),xe)]) W3/\Below w0.heap.size w0 W3/\W3.heap[X]?=some (.cells #[.string (bs l)] 9 (0,0))/\lQ O X W3):=hid ⟨hJ3,HQ.out.2.2.2.2.1.trans hk3.1,hX3,HQ.out.1.kp (aF HQ.out.2.2.1) hk3⟩;clear hJ3 hk3 hX3 HQ;by_cases hxe:xe=0
     ·have HS3:Hid (∃f,E=(pre++ [(xk,xf,(k:Int),xe)])++kL f (l.drop k) k/\l.length<=k+f):=hid (by obtain⟨f,h1,h2⟩:=HG2.out;rw[if_pos hxe] at h1;have:=hk3' hxe;exact⟨f,by rw[h1];simp,by omega⟩);have hak:=hk3' hxe;subst hxe;clear HG2 hk3';obtain⟨t0,t1,t2,f0,f1,f2⟩:=hT3.cells;gi_wp2_with fail;go_roundw
      case rel=>exact⟨_,k,rfl,hk2,HS3.out,HI3.out,hO3⟩
      case measure=>simp[RowKit.intOf];omega
     ·have hE3:E=pre++ [(xk,xf,(k:Int),xe)]:=by
       obtain⟨f,h1,h2⟩:=HG2.out;rw[if_neg hxe] at h1;exact h1
      have HE3:=hid hE3;have te:(xe !=0)=true:=fH.2 hxe;clear hE3 hxe HG2 hk3' hT3;gi_wp2_with fail;refine bodyPost_ret (results_none rfl _ _ _) rfl ?_;exact⟨⟨_,rfl⟩, .inl ⟨_,HE3.out.symm,HI3.out.1⟩⟩
    ·have hE3:pre++ [(xk,xf,(k:Int),xe)] <+:E:=by
      obtain⟨f,h1,h2⟩:=HG2.out;exact⟨_,by rw[h1];simp;rfl⟩
     have HE3:=hid (aI hE3 hJx3);clear hE3 HG2 hk3' HQ hJx3;gi_wp2_with fail;refine bodyPost_ret (results_none rfl _ _ _) rfl ?_;exact⟨⟨_,rfl⟩, .inr ⟨_,HE3.out.1,HE3.out.2⟩⟩
   ·have hE3:E=pre:=by
     obtain⟨f,h1,h2⟩:=HG.out;rw[List.drop_of_length_le (by omega),Ts,List.append_nil] at h1;exact h1
    have HE3:=hid hE3;clear hE3;gi_wp2_with fail;go_end0;exact⟨⟨_,rfl⟩, .inl ⟨_,HE3.out.symm,HI.out.1⟩⟩
attribute [local go_sem] Oper.semAt_some
theorem Tryz.infoTok:(Tryz.prog.info? 77).map (λi=>(i.zero,i.size,i.bytes))=some (some (.agg #[.int .i64 0, .int .i64 0, .int .i64 0]),3,24):=by kernel_rfl
theorem Tw (A:ByteArray) (w:World):
  Calls Tryz.prog 54 #[.string A] w λe w'=>e= .returned (.func (.func 97) #[] #[.pointer (some ⟨w.heap.size,0,none⟩)])/\w'=w.alloc (.cells #[.string A] 9):=by
 have hmf: ∀(fn:Fn) (first cap:Array Value) (w:World),(Instr.makeFunc fn first cap).run Tryz.prog w= .ok (.func fn first cap) w:=λ_ _ _ _=>rfl;go_enter Tryz.func54,Tryz.ntmps54;go_wp2_with fail;go_ret;exact⟨rfl,rfl⟩
def pX (xs:List Ev):List Value:=xs.flatMap λx=> [.int .i64 x.1, .int .i64 x.2.1, .int .i64 x.2.2.1]
def oE (ts:List aL):List Value:=ts.flatMap λt=> [.int .i64 t.kind, .int .i64 t.sf, .int .i64 t.st]
theorem Tx (ts:List aL):pX (ts.map vP)=oE ts:=by
 unfold pX oE;rw[List.flatMap_map];rfl
theorem Ty (xs:List Ev) (x:Ev):pX (xs++ [x])=pX xs++ [.int .i64 x.1, .int .i64 x.2.1, .int .i64 x.2.2.1]:=by unfold pX;simp
def iY (B:Nat) (w:World) (v:Value) (ts:List aL):Prop:=w.ownsRow B 77 3 v ts.length (oE ts)
def Tz (r:List aL×Int×Int) (w:World) (e:Ending) (w':World):Prop:= ∃v,e= .returned (.tuple #[v, .int .i64 r.2.1, .int .i64 r.2.2])/\iY w.heap.size w' v r.1/\(r.1= []->v= .slice none 0 0)/\Below w.heap.size w w'
theorem Ua (l:List UInt8):(iX l).length<=65537:=by
 have hgo: ∀(f:Nat) (l:List UInt8) (i:Nat),(bS f l i).1.length<=f:=by
  intro f
  induction f with
  | zero=>intro l i;simp[bS]
  | succ f ih=>
   intro l i;cases l with
   | nil=>rw[lM];simp
   | cons c r=>
    rw[iU];split
    ·simp only[aT];have:=ih ((c::r).drop (bB (c::r)).2.1) (i+(bB (c::r)).2.1);omega
    ·simp
 unfold iX;split
 ·simp
 ·unfold kL;rw[aS,bU];have:=hgo l.length l 0;have h2:(tY (bS l.length l 0).2).length<=1:=by unfold tY;split<;>simp
  omega
theorem xV {W:World}{B base n size:Nat}{t e:TypeId}{u v:Value}{xs:List Value} (hb:Boxed W B t u) (hte:t≠e) (hrow:W.ownsRow base e size v n xs) (x:Value):(W.setCell ⟨B,0,none⟩ x).ownsRow base e size v n xs:=
 hrow.kept (grownBy_setCell' W B x) (.inr (hb.not_row hte hrow).symm)
theorem Ub (X:Nat) (k a b:Int):Own (fun(_:Unit) W=>gV W X k a b):=λs A B row hs hg hrow=>
 (hg.block X (aF hs) (λe'=>by obtain⟨o,ho,hc⟩:=hrow X e'.symm;rw[show A.heap[X]?=_ from hs] at ho;cases ho;cases hc)).trans hs
theorem jT.of_below {n O:Nat}{A B:World} (hb:Below A.heap.size A B) (hn:n<=A.heap.size) (hO:O<A.heap.size):jT n O A B:=
 ⟨hb.mono hn,λi hi=> .inl (hi.back hb hO),λi o ho _ _ _=>(hb.block i (aF ho)).trans ho⟩
theorem jT.push {n O:Nat}{W w1:World}{v v':Value}{tmp:Obj} (hv:Boxed W O 70 v) (hgrow:(W.alloc tmp).grownBy w1 v.ownBlock) (hv2:Boxed (w1.setCell ⟨O,0,none⟩ v') O 70 v') (hb:Below n W (w1.setCell ⟨O,0,none⟩ v'))
  (hat:v'.ownBlock=v.ownBlock\/v'.ownBlock=some (W.alloc tmp).heap.size) (hlt: ∀k,v'.ownBlock=some k->k<w1.heap.size):jT n O W (w1.setCell ⟨O,0,none⟩ v'):=by
 have hsz:(w1.setCell ⟨O,0,none⟩ v').heap.size=w1.heap.size:=by simp[World.setCell]
 refine⟨hb,λi hi=>?_,λi o ho hc hne hno=>?_⟩
 ·obtain⟨u,h1,h2⟩:=hi;rw[show (w1.setCell ⟨O,0,none⟩ v').heap[O]?=_ from hv2] at h1;simp only[cS,Obj.cells.injEq,Array.mk.injEq,List.cons.injEq,and_true,true_and] at h1;subst h1;rcases hat with h | h
  ·exact .inl ⟨v,hv,by rw[<-h,h2]⟩
  ·rw[h2,kK] at h;have:=hlt i h2;simp only[cS] at h;exact .inr ⟨by omega,by omega⟩
 ·have hi:=aF ho;have e1:(w1.setCell ⟨O,0,none⟩ v').heap[i]?=w1.heap[i]?:=dC w1 ⟨O,0,none⟩ v' i hne;rw[e1,hgrow.block i (by rw[kK];omega) (λe=>hno ⟨v,hv,e.symm⟩),Below.heap_alloc _ _ _ hi];exact ho
theorem Uc (w:World) (cs:Array Value) (t:TypeId): ∀j u,cs.toList[j]?=some u->(w.alloc (.cells cs t)).cell? ((⟨w.heap.size,0,none⟩:Addr).add j)=some u:=by
 intro j u hj;rw[Array.getElem?_toList] at hj;have e1:((⟨w.heap.size,0,none⟩:Addr).add j)=⟨w.heap.size,j,none⟩:=by unfold Addr.add;split<;>simp_all
 rw[e1,World.cell?_alloc_new];exact hj
def Ih (w:World) (S:Nat) (pre:List Ev) (W:World):Prop:=(((((∃v,Boxed W (w.heap.size+3) 70 v/\W.ownsRow w.heap.size 77 3 v pre.length (pX pre)/\((∀x∈pre,x.2.2.2=0)/\(pre= []->v= .slice none 0 0)))/\Boxed W w.heap.size 70 (.slice none 0 0))/\Boxed W (w.heap.size+1) 3 (.int .i64 0))/\Boxed W (w.heap.size+2) 27 (.int .i64 0))/\(Below w.heap.size w W/\S<=W.heap.size))
def Bi (w:World) (c:Code) (pre:List Ev) (W:World):Prop:=((c= .ret/\ ∃ys x,pre=ys++ [x]/\x.2.2.2≠0/\Boxed W w.heap.size 70 (.slice none 0 0)/\Boxed W (w.heap.size+1) 3 (.int .i64 x.2.1)/\Boxed W (w.heap.size+2) 27 (.int .i64 x.2.2.2)))/\Below w.heap.size w W
theorem Ud (w:World) (S B:Nat) (hB:w.heap.size<=B):OwnFrom B (Ih w S):=
 OwnFrom.and (OwnFrom.and (OwnFrom.and (OwnFrom.and (Own.from (holdsRow_own w.heap.size (w.heap.size+3) 70 77 3 (λpre=>pre.length) pX (λpre v=>(∀x∈pre,x.2.2.2=0)/\(pre= []->v= .slice none 0 0))) _) (Own.from (boxed_own _ _ (λ_=>_)) _)) (Own.from (boxed_own _ _ (λ_=>_)) _)) (Own.from (boxed_own _ _ (λ_=>_)) _)) (OwnFrom.and (ownFrom_below (aE _) hB) (λ_ _ _ _ hs hg _=>aW hs hg.size))
theorem Ue (w:World) (c:Code) (B:Nat) (hB:w.heap.size<=B):OwnFrom B (Bi w c):=
 OwnFrom.and (λs A B row hs hg hr=>by obtain⟨h1,ys,x,h2,h3,h4,h5,h6⟩:=hs;exact⟨h1,ys,x,h2,h3,boxed_own _ _ (fun(_:Unit)=>_) () A B row h4 hg (λr e=>(hr r e).2),boxed_own _ _ (fun(_:Unit)=>_) () A B row h5 hg (λr e=>(hr r e).2),boxed_own _ _ (fun(_:Unit)=>_) () A B row h6 hg (λr e=>(hr r e).2)⟩) (ownFrom_below (aE _) hB)
theorem Uf {w W:World}{S:Nat}{Kp:World->World->Prop}{I:List Ev->World->Prop}{a:Act} (c2:Boxed W w.heap.size 70 (.slice none 0 0)) (c3:Boxed W (w.heap.size+1) 3 (.int .i64 0)) (c4:Boxed W (w.heap.size+2) 27 (.int .i64 0)) (hB:Below w.heap.size w W) (pre:List Ev) (x:Ev) (hx:x.2.2.2≠0):
  ownPostG S Kp I (Bi w) (pre++ [x]) W .ret a (((W.setCell ⟨w.heap.size,0,none⟩ (.slice none 0 0)).setCell ⟨w.heap.size+1,0,none⟩ (.int .i64 x.2.1)).setCell ⟨w.heap.size+2,0,none⟩ (.int .i64 x.2.2.2)).drew:=by
 refine⟨((((KeepsOthers.setCell _ _ _).trans (KeepsOthers.setCell _ _ _)).trans (KeepsOthers.setCell _ _ _)).trans (KeepsOthers.drew _)).from _,⟨rfl,pre,x,rfl,hx,?_,?_,?_⟩,?_⟩
 ·exact(show Boxed (((W.setCell ⟨w.heap.size,0,none⟩ (.slice none 0 0)).setCell ⟨w.heap.size+1,0,none⟩ (.int .i64 x.2.1)).setCell ⟨w.heap.size+2,0,none⟩ (.int .i64 x.2.2.2)) _ _ _ from ((c2.set _).other (by omega) _).other (by omega) _)
 ·exact((c3.other (by omega) _).set _).other (by omega) _
 ·exact((c4.other (by omega) _).other (by omega) _).set _
 ·exact(((hB.setCell (p:=⟨w.heap.size,0,none⟩) (aE _) _).setCell (p:=⟨w.heap.size+1,0,none⟩) (Nat.le_succ _) _).setCell (p:=⟨w.heap.size+2,0,none⟩) (by show w.heap.size<=w.heap.size+2;omega) _).drew
theorem Ug (f:Nat) (l:List UInt8) (i:Nat) (hf:l.length<=f) (h: ∀x∈kL f l i,x.2.2.2=0):(bS f l i).2=none/\kL f l i=(bS f l i).1.map vP:=by
 unfold kL at h ⊢;cases ho:(bS f l i).2 with
 | none=>exact⟨rfl,by unfold tY;simp⟩
 | some x=>
  exfalso;obtain⟨p,e⟩:=x;have:=xG f l i p e hf ho;rw[ho] at h;have h2:=h (0,(p:Int),(p:Int),e) (by unfold tY;simp);exact this.2.2 h2
theorem Uh (l:List UInt8) (h: ∀x∈iX l,x.2.2.2=0):(dT l).2=((l.length:Int),0)/\iX l=(dT l).1.map vP:=by
 unfold iX at h ⊢;unfold dT;by_cases hl:65536<l.length
 ·rw[if_pos hl] at h;have:=h (0,0,0,3) (by simp);exact absurd this (by decide)
 ·rw[if_neg hl] at h;obtain⟨h1,h2⟩:=Ug l.length l 0 (aE _) h;rw[if_neg hl,if_neg hl,h1];exact⟨rfl,h2⟩
theorem Ui (l:List UInt8) (ys:List Ev) (x:Ev) (hp:ys++ [x] <+:iX l) (hx:x.2.2.2≠0):dT l=([],x.2.1,x.2.2.2):=by
 have hm:x∈iX l:=hp.mem (by simp);unfold iX at hm;unfold dT;by_cases hl:65536<l.length
 ·rw[if_pos hl] at hm ⊢;rw[kH.1 hm]
 ·rw[if_neg hl] at hm;simp only[if_neg hl];unfold kL at hm;rcases pP.1 hm with hm | hm
  ·obtain⟨t,_,rfl⟩:=qS.1 hm;exact absurd rfl hx
  ·cases ho:(bS l.length l 0).2 with
   | none=>rw[ho] at hm;cases hm
   | some y=>
    rw[ho] at hm;obtain⟨p,e⟩:=y;rw[kH.1 hm]
theorem Uj (l:List UInt8) (w:World) (hs:l.length<=4611686018427387904) (hV:cO w) (hT:cC w):
  Calls Tryz.prog 26 #[.string (bs l)] w (Tz (dT l) w):=by
 have sl:=aR l;refine(callsIn_wide (n:=9)).1 ?_;refine callsIn_of_wp_marks Tryz.func26 rfl trivial ?_ rfl;simp only[Tryz.ntmps26,List.size_toArray,aT,gR,Nat.reduceAdd,Nat.reduceSub,Array.replicate_succ,Array.replicate_zero,List.push_toArray,List.append_toArray,iL,dH];gi_wp2_with fail;refine⟨trivial,?_⟩;refine(callsIn_wide.2 (Tw _ _)).mono ?_;rintro e w' ⟨rfl,rfl⟩;gi_wp2_with fail;obtain⟨W0,hW0⟩:=exQ (((((w.alloc (.cells #[.slice none 0 0] 70)).alloc (.cells #[.int .i64 0] 3)).alloc (.cells #[.int .i64 0] 27)).alloc (.cells #[.slice none 0 0] 70)).alloc (.cells #[.string (bs l)] 9));have b2:Boxed W0 w.heap.size 70 (.slice none 0 0):=by rw[<-hW0];exact((((Boxed.new w _ _).alloc _).alloc _).alloc _).alloc _
 have b3:Boxed W0 (w.heap.size+1) 3 (.int .i64 0):=by
  have:=(((Boxed.new (w.alloc (.cells #[.slice none 0 0] 70)) 3 (.int .i64 0)).alloc (.cells #[.int .i64 0] 27)).alloc (.cells #[.slice none 0 0] 70)).alloc (.cells #[.string (bs l)] 9);rw[kK] at this;rw[<-hW0];exact this
 have b4:Boxed W0 (w.heap.size+2) 27 (.int .i64 0):=by
  have:=((Boxed.new ((w.alloc (.cells #[.slice none 0 0] 70)).alloc (.cells #[.int .i64 0] 3)) 27 (.int .i64 0)).alloc (.cells #[.slice none 0 0] 70)).alloc (.cells #[.string (bs l)] 9);simp only[kK,Nat.add_assoc,Nat.reduceAdd] at this;rw[<-hW0];exact this
 have b5:Boxed W0 (w.heap.size+3) 70 (.slice none 0 0):=by
  have:=(Boxed.new (((w.alloc (.cells #[.slice none 0 0] 70)).alloc (.cells #[.int .i64 0] 3)).alloc (.cells #[.int .i64 0] 27)) 70 (.slice none 0 0)).alloc (.cells #[.string (bs l)] 9);simp only[kK,Nat.add_assoc,Nat.reduceAdd] at this;rw[<-hW0];exact this
 have b6:Boxed W0 (w.heap.size+4) 9 (.string (bs l)):=by
  have:=(Boxed.new ((((w.alloc (.cells #[.slice none 0 0] 70)).alloc (.cells #[.int .i64 0] 3)).alloc (.cells #[.int .i64 0] 27)).alloc (.cells #[.slice none 0 0] 70)) 9 (.string (bs l)));simp only[kK,Nat.add_assoc,Nat.reduceAdd] at this;rw[<-hW0];exact this
 have hB0:Below w.heap.size w W0:=by
  rw[<-hW0];exact(((((aB _ w).alloc (aE _) _).alloc (by simp) _).alloc (by simp;omega) _).alloc (by simp;omega) _).alloc (by simp;omega) _
 have hsz:W0.heap.size=w.heap.size+5:=by rw[<-hW0];simp
 simp only[kK,Nat.add_assoc,Nat.reduceAdd] at hW0 ⊢;rw[hW0];clear hW0;have hP0:lQ (w.heap.size+3) (w.heap.size+4) W0:=λi hi=>by
  obtain⟨v,h1,h2⟩:=hi;rw[show W0.heap[w.heap.size+3]?=_ from b5] at h1;simp only[cS,Obj.cells.injEq,Array.mk.injEq,List.cons.injEq,and_true,true_and] at h1;subst h1;cases h2
 refine wpIn_rangeFunc_ownH rfl (by omega) (gf:=97) (lb:= #[.pointer (some ⟨w.heap.size+4,0,none⟩)]) rfl trivial (enters_of Tryz.func97 (by kernel_rfl) rfl)
  (α:=Ev) (encs:=vQ) (Kp:=jT w.heap.size (w.heap.size+3)) (S:=λys=>ys=iX l) (Sp:=λpre=>pre <+:iX l) (N:=(iX l).length) (w0:=W0)
  (λq J Jx W hW hJ _ hY h0=>Tv 8 (by omega) q (w.heap.size+4) (w.heap.size+3) W.heap.size w l hs hV hT J Jx hJ hY W ((hW.block _ (by omega)).trans b6) (iN (by omega) hW.size) (by omega) (hP0.keep hW (by omega)) (hB0.trans (hW.mono (by omega))) h0)
  (λh k=>h.trans k) (λW j o o' hj ho hc _=>jT.putObj (by omega) (by omega) W j o o' hj ho hc) (aB _ _) (λ_=>rfl)
  (Ih w W0.heap.size) (Bi w) (Ud w _ _ (by omega)) (λc=>Ue w c _ (by omega))
  ⟨⟨⟨⟨⟨_,b5,World.ownsRow_nil _ _ _ _,by simp,λ_=>rfl⟩,b2⟩,b3⟩,b4⟩,hB0,aE _⟩
  (λx a' W=> ∃Bx,W0.heap.size<=Bx/\gV W Bx x.1 x.2.1 x.2.2.1/\a'= { tmps:= #[.string (bs l),undef, .pointer (some ⟨w.heap.size,0,none⟩), .pointer (some ⟨w.heap.size+1,0,none⟩), .pointer (some ⟨w.heap.size+2,0,none⟩), .pointer (some ⟨w.heap.size+3,0,none⟩), .pointer (some ⟨Bx,0,none⟩), .int .i64 x.2.2.2, .string (bs l), .func (.func 97) #[] #[.pointer (some ⟨w.heap.size+4,0,none⟩)], .agg #[.int .i64 x.1, .int .i64 x.2.1, .int .i64 x.2.2.1], .int .i64 x.2.2.2,undef,undef,undef,undef,undef,undef,undef,undef,undef,undef,undef,undef,undef],defers:= [] })
  (λx a' _ A B row hs hg hr=>by obtain⟨Bx,h1,h2,h3⟩:=hs;exact⟨Bx,h1,Ub Bx _ _ _ () A B row h2 hg (λr e=>(hr r e).2),h3⟩)
  ?assign ?body ?done ?stop
 case assign=>
  rintro q pre x W K ⟨⟨⟨⟨⟨v,bO,hrow,herr⟩,c2⟩,c3⟩,c4⟩,hB,hz⟩ hK;obtain⟨xk,xf,xt,xe⟩:=x;dsimp only[vQ];gi_wp2_with fail;refine hK _ _ ((KeepsOthers.alloc _ _).from _) (jT.of_below (aH W _) hB.size (by omega)) ?_ ⟨W.heap.size,hz,heap_alloc_new W _,rfl⟩;exact⟨⟨⟨⟨⟨v,bO.alloc _,hrow.alloc _,herr⟩,c2.alloc _⟩,c3.alloc _⟩,c4.alloc _⟩,hB.alloc hB.size _,aW hz (by simp)⟩
 case body=>
  rintro q pre x a' W hl hr ⟨⟨⟨⟨⟨v,bO,hrow,herr⟩,c2⟩,c3⟩,c4⟩,hB,hz⟩ ⟨Bx,hBx,bX,rfl⟩ hlt;obtain⟨i0,hi0,hz0,hz1,hz2⟩:=info_parts Tryz.infoTok;have hEl:=Ua l;obtain⟨xk,xf,xt,xe⟩:=x;simp only[] at bX;obtain⟨t0,t1,t2,f0,f1,f2⟩:=bX.cells;have hcO:=bO.cell;have hfO:=bO.frozen;have HZ:=hid hsz;obtain⟨S,hS⟩:=exQ<|W0.heap.size;rw[hS] at HZ hz ⊢;have HS:=hid hS;clear hsz hS;by_cases hxe:xe=0
  ·subst hxe;gi_wp2_with (gi_at_builtin;go_must (refine wpListIn_append_own_at _ rfl _ _ 70 rfl w.heap.size 77 i0 _ 3 24 Tryz.underlying70 hi0 hz0 hz1 hz2 rfl (by decide) v pre.length (pX pre) rfl (hrow.alloc _) ⟨W.heap.size,0,none⟩ 1 1 (#[.int .i64 xk, .int .i64 xf, .int .i64 xt]:Array Value).toList rfl rfl (Uc _ _ _) (by simp[Value.oneCell']) (by unfold maxLen;omega) (by omega) (by have:=hB.size;simp;omega) ?_);intro v' w1 hown' hgrow hnil hat;obtain⟨g',cap',rfl⟩:=ownsRow_succ hown';obtain⟨hv1,hv2,hr2,hk2,hb2⟩:=bO.appended (by decide) hrow hB.size (by omega) hown' hgrow;have hc1:=hv1.cell;have hf1:=hv1.frozen);refine⟨hk2.from _,jT.push bO hgrow hv2 hb2 hat (λk hk=>(hown'.lt k hk).2),?_⟩;refine⟨⟨⟨⟨⟨_,hv2,?_,?_,λh=>absurd h (by simp)⟩,((c2.alloc _).kept hgrow (c2.not_row (by decide) hrow)).other (by omega) _⟩,((c3.alloc _).kept hgrow (c3.not_row (by decide) hrow)).other (by omega) _⟩,((c4.alloc _).kept hgrow (c4.not_row (by decide) hrow)).other (by omega) _⟩,hB.trans hb2,aW hz hb2.size⟩
   ·rw[Ty,aS];exact hr2
   ·intro y hy;rcases pP.1 hy with hy | hy
    ·exact herr.1 y hy
    ·rw[kH.1 hy]
  ·have te:(xe !=0)=true:=fH.2 hxe;have c2c:=c2.cell;have c3c:=c3.cell;have c4c:=c4.cell;have c2f:=c2.frozen;have c3f:=c3.frozen;have c4f:=c4.frozen;gi_wp2_with fail;gi_region
   all_goals gi_wp2
   all_goals exact Uf c2 c3 c4 hB pre (xk,xf,xt,xe) hxe
 case done=>
  rintro D ys W hD rfl ⟨⟨⟨⟨⟨v,bO,hrow,herr⟩,c2⟩,c3⟩,c4⟩,hB,hz⟩ hK;obtain⟨vp,vn,vc,rfl⟩: ∃p n c,v= .slice p n c:=by
   rcases hrow.2 with⟨h,_⟩ | ⟨g,cap,cur,h,_⟩
   ·exact⟨_,_,_,h⟩
   ·exact⟨_,_,_,h⟩
  have hcO:=bO.cell;have c2c:=c2.cell;have c3c:=c3.cell;have c4c:=c4.cell;have c2f:=c2.frozen;have c3f:=c3.frozen;have c4f:=c4.frozen;gi_wp2_with fail;obtain⟨he1,he2⟩:=Uh l herr.1;have k1:KeepsOthers W (((W.setCell ⟨w.heap.size,0,none⟩ (.slice vp vn vc)).setCell ⟨w.heap.size+1,0,none⟩ (.int .i64 l.length)).setCell ⟨w.heap.size+2,0,none⟩ (.int .i64 0)):=((KeepsOthers.setCell _ _ _).trans (KeepsOthers.setCell _ _ _)).trans (KeepsOthers.setCell _ _ _);have d2:Boxed (((W.setCell ⟨w.heap.size,0,none⟩ (.slice vp vn vc)).setCell ⟨w.heap.size+1,0,none⟩ (.int .i64 l.length)).setCell ⟨w.heap.size+2,0,none⟩ (.int .i64 0)) w.heap.size 70 (.slice vp vn vc):=((c2.set _).other (by omega) _).other (by omega) _;have d3:Boxed (((W.setCell ⟨w.heap.size,0,none⟩ (.slice vp vn vc)).setCell ⟨w.heap.size+1,0,none⟩ (.int .i64 l.length)).setCell ⟨w.heap.size+2,0,none⟩ (.int .i64 0)) (w.heap.size+1) 3 (.int .i64 l.length):=((c3.other (by omega) _).set _).other (by omega) _;have d4:Boxed (((W.setCell ⟨w.heap.size,0,none⟩ (.slice vp vn vc)).setCell ⟨w.heap.size+1,0,none⟩ (.int .i64 l.length)).setCell ⟨w.heap.size+2,0,none⟩ (.int .i64 0)) (w.heap.size+2) 27 (.int .i64 0):=((c4.other (by omega) _).other (by omega) _).set _;have dB:Below w.heap.size w (((W.setCell ⟨w.heap.size,0,none⟩ (.slice vp vn vc)).setCell ⟨w.heap.size+1,0,none⟩ (.int .i64 l.length)).setCell ⟨w.heap.size+2,0,none⟩ (.int .i64 0)):=((hB.setCell (p:=⟨w.heap.size,0,none⟩) (aE _) _).setCell (p:=⟨w.heap.size+1,0,none⟩) (Nat.le_succ _) _).setCell (p:=⟨w.heap.size+2,0,none⟩) (by show w.heap.size<=w.heap.size+2;omega) _;have hr1:(((W.setCell ⟨w.heap.size,0,none⟩ (.slice vp vn vc)).setCell ⟨w.heap.size+1,0,none⟩ (.int .i64 l.length)).setCell ⟨w.heap.size+2,0,none⟩ (.int .i64 0)).ownsRow w.heap.size 77 3 (.slice vp vn vc) (iX l).length (pX (iX l)):=xV ((c4.other (by omega) (.slice vp vn vc)).other (by omega) (.int .i64 l.length)) (by decide) (xV (c3.other (by omega) (.slice vp vn vc)) (by decide) (xV c2 (by decide) hrow (.slice vp vn vc)) (.int .i64 l.length)) (.int .i64 0);have hK3:=k1.same D _ hK rfl;obtain⟨W3,hW3⟩:=exQ (((W.setCell ⟨w.heap.size,0,none⟩ (.slice vp vn vc)).setCell ⟨w.heap.size+1,0,none⟩ (.int .i64 l.length)).setCell ⟨w.heap.size+2,0,none⟩ (.int .i64 0));rw[hW3] at d2 d3 d4 dB hr1 hK3 ⊢;refine⟨by simp, .inl ⟨_,_,rfl,run_takeDeferred hK3,?_⟩⟩;have hDz:w.heap.size+5<=D:=by omega
  have g2:=(d2.kept (grownBy_putObj' W3 D (.deferred none)) (by simp;omega)).cell;have g3:=(d3.kept (grownBy_putObj' W3 D (.deferred none)) (by simp;omega)).cell;have g4:=(d4.kept (grownBy_putObj' W3 D (.deferred none)) (by simp;omega)).cell;have hr2:=ownsRow_putObj hr1 (.deferred none) hK3 rfl;have dB2:Below w.heap.size w (W3.putObj D (.deferred none)):=dB.trans (belowK_b (w:=w) (aE _) W3 D _ _ (by omega) hK3 rfl rfl);refine⟨.tuple #[.slice vp vn vc, .int .i64 l.length, .int .i64 0],?_,?_⟩
  ·simp[results,Tryz.results26,go_sem,g2,g3,g4]
  ·rw[he2,Tx,bU] at hr2;refine⟨_,by rw[he1],hr2,λh0=>herr.2 (by rw[he2,h0];rfl),dB2⟩
 case stop=>
  rintro D c pre W hD hpre ⟨⟨rfl,ys,x,rfl,hx,c2,c3,c4⟩,hB⟩ hK;gi_wp2_with fail;have hr:=Ui l ys x hpre hx;refine⟨by simp, .inl ⟨_,_,rfl,run_takeDeferred hK,?_⟩⟩;have hDz:w.heap.size+5<=D:=by omega
  have g2:=(c2.kept (grownBy_putObj' W D (.deferred none)) (by simp;omega)).cell;have g3:=(c3.kept (grownBy_putObj' W D (.deferred none)) (by simp;omega)).cell;have g4:=(c4.kept (grownBy_putObj' W D (.deferred none)) (by simp;omega)).cell;have dB2:Below w.heap.size w (W.putObj D (.deferred none)):=hB.trans (belowK_b (w:=w) (aE _) W D _ _ (by omega) hK rfl rfl);refine⟨.tuple #[.slice none 0 0, .int .i64 x.2.1, .int .i64 x.2.2.2],?_,?_⟩
  ·simp[results,Tryz.results26,go_sem,g2,g3,g4]
  ·rw[hr];exact⟨_,rfl,World.ownsRow_nil _ _ _ _,λ_=>rfl,dB2⟩
end
end Go.Proofs.YtaifnmjjpddikaaGreatDoor
