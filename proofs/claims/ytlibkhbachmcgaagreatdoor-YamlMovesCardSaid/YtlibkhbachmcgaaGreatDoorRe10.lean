import Derived.Test.YtlibkhbachmcgaaGreatDoorRe3
import Derived.Test.YtlibkhbachmcgaaGreatDoorRe2
import Derived.Test.YtlibkhbachmcgaaGreatDoorRe5
import Derived.Deep.RegionHeld3
import Derived.Deep.DeepCutAuto
import Derived.RangeFuncNested
import Derived.RangeFuncBound
import Derived.RangeFuncCalls
import Derived.RangeFuncLeaves
import Derived.RangeFuncBox
import Derived.Shelf.Abstract
import Derived.Shelf.RegionOpen
import Derived.OwnWalkIn
import Derived.TacticsInMore
import Derived.LoopNIn
import Derived.LoopIn
import Derived.Maps.AppendAt
import Derived.Maps.OwnIn
set_option maxRecDepth 100000
set_option maxHeartbeats 4000000
namespace Go.Proofs.YtlibkhbachmcgaaGreatDoor
set_option linter.unusedSimpArgs false
set_option linter.unusedVariables false
open Go.RowKit
open Go.Lib hiding intOf
theorem bs_at (l:List UInt8) (k:Nat) (h:k<l.length) (h2:k<(bs l).size):(bs l)[k]'h2=l[k]'h:=by
 have:=at_bs l k h2
 rw[List.getElem?_eq_getElem h] at this
 exact(Option.some.inj this).symm
theorem small1_any (b:UInt8) (w:World):Calls Tryz.prog 275 #[.int .u8 (b.toNat:Int)] w fun e w'=>e= .returned (.bool (isSmall b))∧w=w':=by
 obtain⟨R,hR⟩: ∃R,isSmall b=R:=⟨_,rfl⟩
 rw[hR]
 unfold isSmall at hR
 obtain⟨n,hn⟩: ∃n:Int,(b.toNat:Int)=n:=⟨_,rfl⟩
 rw[hn]
 by_cases h1:97≤n
 ·by_cases h2:n≤122
  ·rw[decide_eq_true (by omega)] at hR
   subst hR
   clear hn
   go_enter Tryz.func275,Tryz.ntmps275
   go_wp2_with fail
   go_ret
   exact⟨rfl,rfl⟩
  ·rw[decide_eq_false (by omega)] at hR
   subst hR
   have h2':decide (n≤122)=false:=decide_eq_false h2
   clear hn h2
   go_enter Tryz.func275,Tryz.ntmps275
   go_wp2_with fail
   go_ret
   exact⟨rfl,rfl⟩
 ·rw[decide_eq_false (by omega)] at hR
  subst hR
  have h1':decide (97≤n)=false:=decide_eq_false h1
  clear hn h1
  go_enter Tryz.func275,Tryz.ntmps275
  go_wp2_with fail
  go_ret
  exact⟨rfl,rfl⟩
theorem among1_any (X:Nat) (A:ByteArray) (b:UInt8) (w:World) (hc:w.cell? ⟨X,0,none⟩=some (.string A)):
  Calls Tryz.prog 278 #[.int .u8 (b.toNat:Int), .pointer (some ⟨X,0,none⟩)] w fun e w'=>e= .returned (.bool (decide (0≤Lib.indexByte A.data.toList b)))∧w=w':=by
 have C:=hid (index_in A b w)
 obtain⟨K,hK⟩: ∃K,Lib.indexByte A.data.toList b=K:=⟨_,rfl⟩
 rw[hK] at C ⊢
 obtain⟨B,hB⟩: ∃B,decide (0≤K)=B:=⟨_,rfl⟩
 rw[hB]
 clear hK
 go_enter Tryz.func278,Tryz.ntmps278
 go_wp2_with (go_at_call 57;refine C.out.mono ?_;rintro e w' ⟨rfl,rfl⟩)
 go_ret
 exact⟨rfl,rfl⟩
theorem among_any (A:ByteArray) (w:World):
  Calls Tryz.prog 274 #[.string A] w fun e w'=>e= .returned (.func (.func 278) #[] #[.pointer (some ⟨w.heap.size,0,none⟩)])∧w'=w.alloc (.cells #[.string A] 9):=by
 have hmf: ∀(fn:Fn) (first cap:Array Value) (w:World),(Instr.makeFunc fn first cap).run Tryz.prog w= .ok (.func fn first cap) w:=fun _ _ _ _=>rfl
 go_enter Tryz.func274,Tryz.ntmps274
 go_wp2_with fail
 go_ret
 exact⟨rfl,rfl⟩
theorem runAmong_any (l:List UInt8) (X:Nat) (A:ByteArray) (p:UInt8→Bool) (hp: ∀b,decide (0≤Lib.indexByte A.data.toList b)=p b) (w:World) (hs:l.length≤1073741824) (hc:w.cell? ⟨X,0,none⟩=some (.string A)):
  Calls Tryz.prog 273 #[.string (bs l), .func (.func 278) #[] #[.pointer (some ⟨X,0,none⟩)]] w fun e w'=>e= .returned (.int .i64 (runL p l))∧w=w':=by
 have sl:=bs_size l
 obtain⟨R,hR⟩: ∃R,runL p l=R:=⟨_,rfl⟩
 rw[hR]
 have HR:=hid hR;clear hR
 have CA:Hid (∀b:UInt8,Calls Tryz.prog 278 #[.int .u8 (b.toNat:Int), .pointer (some ⟨X,0,none⟩)] w fun e w'=>e= .returned (.bool (p b))∧w=w'):=hid (fun b=>by rw[←hp b];exact among1_any X A b w hc)
 clear hp hc
 go_enter Tryz.func273,Tryz.ntmps273
 go_wp2_with fail
 go_loop [8] (fun s8=> ∃k:Nat,s8= .int .i64 k∧k≤l.length∧Hid (R=k+runL p (l.drop k))) (fun s8=>l.length-(RowKit.intOf s8).toNat)
 case atStart=>exact⟨0,rfl,by omega,hid (by rw[List.drop_zero,HR.out];omega)⟩
 case round=>
  obtain⟨k,rfl,hk,HG⟩:=hrel
  by_cases hlt:k<l.length
  ·have hlt':k<(bs l).size:=by omega
   have hge:=bs_at l k hlt hlt'
   have hg:=HG.out
   rw[List.drop_eq_getElem_cons hlt,runL_cons,←hge] at hg
   have hgN:=congrArg (fun c:UInt8=>(c.toNat:Int)) hge
   have CC:=hid (CA.out ((bs l)[k]'hlt'))
   cases hp:p ((bs l)[k]'hlt') with
   | true=>
    rw[hp] at CC
    rw[hp,if_pos rfl] at hg
    have HG2:Hid (R=(k+1)+runL p (l.drop (k+1))):=hid (by omega)
    clear hp hg hge hgN HG
    go_wp2_with (go_at_call 278;(with_reducible refine CC.out.mono ?_);rintro e w' ⟨rfl,rfl⟩)
    go_round
    case rel=>exact⟨k+1,by go_num,by omega,HG2.out⟩
    case measure=>simp[RowKit.intOf];omega
   | false=>
    rw[hp] at CC
    rw[hp,if_neg (by simp)] at hg
    have HF:Hid (R=k):=hid (by omega)
    clear hp hg hge hgN HG
    go_wp2_with (go_at_call 278;(with_reducible refine CC.out.mono ?_);rintro e w' ⟨rfl,rfl⟩)
    go_ret
    exact⟨ret_int (by rw[HF.out]),rfl⟩
  ·have HF:Hid (R=l.length):=by
    have hg:=HG.out
    rw[List.drop_of_length_le (by omega)] at hg
    exact hid (by rw[hg];show k+0=_;omega)
   clear HG
   go_wp2_with fail
   go_ret
   exact⟨ret_int (by rw[HF.out]),rfl⟩
theorem runSmall_any (l:List UInt8) (w:World) (hs:l.length≤1073741824):
  Calls Tryz.prog 273 #[.string (bs l), .func (.func 275) #[] #[]] w fun e w'=>e= .returned (.int .i64 (runL isSmall l))∧w=w':=by
 have sl:=bs_size l
 obtain⟨R,hR⟩: ∃R,runL isSmall l=R:=⟨_,rfl⟩
 rw[hR]
 have HR:=hid hR;clear hR
 have CA:=hid (fun b:UInt8=>small1_any b w)
 go_enter Tryz.func273,Tryz.ntmps273
 go_wp2_with fail
 go_loop [8] (fun s8=> ∃k:Nat,s8= .int .i64 k∧k≤l.length∧Hid (R=k+runL isSmall (l.drop k))) (fun s8=>l.length-(RowKit.intOf s8).toNat)
 case atStart=>exact⟨0,rfl,by omega,hid (by rw[List.drop_zero,HR.out];omega)⟩
 case round=>
  obtain⟨k,rfl,hk,HG⟩:=hrel
  by_cases hlt:k<l.length
  ·have hlt':k<(bs l).size:=by omega
   have hge:=bs_at l k hlt hlt'
   have hg:=HG.out
   rw[List.drop_eq_getElem_cons hlt,runL_cons,←hge] at hg
   have hgN:=congrArg (fun c:UInt8=>(c.toNat:Int)) hge
   have CC:=hid (CA.out ((bs l)[k]'hlt'))
   cases hp:isSmall ((bs l)[k]'hlt') with
   | true=>
    rw[hp] at CC
    rw[hp,if_pos rfl] at hg
    have HG2:Hid (R=(k+1)+runL isSmall (l.drop (k+1))):=hid (by omega)
    clear hp hg hge hgN HG
    go_wp2_with (go_at_call 275;(with_reducible refine CC.out.mono ?_);rintro e w' ⟨rfl,rfl⟩)
    go_round
    case rel=>exact⟨k+1,by go_num,by omega,HG2.out⟩
    case measure=>simp[RowKit.intOf];omega
   | false=>
    rw[hp] at CC
    rw[hp,if_neg (by simp)] at hg
    have HF:Hid (R=k):=hid (by omega)
    clear hp hg hge hgN HG
    go_wp2_with (go_at_call 275;(with_reducible refine CC.out.mono ?_);rintro e w' ⟨rfl,rfl⟩)
    go_ret
    exact⟨ret_int (by rw[HF.out]),rfl⟩
  ·have HF:Hid (R=l.length):=by
    have hg:=HG.out
    rw[List.drop_of_length_le (by omega)] at hg
    exact hid (by rw[hg];show k+0=_;omega)
   clear HG
   go_wp2_with fail
   go_ret
   exact⟨ret_int (by rw[HF.out]),rfl⟩
theorem word_any (l:List UInt8) (w:World):
  Calls Tryz.prog 276 #[.string (bs l)] w fun e w'=>e= .returned (.int .i64 (wordL l))∧w=w':=by
 obtain⟨R,hR⟩: ∃R,wordL l=R:=⟨_,rfl⟩
 rw[hR]
 unfold wordL at hR
 have hd:(bs l).toList=l:=by rw[Lib.toList_data,bs_data]
 by_cases h1:l= [116,114,117,101]
 ·rw[if_pos h1] at hR
  subst hR h1
  go_enter Tryz.func276,Tryz.ntmps276
  go_wp2_with fail
  go_ret
  exact⟨rfl,rfl⟩
 rw[if_neg h1] at hR
 by_cases h2:l= [102,97,108,115,101]
 ·rw[if_pos h2] at hR
  subst hR h2
  go_enter Tryz.func276,Tryz.ntmps276
  go_wp2_with fail
  go_ret
  exact⟨rfl,rfl⟩
 rw[if_neg h2] at hR
 by_cases h3:l= [110,117,108,108]
 ·rw[if_pos h3] at hR
  subst hR h3
  go_enter Tryz.func276,Tryz.ntmps276
  go_wp2_with fail
  go_ret
  exact⟨rfl,rfl⟩
 rw[if_neg h3] at hR
 subst hR
 have e1:((bs l).toList== [116,114,117,101])=false:=by rw[hd];simpa using h1
 have e2:((bs l).toList== [102,97,108,115,101])=false:=by rw[hd];simpa using h2
 have e3:((bs l).toList== [110,117,108,108])=false:=by rw[hd];simpa using h3
 clear hd h1 h2 h3
 go_enter Tryz.func276,Tryz.ntmps276
 go_wp2_with fail
 go_ret
 exact⟨rfl,rfl⟩
def AmongE (A:ByteArray) (w:World) (e:Ending) (w':World):Prop:= ∃X:Nat,e= .returned (.func (.func 278) #[] #[.pointer (some ⟨X,0,none⟩)])∧w'.cell? ⟨X,0,none⟩=some (.string A)∧Below w.heap.size w w'
theorem among_new (A:ByteArray) (w:World):Calls Tryz.prog 274 #[.string A] w (AmongE A w):=
 (among_any A w).mono fun _ _ ⟨he,hw⟩=>⟨_,he,by rw[hw];exact cell_of_one (heap_alloc_new w _),by rw[hw];exact below_alloc1 w _⟩
def TokBox (w:World) (X:Nat) (k a b:Int):Prop:=w.heap[X]?=some (.cells #[.int .i64 k, .int .i64 a, .int .i64 b] 188 (0,0))
abbrev TokCells (w:World) (X:Nat) (k a b:Int):Prop:=w.cell? ⟨X,0,none⟩=some (.int .i64 k)∧w.cell? ⟨X,1,none⟩=some (.int .i64 a)∧w.cell? ⟨X,2,none⟩=some (.int .i64 b)∧
 w.frozen? ⟨X,0,none⟩=false∧w.frozen? ⟨X,1,none⟩=false∧w.frozen? ⟨X,2,none⟩=false
theorem TokBox.cells {w:World}{X:Nat}{k a b:Int} (h:TokBox w X k a b):TokCells w X k a b:=
 ⟨cell_of_row w X 0 _ _ (0,0) h,cell_of_row w X 1 _ _ (0,0) h,cell_of_row w X 2 _ _ (0,0) h,by simp[World.frozen?,show w.heap[X]?=_ from h],by simp[World.frozen?,show w.heap[X]?=_ from h],by simp[World.frozen?,show w.heap[X]?=_ from h]⟩
theorem TokBox.lt {w:World}{X:Nat}{k a b:Int} (h:TokBox w X k a b):X<w.heap.size:=cell_it h
theorem TokBox.keep {w w':World}{X:Nat}{k a b:Int} (h:TokBox w X k a b) (hb:Below w.heap.size w w'):TokBox w' X k a b:=(hb.block X h.lt).trans h
def putT (w:World) (X:Nat) (k a b:Int):World:=((w.setCell ⟨X,0,none⟩ (.int .i64 k)).setCell ⟨X,1,none⟩ (.int .i64 a)).setCell ⟨X,2,none⟩ (.int .i64 b)
theorem TokBox.put {w:World}{X:Nat}{k a b k2 a2 b2:Int} (h:TokBox w X k a b):TokBox (putT w X k2 a2 b2) X k2 a2 b2:=by
 unfold TokBox at h ⊢
 unfold putT
 simp[World.setCell,Array.getElem?_modify,h]
theorem below_putT {B:Nat}{w w':World}{X:Nat}{k a b:Int} (h:Below B w w') (hX:B≤X):Below B w (putT w' X k a b):=
 ((h.setCell (p:=⟨X,0,none⟩) hX _).setCell (p:=⟨X,1,none⟩) hX _).setCell (p:=⟨X,2,none⟩) hX _
theorem token_any (kd a tw:Int) (X:Nat) (w:World) (hc:w.cell? ⟨X,0,none⟩=some (.int .i64 a)):
  Calls Tryz.prog 271 #[.int .i64 kd, .int .i64 tw, .pointer (some ⟨X,0,none⟩)] w fun e w'=>e= .returned (.tuple #[.agg #[.int .i64 kd, .int .i64 a, .int .i64 tw], .int .i64 0])∧Below w.heap.size w w':=by
 have hX:X<w.heap.size:=cell_lt hc
 go_enter Tryz.func271,Tryz.ntmps271
 go_wp2_with fail
 have hT:TokBox (w.alloc (.cells #[.int .i64 kd, .int .i64 a, .int .i64 tw] 188)) w.heap.size kd a tw:=heap_alloc_new w _
 have hb:=below_alloc1 w (.cells #[.int .i64 kd, .int .i64 a, .int .i64 tw] 188)
 obtain⟨W,hW⟩: ∃W,w.alloc (.cells #[.int .i64 kd, .int .i64 a, .int .i64 tw] 188)=W:=⟨_,rfl⟩
 rw[hW] at hT hb ⊢
 obtain⟨c0,c1,c2,_⟩:=hT.cells
 refine bodyPost_ret (v:= .tuple #[.agg #[.int .i64 kd, .int .i64 a, .int .i64 tw], .int .i64 0]) ?_ rfl ⟨rfl,hb⟩
 simp[results,Tryz.results271,go_sem,c0,c1,c2]
theorem tfail_any (a er:Int) (w:World):
  Calls Tryz.prog 272 #[.int .i64 a, .int .i64 er] w fun e w'=>e= .returned (.tuple #[.agg #[.int .i64 0, .int .i64 a, .int .i64 a], .int .i64 er])∧Below w.heap.size w w':=by
 go_enter Tryz.func272,Tryz.ntmps272
 go_wp2_with fail
 have hT:TokBox (w.alloc (.cells #[.int .i64 0, .int .i64 a, .int .i64 a] 188)) w.heap.size 0 a a:=heap_alloc_new w _
 have hb:=below_alloc1 w (.cells #[.int .i64 0, .int .i64 a, .int .i64 a] 188)
 obtain⟨W,hW⟩: ∃W,w.alloc (.cells #[.int .i64 0, .int .i64 a, .int .i64 a] 188)=W:=⟨_,rfl⟩
 rw[hW] at hT hb ⊢
 obtain⟨c0,c1,c2,_⟩:=hT.cells
 refine bodyPost_ret (v:= .tuple #[.agg #[.int .i64 0, .int .i64 a, .int .i64 a], .int .i64 er]) ?_ rfl ⟨rfl,hb⟩
 simp[results,Tryz.results272,go_sem,c0,c1,c2]
theorem sign_index (c:UInt8):Lib.indexByte [123,125,91,93,44,58] c=match signI c with | some k=>(k:Int) | none=> -1:=by
 have: ∀n:Fin 256,Lib.indexByte [123,125,91,93,44,58] (UInt8.ofNat n.val)=match signI (UInt8.ofNat n.val) with | some k=>(k:Int) | none=> -1:=by decide+kernel
 have:=this ⟨c.toNat,c.toNat_lt⟩
 simpa only[UInt8.ofNat_toNat] using this
theorem blank_index (c:UInt8):decide (0≤Lib.indexByte [32,9,10,13] c)=isBlank c:=by
 have: ∀n:Fin 256,decide (0≤Lib.indexByte [32,9,10,13] (UInt8.ofNat n.val))=isBlank (UInt8.ofNat n.val):=by decide+kernel
 have:=this ⟨c.toNat,c.toNat_lt⟩
 simpa only[UInt8.ofNat_toNat] using this
theorem num_index (c:UInt8):decide (0≤Lib.indexByte [45,43,46,48,49,50,51,52,53,54,55,56,57,101,69] c)=isNumB c:=by
 have: ∀n:Fin 256,decide (0≤Lib.indexByte [45,43,46,48,49,50,51,52,53,54,55,56,57,101,69] (UInt8.ofNat n.val))=isNumB (UInt8.ofNat n.val):=by decide+kernel
 have:=this ⟨c.toNat,c.toNat_lt⟩
 simpa only[UInt8.ofNat_toNat] using this
theorem dig_iff (c:UInt8):isDig c=decide (48≤(c.toNat:Int)∧(c.toNat:Int)≤57):=by
 unfold isDig
 rw[Bool.eq_iff_iff]
 simp
 omega
def nextQ (T:Nat×Nat×Int) (a:Nat):Int×Int×Int×Int:=if T.2.2=0 then(T.1,a,a+T.2.1,0) else(0,a+T.2.1,a+T.2.1,T.2.2)
def nextR (l:List UInt8) (a:Nat):Int×Int×Int×Int:=nextQ (tokR (l.drop a)) a
def NextE (r:Int×Int×Int×Int):Ending:= .returned (.tuple #[.agg #[.int .i64 r.1, .int .i64 r.2.1, .int .i64 r.2.2.1], .int .i64 r.2.2.2])
structure NSt (w:World) (a:Int) (w':World):Prop where
 p:w'.heap[w.heap.size]?=some (.cells #[.int .i64 a] 3 (0,0))
 t:TokBox w' (w.heap.size+1) 0 0 0
 b:Below w.heap.size w w'
abbrev NCells (w:World) (a:Int) (w':World):Prop:=w'.cell? ⟨w.heap.size,0,none⟩=some (.int .i64 a)∧w'.frozen? ⟨w.heap.size,0,none⟩=false∧TokCells w' (w.heap.size+1) 0 0 0
theorem NSt.cells {w w':World}{a:Int} (h:NSt w a w'):NCells w a w':=⟨cell_of_one h.p,free_of_one h.p,h.t.cells⟩
theorem NSt.keep {w w1 w2:World}{a:Int} (h:NSt w a w1) (hb:Below w1.heap.size w1 w2):NSt w a w2:=
 ⟨(hb.block _ (cell_it h.p)).trans h.p,h.t.keep hb,h.b.trans (hb.mono h.b.size)⟩
theorem NSt.start (w:World) (a:Int):NSt w a ((w.alloc (.cells #[.int .i64 a] 3)).alloc (.cells #[.int .i64 0, .int .i64 0, .int .i64 0] 188)):=by
 refine⟨?_,?_,?_⟩
 ·exact(Below.heap_alloc _ _ w.heap.size (by simp)).trans (heap_alloc_new w _)
 ·have:=heap_alloc_new (w.alloc (.cells #[.int .i64 a] 3)) (.cells #[.int .i64 0, .int .i64 0, .int .i64 0] 188)
  rw[World.size_alloc] at this
  exact this
 ·exact(below_alloc1 w _).trans ((below_alloc1 (w.alloc (.cells #[.int .i64 a] 3)) _).mono (by simp))
def NAny (w:World) (a:Int) (w':World):Prop:= ∃k x y,w'.heap[w.heap.size]?=some (.cells #[.int .i64 a] 3 (0,0))∧TokBox w' (w.heap.size+1) k x y∧Below w.heap.size w w'
abbrev NTwo (w:World) (a:Int) (w':World):Prop:=w'.cell? ⟨w.heap.size,0,none⟩=some (.int .i64 a)∧Hid (NAny w a w')
theorem NTwo.of {w w':World}{a:Int} (h:NAny w a w'):NTwo w a w':=by
 obtain⟨k,x,y,h1,h2,h3⟩:=h
 exact⟨cell_of_one h1,hid ⟨k,x,y,h1,h2,h3⟩⟩
theorem NTwo.start {w w':World}{a:Int} (h:NSt w a w'):NTwo w a w':=NTwo.of ⟨0,0,0,h.p,h.t,h.b⟩
theorem NTwo.drew {w w':World}{a:Int} (h:NTwo w a w'):NTwo w a w'.drew:=by
 obtain⟨k,x,y,h1,h2,h3⟩:=h.2.out
 exact NTwo.of ⟨k,x,y,h1,h2,h3.drew⟩
theorem NTwo.step {w w1 w2:World}{a:Int} (h:NTwo w a w1) (hb:Below w1.heap.size w1 w2):NTwo w a w2:=by
 obtain⟨k,x,y,h1,h2,h3⟩:=h.2.out
 exact NTwo.of ⟨k,x,y,(hb.block _ (cell_it h1)).trans h1,h2.keep hb,h3.trans (hb.mono h3.size)⟩
theorem NTwo.cellsE {w w1:World}{a:Int} (h:NTwo w a w1): ∃k x y,TokCells w1 (w.heap.size+1) k x y:=by
 obtain⟨k,x,y,h1,h2,h3⟩:=h.2.out
 exact⟨k,x,y,h2.cells⟩
theorem set_far {w:World}{p:Addr}{u:Value}{g:Nat} (h:g≠p.block):(w.setCell p u).heap[g]?=w.heap[g]?:=Below.heap_setCell w p u g h
theorem NTwo.putG {w w1:World}{a:Int} (h:NTwo w a w1) (k x y:Int):(putT w1 (w.heap.size+1) k x y).heap[w.heap.size]?=some (.cells #[.int .i64 a] 3 (0,0))∧TokBox (putT w1 (w.heap.size+1) k x y) (w.heap.size+1) k x y∧Below w.heap.size w (putT w1 (w.heap.size+1) k x y):=by
 obtain⟨k0,x0,y0,h1,h2,h3⟩:=h.2.out
 refine⟨?_,h2.put,below_putT h3 (Nat.le_succ _)⟩
 unfold putT
 rw[set_far (by simp),set_far (by simp),set_far (by simp)]
 exact h1
theorem NTwo.put {w w1:World}{a:Int} (h:NTwo w a w1) (k x y:Int):NTwo w a (((w1.setCell ⟨w.heap.size+1,0,none⟩ (.int .i64 k)).setCell ⟨w.heap.size+1,1,none⟩ (.int .i64 x)).setCell ⟨w.heap.size+1,2,none⟩ (.int .i64 y)):=by
 obtain⟨h1,h2,h3⟩:=h.putG k x y
 exact NTwo.of ⟨k,x,y,h1,h2,h3⟩
theorem NSt.put {w w1:World}{a:Int} (h:NSt w a w1) (k x y:Int):TokBox (putT w1 (w.heap.size+1) k x y) (w.heap.size+1) k x y∧Below w.heap.size w (putT w1 (w.heap.size+1) k x y):=
 ⟨h.t.put,below_putT h.b (Nat.le_succ _)⟩
theorem endL_at (l:List UInt8) (a:Nat) (ha:a<l.length):endL l a=((readL (l.drop a) 0).2.1+a,(readL (l.drop a) 0).2.2):=by
 unfold endL
 rw[if_neg (by omega),readL_drop l a (by omega)]
theorem tokR_head {u:List UInt8}{c:UInt8} (h:u.head?=some c):tokR u=(match signI c with
  | some k=>(2+k,1,0)
  | none=>if isBlank c then(1,runL isBlank u,0) else if c=34 then(if(readL u 0).2.2=0 then(8,(readL u 0).2.1.toNat,0) else(0,(readL u 0).2.1.toNat,(readL u 0).2.2)) else
   if c=45∨isDig c=true then(if(parseL (u.take (runL isNumB u))).2=0 then(9,runL isNumB u,0) else(0,0,(parseL (u.take (runL isNumB u))).2)) else
   if wordL (u.take (runL isSmall u))=0 then(0,0,2) else(wordL (u.take (runL isSmall u)),runL isSmall u,0):Nat×Nat×Int):=by
 cases u with
 | nil=>cases h
 | cons d r=>
  obtain rfl:d=c:=by simpa using h
  rfl
theorem next_any (l:List UInt8) (a:Nat) (w:World) (hs:l.length≤1048576) (ha:a<l.length) (hV:SVar w) (hT:Tabs w):
  Calls Tryz.prog 260 #[.string (bs l), .int .i64 a] w fun e w'=>e=NextE (nextR l a)∧Below w.heap.size w w':=by
 have hmf: ∀(fn:Fn) (first cap:Array Value) (w:World),(Instr.makeFunc fn first cap).run Tryz.prog w= .ok (.func fn first cap) w:=fun _ _ _ _=>rfl
 have sl:=bs_size l
 obtain⟨R,hR⟩: ∃R,nextR l a=R:=⟨_,rfl⟩
 rw[hR]
 unfold nextR at hR
 have hex:(bs l).extract a l.length=bs (l.drop a):=bs_from l a _ rfl
 have hEnd:=endL_at l a ha
 have CE0:=hid (fun w hV hT=>end_any l a w (by omega) hV hT)
 obtain⟨EE,hEE⟩: ∃EE,endL l a=EE:=⟨_,rfl⟩
 rw[hEE] at CE0 hEnd
 obtain⟨ek,ee⟩:=EE
 simp only[] at CE0 hEnd
 have hsl: ∀n,(bs l).extract a (a+n)=bs ((l.drop a).take n):=fun n=>by rw[bs_extract,bs_data,Nat.add_sub_cancel_left]
 obtain⟨u,hu⟩: ∃u,l.drop a=u:=⟨_,rfl⟩
 have hul:u.length=l.length-a:=by rw[←hu,List.length_drop]
 have hub:u.length≤1048576:=by omega
 have hua:a+u.length≤l.length:=by omega
 have hu0:0<u.length:=by omega
 have su:=bs_size u
 rw[hu] at hex hR hEnd
 simp only[hu] at hsl
 have h0:0<(bs u).size:=by omega
 obtain⟨c,hc⟩: ∃c,u.head?=some c:=by cases u with | nil=>simp at hu0 | cons c r=>exact⟨c,rfl⟩
 have hc0:(((bs u)[0]'h0).toNat:Int)=(c.toNat:Int):=by
  have:=head_at (bs u) h0
  rw[bs_data,hc] at this
  rw[←Option.some.inj this]
 have HV:=hid hV;have HT:=hid hT;clear hV hT
 have CI:=hid (fun w=>index_in ⟨#[123,125,91,93,44,58]⟩ c w)
 have CB:=hid (fun w=>index_in ⟨#[32,9,10,13]⟩ c w)
 rw[show (⟨#[123,125,91,93,44,58]⟩:ByteArray).data.toList= [123,125,91,93,44,58] from rfl,sign_index] at CI
 rw[show (⟨#[32,9,10,13]⟩:ByteArray).data.toList= [32,9,10,13] from rfl] at CB
 have hbi:=blank_index c
 obtain⟨KB,hKB⟩: ∃KB,Lib.indexByte [32,9,10,13] c=KB:=⟨_,rfl⟩
 rw[hKB] at CB hbi
 have hdi:=dig_iff c
 have h34i:c=34↔(c.toNat:Int)=34:=⟨fun h=>by rw[h];rfl,fun h=>UInt8.toNat_inj.1 (by show c.toNat=34;omega)⟩
 have h45i:c=45↔(c.toNat:Int)=45:=⟨fun h=>by rw[h];rfl,fun h=>UInt8.toNat_inj.1 (by show c.toNat=45;omega)⟩
 rw[tokR_head hc] at hR
 have RB:Hid (∀(X:Nat) (w:World),w.cell? ⟨X,0,none⟩=some (.string ⟨#[32,9,10,13]⟩)→Calls Tryz.prog 273 #[.string (bs u), .func (.func 278) #[] #[.pointer (some ⟨X,0,none⟩)]] w fun e w'=>e= .returned (.int .i64 (runL isBlank u))∧w=w'):=hid (fun X w h=>runAmong_any _ X _ isBlank blank_index w (by omega) h)
 have RN:Hid (∀(X:Nat) (w:World),w.cell? ⟨X,0,none⟩=some (.string ⟨#[45,43,46,48,49,50,51,52,53,54,55,56,57,101,69]⟩)→Calls Tryz.prog 273 #[.string (bs u), .func (.func 278) #[] #[.pointer (some ⟨X,0,none⟩)]] w fun e w'=>e= .returned (.int .i64 (runL isNumB u))∧w=w'):=hid (fun X w h=>runAmong_any _ X _ isNumB num_index w (by omega) h)
 have RS:=hid (fun w=>runSmall_any u w (by omega))
 have hrb:=runL_le isBlank u
 have hrn:=runL_le isNumB u
 have hrs:=runL_le isSmall u
 have CW:=hid (fun w=>word_any (u.take (runL isSmall u)) w)
 have CP:=hid (fun w=>parse_any (u.take (runL isNumB u)) w (by rw[List.length_take];omega))
 have hwc:=wordL_cases (u.take (runL isSmall u))
 have ef:(bs u).extract 0 (runL isSmall u)=bs (u.take (runL isSmall u)):=by rw[bs_front,bs_data]
 have en:=hsl (runL isNumB u)
 obtain⟨nb,hnb⟩: ∃x,runL isBlank u=x:=⟨_,rfl⟩
 obtain⟨nn,hnn⟩: ∃x,runL isNumB u=x:=⟨_,rfl⟩
 obtain⟨ns,hns⟩: ∃x,runL isSmall u=x:=⟨_,rfl⟩
 rw[hnb] at RB hrb hR
 rw[hnn] at RN hrn CP hR en
 rw[hns] at RS hrs CW hR ef hwc
 obtain⟨wd,hwd⟩: ∃x,wordL (u.take ns)=x:=⟨_,rfl⟩
 obtain⟨PR,hPR⟩: ∃x,parseL (u.take nn)=x:=⟨_,rfl⟩
 rw[hwd] at CW hwc hR
 rw[hPR] at CP hR
 obtain⟨n,hn⟩: ∃n:Int,(c.toNat:Int)=n:=⟨_,rfl⟩
 rw[hn] at CI CB hdi h34i h45i hc0
 have ha1:(a:Int)+1≤1048576:=by omega
 have hab:(a:Int)+(nb:Int)≤1048576:=by omega
 have han:(a:Int)+(nn:Int)≤1048576:=by omega
 have has:(a:Int)+(ns:Int)≤1048576:=by omega
 have wab:IntKind.i64.wrap ((a:Int)+(nb:Int))=(a:Int)+(nb:Int):=by rw[IntKind.wrap_i64];omega
 have wan:IntKind.i64.wrap ((a:Int)+(nn:Int))=(a:Int)+(nn:Int):=by rw[IntKind.wrap_i64];omega
 have hrf:=readL_fail u
 have HE:Hid (ek=a+(readL u 0).2.1.toNat∧ee=(readL u 0).2.2):=hid (by
  obtain⟨g1,g2⟩:=Prod.mk.inj hEnd
  exact⟨by rw[g1];omega,g2⟩)
 have CE:=CE0
 have TK:=hid (fun kd tw W hc=>token_any kd a tw w.heap.size W hc)
 have TF:=hid (fun x er W=>tfail_any x er W)
 have hek:0≤ek∧ek≤1048576:=by have:=HE.out.1;omega
 have HR:=hid hR
 have HX:=hid (And.intro hsl (And.intro hEnd (And.intro hwc (And.intro hdi (And.intro h34i h45i)))))
 have HA:=hid (And.intro wab wan)
 have HB:=hid hbi
 clear hKB hu hul hR hsl hEnd hwc hdi h34i h45i wab wan hbi hnb hnn hns hc hwd hPR hn hEE hrf CE0
 go_enter Tryz.func260,Tryz.ntmps260
 go_wp2_with fail
 have HN:=hid (NSt.start w a)
 obtain⟨W0,hW0⟩: ∃W,((w.alloc (.cells #[.int .i64 a] 3)).alloc (.cells #[.int .i64 0, .int .i64 0, .int .i64 0] 188))=W:=⟨_,rfl⟩
 rw[hW0] at HN ⊢
 clear hW0
 cases hsg:signI c with
 | some k=>
  have hk5:=signI_cases c k hsg
  have HF:Hid (((2:Int)+(k:Int),(a:Int),(a:Int)+1,(0:Int))=R):=hid (by
   have:=HR.out
   rw[hsg] at this
   rw[←this];unfold nextQ;simp)
  rw[hsg] at CI
  clear hsg HR HX HB HE
  obtain⟨p0,q0,t0,t1,t2,f0,f1,f2⟩:=HN.out.cells
  with_reducible refine(CI.out _).mono ?_
  rintro e w' ⟨rfl,rfl⟩
  go_wp2_with fail
  clear t0 t1 t2 f0 f1 f2 q0
  with_reducible refine(TK.out _ _ _ p0).mono ?_
  rintro e w3 ⟨rfl,hb⟩
  have HN:=hid (HN.out.keep hb)
  clear p0 hb
  obtain⟨p0,q0,t0,t1,t2,f0,f1,f2⟩:=HN.out.cells
  go_wp2_with fail
  have HP:=hid (HN.out.put (2+(k:Int)) ((a:Int)) ((a:Int)+1))
  obtain⟨WF,hWF⟩: ∃W,putT w3 (w.heap.size+1) (2+(k:Int)) ((a:Int)) ((a:Int)+1)=W:=⟨_,rfl⟩
  rw[hWF] at HP
  dsimp only[putT] at hWF
  rw[hWF]
  clear hWF p0 q0 t0 t1 t2 f0 f1 f2
  obtain⟨c0,c1,c2,_⟩:=HP.out.1.cells
  refine bodyPost_ret (v:= .tuple #[.agg #[.int .i64 (2+(k:Int)), .int .i64 ((a:Int)), .int .i64 ((a:Int)+1)], .int .i64 0]) ?_ rfl ⟨by rw[←HF.out];rfl,HP.out.2⟩
  simp[results,Tryz.results260,go_sem,c0,c1,c2]
 | none=>
  have HR2:Hid (nextQ (if isBlank c=true then(1,nb,0) else if c=34 then(if(readL u 0).2.2=0 then(8,(readL u 0).2.1.toNat,0) else(0,(readL u 0).2.1.toNat,(readL u 0).2.2)) else
    if c=45∨isDig c=true then(if PR.2=0 then(9,nn,0) else(0,0,PR.2)) else if wd=0 then(0,0,2) else(wd,ns,0)) a=R):=hid (by
   have:=HR.out
   rw[hsg] at this
   exact this)
  rw[hsg] at CI
  clear hsg HR
  obtain⟨p0,q0,t0,t1,t2,f0,f1,f2⟩:=HN.out.cells
  with_reducible refine(CI.out _).mono ?_
  rintro e w' ⟨rfl,rfl⟩
  go_wp2_with fail
  with_reducible refine(CB.out _).mono ?_
  rintro e w' ⟨rfl,rfl⟩
  by_cases hbl:isBlank c=true
  ·have HF:Hid (((1:Int),(a:Int),(a:Int)+(nb:Int),(0:Int))=R):=hid (by
    have:=HR2.out
    rw[if_pos hbl] at this
    rw[←this];unfold nextQ;simp)
   have dKB:decide (0≤KB)=true:=by rw[HB.out];exact hbl
   have wab:=HA.out.1
   clear hbl HR2 HX HB HE HA
   clear p0 q0 t0 t1 t2 f0 f1 f2
   have hS:NTwo w a W0:=NTwo.start HN.out
   go_upto_region 9 with fail
   go_region_held3 (fun w'=>NTwo w a w') ((first | exact NTwo.drew (by assumption) | exact NTwo.step (by assumption) (by assumption) | exact NTwo.put (by assumption) _ _ _ | assumption))
    (first
     | (go_at_call 274;(with_reducible refine(among_new _ _).mono ?_);rintro e w1 ⟨X,rfl,hx,hb1⟩)
     | (go_at_call 273;(with_reducible refine(RB.out _ _ (by exact hx)).mono ?_);rintro e w2 ⟨rfl,rfl⟩)
     | (go_at_call 271;(with_reducible refine(TK.out _ _ _ ((by assumption:NTwo w a _).1)).mono ?_);rintro e w3 ⟨rfl,hb3⟩;have hn3:NTwo w a w3:=NTwo.step (by assumption) hb3;obtain⟨k3,x3,y3,t0,t1,t2,f0,f1,f2⟩:=hn3.cellsE))
   have HP:=hid (hn3.putG (1) ((a:Int)) ((a:Int)+(nb:Int)))
   obtain⟨WF,hWF⟩: ∃W,putT w3 (w.heap.size+1) (1) ((a:Int)) ((a:Int)+(nb:Int))=W:=⟨_,rfl⟩
   rw[hWF] at HP
   dsimp only[putT] at hWF
   rw[hWF]
   clear hWF
   clear hx hb1 hb3 hn3 t0 t1 t2 f0 f1 f2
   obtain⟨c0,c1,c2,_⟩:=HP.out.2.1.cells
   go_wp2_with fail
   refine bodyPost_ret (v:= .tuple #[.agg #[.int .i64 (1), .int .i64 ((a:Int)), .int .i64 ((a:Int)+(nb:Int))], .int .i64 0]) ?_ rfl ⟨by rw[←HF.out];rfl,HP.out.2.2⟩
   simp[results,Tryz.results260,go_sem,c0,c1,c2]
  rw[if_neg hbl] at HR2
  have dKB:decide (0≤KB)=false:=by rw[HB.out];simpa using hbl
  clear HB hbl RB
  by_cases h34:c=34
  ·have hn34:=HX.out.2.2.2.2.1.1 h34
   rw[if_pos h34] at HR2
   subst hn34
   by_cases he0:ee=0
   ·have HF:Hid (((8:Int),(a:Int),ek,(0:Int))=R):=hid (by
     have:=HR2.out
     rw[if_pos (by rw[←HE.out.2];exact he0)] at this
     rw[←this,HE.out.1];unfold nextQ;simp)
    subst he0
    clear HR2 HX HE HA h34
    go_wp2_with fail
    with_reducible refine(CE.out _ (HV.out.keep HN.out.b) (HT.out.keep HN.out.b)).mono ?_
    rintro e w2 ⟨rfl,hb⟩
    have HN:=hid (HN.out.keep hb)
    clear p0 q0 t0 t1 t2 f0 f1 f2 hb
    obtain⟨p0,q0,t0,t1,t2,f0,f1,f2⟩:=HN.out.cells
    go_wp2_with fail
    clear t0 t1 t2 f0 f1 f2 q0
    with_reducible refine(TK.out _ _ _ p0).mono ?_
    rintro e w3 ⟨rfl,hb⟩
    have HN:=hid (HN.out.keep hb)
    clear p0 hb
    obtain⟨p0,q0,t0,t1,t2,f0,f1,f2⟩:=HN.out.cells
    go_wp2_with fail
    have HP:=hid (HN.out.put (8) ((a:Int)) (ek))
    obtain⟨WF,hWF⟩: ∃W,putT w3 (w.heap.size+1) (8) ((a:Int)) (ek)=W:=⟨_,rfl⟩
    rw[hWF] at HP
    dsimp only[putT] at hWF
    rw[hWF]
    clear hWF
    clear p0 q0 t0 t1 t2 f0 f1 f2
    obtain⟨c0,c1,c2,_⟩:=HP.out.1.cells
    refine bodyPost_ret (v:= .tuple #[.agg #[.int .i64 (8), .int .i64 ((a:Int)), .int .i64 (ek)], .int .i64 0]) ?_ rfl ⟨by rw[←HF.out];rfl,HP.out.2⟩
    simp[results,Tryz.results260,go_sem,c0,c1,c2]
   ·have HF:Hid (((0:Int),ek,ek,ee)=R):=hid (by
     have:=HR2.out
     rw[if_neg (by rw[←HE.out.2];exact he0)] at this
     rw[←this,HE.out.1];unfold nextQ;simp only[];rw[if_neg (by rw[←HE.out.2];exact he0),←HE.out.2])
    have te:(ee !=0)=true:=bne_iff_ne.2 he0
    clear HR2 HX HE HA h34 he0
    go_wp2_with fail
    with_reducible refine(CE.out _ (HV.out.keep HN.out.b) (HT.out.keep HN.out.b)).mono ?_
    rintro e w2 ⟨rfl,hb⟩
    have HN:=hid (HN.out.keep hb)
    clear p0 q0 t0 t1 t2 f0 f1 f2 hb
    go_wp2_with fail
    with_reducible refine(TF.out _ _ _).mono ?_
    rintro e w3 ⟨rfl,hb⟩
    have HN:=hid (HN.out.keep hb)
    clear hb
    obtain⟨p0,q0,t0,t1,t2,f0,f1,f2⟩:=HN.out.cells
    go_wp2_with fail
    have HP:=hid (HN.out.put (0) (ek) (ek))
    obtain⟨WF,hWF⟩: ∃W,putT w3 (w.heap.size+1) (0) (ek) (ek)=W:=⟨_,rfl⟩
    rw[hWF] at HP
    dsimp only[putT] at hWF
    rw[hWF]
    clear hWF
    clear p0 q0 t0 t1 t2 f0 f1 f2
    obtain⟨c0,c1,c2,_⟩:=HP.out.1.cells
    refine bodyPost_ret (v:= .tuple #[.agg #[.int .i64 (0), .int .i64 (ek), .int .i64 (ek)], .int .i64 ee]) ?_ rfl ⟨by rw[←HF.out];rfl,HP.out.2⟩
    simp[results,Tryz.results260,go_sem,c0,c1,c2]
  rw[if_neg h34] at HR2
  have t34:(n==34)=false:=beq_eq_false_iff_ne.2 (fun e=>h34 (HX.out.2.2.2.2.1.2 e))
  by_cases hd:c=45∨isDig c=true
  ·rw [if_pos hd] at HR2
   have hd2:n=45∨((n==45)=false∧decide (48≤n)=true∧decide (n≤57)=true):=by
    by_cases h:n=45
    ·exact .inl h
    ·right
     rcases hd with hd | hd
     ·exact absurd (HX.out.2.2.2.2.2.1 hd) h
     ·rw[HX.out.2.2.2.1,decide_eq_true_eq] at hd
      exact⟨beq_eq_false_iff_ne.2 h,decide_eq_true hd.1,decide_eq_true hd.2⟩
   have wan:=HA.out.2
   obtain⟨P1,P2⟩:=PR
   clear HX HA HE hd h34
   go_upto_region 15 with fail
   go_cut [72] (fun s72 wx=>s72= .bool true∧Hid (NSt w a wx))
   case first=>
    rcases hd2 with rfl | ⟨d1,d2,d3⟩
    all_goals
     go_wp2_with fail
     go_meet
     exact⟨rfl,HN⟩
   clear p0 q0 t0 t1 t2 f0 f1 f2 HN
   obtain⟨rfl,HN⟩:=hcut
   have hS:NTwo w a wc:=NTwo.start HN.out
   go_upto_region 16 with fail
   go_region_held3 (fun w'=>NTwo w a w') ((first | exact NTwo.drew (by assumption) | exact NTwo.step (by assumption) (by assumption) | assumption))
    (first
     | (go_at_call 274;(with_reducible refine(among_new _ _).mono ?_);rintro e w1 ⟨X,rfl,hx,hb1⟩)
     | (go_at_call 273;(with_reducible refine(RN.out _ _ (by exact hx)).mono ?_);rintro e w2 ⟨rfl,rfl⟩))
   have hn1:NTwo w a w1:=by assumption
   clear hx hb1 hS
   have HN1:=hid hn1
   have hna:=hn1.1
   clear hn1
   have HBn:Hid (Below w.heap.size w w1):=hid (by obtain⟨_,_,_,_,_,h3⟩:=HN1.out.2.out;exact h3)
   unfold Parsed numV at CP
   obtain⟨g,d,e⟩:=P1
   simp only[] at CP HR2
   go_wp2_with fail
   with_reducible refine(CP.out _).mono ?_
   rintro e w2 ⟨rfl,hb2⟩
   have HN2:=hid (NTwo.step HN1.out hb2)
   clear HN1 hb2 hna
   go_upto_region 18 with fail
   have HN3:=hid (NTwo.step HN2.out (below_alloc1 w2 (.cells #[.bool g, .string (bs d), .int .i64 e] 88)))
   obtain⟨W2,hW2⟩: ∃W,w2.alloc (.cells #[.bool g, .string (bs d), .int .i64 e] 88)=W:=⟨_,rfl⟩
   rw[hW2] at HN3 ⊢
   clear hW2 HN2
   have hna:=HN3.out.1
   by_cases hp:P2=0
   ·have HF:Hid (((9:Int),(a:Int),(a:Int)+(nn:Int),(0:Int))=R):=hid (by
     have:=HR2.out
     rw[if_pos hp] at this
     rw[←this];unfold nextQ;simp)
    subst hp
    clear HR2
    go_wp2_with fail
    with_reducible refine(TK.out _ _ _ hna).mono ?_
    rintro e w3 ⟨rfl,hb⟩
    have hn:=NTwo.step HN3.out hb
    clear hb hna
    obtain⟨k3,x3,y3,t0,t1,t2,f0,f1,f2⟩:=hn.cellsE
    go_wp2_with fail
    have HP:=hid (hn.putG (9) ((a:Int)) ((a:Int)+(nn:Int)))
    obtain⟨WF,hWF⟩: ∃W,putT w3 (w.heap.size+1) (9) ((a:Int)) ((a:Int)+(nn:Int))=W:=⟨_,rfl⟩
    rw[hWF] at HP
    dsimp only[putT] at hWF
    rw[hWF]
    clear hWF t0 t1 t2 f0 f1 f2
    obtain⟨c0,c1,c2,_⟩:=HP.out.2.1.cells
    refine bodyPost_ret (v:= .tuple #[.agg #[.int .i64 (9), .int .i64 ((a:Int)), .int .i64 ((a:Int)+(nn:Int))], .int .i64 0]) ?_ rfl ⟨by rw[←HF.out];rfl,HP.out.2.2⟩
    simp[results,Tryz.results260,go_sem,c0,c1,c2]
   ·have HF:Hid (((0:Int),(a:Int),(a:Int),P2)=R):=hid (by
     have:=HR2.out
     rw[if_neg hp] at this
     rw[←this];unfold nextQ;simp only[];rw[if_neg hp];simp)
    have te:(P2 !=0)=true:=bne_iff_ne.2 hp
    clear HR2 hp
    go_wp2_with fail
    with_reducible refine(TF.out _ _ _).mono ?_
    rintro e w3 ⟨rfl,hb⟩
    have hn:=NTwo.step HN3.out hb
    clear hb hna
    obtain⟨k3,x3,y3,t0,t1,t2,f0,f1,f2⟩:=hn.cellsE
    go_wp2_with fail
    have HP:=hid (hn.putG (0) ((a:Int)) ((a:Int)))
    obtain⟨WF,hWF⟩: ∃W,putT w3 (w.heap.size+1) (0) ((a:Int)) ((a:Int))=W:=⟨_,rfl⟩
    rw[hWF] at HP
    dsimp only[putT] at hWF
    rw[hWF]
    clear hWF t0 t1 t2 f0 f1 f2
    obtain⟨c0,c1,c2,_⟩:=HP.out.2.1.cells
    refine bodyPost_ret (v:= .tuple #[.agg #[.int .i64 (0), .int .i64 ((a:Int)), .int .i64 ((a:Int))], .int .i64 P2]) ?_ rfl ⟨by rw[←HF.out];rfl,HP.out.2.2⟩
    simp[results,Tryz.results260,go_sem,c0,c1,c2]
  ·rw[if_neg hd] at HR2
   have hd2:(n==45)=false∧(decide (48≤n)=false∨(decide (48≤n)=true∧decide (n≤57)=false)):=by
    refine⟨beq_eq_false_iff_ne.2 (fun e=>hd (.inl (HX.out.2.2.2.2.2.2 e))),?_⟩
    by_cases h:48≤n
    ·right
     exact⟨decide_eq_true h,decide_eq_false (fun h2=>hd (.inr (by rw[HX.out.2.2.2.1];exact decide_eq_true ⟨h,h2⟩)))⟩
    ·left;exact decide_eq_false h
   obtain⟨d1,d2⟩:=hd2
   have hw12:wd≤12:=by have:=HX.out.2.2.1;omega
   have wns:IntKind.i64.wrap ((a:Int)+(ns:Int))=(a:Int)+(ns:Int):=by rw[IntKind.wrap_i64];omega
   clear HX HA HE hd h34 CP RN
   go_upto_region 15 with fail
   go_cut [72] (fun s72 wx=>s72= .bool false∧Hid (NSt w a wx))
   case first=>
    rcases d2 with d2 | ⟨d2,d3⟩
    all_goals
     go_wp2_with fail
     go_meet
     exact⟨rfl,HN⟩
   clear p0 q0 t0 t1 t2 f0 f1 f2 HN
   obtain⟨rfl,HN⟩:=hcut
   obtain⟨p0,q0,t0,t1,t2,f0,f1,f2⟩:=HN.out.cells
   by_cases hw0:wd=0
   ·have HF:Hid (((0:Int),(a:Int),(a:Int),(2:Int))=R):=hid (by
     have:=HR2.out
     rw[if_pos hw0] at this
     rw[←this];unfold nextQ;simp)
    subst hw0
    clear HR2
    go_wp2_with (go_at_call 273;(with_reducible refine(RS.out _).mono ?_);rintro e w' ⟨rfl,rfl⟩)
    with_reducible refine(CW.out _).mono ?_
    rintro e w' ⟨rfl,rfl⟩
    go_wp2_with fail
    with_reducible refine(TF.out _ _ _).mono ?_
    rintro e w3 ⟨rfl,hb⟩
    have hn:=NTwo.step (NTwo.start HN.out) hb
    clear hb p0 q0 t0 t1 t2 f0 f1 f2
    obtain⟨k3,x3,y3,t0,t1,t2,f0,f1,f2⟩:=hn.cellsE
    go_wp2_with fail
    have HP:=hid (hn.putG (0) ((a:Int)) ((a:Int)))
    obtain⟨WF,hWF⟩: ∃W,putT w3 (w.heap.size+1) (0) ((a:Int)) ((a:Int))=W:=⟨_,rfl⟩
    rw[hWF] at HP
    dsimp only[putT] at hWF
    rw[hWF]
    clear hWF t0 t1 t2 f0 f1 f2
    obtain⟨c0,c1,c2,_⟩:=HP.out.2.1.cells
    refine bodyPost_ret (v:= .tuple #[.agg #[.int .i64 (0), .int .i64 ((a:Int)), .int .i64 ((a:Int))], .int .i64 2]) ?_ rfl ⟨by rw[←HF.out];rfl,HP.out.2.2⟩
    simp[results,Tryz.results260,go_sem,c0,c1,c2]
   ·have HF:Hid (((wd:Int),(a:Int),(a:Int)+(ns:Int),(0:Int))=R):=hid (by
     have:=HR2.out
     rw[if_neg hw0] at this
     rw[←this];unfold nextQ;simp)
    have tw:((wd:Int) !=0)=true:=bne_iff_ne.2 (by omega)
    clear HR2 hw0
    go_wp2_with (go_at_call 273;(with_reducible refine(RS.out _).mono ?_);rintro e w' ⟨rfl,rfl⟩)
    with_reducible refine(CW.out _).mono ?_
    rintro e w' ⟨rfl,rfl⟩
    go_wp2_with fail
    with_reducible refine(TK.out _ _ _ p0).mono ?_
    rintro e w3 ⟨rfl,hb⟩
    have hn:=NTwo.step (NTwo.start HN.out) hb
    clear hb p0 q0 t0 t1 t2 f0 f1 f2
    obtain⟨k3,x3,y3,t0,t1,t2,f0,f1,f2⟩:=hn.cellsE
    go_wp2_with fail
    have HP:=hid (hn.putG ((wd:Int)) ((a:Int)) ((a:Int)+(ns:Int)))
    obtain⟨WF,hWF⟩: ∃W,putT w3 (w.heap.size+1) ((wd:Int)) ((a:Int)) ((a:Int)+(ns:Int))=W:=⟨_,rfl⟩
    rw[hWF] at HP
    dsimp only[putT] at hWF
    rw[hWF]
    clear hWF t0 t1 t2 f0 f1 f2
    obtain⟨c0,c1,c2,_⟩:=HP.out.2.1.cells
    refine bodyPost_ret (v:= .tuple #[.agg #[.int .i64 ((wd:Int)), .int .i64 ((a:Int)), .int .i64 ((a:Int)+(ns:Int))], .int .i64 0]) ?_ rfl ⟨by rw[←HF.out];rfl,HP.out.2.2⟩
    simp[results,Tryz.results260,go_sem,c0,c1,c2]
end Go.Proofs.YtlibkhbachmcgaaGreatDoor
namespace Go.Proofs.YtlibkhbachmcgaaGreatDoor
set_option linter.unusedSimpArgs false
set_option linter.unusedVariables false
open Go.RowKit Go.Shelf
open Go.Lib hiding intOf
abbrev Ev:=Int×Int×Int×Int
def evT (t:Tok):Ev:=((t.kind:Int),(t.sf:Int),(t.st:Int),0)
def errE (o:Option (Nat×Int)):List Ev:=match o with | none=> [] | some x=> [(0,(x.1:Int),(x.1:Int),x.2)]
def evFrom (f:Nat) (l:List UInt8) (i:Nat):List Ev:=(toksGo f l i).1.map evT++errE (toksGo f l i).2
def evL (l:List UInt8):List Ev:=if 65536<l.length then [(0,0,0,3)] else evFrom l.length l 0
theorem evFrom_nil (f i:Nat):evFrom f [] i= []:=by unfold evFrom;rw[toksGo_nil];rfl
theorem evFrom_step (f:Nat) (l:List UInt8) (a:Nat) (ha:a<l.length): ∃k:Nat,(nextR l a).2.2.1=k∧k≤l.length∧((nextR l a).2.2.2=0→a<k)∧
  evFrom (f+1) (l.drop a) a=nextR l a::(if(nextR l a).2.2.2=0 then evFrom f (l.drop k) k else []):=by
 obtain⟨c,r,hu⟩: ∃c r,l.drop a=c::r:=by
  cases h:l.drop a with
  | nil=>have:=congrArg List.length h;simp at this;omega
  | cons c r=>exact⟨c,r,rfl⟩
 have hl:=congrArg List.length hu
 rw[List.length_drop] at hl
 have hok:=tokR_ok (c::r) (List.cons_ne_nil _ _)
 have hr:nextR l a=nextQ (tokR (c::r)) a:=by unfold nextR;rw[hu]
 have hd:l.drop (a+(tokR (c::r)).2.1)=(c::r).drop (tokR (c::r)).2.1:=by rw[←hu,List.drop_drop]
 rw[hr,hu]
 unfold evFrom
 rw[toksGo_cons]
 unfold nextQ
 by_cases h:(tokR (c::r)).2.2=0
 ·have h3:=hok.2 h
  refine⟨a+(tokR (c::r)).2.1,?_,by have:=hok.1;omega,fun _=>by omega,?_⟩
  ·simp only[if_pos h];omega
  ·simp only[if_pos h,if_true,hd]
   unfold evT
   simp only[List.map_cons,List.cons_append,List.cons.injEq,and_true,Prod.mk.injEq,true_and]
   omega
 ·refine⟨a+(tokR (c::r)).2.1,?_,by have:=hok.1;omega,fun h0=>?_,?_⟩
  ·simp only[if_neg h];omega
  ·simp only[if_neg h] at h0;exact absurd h0 h
  ·simp only[if_neg h,List.map_nil,List.nil_append]
   unfold errE
   simp only[List.cons.injEq,and_true,Prod.mk.injEq,true_and]
   omega
def encE (x:Ev):Array Value:= #[.agg #[.int .i64 x.1, .int .i64 x.2.1, .int .i64 x.2.2.1], .int .i64 x.2.2.2]
def OwnP (O:Nat) (A:World) (i:Nat):Prop:= ∃v,A.heap[O]?=some (.cells #[v] 181 (0,0))∧v.ownBlock=some i
def KpO (n O:Nat) (A B:World):Prop:=Below n A B∧(∀i,OwnP O B i→OwnP O A i∨(A.heap.size≤i∧i<B.heap.size))∧(∀i o,A.heap[i]?=some o→o.isCells=true→i≠O→ ¬OwnP O A i→B.heap[i]?=some o)
theorem KpO.trans {n O:Nat}{A B C:World} (h:KpO n O A B) (k:KpO n O B C):KpO n O A C:=by
 refine⟨h.1.trans k.1,fun i hi=>?_,fun i o ho hc hne hno=>?_⟩
 ·rcases k.2.1 i hi with h1 | ⟨h1,h2⟩
  ·rcases h.2.1 i h1 with h3 | ⟨h3,h4⟩
   ·exact .inl h3
   ·exact .inr ⟨h3,Nat.lt_of_lt_of_le h4 k.1.size⟩
  ·exact .inr ⟨Nat.le_trans h.1.size h1,h2⟩
 ·refine k.2.2 i o (h.2.2 i o ho hc hne hno) hc hne (fun hw=>?_)
  rcases h.2.1 i hw with h3 | ⟨h3,_⟩
  ·exact hno h3
  ·have:=(Array.getElem?_eq_some_iff.1 ho).1;omega
theorem KpO.putObj {n O S:Nat} (hn:n≤S) (hO:O<S) (W:World) (j:Nat) (o o':Obj) (hj:S≤j) (h:W.heap[j]?=some o) (hc:o.isCells=false):KpO n O W (W.putObj j o'):=by
 have hoth: ∀i,i≠j→(W.putObj j o').heap[i]?=W.heap[i]?:=fun i hi=>World.putObj_heap_other hi
 refine⟨(Below.refl n W).grown (grownBy_putObj' W j o') (by have:=(Array.getElem?_eq_some_iff.1 h).1;omega) (fun k e=>by cases e;omega),fun i hi=>?_,fun i o2 ho hc2 _ _=>?_⟩
 ·obtain⟨v,h1,h2⟩:=hi
  rw[hoth O (by omega)] at h1
  exact .inl ⟨v,h1,h2⟩
 ·by_cases e:i=j
  ·rw[e,h] at ho
   cases ho
   rw[hc] at hc2;cases hc2
  ·rw[hoth i e];exact ho
def Prp (O X:Nat) (W:World):Prop:= ∀i,OwnP O W i→X<i∧i<W.heap.size
theorem OwnP.back {O:Nat}{A B:World}{i:Nat} (hb:Below A.heap.size A B) (hO:O<A.heap.size) (h:OwnP O B i):OwnP O A i:=by
 obtain⟨v,h1,h2⟩:=h
 rw[hb.block O hO] at h1
 exact⟨v,h1,h2⟩
theorem Prp.keep {O X:Nat}{A B:World} (h:Prp O X A) (hb:Below A.heap.size A B) (hO:O<A.heap.size):Prp O X B:=fun i hi=>by
 have:=h i (hi.back hb hO)
 exact⟨this.1,Nat.lt_of_lt_of_le this.2 hb.size⟩
theorem Prp.kp {n O X:Nat}{A B:World} (h:Prp O X A) (hX:X<A.heap.size) (k:KpO n O A B):Prp O X B:=fun i hi=>by
 rcases k.2.1 i hi with h1 | ⟨h1,h2⟩
 ·have:=h i h1
  exact⟨this.1,Nat.lt_of_lt_of_le this.2 k.1.size⟩
 ·exact⟨by omega,h2⟩
theorem grown_of_below {A B:World} (h:Below A.heap.size A B):A.grownBy B none:=⟨h.os,h.tape,h.output,h.size,fun i hi _=>h.block i hi⟩
theorem abides {β:Type}{S:Nat}{J:β→World→Prop} (hJ:AbidesFrom S J) {s:β}{A B:World} (h:J s A) (hb:Below A.heap.size A B):J s B:=hJ s A B none h (grown_of_below hb) (fun r e=>by cases e)
theorem all1_in (n:Nat) (hn:1≤n) (q X O S:Nat) (w0:World) (l:List UInt8) (hs:l.length≤4611686018427387904) (hV:SVar w0) (hT:Tabs w0) (J Jx:List Ev→World→Prop) (hJ:AbidesFrom S J)
  (hY: ∀pre x W,J pre W→pre.length<(evL l).length→YieldAt Fence.wide (n-1) Tryz.prog q (encE x) W fun e W'=>
   (e= .returned (.bool true)∧J (pre++ [x]) W'∧KpO w0.heap.size O W W')∨(e= .returned (.bool false)∧Jx (pre++ [x]) W'))
  (W:World) (hX:W.heap[X]?=some (.cells #[.string (bs l)] 9 (0,0))) (hO:O<W.heap.size) (hne:O≠X) (hP:Prp O X W) (hB:Below w0.heap.size w0 W) (h0:J [] W):
  CallsIn Fence.wide n Tryz.prog 259 #[.func (.yield q) #[] #[], .pointer (some ⟨X,0,none⟩)] W fun e W'=>(∃v,e= .returned v)∧
   ((∃ys,ys=evL l∧J ys W')∨(∃pre,pre <+:evL l∧Jx pre W')):=by
 have sl:=bs_size l
 have hcX:=cell_of_one hX
 refine callsIn_of_wp Tryz.func259 rfl trivial ?_ rfl
 simp only[Tryz.ntmps259,List.size_toArray,List.length_cons,List.length_nil,Nat.reduceAdd,Nat.reduceSub,Array.replicate_succ,Array.replicate_zero,List.push_toArray,List.append_toArray,List.nil_append,List.cons_append]
 obtain⟨E,hE⟩: ∃E,evL l=E:=⟨_,rfl⟩
 rw[hE] at hY ⊢
 unfold evL at hE
 by_cases hlong:65536<l.length
 ·rw[if_pos hlong] at hE
  subst hE
  obtain⟨fn,tmps,assign,body,hy,hR⟩:=hY [] (0,0,0,3) W h0 (by simp)
  unfold encE at hy
  gi_wp2
  refine hR.mono ?_
  rintro e W3 (⟨rfl,hJ3,hk3⟩ | ⟨rfl,hJx3⟩)
  ·gi_wp2
   refine bodyPost_ret (results_none rfl _ _ _) rfl ?_
   exact⟨⟨_,rfl⟩, .inl ⟨_,rfl,hJ3⟩⟩
  ·gi_wp2
   refine bodyPost_ret (results_none rfl _ _ _) rfl ?_
   exact⟨⟨_,rfl⟩, .inr ⟨_,List.prefix_refl _,hJx3⟩⟩
 ·rw [if_neg hlong] at hE
  have CN:=hid (fun a w ha hV hT=>next_any l a w (by omega) ha hV hT)
  have HE:=hid hE
  have HV:=hid hV;have HT:=hid hT
  have HJ:=hid (fun(s:List Ev) (A B:World) (h:J s A) (hb:Below A.heap.size A B)=>abides hJ h hb)
  have HY:=hid hY
  have HS:Hid (∃f,E= []++evFrom f (l.drop 0) 0∧l.length≤0+f):=hid ⟨l.length,by rw[←hE,List.drop_zero,List.nil_append],by omega⟩
  have hO':=hO
  have HI:Hid (J [] W∧Below w0.heap.size w0 W∧W.heap[X]?=some (.cells #[.string (bs l)] 9 (0,0))∧Prp O X W):=hid ⟨h0,hB,hX,hP⟩
  have hlong2:(l.length:Int)≤65536:=by omega
  have dlong:decide (65536<(l.length:Int))=false:=decide_eq_false (by omega)
  clear hE hV hT hJ hY h0 hB hX hP
  gi_wp2
  gi_loopw [3] (fun s3 wr=> ∃(pre:List Ev) (a:Nat),s3= .int .i64 a∧a≤l.length∧Hid (∃f,E=pre++evFrom f (l.drop a) a∧l.length≤a+f)∧Hid (J pre wr∧Below w0.heap.size w0 wr∧wr.heap[X]?=some (.cells #[.string (bs l)] 9 (0,0))∧Prp O X wr)∧O<wr.heap.size) (fun s3 wr=>l.length-(RowKit.intOf s3).toNat)
  case atStart=>exact⟨[],0,rfl,by omega,HS.out,HI.out,hO⟩
  case round=>
   obtain⟨pre,a,rfl,ha,HG,HI,hO⟩:=hrel
   have hcX:=cell_of_one HI.out.2.2.1
   by_cases hlt:a<l.length
   ·obtain⟨x,hx⟩: ∃x,nextR l a=x:=⟨_,rfl⟩
    have hst: ∃k:Nat,x.2.2.1=k∧k≤l.length∧(x.2.2.2=0→a<k)∧Hid (∃f,E=pre++(x::(if x.2.2.2=0 then evFrom f (l.drop k) k else []))∧l.length≤a+f+1):=by
     obtain⟨f,h1,h2⟩:=HG.out
     obtain⟨g,rfl⟩: ∃g,f=g+1:=⟨f-1,by omega⟩
     obtain⟨k,k1,k2,k3,k4⟩:=evFrom_step g l a hlt
     rw[hx] at k1 k3 k4
     rw[k4] at h1
     exact⟨k,k1,k2,k3,hid ⟨g,h1,by omega⟩⟩
    obtain⟨k,hk1,hk2,hk3',HG2⟩:=hst
    have CN2:=hid (CN.out a wr hlt (HV.out.keep HI.out.2.1) (HT.out.keep HI.out.2.1))
    rw[hx] at CN2
    obtain⟨xk,xf,xt,xe⟩:=x
    simp only[] at hk1 hk3' HG2
    subst hk1
    unfold NextE at CN2
    simp only[] at CN2
    clear HG hx
    gi_wp2_with fail
    refine⟨trivial,?_⟩
    with_reducible refine(callsIn_wide.2 CN2.out).mono ?_
    rintro e w1 ⟨rfl,hb1⟩
    have hb2:Below wr.heap.size wr (w1.alloc (.cells #[.int .i64 xk, .int .i64 xf, .int .i64 k] 188)):=below_of_new hb1 (below_alloc1 w1 _)
    have hT2:TokBox (w1.alloc (.cells #[.int .i64 xk, .int .i64 xf, .int .i64 k] 188)) w1.heap.size xk xf k:=heap_alloc_new w1 _
    obtain⟨W2,hW2⟩: ∃W2,w1.alloc (.cells #[.int .i64 xk, .int .i64 xf, .int .i64 k] 188)=W2:=⟨_,rfl⟩
    rw[hW2] at hb2 hT2
    obtain⟨Z,hZ⟩: ∃Z,w1.heap.size=Z:=⟨_,rfl⟩
    have hOZ:O<Z:=by rw[←hZ];exact Nat.lt_of_lt_of_le hO hb1.size
    have hP1:Prp O X w1:=HI.out.2.2.2.keep hb1 hO
    have hP2:Prp O X W2:=HI.out.2.2.2.keep hb2 hO
    have hnZ: ¬OwnP O W2 Z:=fun hw=>by
     have hb3:Below w1.heap.size w1 W2:=by rw[←hW2];exact below_alloc1 w1 _
     have:=(hP1 Z (hw.back hb3 (Nat.lt_of_lt_of_le hO hb1.size))).2
     omega
    have hX2:W2.heap[X]?=some (.cells #[.string (bs l)] 9 (0,0)):=(hb2.block X (cell_it HI.out.2.2.1)).trans HI.out.2.2.1
    have hnX: ¬OwnP O W2 X:=fun hw=>Nat.lt_irrefl _ (hP2 X hw).1
    rw[hZ] at hT2
    have hJ2:=HJ.out pre _ _ HI.out.1 hb2
    have hB2:Below w0.heap.size w0 W2:=HI.out.2.1.trans (hb2.mono HI.out.2.1.size)
    have hO2:O<W2.heap.size:=Nat.lt_of_lt_of_le hO hb2.size
    have HQ:=hid (And.intro hP2 (And.intro hnZ (And.intro hX2 (And.intro hnX (And.intro hB2 hT2)))))
    have hlen:pre.length<E.length:=by
     obtain⟨f,h1,_⟩:=HG2.out
     rw[h1,List.length_append,List.length_cons];omega
    obtain⟨fn,tmps,assign,body,hy,hR⟩:=HY.out pre (xk,xf,(k:Int),xe) W2 hJ2 hlen
    obtain⟨t0,t1,t2,f0,f1,f2⟩:=hT2.cells
    unfold encE at hy
    simp only[] at hy
    clear hJ2 hb1 hb2 hP1 hP2 hnZ hX2 hnX hB2 hlen HI CN2 hcX hT2
    gi_wp2_with fail
    refine hR.mono ?_
    clear hy hR t0 t1 t2 f0 f1 f2
    rintro e W3 (⟨rfl,hJ3,hk3⟩ | ⟨rfl,hJx3⟩)
    ·have hT3:TokBox W3 Z xk xf k:=hk3.2.2 Z _ HQ.out.2.2.2.2.2 rfl (by omega) HQ.out.2.1
     have hX3:W3.heap[X]?=some (.cells #[.string (bs l)] 9 (0,0)):=hk3.2.2 X _ HQ.out.2.2.1 rfl (fun e=>hne e.symm) HQ.out.2.2.2.1
     have hO3:O<W3.heap.size:=Nat.lt_of_lt_of_le hO2 hk3.1.size
     have HI3:Hid (J (pre++ [(xk,xf,(k:Int),xe)]) W3∧Below w0.heap.size w0 W3∧W3.heap[X]?=some (.cells #[.string (bs l)] 9 (0,0))∧Prp O X W3):=hid ⟨hJ3,HQ.out.2.2.2.2.1.trans hk3.1,hX3,HQ.out.1.kp (cell_it HQ.out.2.2.1) hk3⟩
     clear hJ3 hk3 hX3 HQ
     by_cases hxe:xe=0
     ·have HS3:Hid (∃f,E=(pre++ [(xk,xf,(k:Int),xe)])++evFrom f (l.drop k) k∧l.length≤k+f):=hid (by
       obtain⟨f,h1,h2⟩:=HG2.out
       rw[if_pos hxe] at h1
       have:=hk3' hxe
       exact⟨f,by rw[h1];simp,by omega⟩)
      have hak:=hk3' hxe
      subst hxe
      clear HG2 hk3'
      obtain⟨t0,t1,t2,f0,f1,f2⟩:=hT3.cells
      gi_wp2_with fail
      go_roundw
      case rel=>exact⟨_,k,rfl,hk2,HS3.out,HI3.out,hO3⟩
      case measure=>simp[RowKit.intOf];omega
     ·have hE3:E=pre++ [(xk,xf,(k:Int),xe)]:=by
       obtain⟨f,h1,h2⟩:=HG2.out
       rw[if_neg hxe] at h1
       exact h1
      have HE3:=hid hE3
      have te:(xe !=0)=true:=bne_iff_ne.2 hxe
      clear hE3 hxe HG2 hk3' hT3
      gi_wp2_with fail
      refine bodyPost_ret (results_none rfl _ _ _) rfl ?_
      exact⟨⟨_,rfl⟩, .inl ⟨_,HE3.out.symm,HI3.out.1⟩⟩
    ·have hE3:pre++ [(xk,xf,(k:Int),xe)] <+:E:=by
      obtain⟨f,h1,h2⟩:=HG2.out
      exact⟨_,by rw[h1];simp;rfl⟩
     have HE3:=hid (And.intro hE3 hJx3)
     clear hE3 HG2 hk3' HQ hJx3
     gi_wp2_with fail
     refine bodyPost_ret (results_none rfl _ _ _) rfl ?_
     exact⟨⟨_,rfl⟩, .inr ⟨_,HE3.out.1,HE3.out.2⟩⟩
   ·have hE3:E=pre:=by
     obtain⟨f,h1,h2⟩:=HG.out
     rw[List.drop_of_length_le (by omega),evFrom_nil,List.append_nil] at h1
     exact h1
    have HE3:=hid hE3
    clear hE3
    gi_wp2_with fail
    go_end0
    exact⟨⟨_,rfl⟩, .inl ⟨_,HE3.out.symm,HI.out.1⟩⟩
attribute [local go_sem] Oper.semAt_some
theorem Tryz.infoTok:(Tryz.prog.info? 188).map (fun i=>(i.zero,i.size,i.bytes))=some (some (.agg #[.int .i64 0, .int .i64 0, .int .i64 0]),3,24):=by kernel_rfl
theorem lexAll_any (A:ByteArray) (w:World):
  Calls Tryz.prog 230 #[.string A] w fun e w'=>e= .returned (.func (.func 259) #[] #[.pointer (some ⟨w.heap.size,0,none⟩)])∧w'=w.alloc (.cells #[.string A] 9):=by
 have hmf: ∀(fn:Fn) (first cap:Array Value) (w:World),(Instr.makeFunc fn first cap).run Tryz.prog w= .ok (.func fn first cap) w:=fun _ _ _ _=>rfl
 go_enter Tryz.func230,Tryz.ntmps230
 go_wp2_with fail
 go_ret
 exact⟨rfl,rfl⟩
def evCells (xs:List Ev):List Value:=xs.flatMap fun x=> [.int .i64 x.1, .int .i64 x.2.1, .int .i64 x.2.2.1]
def tokCells (ts:List Tok):List Value:=ts.flatMap fun t=> [.int .i64 t.kind, .int .i64 t.sf, .int .i64 t.st]
theorem evCells_map (ts:List Tok):evCells (ts.map evT)=tokCells ts:=by
 unfold evCells tokCells
 rw[List.flatMap_map]
 rfl
theorem evCells_snoc (xs:List Ev) (x:Ev):evCells (xs++ [x])=evCells xs++ [.int .i64 x.1, .int .i64 x.2.1, .int .i64 x.2.2.1]:=by unfold evCells;simp
def OwnsToks (B:Nat) (w:World) (v:Value) (ts:List Tok):Prop:=w.ownsRow B 188 3 v ts.length (tokCells ts)
def TokensE (r:List Tok×Int×Int) (w:World) (e:Ending) (w':World):Prop:= ∃v,e= .returned (.tuple #[v, .int .i64 r.2.1, .int .i64 r.2.2])∧OwnsToks w.heap.size w' v r.1∧(r.1= []→v= .slice none 0 0)∧Below w.heap.size w w'
theorem evL_len (l:List UInt8):(evL l).length≤65537:=by
 have hgo: ∀(f:Nat) (l:List UInt8) (i:Nat),(toksGo f l i).1.length≤f:=by
  intro f
  induction f with
  | zero=>intro l i;simp[toksGo]
  | succ f ih=>
   intro l i
   cases l with
   | nil=>rw[toksGo_nil];simp
   | cons c r=>
    rw[toksGo_cons]
    split
    ·simp only[List.length_cons];have:=ih ((c::r).drop (tokR (c::r)).2.1) (i+(tokR (c::r)).2.1);omega
    ·simp
 unfold evL
 split
 ·simp
 ·unfold evFrom
  rw[List.length_append,List.length_map]
  have:=hgo l.length l 0
  have h2:(errE (toksGo l.length l 0).2).length≤1:=by unfold errE;split<;>simp
  omega
theorem row_set {W:World}{B base n size:Nat}{t e:TypeId}{u v:Value}{xs:List Value} (hb:Boxed W B t u) (hte:t≠e) (hrow:W.ownsRow base e size v n xs) (x:Value):(W.setCell ⟨B,0,none⟩ x).ownsRow base e size v n xs:=
 hrow.kept (grownBy_setCell' W B x) (.inr (hb.not_row hte hrow).symm)
theorem tokBox_own (X:Nat) (k a b:Int):Own (fun(_:Unit) W=>TokBox W X k a b):=fun s A B row hs hg hrow=>
 (hg.block X (cell_it hs) (fun e'=>by obtain⟨o,ho,hc⟩:=hrow X e'.symm;rw[show A.heap[X]?=_ from hs] at ho;cases ho;cases hc)).trans hs
theorem KpO.of_below {n O:Nat}{A B:World} (hb:Below A.heap.size A B) (hn:n≤A.heap.size) (hO:O<A.heap.size):KpO n O A B:=
 ⟨hb.mono hn,fun i hi=> .inl (hi.back hb hO),fun i o ho _ _ _=>(hb.block i (cell_it ho)).trans ho⟩
theorem KpO.push {n O:Nat}{W w1:World}{v v':Value}{tmp:Obj} (hv:Boxed W O 181 v) (hgrow:(W.alloc tmp).grownBy w1 v.ownBlock) (hv2:Boxed (w1.setCell ⟨O,0,none⟩ v') O 181 v') (hb:Below n W (w1.setCell ⟨O,0,none⟩ v'))
  (hat:v'.ownBlock=v.ownBlock∨v'.ownBlock=some (W.alloc tmp).heap.size) (hlt: ∀k,v'.ownBlock=some k→k<w1.heap.size):KpO n O W (w1.setCell ⟨O,0,none⟩ v'):=by
 have hsz:(w1.setCell ⟨O,0,none⟩ v').heap.size=w1.heap.size:=by simp[World.setCell]
 refine⟨hb,fun i hi=>?_,fun i o ho hc hne hno=>?_⟩
 ·obtain⟨u,h1,h2⟩:=hi
  rw[show (w1.setCell ⟨O,0,none⟩ v').heap[O]?=_ from hv2] at h1
  simp only[Option.some.injEq,Obj.cells.injEq,Array.mk.injEq,List.cons.injEq,and_true,true_and] at h1
  subst h1
  rcases hat with h | h
  ·exact .inl ⟨v,hv,by rw[←h,h2]⟩
  ·rw[h2,World.size_alloc] at h
   have:=hlt i h2
   simp only[Option.some.injEq] at h
   exact .inr ⟨by omega,by omega⟩
 ·have hi:=cell_it ho
  have e1:(w1.setCell ⟨O,0,none⟩ v').heap[i]?=w1.heap[i]?:=Below.heap_setCell w1 ⟨O,0,none⟩ v' i hne
  rw[e1,hgrow.block i (by rw[World.size_alloc];omega) (fun e=>hno ⟨v,hv,e.symm⟩),Below.heap_alloc _ _ _ hi]
  exact ho
theorem cells_new (w:World) (cs:Array Value) (t:TypeId): ∀j u,cs.toList[j]?=some u→(w.alloc (.cells cs t)).cell? ((⟨w.heap.size,0,none⟩:Addr).add j)=some u:=by
 intro j u hj
 rw[Array.getElem?_toList] at hj
 have e1:((⟨w.heap.size,0,none⟩:Addr).add j)=⟨w.heap.size,j,none⟩:=by unfold Addr.add;split<;>simp_all
 rw[e1,World.cell?_alloc_new];exact hj
def TkI (w:World) (S:Nat) (pre:List Ev) (W:World):Prop:=(((((∃v,Boxed W (w.heap.size+3) 181 v∧W.ownsRow w.heap.size 188 3 v pre.length (evCells pre)∧((∀x∈pre,x.2.2.2=0)∧(pre= []→v= .slice none 0 0)))∧Boxed W w.heap.size 181 (.slice none 0 0))∧Boxed W (w.heap.size+1) 3 (.int .i64 0))∧Boxed W (w.heap.size+2) 27 (.int .i64 0))∧(Below w.heap.size w W∧S≤W.heap.size))
def TkX (w:World) (c:Code) (pre:List Ev) (W:World):Prop:=((c= .ret∧ ∃ys x,pre=ys++ [x]∧x.2.2.2≠0∧Boxed W w.heap.size 181 (.slice none 0 0)∧Boxed W (w.heap.size+1) 3 (.int .i64 x.2.1)∧Boxed W (w.heap.size+2) 27 (.int .i64 x.2.2.2)))∧Below w.heap.size w W
theorem tkI_own (w:World) (S B:Nat) (hB:w.heap.size≤B):OwnFrom B (TkI w S):=
 OwnFrom.and (OwnFrom.and (OwnFrom.and (OwnFrom.and (Own.from (holdsRow_own w.heap.size (w.heap.size+3) 181 188 3 (fun pre=>pre.length) evCells (fun pre v=>(∀x∈pre,x.2.2.2=0)∧(pre= []→v= .slice none 0 0))) _) (Own.from (boxed_own _ _ (fun _=>_)) _)) (Own.from (boxed_own _ _ (fun _=>_)) _)) (Own.from (boxed_own _ _ (fun _=>_)) _)) (OwnFrom.and (ownFrom_below (Nat.le_refl _) hB) (fun _ _ _ _ hs hg _=>Nat.le_trans hs hg.size))
theorem tkX_own (w:World) (c:Code) (B:Nat) (hB:w.heap.size≤B):OwnFrom B (TkX w c):=
 OwnFrom.and (fun s A B row hs hg hr=>by
   obtain⟨h1,ys,x,h2,h3,h4,h5,h6⟩:=hs
   exact⟨h1,ys,x,h2,h3,boxed_own _ _ (fun(_:Unit)=>_) () A B row h4 hg (fun r e=>(hr r e).2),boxed_own _ _ (fun(_:Unit)=>_) () A B row h5 hg (fun r e=>(hr r e).2),boxed_own _ _ (fun(_:Unit)=>_) () A B row h6 hg (fun r e=>(hr r e).2)⟩) (ownFrom_below (Nat.le_refl _) hB)
theorem tkX_ret {w W:World}{S:Nat}{Kp:World→World→Prop}{I:List Ev→World→Prop}{a:Act} (c2:Boxed W w.heap.size 181 (.slice none 0 0)) (c3:Boxed W (w.heap.size+1) 3 (.int .i64 0)) (c4:Boxed W (w.heap.size+2) 27 (.int .i64 0)) (hB:Below w.heap.size w W) (pre:List Ev) (x:Ev) (hx:x.2.2.2≠0):
  ownPostG S Kp I (TkX w) (pre++ [x]) W .ret a (((W.setCell ⟨w.heap.size,0,none⟩ (.slice none 0 0)).setCell ⟨w.heap.size+1,0,none⟩ (.int .i64 x.2.1)).setCell ⟨w.heap.size+2,0,none⟩ (.int .i64 x.2.2.2)).drew:=by
 refine⟨((((KeepsOthers.setCell _ _ _).trans (KeepsOthers.setCell _ _ _)).trans (KeepsOthers.setCell _ _ _)).trans (KeepsOthers.drew _)).from _,⟨rfl,pre,x,rfl,hx,?_,?_,?_⟩,?_⟩
 ·exact(show Boxed (((W.setCell ⟨w.heap.size,0,none⟩ (.slice none 0 0)).setCell ⟨w.heap.size+1,0,none⟩ (.int .i64 x.2.1)).setCell ⟨w.heap.size+2,0,none⟩ (.int .i64 x.2.2.2)) _ _ _ from ((c2.set _).other (by omega) _).other (by omega) _)
 ·exact((c3.other (by omega) _).set _).other (by omega) _
 ·exact((c4.other (by omega) _).other (by omega) _).set _
 ·exact(((hB.setCell (p:=⟨w.heap.size,0,none⟩) (Nat.le_refl _) _).setCell (p:=⟨w.heap.size+1,0,none⟩) (Nat.le_succ _) _).setCell (p:=⟨w.heap.size+2,0,none⟩) (by show w.heap.size≤w.heap.size+2;omega) _).drew
theorem evFrom_ok (f:Nat) (l:List UInt8) (i:Nat) (hf:l.length≤f) (h: ∀x∈evFrom f l i,x.2.2.2=0):(toksGo f l i).2=none∧evFrom f l i=(toksGo f l i).1.map evT:=by
 unfold evFrom at h ⊢
 cases ho:(toksGo f l i).2 with
 | none=>exact⟨rfl,by unfold errE;simp⟩
 | some x=>
  exfalso
  obtain⟨p,e⟩:=x
  have:=toks_err f l i p e hf ho
  rw[ho] at h
  have h2:=h (0,(p:Int),(p:Int),e) (by unfold errE;simp)
  exact this.2.2 h2
theorem ev_done (l:List UInt8) (h: ∀x∈evL l,x.2.2.2=0):(toksL l).2=((l.length:Int),0)∧evL l=(toksL l).1.map evT:=by
 unfold evL at h ⊢
 unfold toksL
 by_cases hl:65536<l.length
 ·rw[if_pos hl] at h
  have:=h (0,0,0,3) (by simp)
  exact absurd this (by decide)
 ·rw[if_neg hl] at h
  obtain⟨h1,h2⟩:=evFrom_ok l.length l 0 (Nat.le_refl _) h
  rw[if_neg hl,if_neg hl,h1]
  exact⟨rfl,h2⟩
theorem ev_stop (l:List UInt8) (ys:List Ev) (x:Ev) (hp:ys++ [x] <+:evL l) (hx:x.2.2.2≠0):toksL l=([],x.2.1,x.2.2.2):=by
 have hm:x∈evL l:=hp.mem (by simp)
 unfold evL at hm
 unfold toksL
 by_cases hl:65536<l.length
 ·rw[if_pos hl] at hm ⊢
  rw[List.mem_singleton.1 hm]
 ·rw[if_neg hl] at hm
  simp only[if_neg hl]
  unfold evFrom at hm
  rcases List.mem_append.1 hm with hm | hm
  ·obtain⟨t,_,rfl⟩:=List.mem_map.1 hm
   exact absurd rfl hx
  ·cases ho:(toksGo l.length l 0).2 with
   | none=>rw[ho] at hm;cases hm
   | some y=>
    rw[ho] at hm
    obtain⟨p,e⟩:=y
    rw[List.mem_singleton.1 hm]
theorem tokens_any (l:List UInt8) (w:World) (hs:l.length≤4611686018427387904) (hV:SVar w) (hT:Tabs w):
  Calls Tryz.prog 193 #[.string (bs l)] w (TokensE (toksL l) w):=by
 have sl:=bs_size l
 refine(callsIn_wide (n:=9)).1 ?_
 refine callsIn_of_wp_marks Tryz.func193 rfl trivial ?_ rfl
 simp only[Tryz.ntmps193,List.size_toArray,List.length_cons,List.length_nil,Nat.reduceAdd,Nat.reduceSub,Array.replicate_succ,Array.replicate_zero,List.push_toArray,List.append_toArray,List.nil_append,List.cons_append]
 gi_wp2_with fail
 refine⟨trivial,?_⟩
 refine(callsIn_wide.2 (lexAll_any _ _)).mono ?_
 rintro e w' ⟨rfl,rfl⟩
 gi_wp2_with fail
 obtain⟨W0,hW0⟩: ∃W0,(((((w.alloc (.cells #[.slice none 0 0] 181)).alloc (.cells #[.int .i64 0] 3)).alloc (.cells #[.int .i64 0] 27)).alloc (.cells #[.slice none 0 0] 181)).alloc (.cells #[.string (bs l)] 9))=W0:=⟨_,rfl⟩
 have b2:Boxed W0 w.heap.size 181 (.slice none 0 0):=by rw[←hW0];exact((((Boxed.new w _ _).alloc _).alloc _).alloc _).alloc _
 have b3:Boxed W0 (w.heap.size+1) 3 (.int .i64 0):=by
  have:=(((Boxed.new (w.alloc (.cells #[.slice none 0 0] 181)) 3 (.int .i64 0)).alloc (.cells #[.int .i64 0] 27)).alloc (.cells #[.slice none 0 0] 181)).alloc (.cells #[.string (bs l)] 9)
  rw[World.size_alloc] at this
  rw[←hW0];exact this
 have b4:Boxed W0 (w.heap.size+2) 27 (.int .i64 0):=by
  have:=((Boxed.new ((w.alloc (.cells #[.slice none 0 0] 181)).alloc (.cells #[.int .i64 0] 3)) 27 (.int .i64 0)).alloc (.cells #[.slice none 0 0] 181)).alloc (.cells #[.string (bs l)] 9)
  simp only[World.size_alloc,Nat.add_assoc,Nat.reduceAdd] at this
  rw[←hW0];exact this
 have b5:Boxed W0 (w.heap.size+3) 181 (.slice none 0 0):=by
  have:=(Boxed.new (((w.alloc (.cells #[.slice none 0 0] 181)).alloc (.cells #[.int .i64 0] 3)).alloc (.cells #[.int .i64 0] 27)) 181 (.slice none 0 0)).alloc (.cells #[.string (bs l)] 9)
  simp only[World.size_alloc,Nat.add_assoc,Nat.reduceAdd] at this
  rw[←hW0];exact this
 have b6:Boxed W0 (w.heap.size+4) 9 (.string (bs l)):=by
  have:=(Boxed.new ((((w.alloc (.cells #[.slice none 0 0] 181)).alloc (.cells #[.int .i64 0] 3)).alloc (.cells #[.int .i64 0] 27)).alloc (.cells #[.slice none 0 0] 181)) 9 (.string (bs l)))
  simp only[World.size_alloc,Nat.add_assoc,Nat.reduceAdd] at this
  rw[←hW0];exact this
 have hB0:Below w.heap.size w W0:=by
  rw[←hW0]
  exact(((((Below.refl _ w).alloc (Nat.le_refl _) _).alloc (by simp) _).alloc (by simp;omega) _).alloc (by simp;omega) _).alloc (by simp;omega) _
 have hsz:W0.heap.size=w.heap.size+5:=by rw[←hW0];simp
 simp only[World.size_alloc,Nat.add_assoc,Nat.reduceAdd] at hW0 ⊢
 rw[hW0]
 clear hW0
 have hP0:Prp (w.heap.size+3) (w.heap.size+4) W0:=fun i hi=>by
  obtain⟨v,h1,h2⟩:=hi
  rw[show W0.heap[w.heap.size+3]?=_ from b5] at h1
  simp only[Option.some.injEq,Obj.cells.injEq,Array.mk.injEq,List.cons.injEq,and_true,true_and] at h1
  subst h1
  cases h2
 refine wpIn_rangeFunc_ownH rfl (by omega) (gf:=259) (lb:= #[.pointer (some ⟨w.heap.size+4,0,none⟩)]) rfl trivial (enters_of Tryz.func259 (by kernel_rfl) rfl)
  (α:=Ev) (encs:=encE) (Kp:=KpO w.heap.size (w.heap.size+3)) (S:=fun ys=>ys=evL l) (Sp:=fun pre=>pre <+:evL l) (N:=(evL l).length) (w0:=W0)
  (fun q J Jx W hW hJ _ hY h0=>all1_in 8 (by omega) q (w.heap.size+4) (w.heap.size+3) W.heap.size w l hs hV hT J Jx hJ hY W ((hW.block _ (by omega)).trans b6) (Nat.lt_of_lt_of_le (by omega) hW.size) (by omega) (hP0.keep hW (by omega)) (hB0.trans (hW.mono (by omega))) h0)
  (fun h k=>h.trans k) (fun W j o o' hj ho hc _=>KpO.putObj (by omega) (by omega) W j o o' hj ho hc) (Below.refl _ _) (fun _=>rfl)
  (TkI w W0.heap.size) (TkX w) (tkI_own w _ _ (by omega)) (fun c=>tkX_own w c _ (by omega))
  ⟨⟨⟨⟨⟨_,b5,World.ownsRow_nil _ _ _ _,by simp,fun _=>rfl⟩,b2⟩,b3⟩,b4⟩,hB0,Nat.le_refl _⟩
  (fun x a' W=> ∃Bx,W0.heap.size≤Bx∧TokBox W Bx x.1 x.2.1 x.2.2.1∧a'= { tmps:= #[.string (bs l),undef, .pointer (some ⟨w.heap.size,0,none⟩), .pointer (some ⟨w.heap.size+1,0,none⟩), .pointer (some ⟨w.heap.size+2,0,none⟩), .pointer (some ⟨w.heap.size+3,0,none⟩), .pointer (some ⟨Bx,0,none⟩), .int .i64 x.2.2.2, .string (bs l), .func (.func 259) #[] #[.pointer (some ⟨w.heap.size+4,0,none⟩)], .agg #[.int .i64 x.1, .int .i64 x.2.1, .int .i64 x.2.2.1], .int .i64 x.2.2.2,undef,undef,undef,undef,undef,undef,undef,undef,undef,undef,undef,undef,undef],defers:= [] })
  (fun x a' _ A B row hs hg hr=>by
   obtain⟨Bx,h1,h2,h3⟩:=hs
   exact⟨Bx,h1,tokBox_own Bx _ _ _ () A B row h2 hg (fun r e=>(hr r e).2),h3⟩)
  ?assign ?body ?done ?stop
 case assign=>
  rintro q pre x W K ⟨⟨⟨⟨⟨v,bO,hrow,herr⟩,c2⟩,c3⟩,c4⟩,hB,hz⟩ hK
  obtain⟨xk,xf,xt,xe⟩:=x
  dsimp only[encE]
  gi_wp2_with fail
  refine hK _ _ ((KeepsOthers.alloc _ _).from _) (KpO.of_below (below_alloc1 W _) hB.size (by omega)) ?_ ⟨W.heap.size,hz,heap_alloc_new W _,rfl⟩
  exact⟨⟨⟨⟨⟨v,bO.alloc _,hrow.alloc _,herr⟩,c2.alloc _⟩,c3.alloc _⟩,c4.alloc _⟩,hB.alloc hB.size _,Nat.le_trans hz (by simp)⟩
 case body=>
  rintro q pre x a' W hl hr ⟨⟨⟨⟨⟨v,bO,hrow,herr⟩,c2⟩,c3⟩,c4⟩,hB,hz⟩ ⟨Bx,hBx,bX,rfl⟩ hlt
  obtain⟨i0,hi0,hz0,hz1,hz2⟩:=info_parts Tryz.infoTok
  have hEl:=evL_len l
  obtain⟨xk,xf,xt,xe⟩:=x
  simp only[] at bX
  obtain⟨t0,t1,t2,f0,f1,f2⟩:=bX.cells
  have hcO:=bO.cell
  have hfO:=bO.frozen
  have HZ:=hid hsz
  obtain⟨S,hS⟩: ∃S,W0.heap.size=S:=⟨_,rfl⟩
  rw[hS] at HZ hz ⊢
  have HS:=hid hS
  clear hsz hS
  by_cases hxe:xe=0
  ·subst hxe
   gi_wp2_with (gi_at_builtin;go_must (refine wpListIn_append_own_at _ rfl _ _ 181 rfl w.heap.size 188 i0 _ 3 24 Tryz.underlying181 hi0 hz0 hz1 hz2 rfl (by decide) v pre.length (evCells pre) rfl (hrow.alloc _) ⟨W.heap.size,0,none⟩ 1 1 (#[.int .i64 xk, .int .i64 xf, .int .i64 xt]:Array Value).toList rfl rfl (cells_new _ _ _) (by simp[Value.oneCell']) (by unfold maxLen;omega) (by omega) (by have:=hB.size;simp;omega) ?_);intro v' w1 hown' hgrow hnil hat;obtain⟨g',cap',rfl⟩:=ownsRow_succ hown';obtain⟨hv1,hv2,hr2,hk2,hb2⟩:=bO.appended (by decide) hrow hB.size (by omega) hown' hgrow;have hc1:=hv1.cell;have hf1:=hv1.frozen)
   refine⟨hk2.from _,KpO.push bO hgrow hv2 hb2 hat (fun k hk=>(hown'.lt k hk).2),?_⟩
   refine⟨⟨⟨⟨⟨_,hv2,?_,?_,fun h=>absurd h (by simp)⟩,((c2.alloc _).kept hgrow (c2.not_row (by decide) hrow)).other (by omega) _⟩,((c3.alloc _).kept hgrow (c3.not_row (by decide) hrow)).other (by omega) _⟩,((c4.alloc _).kept hgrow (c4.not_row (by decide) hrow)).other (by omega) _⟩,hB.trans hb2,Nat.le_trans hz hb2.size⟩
   ·rw[evCells_snoc,List.length_append]
    exact hr2
   ·intro y hy
    rcases List.mem_append.1 hy with hy | hy
    ·exact herr.1 y hy
    ·rw[List.mem_singleton.1 hy]
  ·have te:(xe !=0)=true:=bne_iff_ne.2 hxe
   have c2c:=c2.cell
   have c3c:=c3.cell
   have c4c:=c4.cell
   have c2f:=c2.frozen
   have c3f:=c3.frozen
   have c4f:=c4.frozen
   gi_wp2_with fail
   gi_region
   all_goals gi_wp2
   all_goals exact tkX_ret c2 c3 c4 hB pre (xk,xf,xt,xe) hxe
 case done=>
  rintro D ys W hD rfl ⟨⟨⟨⟨⟨v,bO,hrow,herr⟩,c2⟩,c3⟩,c4⟩,hB,hz⟩ hK
  obtain⟨vp,vn,vc,rfl⟩: ∃p n c,v= .slice p n c:=by
   rcases hrow.2 with⟨h,_⟩ | ⟨g,cap,cur,h,_⟩
   ·exact⟨_,_,_,h⟩
   ·exact⟨_,_,_,h⟩
  have hcO:=bO.cell
  have c2c:=c2.cell
  have c3c:=c3.cell
  have c4c:=c4.cell
  have c2f:=c2.frozen
  have c3f:=c3.frozen
  have c4f:=c4.frozen
  gi_wp2_with fail
  obtain⟨he1,he2⟩:=ev_done l herr.1
  have k1:KeepsOthers W (((W.setCell ⟨w.heap.size,0,none⟩ (.slice vp vn vc)).setCell ⟨w.heap.size+1,0,none⟩ (.int .i64 l.length)).setCell ⟨w.heap.size+2,0,none⟩ (.int .i64 0)):=((KeepsOthers.setCell _ _ _).trans (KeepsOthers.setCell _ _ _)).trans (KeepsOthers.setCell _ _ _)
  have d2:Boxed (((W.setCell ⟨w.heap.size,0,none⟩ (.slice vp vn vc)).setCell ⟨w.heap.size+1,0,none⟩ (.int .i64 l.length)).setCell ⟨w.heap.size+2,0,none⟩ (.int .i64 0)) w.heap.size 181 (.slice vp vn vc):=((c2.set _).other (by omega) _).other (by omega) _
  have d3:Boxed (((W.setCell ⟨w.heap.size,0,none⟩ (.slice vp vn vc)).setCell ⟨w.heap.size+1,0,none⟩ (.int .i64 l.length)).setCell ⟨w.heap.size+2,0,none⟩ (.int .i64 0)) (w.heap.size+1) 3 (.int .i64 l.length):=((c3.other (by omega) _).set _).other (by omega) _
  have d4:Boxed (((W.setCell ⟨w.heap.size,0,none⟩ (.slice vp vn vc)).setCell ⟨w.heap.size+1,0,none⟩ (.int .i64 l.length)).setCell ⟨w.heap.size+2,0,none⟩ (.int .i64 0)) (w.heap.size+2) 27 (.int .i64 0):=((c4.other (by omega) _).other (by omega) _).set _
  have dB:Below w.heap.size w (((W.setCell ⟨w.heap.size,0,none⟩ (.slice vp vn vc)).setCell ⟨w.heap.size+1,0,none⟩ (.int .i64 l.length)).setCell ⟨w.heap.size+2,0,none⟩ (.int .i64 0)):=((hB.setCell (p:=⟨w.heap.size,0,none⟩) (Nat.le_refl _) _).setCell (p:=⟨w.heap.size+1,0,none⟩) (Nat.le_succ _) _).setCell (p:=⟨w.heap.size+2,0,none⟩) (by show w.heap.size≤w.heap.size+2;omega) _
  have hr1:(((W.setCell ⟨w.heap.size,0,none⟩ (.slice vp vn vc)).setCell ⟨w.heap.size+1,0,none⟩ (.int .i64 l.length)).setCell ⟨w.heap.size+2,0,none⟩ (.int .i64 0)).ownsRow w.heap.size 188 3 (.slice vp vn vc) (evL l).length (evCells (evL l)):=row_set ((c4.other (by omega) (.slice vp vn vc)).other (by omega) (.int .i64 l.length)) (by decide) (row_set (c3.other (by omega) (.slice vp vn vc)) (by decide) (row_set c2 (by decide) hrow (.slice vp vn vc)) (.int .i64 l.length)) (.int .i64 0)
  have hK3:=k1.same D _ hK rfl
  obtain⟨W3,hW3⟩: ∃W3,(((W.setCell ⟨w.heap.size,0,none⟩ (.slice vp vn vc)).setCell ⟨w.heap.size+1,0,none⟩ (.int .i64 l.length)).setCell ⟨w.heap.size+2,0,none⟩ (.int .i64 0))=W3:=⟨_,rfl⟩
  rw[hW3] at d2 d3 d4 dB hr1 hK3 ⊢
  refine⟨by simp, .inl ⟨_,_,rfl,run_takeDeferred hK3,?_⟩⟩
  have hDz:w.heap.size+5≤D:=by omega
  have g2:=(d2.kept (grownBy_putObj' W3 D (.deferred none)) (by simp;omega)).cell
  have g3:=(d3.kept (grownBy_putObj' W3 D (.deferred none)) (by simp;omega)).cell
  have g4:=(d4.kept (grownBy_putObj' W3 D (.deferred none)) (by simp;omega)).cell
  have hr2:=ownsRow_putObj hr1 (.deferred none) hK3 rfl
  have dB2:Below w.heap.size w (W3.putObj D (.deferred none)):=dB.trans (belowK_b (w:=w) (Nat.le_refl _) W3 D _ _ (by omega) hK3 rfl rfl)
  refine⟨.tuple #[.slice vp vn vc, .int .i64 l.length, .int .i64 0],?_,?_⟩
  ·simp[results,Tryz.results193,go_sem,g2,g3,g4]
  ·rw[he2,evCells_map,List.length_map] at hr2
   refine⟨_,by rw[he1],hr2,fun h0=>herr.2 (by rw[he2,h0];rfl),dB2⟩
 case stop=>
  rintro D c pre W hD hpre ⟨⟨rfl,ys,x,rfl,hx,c2,c3,c4⟩,hB⟩ hK
  gi_wp2_with fail
  have hr:=ev_stop l ys x hpre hx
  refine⟨by simp, .inl ⟨_,_,rfl,run_takeDeferred hK,?_⟩⟩
  have hDz:w.heap.size+5≤D:=by omega
  have g2:=(c2.kept (grownBy_putObj' W D (.deferred none)) (by simp;omega)).cell
  have g3:=(c3.kept (grownBy_putObj' W D (.deferred none)) (by simp;omega)).cell
  have g4:=(c4.kept (grownBy_putObj' W D (.deferred none)) (by simp;omega)).cell
  have dB2:Below w.heap.size w (W.putObj D (.deferred none)):=hB.trans (belowK_b (w:=w) (Nat.le_refl _) W D _ _ (by omega) hK rfl rfl)
  refine⟨.tuple #[.slice none 0 0, .int .i64 x.2.1, .int .i64 x.2.2.2],?_,?_⟩
  ·simp[results,Tryz.results193,go_sem,g2,g3,g4]
  ·rw[hr]
   exact⟨_,rfl,World.ownsRow_nil _ _ _ _,fun _=>rfl,dB2⟩
end Go.Proofs.YtlibkhbachmcgaaGreatDoor
