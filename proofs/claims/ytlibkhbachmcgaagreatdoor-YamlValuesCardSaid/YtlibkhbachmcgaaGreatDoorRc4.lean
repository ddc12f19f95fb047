import Derived.Test.YtlibkhbachmcgaaGreatDoorRc3
import Derived.Test.YtlibkhbachmcgaaGreatDoorRc1
import Derived.Deep.DeepCutAuto
import Derived.Test.YtlibkhbachmcgaaGreatDoorProg
import Derived.Lib.AppendStr
import Derived.Lib.UnsafeStr
import Derived.Deep.AppendLies
import Derived.Laws.IdiomStrings
import Derived.Laws.BytesArg
import Derived.Laws.BitsAllLaws
namespace Go.Proofs.YtlibkhbachmcgaaGreatDoor
set_option linter.unusedSimpArgs false
set_option linter.unusedVariables false
abbrev Stp:=List UInt8
inductive VT where
 | mk (kind:Int) (text:Stp) (keys:List Stp) (items:List VT)
def VT.kind:VT→Int | .mk k _ _ _=>k
def VT.text:VT→Stp | .mk _ s _ _=>s
def VT.keys:VT→List Stp | .mk _ _ ks _=>ks
def VT.items:VT→List VT | .mk _ _ _ l=>l
theorem VT.ind {P:VT→Prop} (h: ∀k s ks l,(∀x∈l,P x)→P (.mk k s ks l)) (t:VT):P t:=by
 match t with
 | .mk k s ks l=>exact h k s ks l (fun x hx=>VT.ind h x)
termination_by SizeOf.sizeOf t
decreasing_by
 have:=List.sizeOf_lt_of_mem hx
 simp
 omega
def totS (l:List Stp):Nat:=(l.map List.length).sum
theorem totS_cons (y:Stp) (l:List Stp):totS (y::l)=y.length+totS l:=rfl
theorem totS_mem {l:List Stp}{x:Stp} (h:x∈l):x.length≤totS l:=by
 induction l with
 | nil=>cases h
 | cons y l ih=>
  rw[totS_cons]
  rcases List.mem_cons.1 h with rfl | h
  ·omega
  ·have:=ih h;omega
mutual
def VT.size:VT→Nat
 | .mk _ _ _ l=>sizes l+1
def sizes:List VT→Nat
 | []=>0
 | x::l=>x.size+sizes l
end
mutual
def VT.depth:VT→Nat
 | .mk _ _ _ l=>depths l+1
def depths:List VT→Nat
 | []=>0
 | x::l=>max x.depth (depths l)
end
mutual
def VT.bulk:VT→Nat
 | .mk _ s ks l=>s.length+(totS ks+ks.length)+bulks l+1
def bulks:List VT→Nat
 | []=>0
 | x::l=>x.bulk+bulks l
end
mutual
def everyB (p:VT→Bool):VT→Bool
 | .mk k s ks l=>p (.mk k s ks l)&&everyL p l
def everyL (p:VT→Bool):List VT→Bool
 | []=>true
 | x::l=>everyB p x&&everyL p l
end
theorem sizes_eq (l:List VT):sizes l=(l.map VT.size).sum:=by
 induction l with
 | nil=>rfl
 | cons x l ih=>rw[sizes,ih];rfl
theorem everyL_eq (p:VT→Bool) (l:List VT):everyL p l=l.all (everyB p):=by
 induction l with
 | nil=>rfl
 | cons x l ih=>rw[everyL,ih];rfl
theorem sizes_app (a b:List VT):sizes (a++b)=sizes a+sizes b:=by simp[sizes_eq]
theorem depths_app (a b:List VT):depths (a++b)=max (depths a) (depths b):=by
 induction a with
 | nil=>simp[depths]
 | cons x a ih=>rw[List.cons_append,depths,depths,ih];omega
theorem size_pos (t:VT):0<t.size:=by cases t;rw[VT.size];omega
theorem size_le_bulk (t:VT):t.size≤t.bulk:=by
 induction t using VT.ind with
 | h k s ks l ih=>
  rw[VT.size,VT.bulk]
  have:sizes l≤bulks l:=by
   clear k s ks
   induction l with
   | nil=>exact Nat.le_refl _
   | cons x l ihl=>
    rw[sizes,bulks]
    have h1:=ih x List.mem_cons_self
    have h2:=ihl (fun y hy=>ih y (List.mem_cons_of_mem _ hy))
    omega
  omega
theorem sizes_le_bulks (l:List VT):sizes l≤bulks l:=by
 induction l with
 | nil=>exact Nat.le_refl _
 | cons x l ih=>rw[sizes,bulks];have:=size_le_bulk x;omega
theorem depth_le_size (t:VT):t.depth≤t.size:=by
 induction t using VT.ind with
 | h k s ks l ih=>
  rw[VT.size,VT.depth]
  have:depths l≤sizes l:=by
   clear k s ks
   induction l with
   | nil=>exact Nat.le_refl _
   | cons x l ihl=>
    rw[sizes,depths]
    have h1:=ih x List.mem_cons_self
    have h2:=ihl (fun y hy=>ih y (List.mem_cons_of_mem _ hy))
    omega
  omega
theorem depths_le_bulks (l:List VT):depths l≤bulks l:=by
 induction l with
 | nil=>exact Nat.le_refl _
 | cons x l ih=>rw[depths,bulks];have:=depth_le_size x;have:=size_le_bulk x;omega
theorem len_le_bulks (l:List VT):l.length≤bulks l:=by
 induction l with
 | nil=>exact Nat.le_refl _
 | cons x l ih=>rw[bulks,List.length_cons];have:=size_pos x;have:=size_le_bulk x;omega
theorem bulk_mem {l:List VT}{x:VT} (h:x∈l):x.bulk≤bulks l:=by
 induction l with
 | nil=>cases h
 | cons y l ih=>
  rw[bulks]
  rcases List.mem_cons.1 h with rfl | h
  ·omega
  ·have:=ih h;omega
theorem depth_mem {l:List VT}{x:VT} (h:x∈l):x.depth≤depths l:=by
 induction l with
 | nil=>cases h
 | cons y l ih=>
  rw[depths]
  rcases List.mem_cons.1 h with rfl | h
  ·omega
  ·have:=ih h;omega
end Go.Proofs.YtlibkhbachmcgaaGreatDoor
namespace Go.Proofs.YtlibkhbachmcgaaGreatDoor
set_option linter.unusedSimpArgs false
set_option linter.unusedVariables false
open Go.RowKit
def SLies (w:World) (p:Option Addr) (l:List Stp):Prop:=l= []∨ ∃g o,p=some ⟨g,o,none⟩∧g<w.heap.size∧ ∀(j:Nat) (x:Stp),l[j]?=some x→w.cell? ⟨g,o+j,none⟩=some (.string (bs x))
theorem SLies.keep {w w':World}{p:Option Addr}{l:List Stp} (h:SLies w p l) (hb:Below w.heap.size w w'):SLies w' p l:=by
 rcases h with h | ⟨g,o,h2,h3,h4⟩
 ·exact .inl h
 ·exact .inr ⟨g,o,h2,Nat.lt_of_lt_of_le h3 hb.size,fun j x hx=>by rw[hb.cell (p:=⟨g,o+j,none⟩) h3];exact h4 j x hx⟩
theorem SLies.at_ {w:World}{p:Option Addr}{l:List Stp} (h:SLies w p l) {j:Nat}{x:Stp} (hx:l[j]?=some x): ∃g o,p=some ⟨g,o,none⟩∧w.cell? ⟨g,o+j,none⟩=some (.string (bs x)):=by
 rcases h with h | ⟨g,o,h2,h3,h4⟩
 ·rw[h] at hx;simp at hx
 ·exact⟨g,o,h2,h4 j x hx⟩
def SV (w:World) (v:Value) (l:List Stp):Prop:= ∃p c,v= .slice p l.length c∧l.length≤c∧SLies w p l
theorem SV.keep {w w':World}{v:Value}{l:List Stp} (h:SV w v l) (hb:Below w.heap.size w w'):SV w' v l:=by
 obtain⟨p,c,h1,h2,h3⟩:=h
 exact⟨p,c,h1,h2,h3.keep hb⟩
def VD (w:World):Nat→VT→Value→Value→Prop
 | 0,_,_,_=>False
 | n+1,t,kv,iv=>SV w kv t.keys∧ ∃p c,iv= .slice p t.items.length c∧t.items.length≤c∧(t.items= []∨ ∃g o,p=some ⟨g,o,none⟩∧g<w.heap.size∧ ∀(j:Nat) (x:VT),t.items[j]?=some x→ ∃kv' iv',w.cell? ⟨g,o+j*4,none⟩=some (.int .i64 x.kind)∧w.cell? ⟨g,o+j*4+1,none⟩=some (.string (bs x.text))∧w.cell? ⟨g,o+j*4+2,none⟩=some kv'∧w.cell? ⟨g,o+j*4+3,none⟩=some iv'∧VD w n x kv' iv')
def vv (t:VT) (kv iv:Value):Value:= .agg #[.int .i64 t.kind, .string (bs t.text),kv,iv]
theorem VD.keep {w w':World} (hb:Below w.heap.size w w'): ∀ {n:Nat}{t:VT}{kv iv:Value},VD w n t kv iv→VD w' n t kv iv
 | 0,_,_,_,h=>h
 | n+1,t,kv,iv,h=>by
  obtain⟨h1,p,c,h2,h3,h4⟩:=h
  refine⟨h1.keep hb,p,c,h2,h3,?_⟩
  rcases h4 with h4 | ⟨g,o,h4,h5,h6⟩
  ·exact .inl h4
  ·refine .inr ⟨g,o,h4,Nat.lt_of_lt_of_le h5 hb.size,fun j x hx=>?_⟩
   obtain⟨kv',iv',e0,e1,e2,e3,e4⟩:=h6 j x hx
   exact⟨kv',iv',by rw[hb.cell (p:=⟨g,_,none⟩) h5];exact e0,by rw[hb.cell (p:=⟨g,_,none⟩) h5];exact e1,by rw[hb.cell (p:=⟨g,_,none⟩) h5];exact e2,by rw[hb.cell (p:=⟨g,_,none⟩) h5];exact e3,VD.keep hb e4⟩
def Items (w:World) (m:Nat) (p:Option Addr) (l:List VT):Prop:= ∀(j:Nat) (x:VT),l[j]?=some x→ ∃g o kv' iv',p=some ⟨g,o,none⟩∧g<w.heap.size∧w.cell? ⟨g,o+j*4,none⟩=some (.int .i64 x.kind)∧w.cell? ⟨g,o+j*4+1,none⟩=some (.string (bs x.text))∧w.cell? ⟨g,o+j*4+2,none⟩=some kv'∧w.cell? ⟨g,o+j*4+3,none⟩=some iv'∧VD w m x kv' iv'
theorem Items.keep {w w':World}{m:Nat}{p:Option Addr}{l:List VT} (h:Items w m p l) (hb:Below w.heap.size w w'):Items w' m p l:=by
 intro j x hx
 obtain⟨g,o,kv,iv,e0,e1,e2,e3,e4,e5,e6⟩:=h j x hx
 exact⟨g,o,kv,iv,e0,Nat.lt_of_lt_of_le e1 hb.size,by rw[hb.cell (p:=⟨g,_,none⟩) e1];exact e2,by rw[hb.cell (p:=⟨g,_,none⟩) e1];exact e3,by rw[hb.cell (p:=⟨g,_,none⟩) e1];exact e4,by rw[hb.cell (p:=⟨g,_,none⟩) e1];exact e5,e6.keep hb⟩
theorem VD.parts {w:World}{n:Nat}{t:VT}{kv iv:Value} (h:VD w n t kv iv): ∃m,n=m+1∧SV w kv t.keys∧ ∃p c,iv= .slice p t.items.length c∧t.items.length≤c∧Items w m p t.items:=by
 cases n with
 | zero=>exact h.elim
 | succ m=>
  obtain⟨h1,p,c,h2,h3,h4⟩:=h
  refine⟨m,rfl,h1,p,c,h2,h3,fun j x hx=>?_⟩
  rcases h4 with h4 | ⟨g,o,h4,h5,h6⟩
  ·rw[h4] at hx;simp at hx
  ·obtain⟨kv',iv',e⟩:=h6 j x hx
   exact⟨g,o,kv',iv',h4,h5,e⟩
theorem VD.form {w:World}{n:Nat}{t:VT}{kv iv:Value} (h:VD w n t kv iv): ∃pk ck p c,kv= .slice pk t.keys.length ck∧iv= .slice p t.items.length c:=by
 obtain⟨_,_,⟨pk,ck,h1,_,_⟩,p,c,h2,_,_⟩:=h.parts
 exact⟨pk,ck,p,c,h1,h2⟩
def VBox (w:World) (b:Nat) (t:VT) (kv iv:Value):Prop:=w.heap[b]?=some (.cells #[.int .i64 t.kind, .string (bs t.text),kv,iv] 36)
theorem VBox.new (w:World) (t:VT) (kv iv:Value):VBox (w.alloc (.cells #[.int .i64 t.kind, .string (bs t.text),kv,iv] 36)) w.heap.size t kv iv:=heap_alloc_new w _
theorem VBox.keep {w w':World}{b:Nat}{t:VT}{kv iv:Value} (h:VBox w b t kv iv) (hb:Below w.heap.size w w'):VBox w' b t kv iv:=by
 unfold VBox at h
 exact(hb.block _ (cell_it h)).trans h
theorem VBox.cells {w:World}{b:Nat}{t:VT}{kv iv:Value} (h:VBox w b t kv iv):w.cell? ⟨b,0,none⟩=some (.int .i64 t.kind)∧w.cell? ⟨b,1,none⟩=some (.string (bs t.text))∧w.cell? ⟨b,2,none⟩=some kv∧w.cell? ⟨b,3,none⟩=some iv:=by
 unfold VBox at h
 refine⟨?_,?_,?_,?_⟩<;>simp[World.cell?,h]
theorem take_one {α:Type}{l:List α}{k:Nat}{x:α} (h:l[k]?=some x):l.take (k+1)=l.take k++ [x]:=by
 rw[List.take_add_one,h];rfl
theorem vsize_any: ∀(n:Nat) (t:VT) (kv iv:Value) (w:World),VD w n t kv iv→t.bulk≤1099511627776→
  Calls Tryz.prog 22 #[vv t kv iv] w fun e w'=>e= .returned (.int .i64 (t.size:Int))∧Below w.heap.size w w':=by
 intro n
 induction n with
 | zero=>intro t kv iv w h;exact h.elim
 | succ m ih=>
  intro t kv iv w h hbk
  obtain⟨m',hm,hsv,p,c,rfl,hlc,hit⟩:=h.parts
  obtain rfl:m=m':=by omega
  obtain⟨k,s,ks,l⟩:=t
  obtain⟨R,hR⟩: ∃R,(VT.mk k s ks l).size=R:=⟨_,rfl⟩
  rw[hR]
  rw[VT.size] at hR
  simp only[VT.items] at hlc hit
  have hbl:bulks l≤1099511627776:=by rw[VT.bulk] at hbk;omega
  have hll:l.length≤1099511627776:=Nat.le_trans (len_le_bulks l) hbl
  have HR:=hid hR
  have HIT:=hid hit
  have HIH:=hid ih
  clear hR hit ih h hsv hm hbk
  unfold vv
  simp only[VT.kind,VT.text,VT.items]
  go_enter Tryz.func22,Tryz.ntmps22
  go_wp2_with fail
  go_loopw [3,9] (fun s3 s9 wr=> ∃(i:Nat),s3= .int .i64 ((sizes (l.take i)+1:Nat):Int)∧s9= .int .i64 (i:Int)∧i≤l.length∧Hid (Below w.heap.size w wr)) (fun _ s9 _=>l.length-(RowKit.intOf s9).toNat)
  case atStart=>exact⟨0,rfl,rfl,Nat.zero_le _,hid (below_alloc1 w _)⟩
  case round=>
   obtain⟨i,rfl,rfl,hi,HBr⟩:=hrel
   by_cases hil:i<l.length
   ·obtain⟨x,hx⟩: ∃x,l[i]?=some x:=⟨_,List.getElem?_eq_getElem hil⟩
    obtain⟨g,o,kv',iv',rfl,hg,n0,n1,n2,n3,hvd⟩:=HIT.out.keep HBr.out i x hx
    obtain⟨pk,ck,px,cx,rfl,rfl⟩:=hvd.form
    have hxb:=Nat.le_trans (bulk_mem (List.mem_of_getElem? hx)) hbl
    have hi1:(i:Int)<(l.length:Int):=by omega
    have dk:decide ((i:Int)<(l.length:Int))=true:=decide_eq_true hi1
    have hsz:sizes (l.take i)+1+x.size=sizes (l.take (i+1))+1:=by rw[take_one hx,sizes_app,sizes,sizes];omega
    have hbd:sizes (l.take (i+1))≤bulks l:=by
     have h1:sizes (l.take (i+1))≤sizes l:=by
      have:=sizes_app (l.take (i+1)) (l.drop (i+1))
      rw[List.take_append_drop] at this
      omega
     exact Nat.le_trans h1 (sizes_le_bulks l)
    have HX:=hid hx
    have HVD:=hid hvd
    have HSZ:=hid hsz
    have HBd:=hid hbd
    clear hx hvd hsz hbd
    go_upto_region 5 with fail
    have HB5:=hid (below_alloc1 wr (.cells #[.int .i64 x.kind, .string (bs x.text), .slice pk x.keys.length ck, .slice px x.items.length cx] 36))
    have HC:=hid (HIH.out x _ _ (wr.alloc (.cells #[.int .i64 x.kind, .string (bs x.text), .slice pk x.keys.length ck, .slice px x.items.length cx] 36)) (HVD.out.keep HB5.out) hxb)
    unfold vv at HC
    go_wp2_with fail
    refine HC.out.mono ?_
    rintro e w2 ⟨rfl,hb2⟩
    have HB6:=hid (below_of_new HBr.out (below_of_new HB5.out hb2))
    have hbd:=HBd.out
    have hsz:=HSZ.out
    have hszz:((sizes (l.take i)+1:Nat):Int)+(x.size:Int)=((sizes (l.take (i+1))+1:Nat):Int):=by omega
    clear hb2
    go_wp2_with fail
    go_roundw
    ·exact⟨i+1,by congr 1<;>omega,rfl,hil,HB6⟩
    ·simp only[RowKit.intOf]
     omega
   ·have dk:decide ((i:Int)<(l.length:Int))=false:=decide_eq_false (by omega)
    obtain rfl:i=l.length:=by omega
    rw[List.take_length]
    have hdl:depths l≤1099511627776:=Nat.le_trans (depths_le_bulks l) hbl
    go_wp2_with fail
    go_ret
    exact⟨by rw[←HR.out];first | rfl | simp,HBr.out⟩
theorem vdepth_any: ∀(n:Nat) (t:VT) (kv iv:Value) (w:World),VD w n t kv iv→t.bulk≤1099511627776→
  Calls Tryz.prog 77 #[vv t kv iv] w fun e w'=>e= .returned (.int .i64 (t.depth:Int))∧Below w.heap.size w w':=by
 intro n
 induction n with
 | zero=>intro t kv iv w h;exact h.elim
 | succ m ih=>
  intro t kv iv w h hbk
  obtain⟨m',hm,hsv,p,c,rfl,hlc,hit⟩:=h.parts
  obtain rfl:m=m':=by omega
  obtain⟨k,s,ks,l⟩:=t
  obtain⟨R,hR⟩: ∃R,(VT.mk k s ks l).depth=R:=⟨_,rfl⟩
  rw[hR]
  rw[VT.depth] at hR
  simp only[VT.items] at hlc hit
  have hbl:bulks l≤1099511627776:=by rw[VT.bulk] at hbk;omega
  have hll:l.length≤1099511627776:=Nat.le_trans (len_le_bulks l) hbl
  have HR:=hid hR
  have HIT:=hid hit
  have HIH:=hid ih
  clear hR hit ih h hsv hm hbk
  unfold vv
  simp only[VT.kind,VT.text,VT.items]
  go_enter Tryz.func77,Tryz.ntmps77
  go_wp2_with fail
  go_loopw [3,9] (fun s3 s9 wr=> ∃(i:Nat),s3= .int .i64 ((depths (l.take i):Nat):Int)∧s9= .int .i64 (i:Int)∧i≤l.length∧Hid (Below w.heap.size w wr)) (fun _ s9 _=>l.length-(RowKit.intOf s9).toNat)
  case atStart=>exact⟨0,rfl,rfl,Nat.zero_le _,hid (below_alloc1 w _)⟩
  case round=>
   obtain⟨i,rfl,rfl,hi,HBr⟩:=hrel
   by_cases hil:i<l.length
   ·obtain⟨x,hx⟩: ∃x,l[i]?=some x:=⟨_,List.getElem?_eq_getElem hil⟩
    obtain⟨g,o,kv',iv',rfl,hg,n0,n1,n2,n3,hvd⟩:=HIT.out.keep HBr.out i x hx
    obtain⟨pk,ck,px,cx,rfl,rfl⟩:=hvd.form
    have hxb:=Nat.le_trans (bulk_mem (List.mem_of_getElem? hx)) hbl
    have hi1:(i:Int)<(l.length:Int):=by omega
    have dk:decide ((i:Int)<(l.length:Int))=true:=decide_eq_true hi1
    have hsz:max (depths (l.take i)) x.depth=depths (l.take (i+1)):=by rw[take_one hx,depths_app,depths,depths];omega
    have hbd:depths (l.take (i+1))≤bulks l:=by
     have h1:depths (l.take (i+1))≤depths l:=by
      have:=depths_app (l.take (i+1)) (l.drop (i+1))
      rw[List.take_append_drop] at this
      omega
     exact Nat.le_trans h1 (depths_le_bulks l)
    have HX:=hid hx
    have HVD:=hid hvd
    have HSZ:=hid hsz
    have HBd:=hid hbd
    clear hx hvd hsz hbd
    go_upto_region 5 with fail
    have HB5:=hid (below_alloc1 wr (.cells #[.int .i64 x.kind, .string (bs x.text), .slice pk x.keys.length ck, .slice px x.items.length cx] 36))
    have HC:=hid (HIH.out x _ _ (wr.alloc (.cells #[.int .i64 x.kind, .string (bs x.text), .slice pk x.keys.length ck, .slice px x.items.length cx] 36)) (HVD.out.keep HB5.out) hxb)
    unfold vv at HC
    go_wp2_with fail
    refine HC.out.mono ?_
    rintro e w2 ⟨rfl,hb2⟩
    have HB6:=hid (below_of_new HBr.out (below_of_new HB5.out hb2))
    have hbd:=HBd.out
    have hsz:=HSZ.out
    have hszz:max ((depths (l.take i):Nat):Int) (x.depth:Int)=((depths (l.take (i+1)):Nat):Int):=by omega
    clear hb2
    go_wp2_with fail
    go_roundw
    ·exact⟨i+1,by congr 1<;>omega,rfl,hil,HB6⟩
    ·simp only[RowKit.intOf]
     omega
   ·have dk:decide ((i:Int)<(l.length:Int))=false:=decide_eq_false (by omega)
    obtain rfl:i=l.length:=by omega
    rw[List.take_length]
    have hdl:depths l≤1099511627776:=Nat.le_trans (depths_le_bulks l) hbl
    go_wp2_with fail
    go_ret
    exact⟨by rw[←HR.out];first | rfl | simp,HBr.out⟩
end Go.Proofs.YtlibkhbachmcgaaGreatDoor
namespace Go.Proofs.YtlibkhbachmcgaaGreatDoor
set_option linter.unusedSimpArgs false
set_option linter.unusedVariables false
open Go.Lib
def slT (txt:List UInt8) (s:Sp):Stp:=if s.2<s.1∨txt.length<s.2 then [] else(txt.take s.2).drop s.1
def textV (k:Nat) (s:Stp):Stp:=if k=2 then s else if k=3 then textL (parseL s).1 else if k=4 then(unqL s).1 else []
def keyV (txt:List UInt8) (ns:List NodeD) (k:Nat):Stp:=match ns[k]? with
 | some x=>(unqL (slT txt x.key)).1
 | none=> []
def nodeV (txt:List UInt8) (ns:List NodeD):Nat→Nat→VT
 | 0,_=> .mk 0 [] [] []
 | f+1,k=>match ns[k]? with
  | none=> .mk 0 [] [] []
  | some x=> .mk (x.kind:Int) (textV x.kind (slT txt (x.sf,x.st))) (if x.kind=6 then x.kids.map (keyV txt ns) else []) (x.kids.map (nodeV txt ns f))
def KidsOk (P:Nat→Nat→Prop):List Nat→Nat→Nat→Prop
 | [],a,hi=>a=hi
 | kid::l,a,hi=>kid=a∧ ∃m,P kid m∧KidsOk P l m hi
theorem KidsOk.snoc {P:Nat→Nat→Prop}{hi:Nat}: ∀ {l:List Nat}{a k:Nat},KidsOk P l a k→P k hi→KidsOk P (l++ [k]) a hi
 | [],a,k,h,hp=>by
  have e:a=k:=h
  exact⟨e.symm,hi,hp,rfl⟩
 | x::l,a,k,h,hp=>by
  obtain⟨h1,m,h2,h3⟩:=h
  exact⟨h1,m,h2,h3.snoc hp⟩
def TOk (ns:List NodeD):Nat→Nat→Nat→Prop
 | 0,_,_=>False
 | lv+1,k,hi=> ∃x,ns[k]?=some x∧KidsOk (TOk ns lv) x.kids (k+1) hi
theorem KidsOk.imp {P Q:Nat→Nat→Prop} (hi:Nat) (hlt: ∀k m,P k m→k<m): ∀ {l:List Nat}{a:Nat},KidsOk P l a hi→(∀k m,a≤k→m≤hi→P k m→Q k m)→KidsOk Q l a hi
 | [],a,h,_=>h
 | x::l,a,h,hq=>by
  obtain⟨rfl,m,h2,h3⟩:=h
  have hle: ∀ {l:List Nat}{a:Nat},KidsOk P l a hi→a≤hi:=by
   intro l
   induction l with
   | nil=>intro a h;exact Nat.le_of_eq h
   | cons y l ih=>
    intro a h
    obtain⟨rfl,m,h2,h3⟩:=h
    have:=ih h3
    have:=hlt _ _ h2
    omega
  have h4:=hlt _ _ h2
  exact⟨rfl,m,hq _ _ (Nat.le_refl _) (hle h3) h2,h3.imp hi hlt (fun k m' h5 h6 h7=>hq k m' (by omega) h6 h7)⟩
theorem TOk.lt {ns:List NodeD}: ∀ {lv k hi:Nat},TOk ns lv k hi→k<hi
 | lv+1,k,hi,h=>by
  obtain⟨x,hx,h2⟩:=h
  have: ∀(l:List Nat) (a:Nat),KidsOk (TOk ns lv) l a hi→a≤hi:=by
   intro l
   induction l with
   | nil=>intro a h;exact Nat.le_of_eq h
   | cons y l ih=>
    intro a h
    obtain⟨rfl,m,h2,h3⟩:=h
    have:=ih m h3
    have:=TOk.lt h2
    omega
  have:=this _ _ h2
  omega
theorem TOk.mono {ns ns':List NodeD}: ∀ {lv k hi:Nat},TOk ns lv k hi→(∀j y,k≤j→j<hi→ns[j]?=some y→ ∃y',ns'[j]?=some y'∧y'.kids=y.kids)→TOk ns' lv k hi
 | lv+1,k,hi,h,hs=>by
  have hlt:=h.lt
  obtain⟨x,hx,h2⟩:=h
  obtain⟨x',hx',hk⟩:=hs k x (Nat.le_refl _) hlt hx
  refine⟨x',hx',?_⟩
  rw[hk]
  exact h2.imp hi (fun _ _=>TOk.lt) (fun a m h3 h4 h5=>h5.mono (fun j y h6 h7=>hs j y (by omega) (by omega)))
def VT2 (lv:Nat) (V:VF):Prop:= ∀rest last nodes key r l ns,V rest last nodes key= .ok r l ns→TOk ns lv nodes.length ns.length
theorem kid_tok {txt:List UInt8}{V:VF}{lv:Nat} (hV:VT2 lv V) {obj:Bool}{had had':List (List UInt8)}{rest r:List Tok}{last l:Sp}{nodes ns:List NodeD} (h:kidM txt V obj had rest last nodes=(.ok r l ns,had')):TOk ns lv nodes.length ns.length:=by
 unfold kidM at h
 split at h
 ·injection h with h _
  exact hV _ _ _ _ _ _ _ h
 ·split at h
  ·injection h with h _;cases h
  ·split at h
   ·injection h with h _;cases h
   ·split at h
    ·injection h with h _;cases h
    ·split at h
     ·injection h with h _;cases h
     ·split at h
      ·injection h with h _;cases h
      ·injection h with h _
       exact hV _ _ _ _ _ _ _ h
theorem loop_tok {txt:List UInt8}{V:VF}{lv:Nat} (hV:VT2 lv V) (hE:Ext V) {closing:Nat}{obj:Bool}{pre:List NodeD}: ∀(f:Nat) {had:List (List UInt8)}{rest:List Tok}{last:Sp}{nodes:List NodeD}{r:List Tok}{l:Sp}{ns:List NodeD}{x:NodeD}{post:List NodeD},
  Mid pre x post nodes→KidsOk (TOk nodes lv) x.kids (pre.length+1) nodes.length→loopM txt V closing obj pre.length f had rest last nodes= .ok r l ns→ ∃x' post',Mid pre x' post' ns∧KidsOk (TOk ns lv) x'.kids (pre.length+1) ns.length
 | 0,_,_,_,_,_,_,_,_,_,_,_,h=>by cases h
 | f +1,had,rest,last,nodes,r,l,ns,x,post,hm,hK,h=>by
  unfold loopM at h
  split at h
  ·cases h
  ·rename_i r1 l1 ns1 had1 hk
   have ht:=kid_tok hV hk
   obtain⟨more,rfl,h2,h3,⟨kk,h4⟩,h5⟩:=kid_ext hE hk
   split at h
   ·cases h
   ·rename_i t r'
    have hm2:=hm.add h5 h2 nodes.length (last.2,t.sf)
    have hst: ∀j y,pre.length+1≤j→(nodes++more)[j]?=some y→ ∃y',(addKid pre.length nodes.length (last.2,t.sf) (nodes++more))[j]?=some y'∧y'.kids=y.kids:=by
     intro j y hj hy
     unfold addKid
     rw[modN_at,if_neg (by omega)]
     exact⟨y,hy,rfl⟩
    have hml:=mid_len hm
    have hK2:KidsOk (TOk (addKid pre.length nodes.length (last.2,t.sf) (nodes++more)) lv) (x.kids++ [nodes.length]) (pre.length+1) (addKid pre.length nodes.length (last.2,t.sf) (nodes++more)).length:=by
     have hlen:(addKid pre.length nodes.length (last.2,t.sf) (nodes++more)).length=(nodes++more).length:=modN_len _ _ _
     rw[hlen]
     refine KidsOk.snoc (hK.imp _ (fun _ _=>TOk.lt) (fun k m h6 h7 h8=>h8.mono (fun j y h9 h10 h11=>?_))) (ht.mono (fun j y h9 h10 h11=>hst j y (by omega) h11))
     exact hst j y (by omega) (by rw[List.getElem?_append_left (by omega)];exact h11)
    split at h
    ·injection h with e1 e2 e3
     subst e3
     exact⟨_,_,hm2,hK2⟩
    ·split at h
     ·exact loop_tok hV hE f hm2 hK2 h
     ·cases h
theorem kids_tok {txt:List UInt8}{V:VF}{lv:Nat} (hV:VT2 lv V) (hE:Ext V) {closing:Nat}{obj:Bool}{pre:List NodeD}{rest:List Tok}{last:Sp}{nodes:List NodeD}{r:List Tok}{l:Sp}{ns:List NodeD}{x:NodeD}{post:List NodeD}
  (hm:Mid pre x post nodes) (hK:KidsOk (TOk nodes lv) x.kids (pre.length+1) nodes.length) (h:kidsM txt V closing obj pre.length rest last nodes= .ok r l ns): ∃x' post',Mid pre x' post' ns∧KidsOk (TOk ns lv) x'.kids (pre.length+1) ns.length:=by
 unfold kidsM at h
 split at h
 ·exact loop_tok hV hE _ hm hK h
 ·split at h
  ·injection h with h1 h2 h3
   subst h3
   exact⟨x,post,hm,hK⟩
  ·exact loop_tok hV hE _ hm hK h
theorem value_tok (txt:List UInt8): ∀lv,VT2 lv (valueM txt lv)
 | 0=>fun rest last nodes key r l ns h=>by
  unfold valueM at h
  split at h<;>cases h
 | lv +1=>fun rest last nodes key r l ns h=>by
  have ih:=value_tok txt lv
  have ie:=value_ext txt lv
  cases rest with
  | nil=>
   unfold valueM at h
   rw[if_pos (show kindOfT (kindT [])=0 from rfl)] at h
   cases h
  | cons t q=>
   unfold valueM at h
   split at h
   ·cases h
   ·split at h
    ·cases h
    ·simp only[] at h
     obtain⟨ns',h1,rfl⟩:=endM_ok h
     have hm0:Mid nodes ⟨kindOfT t.kind,t.sf,t.st,key,[],[]⟩ [] (nodes++ [⟨kindOfT t.kind,t.sf,t.st,key,[],[]⟩]):=⟨rfl,Nat.le_refl _,Nat.le_refl _,fun y hy=>by cases hy⟩
     have hK0:KidsOk (TOk (nodes++ [(⟨kindOfT t.kind,t.sf,t.st,key,[],[]⟩:NodeD)]) lv) ([]:List Nat) (nodes.length+1) (nodes++ [(⟨kindOfT t.kind,t.sf,t.st,key,[],[]⟩:NodeD)]).length:=by
      show nodes.length+1=_
      rw[List.length_append,List.length_singleton]
     have fin: ∀ {x':NodeD}{post':List NodeD},Mid nodes x' post' ns'→KidsOk (TOk ns' lv) x'.kids (nodes.length+1) ns'.length→TOk (setTo nodes.length l.2 ns') (lv+1) nodes.length (setTo nodes.length l.2 ns').length:=by
      intro x' post' hm hk
      have hlen:(setTo nodes.length l.2 ns').length=ns'.length:=modN_len _ _ _
      have hxa:=mid_at hm
      refine⟨{ x' with st:=l.2 },?_,?_⟩
      ·unfold setTo
       rw[modN_at,if_pos rfl,hxa]
       rfl
      ·rw[hlen]
       refine hk.imp _ (fun _ _=>TOk.lt) (fun k m h6 h7 h8=>h8.mono (fun j y h9 h10 h11=>?_))
       refine⟨y,?_,rfl⟩
       unfold setTo
       rw[modN_at,if_neg (by omega)]
       exact h11
     split at h1
     ·obtain⟨x',post',i1,i2⟩:=kids_tok ih ie hm0 hK0 h1
      exact fin i1 i2
     ·split at h1
      ·obtain⟨x',post',i1,i2⟩:=kids_tok ih ie hm0 hK0 h1
       exact fin i1 i2
      ·injection h1 with h2 h3 h4
       subst h4
       exact fin hm0 hK0
theorem parse_tree {s:List UInt8}{ns:List NodeD}{n:Int} (h:parseJ s=(ns,n,0)):TOk ns 32 0 ns.length:=by
 obtain⟨hs,T,l,ns',hT,hv,hp⟩:=parse_ok (s:=s) (by rw[h])
 rw[h] at hp
 injection hp with e1 e2
 subst e1
 exact value_tok s 32 _ _ _ _ _ _ _ hv
theorem KidsOk.mem {P:Nat→Nat→Prop}{hi:Nat}: ∀ {l:List Nat}{a:Nat},KidsOk P l a hi→ ∀k∈l,∃m,P k m
 | [],_,_,k,hk=>by cases hk
 | x::l,a,h,k,hk=>by
  obtain⟨rfl,m,h2,h3⟩:=h
  rcases List.mem_cons.1 hk with rfl | hk
  ·exact⟨m,h2⟩
  ·exact h3.mem k hk
theorem TOk.kid {ns:List NodeD}{lv k hi:Nat} (h:TOk ns (lv+1) k hi) {x:NodeD} (hx:ns[k]?=some x) {q:Nat} (hq:q∈x.kids):(∃m,TOk ns lv q m)∧q<ns.length:=by
 obtain⟨x',hx',h2⟩:=h
 rw[hx] at hx'
 injection hx' with e
 subst e
 obtain⟨m,hm⟩:=h2.mem q hq
 refine⟨⟨m,hm⟩,?_⟩
 cases lv with
 | zero=>exact hm.elim
 | succ lv=>
  obtain⟨y,hy,_⟩:=hm
  exact(List.getElem?_eq_some_iff.1 hy).1
theorem nodeV_size {txt:List UInt8}{ns:List NodeD}: ∀ {lv k hi:Nat},TOk ns lv k hi→(nodeV txt ns lv k).size=hi-k∧(nodeV txt ns lv k).depth≤lv
 | lv+1,k,hi,h=>by
  have hlt:=h.lt
  obtain⟨x,hx,h2⟩:=h
  rw[nodeV,hx]
  simp only[]
  rw[VT.size,VT.depth]
  have: ∀(l:List Nat) (a:Nat),KidsOk (TOk ns lv) l a hi→sizes (l.map (nodeV txt ns lv))=hi-a∧a≤hi∧depths (l.map (nodeV txt ns lv))≤lv:=by
   intro l
   induction l with
   | nil=>intro a h;have e:a=hi:=h;subst e;simp[sizes,depths]
   | cons y l ih=>
    intro a h
    obtain⟨rfl,m',h2,h3⟩:=h
    obtain⟨i1,i2⟩:=nodeV_size (txt:=txt) h2
    have i3:=h2.lt
    obtain⟨j1,j2,j3⟩:=ih _ h3
    rw[List.map_cons,sizes,depths,i1,j1]
    omega
  obtain⟨a,b,c⟩:=this _ _ h2
  omega
end Go.Proofs.YtlibkhbachmcgaaGreatDoor
namespace Go.Proofs.YtlibkhbachmcgaaGreatDoor
set_option linter.unusedSimpArgs false
set_option linter.unusedVariables false
open Go.RowKit
open Go.Lib hiding intOf
def DTab (w:World):Prop:=w.cell? ⟨7,15,none⟩=some (.int .u8 4)
theorem DTab.keep {w w':World} (h:DTab w) (hb:Below w.heap.size w w'):DTab w':=by
 unfold DTab at h ⊢
 rw[hb.cell (p:=⟨_,_,none⟩) (cell_lt h),h]
theorem grown_bel {A B:World} (h:Below A.heap.size A B):A.grownBy B none:=⟨h.os,h.tape,h.output,h.size,fun i hi _=>h.block i hi⟩
theorem owns_below {B size:Nat}{e:TypeId}{A W:World}{v:Value}{n:Nat}{xs:List Value} (h:A.ownsRow B e size v n xs) (hb:Below A.heap.size A W):W.ownsRow B e size v n xs:=
 h.kept (grown_bel hb) (by cases h:v.ownBlock with
  | none=>exact .inl rfl
  | some k=>exact .inr (by simp))
theorem own_ne {w:World}{B1 B2:Nat}{e1 e2:TypeId}{s1 s2:Nat}{v1 v2:Value}{n1 n2:Nat}{x1 x2:List Value} (h1:w.ownsRow B1 e1 s1 v1 n1 x1) (h2:w.ownsRow B2 e2 s2 v2 n2 x2) (he:e1≠e2):v1.ownBlock=none∨v1.ownBlock≠v2.ownBlock:=by
 rcases h1.2 with⟨rfl,_⟩ | ⟨g,cap,cur,rfl,_,hg,_⟩
 ·exact .inl rfl
 ·right
  rcases h2.2 with⟨rfl,_⟩ | ⟨g2,cap2,cur2,rfl,_,hg2,_⟩
  ·intro h;cases h
  ·intro h
   have hgg:g=g2:=Option.some.inj h
   subst hgg
   rw[hg] at hg2
   injection hg2 with hg2
   injection hg2 with _ hg2
   exact he hg2
theorem own_off {w:World}{B:Nat}{e t:TypeId}{s:Nat}{v:Value}{n:Nat}{xs:List Value}{X:Nat}{cs:Array Value}{fz:Nat×Nat} (h:w.ownsRow B e s v n xs) (hX:w.heap[X]?=some (.cells cs t fz)) (he:e≠t):v.ownBlock=none∨v.ownBlock≠some X:=by
 rcases h.2 with⟨rfl,_⟩ | ⟨g,cap,cur,rfl,_,hg,_⟩
 ·exact .inl rfl
 ·refine .inr fun hh=>?_
  have hgg:g=X:=Option.some.inj hh
  subst hgg
  rw[hg] at hX
  injection hX with hX
  injection hX with _ hX
  exact he hX
def JBox (w:World) (P:Nat) (txt:List UInt8) (rv:Value) (l:Sp) (nv:Value) (a:Nat) (er:Int):Prop:=
 w.heap[P]?=some (.cells #[.string (bs txt),rv, .int .i64 l.1, .int .i64 l.2,nv, .int .i64 a, .int .i64 er] 210 (0,0))
abbrev JCells (w:World) (P:Nat) (txt:List UInt8) (rv:Value) (l:Sp) (nv:Value) (a:Nat) (er:Int):Prop:=
 w.cell? ⟨P,0,none⟩=some (.string (bs txt))∧w.cell? ⟨P,1,none⟩=some rv∧w.cell? ⟨P,2,none⟩=some (.int .i64 l.1)∧w.cell? ⟨P,3,none⟩=some (.int .i64 l.2)∧w.cell? ⟨P,4,none⟩=some nv∧
 w.cell? ⟨P,5,none⟩=some (.int .i64 a)∧w.cell? ⟨P,6,none⟩=some (.int .i64 er)∧
 w.frozen? ⟨P,1,none⟩=false∧w.frozen? ⟨P,2,none⟩=false∧w.frozen? ⟨P,3,none⟩=false∧w.frozen? ⟨P,4,none⟩=false∧w.frozen? ⟨P,5,none⟩=false∧w.frozen? ⟨P,6,none⟩=false
section
variable {w w':World}{P:Nat}{txt:List UInt8}{rv nv:Value}{l:Sp}{a:Nat}{er:Int}
theorem JBox.cells (h:JBox w P txt rv l nv a er):JCells w P txt rv l nv a er:=by
 unfold JBox at h
 refine⟨?_,?_,?_,?_,?_,?_,?_,?_,?_,?_,?_,?_,?_⟩<;>simp[World.cell?,World.frozen?,h]
theorem JBox.lt (h:JBox w P txt rv l nv a er):P<w.heap.size:=cell_it h
theorem JBox.keep (h:JBox w P txt rv l nv a er) (hb:Below w.heap.size w w'):JBox w' P txt rv l nv a er:=(hb.block P h.lt).trans h
end
def TV (w:World) (v:Value) (ts:List Tok):Prop:= ∃p c,v= .slice p ts.length c∧ts.length≤c∧(ts= []∨ ∃g o cur,p=some ⟨g,o,none⟩∧w.heap[g]?=some (.cells cur 188 (0,0))∧
 ∀(j:Nat) (t:Tok),ts[j]?=some t→w.cell? ⟨g,o+j*3,none⟩=some (.int .i64 t.kind)∧w.cell? ⟨g,o+j*3+1,none⟩=some (.int .i64 t.sf)∧w.cell? ⟨g,o+j*3+2,none⟩=some (.int .i64 t.st))
theorem cell_same {w w':World}{g:Nat} (h:w'.heap[g]?=w.heap[g]?) (o:Nat):w'.cell? ⟨g,o,none⟩=w.cell? ⟨g,o,none⟩:=by
 unfold World.cell?
 simp only[h]
theorem TV.same {w w':World}{v:Value}{ts:List Tok} (h:TV w v ts) (hs: ∀(g:Nat) (cur:Array Value),w.heap[g]?=some (.cells cur 188 (0,0))→w'.heap[g]?=w.heap[g]?):TV w' v ts:=by
 obtain⟨p,c,h1,h2,h3⟩:=h
 refine⟨p,c,h1,h2,?_⟩
 rcases h3 with h3 | ⟨g,o,cur,h3,h4,h5⟩
 ·exact .inl h3
 ·have e:=hs g cur h4
  refine .inr ⟨g,o,cur,h3,e.trans h4,fun j t ht=>?_⟩
  rw[cell_same e,cell_same e,cell_same e]
  exact h5 j t ht
theorem TV.keep {w w':World}{v:Value}{ts:List Tok} (h:TV w v ts) (hb:Below w.heap.size w w'):TV w' v ts:=h.same (fun g cur hg=>hb.block g (cell_it hg))
theorem TV.head {w:World}{v:Value}{t:Tok}{r:List Tok} (h:TV w v (t::r)): ∃g o c,v= .slice (some ⟨g,o,none⟩) (r.length+1) c∧r.length+1≤c∧w.cell? ⟨g,o,none⟩=some (.int .i64 t.kind)∧w.cell? ⟨g,o+1,none⟩=some (.int .i64 t.sf)∧w.cell? ⟨g,o+2,none⟩=some (.int .i64 t.st)∧
  TV w (.slice (if c=1 then some ⟨g,o,none⟩ else some ⟨g,o+3,none⟩) r.length (c-1)) r:=by
 obtain⟨p,c,h1,h2,h3⟩:=h
 rcases h3 with h3 | ⟨g,o,cur,rfl,h4,h5⟩
 ·cases h3
 ·simp only[List.length_cons] at h1 h2
  have h0:=h5 0 t rfl
  rw[Nat.zero_mul,Nat.add_zero] at h0
  refine⟨g,o,c,h1,h2,h0.1,h0.2.1,h0.2.2,_,_,rfl,by omega,?_⟩
  cases r with
  | nil=>exact .inl rfl
  | cons u r=>
   refine .inr ⟨g,o+3,cur,if_neg (by simp only[List.length_cons] at h2;omega),h4,fun j t ht=>?_⟩
   have:=h5 (j+1) t (by simpa using ht)
   rw[show o+(j+1)*3=o+3+j*3 by omega] at this
   exact this
theorem TV.empty {w:World}{v:Value} (h:TV w v []): ∃p c,v= .slice p 0 c:=by
 obtain⟨p,c,h1,_⟩:=h
 exact⟨p,c,h1⟩
abbrev ND:=NodeD×Value×Value
def intCells (l:List Nat):List Value:=l.map fun(k:Nat)=>Value.int .i64 (k:Int)
def spCells (l:List Sp):List Value:=l.flatMap fun s=> [.int .i64 (s.1:Int), .int .i64 (s.2:Int)]
def ndCells (y:ND):List Value:= [.int .i64 (y.1.kind:Int), .int .i64 (y.1.sf:Int), .int .i64 (y.1.st:Int), .int .i64 (y.1.key.1:Int), .int .i64 (y.1.key.2:Int),y.2.1,y.2.2]
def nodeCells (z:List ND):List Value:=z.flatMap ndCells
theorem nodeCells_cons (y:ND) (z:List ND):nodeCells (y::z)=ndCells y++nodeCells z:=rfl
theorem nodeCells_at: ∀(z:List ND) (j:Nat) (y:ND),z[j]?=some y→ ∀i,i<7→(nodeCells z)[j*7+i]?=(ndCells y)[i]?
 | [],j,y,h,i,hi=>by simp at h
 | x::z,0,y,h,i,hi=>by
  obtain rfl:x=y:=by simpa using h
  rw[nodeCells_cons,Nat.zero_mul,Nat.zero_add,List.getElem?_append_left (by simpa [ndCells] using hi)]
 | x::z,j+1,y,h,i,hi=>by
  rw[List.getElem?_cons_succ] at h
  have:=nodeCells_at z j y h i hi
  rw[nodeCells_cons,List.getElem?_append_right (by simp[ndCells];omega),←this]
  congr 1
  simp[ndCells]
  omega
theorem nodeCells_set: ∀(z:List ND) (j:Nat) (y y':ND),z[j]?=some y→ ∀i u,i<7→(ndCells y).set i u=ndCells y'→(nodeCells z).set (j*7+i) u=nodeCells (z.set j y')
 | [],j,y,y',h,i,u,hi,hu=>by simp at h
 | x::z,0,y,y',h,i,u,hi,hu=>by
  obtain rfl:x=y:=by simpa using h
  rw[nodeCells_cons,Nat.zero_mul,Nat.zero_add,List.set_append_left _ _ (by simpa [ndCells] using hi),hu]
  rfl
 | x::z,j+1,y,y',h,i,u,hi,hu=>by
  rw[List.getElem?_cons_succ] at h
  have:=nodeCells_set z j y y' h i u hi hu
  rw[nodeCells_cons,List.set_append_right _ _ (by simp[ndCells];omega),List.set_cons_succ,nodeCells_cons,←this]
  congr 2
  simp[ndCells]
  omega
def Apart (f:ND→Value) (z:List ND):Prop:= ∀(i j:Nat) (yi yj:ND),i≠j→z[i]?=some yi→z[j]?=some yj→(f yi).ownBlock=none∨(f yi).ownBlock≠(f yj).ownBlock
theorem Apart.push {f:ND→Value}{z:List ND}{y:ND} (h:Apart f z) (hy:(f y).ownBlock=none):Apart f (z++ [y]):=by
 have key: ∀(j:Nat) (yj:ND),(z++ [y])[j]?=some yj→z[j]?=some yj∨(j=z.length∧yj=y):=by
  intro j yj hj
  by_cases h2:j<z.length
  ·rw[List.getElem?_append_left h2] at hj;exact .inl hj
  ·have hl:=(List.getElem?_eq_some_iff.1 hj).1
   rw[List.length_append,List.length_singleton] at hl
   rw[List.getElem?_append_right (by omega),show j-z.length=0 by omega] at hj
   simp only[List.getElem?_cons_zero,Option.some.injEq] at hj
   exact .inr ⟨by omega,hj.symm⟩
 intro i j yi yj hij hi hj
 rcases key i yi hi with hi | ⟨hi,rfl⟩
 ·rcases key j yj hj with hj | ⟨hj,rfl⟩
  ·exact h i j yi yj hij hi hj
  ·by_cases hn:(f yi).ownBlock=none
   ·exact .inl hn
   ·exact .inr (by rw[hy];exact hn)
 ·exact .inl hy
theorem Apart.set {f:ND→Value}{z:List ND}{n:Nat}{y y':ND} (h:Apart f z) (hn:z[n]?=some y) (hb:(f y').ownBlock=(f y).ownBlock∨ ∀(j:Nat) (yj:ND),z[j]?=some yj→(f yj).ownBlock≠(f y').ownBlock):Apart f (z.set n y'):=by
 intro i j yi yj hij hi hj
 rw[List.getElem?_set] at hi hj
 by_cases h1:n=i
 ·subst h1
  rw[if_pos rfl,if_pos (List.getElem?_eq_some_iff.1 hn).1] at hi
  obtain rfl:=Option.some.inj hi
  rw[if_neg hij] at hj
  rcases hb with hb | hb
  ·rw[hb];exact h n j y yj hij hn hj
  ·exact .inr (Ne.symm (hb j yj hj))
 ·rw[if_neg h1] at hi
  by_cases h2:n=j
  ·subst h2
   rw[if_pos rfl,if_pos (List.getElem?_eq_some_iff.1 hn).1] at hj
   obtain rfl:=Option.some.inj hj
   rcases hb with hb | hb
   ·rw[hb];exact h i n yi y hij hi hn
   ·exact .inr (hb i yi hi)
  ·rw[if_neg h2] at hj
   exact h i j yi yj hij hi hj
structure NodesAt (B:Nat) (z:List ND) (nv:Value) (w:World):Prop where
 row:w.ownsRow B 192 7 nv z.length (nodeCells z)
 kids: ∀y∈z,w.ownsRow B 3 1 y.2.1 y.1.kids.length (intCells y.1.kids)
 pcs: ∀y∈z,w.ownsRow B 42 2 y.2.2 y.1.pcs.length (spCells y.1.pcs)
 ak:Apart (fun y=>y.2.1) z
 ap:Apart (fun y=>y.2.2) z
section
variable {B:Nat}{z:List ND}{nv:Value}{w w' w1:World}
theorem NodesAt.keep (h:NodesAt B z nv w) (hb:Below w.heap.size w w'):NodesAt B z nv w':=
 ⟨owns_below h.row hb,fun y hy=>owns_below (h.kids y hy) hb,fun y hy=>owns_below (h.pcs y hy) hb,h.ak,h.ap⟩
theorem NodesAt.other (h:NodesAt B z nv w) {X:Nat}{cs:Array Value}{t:TypeId}{fz:Nat×Nat} (hX:w.heap[X]?=some (.cells cs t fz)) (h1:192≠t) (h2:3≠t) (h3:42≠t) (hg:w.grownBy w' (some X)):NodesAt B z nv w':=
 ⟨h.row.kept hg (own_off h.row hX h1),fun y hy=>(h.kids y hy).kept hg (own_off (h.kids y hy) hX h2),fun y hy=>(h.pcs y hy).kept hg (own_off (h.pcs y hy) hX h3),h.ak,h.ap⟩
theorem NodesAt.nil (B:Nat) (w:World):NodesAt B [] (.slice none 0 0) w:=
 ⟨⟨rfl, .inl ⟨rfl,rfl⟩⟩,fun y hy=>(by cases hy),fun y hy=>(by cases hy),fun i j yi yj _ h=>(by simp at h),fun i j yi yj _ h=>(by simp at h)⟩
theorem NodesAt.push (h:NodesAt B z nv w) {nv':Value}{x:NodeD} (hk:x.kids= []) (hp:x.pcs= []) (hr:w'.ownsRow B 192 7 nv' (z.length+1) (nodeCells z++ndCells (x, .slice none 0 0, .slice none 0 0))) (hg:w.grownBy w' nv.ownBlock):
  NodesAt B (z++ [(x, .slice none 0 0, .slice none 0 0)]) nv' w':=by
 refine⟨?_,fun y hy=>?_,fun y hy=>?_,h.ak.push rfl,h.ap.push rfl⟩
 ·have e:nodeCells (z++ [(x, .slice none 0 0, .slice none 0 0)])=nodeCells z++ndCells (x, .slice none 0 0, .slice none 0 0):=by unfold nodeCells;simp
  rw[e,List.length_append]
  exact hr
 ·rcases List.mem_append.1 hy with hy | hy
  ·exact(h.kids y hy).kept hg (own_ne (h.kids y hy) h.row (by decide))
  ·rw[List.mem_singleton.1 hy]
   simp only[]
   rw[hk]
   exact⟨rfl, .inl ⟨rfl,rfl⟩⟩
 ·rcases List.mem_append.1 hy with hy | hy
  ·exact(h.pcs y hy).kept hg (own_ne (h.pcs y hy) h.row (by decide))
  ·rw[List.mem_singleton.1 hy]
   simp only[]
   rw[hp]
   exact⟨rfl, .inl ⟨rfl,rfl⟩⟩
theorem NodesAt.form (h:NodesAt B z nv w) (hz:z≠ []): ∃g cap cur,nv= .slice (some ⟨g,0,none⟩) z.length cap∧z.length≤cap∧B≤g∧w.heap[g]?=some (.cells cur 192 (0,0)):=by
 rcases h.row.2 with⟨_,h1⟩ | ⟨g,cap,cur,h1,h2,h3,h4,_⟩
 ·exact absurd (List.length_eq_zero_iff.1 h1) hz
 ·exact⟨g,cap,cur,h1,h4,h2,h3⟩
theorem NodesAt.slice (h:NodesAt B z nv w): ∃p cap,nv= .slice p z.length cap:=by
 rcases h.row.2 with⟨h0,h1⟩ | ⟨g,cap,cur,h1,h2,h3,h4,_⟩
 ·exact⟨none,0,by rw[h0,h1]⟩
 ·exact⟨_,cap,h1⟩
theorem NodesAt.at_ {g cap:Nat} (h:NodesAt B z (.slice (some ⟨g,0,none⟩) z.length cap) w) {n:Nat}{y:ND} (hy:z[n]?=some y) (i:Nat) (hi:i<7) {u:Value} (hu:(ndCells y)[i]?=some u):
  w.cell? ⟨g,n*7+i,none⟩=some u∧w.frozen? ⟨g,n*7+i,none⟩=false:=by
 have hn:=(List.getElem?_eq_some_iff.1 hy).1
 refine⟨?_,World.ownsRow.frozenAt h.row _⟩
 rw[World.ownsRow.cellAt h.row _ (by omega),nodeCells_at z n y hy i hi,hu]
theorem NodesAt.field {g cap:Nat} (h:NodesAt B z (.slice (some ⟨g,0,none⟩) z.length cap) w) {n:Nat}{y y':ND} (hy:z[n]?=some y) (i:Nat) (hi:i<7) (u:Value) (hu:(ndCells y).set i u=ndCells y') (hk:y'.1.kids=y.1.kids) (hp:y'.1.pcs=y.1.pcs) (h1:y'.2=y.2):
  NodesAt B (z.set n y') (.slice (some ⟨g,0,none⟩) (z.set n y').length cap) (w.setCell ⟨g,n*7+i,none⟩ u):=by
 obtain⟨hr,hg⟩:=World.ownsRow.stored h.row (n*7+i) u
 obtain⟨g',cap',cur,e,_,_,hcur⟩:=h.form (fun e=>by rw[e] at hy;simp at hy)
 have hgg:g=g':=by injection e with e;injection e with e;injection e
 subst hgg
 rw[nodeCells_set z n y y' hy i u hi hu] at hr
 have hmem: ∀x∈z.set n y',x=y'∨x∈z:=fun x hx=>(List.mem_or_eq_of_mem_set hx).symm
 refine⟨by rw[List.length_set];exact hr,fun x hx=>?_,fun x hx=>?_,?_,?_⟩
 ·rcases hmem x hx with rfl | hx
  ·rw[hk,h1]
   have hm:=h.kids y (List.mem_of_getElem? hy)
   exact hm.kept hg (own_off hm hcur (by decide))
  ·exact(h.kids x hx).kept hg (own_off (h.kids x hx) hcur (by decide))
 ·rcases hmem x hx with rfl | hx
  ·rw[hp,h1]
   have hm:=h.pcs y (List.mem_of_getElem? hy)
   exact hm.kept hg (own_off hm hcur (by decide))
  ·exact(h.pcs x hx).kept hg (own_off (h.pcs x hx) hcur (by decide))
 ·exact h.ak.set hy (.inl (by rw[h1]))
 ·exact h.ap.set hy (.inl (by rw[h1]))
theorem NodesAt.kid {g cap:Nat} (h:NodesAt B z (.slice (some ⟨g,0,none⟩) z.length cap) w) {n k:Nat}{y:ND} (hy:z[n]?=some y) {kv:Value}{H:Nat} (hH:w.heap.size≤H)
  (hr:w1.ownsRow B 3 1 kv (y.1.kids.length+1) (intCells y.1.kids++ [.int .i64 (k:Int)])) (hg:w.grownBy w1 y.2.1.ownBlock) (hat:kv.ownBlock=y.2.1.ownBlock∨kv.ownBlock=some H):
  NodesAt B (z.set n ({ y.1 with kids:=y.1.kids++ [k] },kv,y.2.2)) (.slice (some ⟨g,0,none⟩) (z.set n ({ y.1 with kids:=y.1.kids++ [k] },kv,y.2.2)).length cap) (w1.setCell ⟨g,n*7+5,none⟩ kv):=by
 have hkm:=h.kids y (List.mem_of_getElem? hy)
 have hrow1:=h.row.kept hg (own_ne h.row hkm (by decide))
 obtain⟨hr2,hg2⟩:=World.ownsRow.stored hrow1 (n*7+5) kv
 obtain⟨g',cap',cur,e,_,_,hcur0⟩:=h.form (fun e=>by rw[e] at hy;simp at hy)
 have hgg:g=g':=by injection e with e;injection e with e;injection e
 subst hgg
 have hcur:w1.heap[g]?=some (.cells cur 192 (0,0)):=by
  rw[hg.block g (cell_it hcur0) (fun e=>by
   rcases own_off hkm hcur0 (by decide) with h1 | h1
   ·rw[h1] at e;cases e
   ·exact h1 e.symm)]
  exact hcur0
 rw[nodeCells_set z n y ({ y.1 with kids:=y.1.kids++ [k] },kv,y.2.2) hy 5 kv (by omega) rfl] at hr2
 refine⟨by rw[List.length_set];exact hr2,fun x hx=>?_,fun x hx=>?_,?_,?_⟩
 ·obtain⟨j,hj⟩:=List.getElem?_of_mem hx
  rw[List.getElem?_set] at hj
  by_cases hnj:n=j
  ·subst hnj
   rw[if_pos rfl,if_pos (List.getElem?_eq_some_iff.1 hy).1] at hj
   obtain rfl:=Option.some.inj hj
   have e:intCells (y.1.kids++ [k])=intCells y.1.kids++ [.int .i64 (k:Int)]:=by unfold intCells;simp
   simp only[e,List.length_append,List.length_singleton]
   exact hr.kept hg2 (own_off hr hcur (by decide))
  ·rw[if_neg hnj] at hj
   have hm:=h.kids x (List.mem_of_getElem? hj)
   have h1:=hm.kept hg (h.ak j n x y (Ne.symm hnj) hj hy)
   exact h1.kept hg2 (own_off h1 hcur (by decide))
 ·have key: ∀x∈z,(w1.setCell ⟨g,n*7+5,none⟩ kv).ownsRow B 42 2 x.2.2 x.1.pcs.length (spCells x.1.pcs):=fun x hx=>by
   have hm:=h.pcs x hx
   have h1:=hm.kept hg (own_ne hm hkm (by decide))
   exact h1.kept hg2 (own_off h1 hcur (by decide))
  rcases List.mem_or_eq_of_mem_set hx with hx | rfl
  ·exact key x hx
  ·exact key y (List.mem_of_getElem? hy)
 ·refine h.ak.set hy ?_
  rcases hat with hat | hat
  ·exact .inl hat
  ·refine .inr (fun j yj hj e=>?_)
   have hm:=h.kids yj (List.mem_of_getElem? hj)
   simp only[] at e
   rw[hat] at e
   have:=(World.ownsRow.lt hm H e).2
   omega
 ·exact h.ap.set hy (.inl rfl)
theorem NodesAt.pc {g cap:Nat} (h:NodesAt B z (.slice (some ⟨g,0,none⟩) z.length cap) w) {n:Nat}{k:Sp}{y:ND} (hy:z[n]?=some y) {kv:Value}{H:Nat} (hH:w.heap.size≤H)
  (hr:w1.ownsRow B 42 2 kv (y.1.pcs.length+1) (spCells y.1.pcs++ [.int .i64 (k.1:Int), .int .i64 (k.2:Int)])) (hg:w.grownBy w1 y.2.2.ownBlock) (hat:kv.ownBlock=y.2.2.ownBlock∨kv.ownBlock=some H):
  NodesAt B (z.set n ({ y.1 with pcs:=y.1.pcs++ [k] },y.2.1,kv)) (.slice (some ⟨g,0,none⟩) (z.set n ({ y.1 with pcs:=y.1.pcs++ [k] },y.2.1,kv)).length cap) (w1.setCell ⟨g,n*7+6,none⟩ kv):=by
 have hkm:=h.pcs y (List.mem_of_getElem? hy)
 have hrow1:=h.row.kept hg (own_ne h.row hkm (by decide))
 obtain⟨hr2,hg2⟩:=World.ownsRow.stored hrow1 (n*7+6) kv
 obtain⟨g',cap',cur,e,_,_,hcur0⟩:=h.form (fun e=>by rw[e] at hy;simp at hy)
 have hgg:g=g':=by injection e with e;injection e with e;injection e
 subst hgg
 have hcur:w1.heap[g]?=some (.cells cur 192 (0,0)):=by
  rw[hg.block g (cell_it hcur0) (fun e=>by
   rcases own_off hkm hcur0 (by decide) with h1 | h1
   ·rw[h1] at e;cases e
   ·exact h1 e.symm)]
  exact hcur0
 rw[nodeCells_set z n y ({ y.1 with pcs:=y.1.pcs++ [k] },y.2.1,kv) hy 6 kv (by omega) rfl] at hr2
 refine⟨by rw[List.length_set];exact hr2,fun x hx=>?_,fun x hx=>?_,?_,?_⟩
 ·have key: ∀x∈z,(w1.setCell ⟨g,n*7+6,none⟩ kv).ownsRow B 3 1 x.2.1 x.1.kids.length (intCells x.1.kids):=fun x hx=>by
   have hm:=h.kids x hx
   have h1:=hm.kept hg (own_ne hm hkm (by decide))
   exact h1.kept hg2 (own_off h1 hcur (by decide))
  rcases List.mem_or_eq_of_mem_set hx with hx | rfl
  ·exact key x hx
  ·exact key y (List.mem_of_getElem? hy)
 ·obtain⟨j,hj⟩:=List.getElem?_of_mem hx
  rw[List.getElem?_set] at hj
  by_cases hnj:n=j
  ·subst hnj
   rw[if_pos rfl,if_pos (List.getElem?_eq_some_iff.1 hy).1] at hj
   obtain rfl:=Option.some.inj hj
   have e:spCells (y.1.pcs++ [k])=spCells y.1.pcs++ [.int .i64 (k.1:Int), .int .i64 (k.2:Int)]:=by unfold spCells;simp
   simp only[e,List.length_append,List.length_singleton]
   exact hr.kept hg2 (own_off hr hcur (by decide))
  ·rw[if_neg hnj] at hj
   have hm:=h.pcs x (List.mem_of_getElem? hj)
   have h1:=hm.kept hg (h.ap j n x y (Ne.symm hnj) hj hy)
   exact h1.kept hg2 (own_off h1 hcur (by decide))
 ·exact h.ak.set hy (.inl rfl)
 ·refine h.ap.set hy ?_
  rcases hat with hat | hat
  ·exact .inl hat
  ·refine .inr (fun j yj hj e=>?_)
   have hm:=h.pcs yj (List.mem_of_getElem? hj)
   simp only[] at e
   rw[hat] at e
   have:=(World.ownsRow.lt hm H e).2
   omega
end
def mutT (t:TypeId):Bool:=t==192||t==3||t==42
def Safe (o:Obj):Prop:=match o with
 | .cells _ t _=>mutT t=false
 | _=>True
structure Fr (B P:Nat) (w w':World):Prop where
 bel:Below B w w'
 sz:w.heap.size≤w'.heap.size
 blk: ∀(k:Nat) (o:Obj),w.heap[k]?=some o→k≠P→Safe o→w'.heap[k]?=some o
theorem Fr.trans {B P:Nat}{w w1 w2:World} (h1:Fr B P w w1) (h2:Fr B P w1 w2):Fr B P w w2:=
 ⟨h1.bel.trans h2.bel,Nat.le_trans h1.sz h2.sz,fun k o hk hP hs=>h2.blk k o (h1.blk k o hk hP hs) hP hs⟩
theorem Fr.refl (B P:Nat) (w:World):Fr B P w w:=⟨Below.refl _ _,Nat.le_refl _,fun _ _ h _ _=>h⟩
theorem Fr.of_below {B P:Nat}{w w':World} (h:Below w.heap.size w w') (hB:B≤w.heap.size):Fr B P w w':=
 ⟨h.mono hB,h.size,fun k o hk _ _=>by rw[h.block k (cell_it hk)];exact hk⟩
theorem Fr.setP {B P i:Nat}{w:World}{u:Value} (hP:B≤P):Fr B P w (w.setCell ⟨P,i,none⟩ u):=
 ⟨(Below.refl B w).setCell (p:=⟨P,i,none⟩) hP u,by simp[World.setCell],fun k o hk hne _=>by rw[Below.heap_setCell _ _ _ k hne];exact hk⟩
theorem Fr.setM {B P X i:Nat}{w:World}{u:Value}{cs:Array Value}{t:TypeId}{fz:Nat×Nat} (hX:w.heap[X]?=some (.cells cs t fz)) (ht:mutT t=true) (hB:B≤X):Fr B P w (w.setCell ⟨X,i,none⟩ u):=
 ⟨(Below.refl B w).setCell (p:=⟨X,i,none⟩) hB u,by simp[World.setCell],fun k o hk hne hs=>by
  rw[Below.heap_setCell _ _ _ k (fun e=>by
   subst e
   rw[hk] at hX
   obtain rfl:=Option.some.inj hX
   unfold Safe at hs
   simp only[] at hs
   rw[ht] at hs;cases hs)]
  exact hk⟩
theorem Fr.grown {B P:Nat}{w w':World}{e:TypeId}{s:Nat}{v:Value}{n:Nat}{xs:List Value} (hr:w.ownsRow B e s v n xs) (ht:mutT e=true) (hg:w.grownBy w' v.ownBlock) (hB:B≤w.heap.size):Fr B P w w':=
 ⟨(Below.refl B w).grown hg hB (fun k hk=>(World.ownsRow.lt hr k hk).1),hg.size,fun k o hk hne hs=>by
  rw[hg.block k (cell_it hk) (fun e=>by
   rcases hr.2 with⟨rfl,_⟩ | ⟨g,cap,cur,rfl,_,hgc,_⟩
   ·cases e
   ·obtain rfl:k=g:=Option.some.inj e
    rw[hk] at hgc
    obtain rfl:=Option.some.inj hgc
    unfold Safe at hs
    simp only[] at hs
    rw[ht] at hs;cases hs)]
  exact hk⟩
end Go.Proofs.YtlibkhbachmcgaaGreatDoor
