import Derived.Test.YtlibkhbachmcgaaGreatDoorRd1
import Derived.Deep.DeepCutAuto
import Derived.Test.YtlibkhbachmcgaaGreatDoorProg
import Derived.Test.YtlibkhbachmcgaaGreatDoorRd3
import Derived.Lib.AppendStr
import Derived.Lib.UnsafeStr
import Derived.Deep.AppendLies
import Derived.Laws.IdiomStrings
import Derived.Laws.BytesArg
import Derived.Laws.BitsAllLaws
set_option maxRecDepth 100000
set_option maxHeartbeats 2000000
namespace Go.Proofs.YtlibkhbachmcgaaGreatDoor
set_option linter.unusedSimpArgs false
set_option linter.unusedVariables false
open Go.Lib (compareBytes)
open Go.Lib (compareBytes compareInt)
open Go.Lib (compareBytes compareInt itoa decDigits nDigits)
theorem dropWhile_none (p:UInt8→Bool): ∀l:List UInt8,(∀c∈l,p c=true)→l.dropWhile p= []
 | [],_=>rfl
 | c::t,h=>by rw[List.dropWhile_cons,if_pos (h c List.mem_cons_self)];exact dropWhile_none p t fun x hx=>h x (List.mem_cons_of_mem _ hx)
theorem cutAt_none (p:UInt8→Bool) (l:List UInt8) (h: ∀c∈l,p c=false):cutAt p l=(l,[],false):=by
 unfold cutAt
 rw[dropWhile_none _ l fun c hc=>by simp[h c hc]]
theorem cutAt_some (p:UInt8→Bool): ∀(a:List UInt8) (b:UInt8) (t:List UInt8),(∀c∈a,p c=false)→p b=true→cutAt p (a++b::t)=(a,t,true)
 | [],b,t,_,hb=>by simp[cutAt,hb]
 | c::a,b,t,h,hb=>by
  have ih:=cutAt_some p a b t (fun x hx=>h x (List.mem_cons_of_mem _ hx)) hb
  have hc:=h c (List.mem_cons_self)
  unfold cutAt at ih ⊢
  rw[List.cons_append,List.dropWhile_cons,List.takeWhile_cons,hc]
  simp only[Bool.not_false,if_true]
  cases hd:(a++b::t).dropWhile (fun c=>!p c) with
  | nil=>rw[hd] at ih;simp at ih
  | cons y r=>rw[hd] at ih;simp at ih ⊢;exact ih
theorem decDigits_len (u:Nat): ∀k,u<10 ^ k→1≤k→(decDigits u).length≤k:=by
 induction u using Nat.strongRecOn with
 | _ u ih=>
  intro k hk h1
  by_cases h:u<10
  ·rw[decDigits,dif_pos h];exact h1
  ·rw[decDigits,dif_neg h,List.length_append]
   obtain⟨m,rfl⟩: ∃m,k=m+1:=⟨k-1,by omega⟩
   rw[Nat.pow_succ] at hk
   rcases Nat.eq_zero_or_pos m with h0 | h0
   ·subst h0;simp at hk;omega
   ·have:=ih (u / 10) (by omega) m (by omega) h0
    simp;omega
theorem noTail_split (l:List UInt8):l=noTail l++List.replicate (l.length-(noTail l).length) 48:=by
 unfold noTail
 have h:=List.takeWhile_append_dropWhile (p:=fun x:UInt8=>x==48) (l:=l.reverse)
 have h1:(l.reverse.takeWhile (· ==48))=List.replicate (l.reverse.takeWhile (· ==48)).length 48:=by
  rw[List.eq_replicate_iff]
  refine⟨rfl,fun b hb=>?_⟩
  have:=List.all_eq_true.1 (List.all_takeWhile (p:=fun x:UInt8=>x==48) (l:=l.reverse)) b hb
  simpa using this
 have h2:l=(l.reverse.dropWhile (· ==48)).reverse++(l.reverse.takeWhile (· ==48)).reverse:=by
  rw[←List.reverse_append,h,List.reverse_reverse]
 have h3:l.length-(l.reverse.dropWhile (· ==48)).reverse.length=(l.reverse.takeWhile (· ==48)).length:=by
  have:=congrArg List.length h2
  rw[List.length_append,(show (l.reverse.takeWhile (· ==48)).reverse.length=(l.reverse.takeWhile (· ==48)).length from List.length_reverse)] at this
  omega
 rw[h3,←List.reverse_replicate,←h1]
 exact h2
theorem noTail_last (l:List UInt8):(noTail l).getLast?≠some 48:=by
 unfold noTail
 rw[List.getLast?_reverse]
 intro h
 have:=List.head?_dropWhile_not (p:=fun x:UInt8=>x==48) (l:=l.reverse)
 rw[h] at this
 simp at this
def ofInt (i:Int):Num:=(parseL (itoa i)).1
open Go.Lib (compareBytes compareInt itoa decDigits nDigits)
def textL (n:Num):List UInt8:=
 if rightB n=false then [] else if n.dig= [] then [48] else
 (if n.neg then [45] else [])++(n.dig++(if n.exp≠0 then 101::itoa n.exp else []))
theorem cutAt_no {p:UInt8→Bool}{l a b:List UInt8} (h:cutAt p l=(a,b,false)):a=l∧b= []:=by
 unfold cutAt at h
 split at h
 ·injection h with h1 h2;injection h2 with h3 _;exact⟨h1.symm,h3.symm⟩
 ·injection h with h1 h2;injection h2 with h3 h4;cases h4
theorem allDig_ne {l:List UInt8} (h:allDig l=true):l≠ []∧l.all isDig=true:=by
 unfold allDig at h
 rw[Bool.and_eq_true] at h
 exact⟨by intro e;rw[e] at h;simp at h,h.2⟩
theorem allDig_mk {l:List UInt8} (h:l≠ []) (h2:l.all isDig=true):allDig l=true:=by
 unfold allDig
 rw[h2,Bool.and_true]
 cases l with
 | nil=>exact absurd rfl h
 | cons _ _=>rfl
theorem noTail_head {l:List UInt8} (h:l.head?≠some 48) (hne:l≠ []):noTail l≠ []∧(noTail l).head?≠some 48:=by
 have hsp:=noTail_split l
 have hn:noTail l≠ []:=by
  intro e
  rw[e,List.nil_append] at hsp
  cases hc:l with
  | nil=>exact hne hc
  | cons x t=>
   rw[hc] at hsp h
   simp only[List.length_cons,List.length_nil,Nat.sub_zero,List.replicate_succ] at hsp
   injection hsp with hx _
   apply h;rw[hx];rfl
 refine⟨hn,?_⟩
 rw[hsp] at h
 cases hc:noTail l with
 | nil=>exact absurd hc hn
 | cons x t=>rw[hc] at h;exact h
theorem noZeros_head (l:List UInt8):(noZeros l).head?≠some 48:=by
 unfold noZeros
 intro h
 have:=List.head?_dropWhile_not (p:=fun x:UInt8=>x==48) (l:=l)
 rw[h] at this
 simp at this
theorem noZeros_all {l:List UInt8} (h:l.all isDig=true):(noZeros l).all isDig=true:=by
 rw[List.all_eq_true] at h ⊢
 intro x hx
 exact h x ((List.dropWhile_sublist _).subset hx)
theorem noTail_all {l:List UInt8} (h:l.all isDig=true):(noTail l).all isDig=true:=by
 rw[noTail_split l,List.all_append,Bool.and_eq_true] at h
 exact h.1
theorem litOf_parts {l:List UInt8}{x:Lit} (h:litOf l=some x):allDig x.whole=true∧x.rest.all isDig=true∧x.exp.all isDig=true:=by
 unfold litOf at h
 simp only[] at h
 have hx0:(cutAt isE (unsign l)).2.2=false→(if(cutAt isE (unsign l)).2.2=true then unplus (cutAt isE (unsign l)).2.1 else [])= []:=fun e=>by rw[e];rfl
 generalize (if(cutAt isE (unsign l)).2.2=true then unplus (cutAt isE (unsign l)).2.1 else [])=xx at h hx0
 split at h
 ·rename_i hok
  injection h with h
  subst h
  unfold litOk at hok
  simp only[Bool.and_eq_true,Bool.or_eq_true,Bool.not_eq_true'] at hok
  obtain⟨⟨h1,h2,h3⟩,_⟩:=hok
  refine⟨h2,?_,?_⟩
  ·rcases h3 with h3 | h3
   ·have:=(cutAt_no (p:=isDot) (l:=(cutAt isE (unsign l)).1) (a:=(cutAt isDot (cutAt isE (unsign l)).1).1) (b:=(cutAt isDot (cutAt isE (unsign l)).1).2.1) (by rw[←h3])).2
    rw[this];rfl
   ·exact(allDig_ne h3).2
  ·rcases h1 with h1 | h1
   ·rw[hx0 h1];rfl
   ·exact(allDig_ne h1).2
 ·cases h
theorem parseLit_right {x:Lit}{n:Num} (h1:allDig x.whole=true) (h2:x.rest.all isDig=true) (h:parseLit x=(n,0)):rightB n=true:=by
 unfold parseLit at h
 split at h
 ·injection h with _ h;cases h
 rename_i hlen
 split at h
 ·injection h with _ h;cases h
 simp only[] at h
 generalize (if x.low=true then-decV x.exp else decV x.exp)=ee at h
 split at h
 ·injection h with h _;subst h;rfl
 rename_i hd
 split at h
 ·injection h with _ h;cases h
 rename_i hk
 injection h with h _
 subst h
 have hall:(noZeros (x.whole++x.rest)).all isDig=true:=noZeros_all (by rw[List.all_append,Bool.and_eq_true];exact⟨(allDig_ne h1).2,h2⟩)
 have hh:=noTail_head (noZeros_head _) hd
 have hl1:(noZeros (x.whole++x.rest)).length≤x.whole.length+x.rest.length:=by
  have:=(List.dropWhile_sublist (p:=fun c:UInt8=>c==48) (l:=x.whole++x.rest)).length_le
  rw[List.length_append] at this;exact this
 have hl2:=congrArg List.length (noTail_split (noZeros (x.whole++x.rest)))
 rw[List.length_append] at hl2
 refine decide_eq_true (.inr ⟨allDig_mk hh.1 (noTail_all hall),?_,hh.2,noTail_last _,?_,?_⟩)
 ·show (noTail (noZeros (x.whole++x.rest))).length≤1000;omega
 ·simp only[];omega
 ·simp only[];omega
theorem parseL_right {l:List UInt8}{n:Num} (h:parseL l=(n,0)):rightB n=true:=by
 unfold parseL at h
 cases hl:litOf l with
 | none=>rw[hl] at h;injection h with _ h;cases h
 | some x=>
  rw[hl] at h
  obtain⟨h1,h2,_⟩:=litOf_parts hl
  exact parseLit_right h1 h2 h
abbrev Stp:=List UInt8
inductive VT where
 | mk (kind:Int) (text:Stp) (keys:List Stp) (items:List VT)
def VT.kind:VT→Int | .mk k _ _ _=>k
def VT.text:VT→Stp | .mk _ s _ _=>s
def VT.keys:VT→List Stp | .mk _ _ ks _=>ks
def VT.items:VT→List VT | .mk _ _ _ l=>l
theorem VT.ind {P:VT→Prop} (h: ∀k s ks l,(∀x∈l,P x)→P (.mk k s ks l)) (t:VT):P t:=by
 match t with
 | .mk k s ks l=>exact h k s ks l (fun x hx=>VT.ind h x)
termination_by SizeOf.sizeOf t
decreasing_by
 have:=List.sizeOf_lt_of_mem hx
 simp
 omega
def totS (l:List Stp):Nat:=(l.map List.length).sum
theorem totS_cons (y:Stp) (l:List Stp):totS (y::l)=y.length+totS l:=rfl
mutual
def VT.size:VT→Nat
 | .mk _ _ _ l=>sizes l+1
def sizes:List VT→Nat
 | []=>0
 | x::l=>x.size+sizes l
end
mutual
def VT.depth:VT→Nat
 | .mk _ _ _ l=>depths l+1
def depths:List VT→Nat
 | []=>0
 | x::l=>max x.depth (depths l)
end
mutual
def VT.bulk:VT→Nat
 | .mk _ s ks l=>s.length+(totS ks+ks.length)+bulks l+1
def bulks:List VT→Nat
 | []=>0
 | x::l=>x.bulk+bulks l
end
theorem sizes_eq (l:List VT):sizes l=(l.map VT.size).sum:=by
 induction l with
 | nil=>rfl
 | cons x l ih=>rw[sizes,ih];rfl
theorem sizes_app (a b:List VT):sizes (a++b)=sizes a+sizes b:=by simp[sizes_eq]
theorem depths_app (a b:List VT):depths (a++b)=max (depths a) (depths b):=by
 induction a with
 | nil=>simp[depths]
 | cons x a ih=>rw[List.cons_append,depths,depths,ih];omega
theorem size_pos (t:VT):0<t.size:=by cases t;rw[VT.size];omega
theorem size_le_bulk (t:VT):t.size≤t.bulk:=by
 induction t using VT.ind with
 | h k s ks l ih=>
  rw[VT.size,VT.bulk]
  have:sizes l≤bulks l:=by
   clear k s ks
   induction l with
   | nil=>exact Nat.le_refl _
   | cons x l ihl=>
    rw[sizes,bulks]
    have h1:=ih x List.mem_cons_self
    have h2:=ihl (fun y hy=>ih y (List.mem_cons_of_mem _ hy))
    omega
  omega
theorem sizes_le_bulks (l:List VT):sizes l≤bulks l:=by
 induction l with
 | nil=>exact Nat.le_refl _
 | cons x l ih=>rw[sizes,bulks];have:=size_le_bulk x;omega
theorem depth_le_size (t:VT):t.depth≤t.size:=by
 induction t using VT.ind with
 | h k s ks l ih=>
  rw[VT.size,VT.depth]
  have:depths l≤sizes l:=by
   clear k s ks
   induction l with
   | nil=>exact Nat.le_refl _
   | cons x l ihl=>
    rw[sizes,depths]
    have h1:=ih x List.mem_cons_self
    have h2:=ihl (fun y hy=>ih y (List.mem_cons_of_mem _ hy))
    omega
  omega
theorem depths_le_bulks (l:List VT):depths l≤bulks l:=by
 induction l with
 | nil=>exact Nat.le_refl _
 | cons x l ih=>rw[depths,bulks];have:=depth_le_size x;have:=size_le_bulk x;omega
theorem len_le_bulks (l:List VT):l.length≤bulks l:=by
 induction l with
 | nil=>exact Nat.le_refl _
 | cons x l ih=>rw[bulks,List.length_cons];have:=size_pos x;have:=size_le_bulk x;omega
theorem bulk_mem {l:List VT}{x:VT} (h:x∈l):x.bulk≤bulks l:=by
 induction l with
 | nil=>cases h
 | cons y l ih=>
  rw[bulks]
  rcases List.mem_cons.1 h with rfl | h
  ·omega
  ·have:=ih h;omega
theorem depth_mem {l:List VT}{x:VT} (h:x∈l):x.depth≤depths l:=by
 induction l with
 | nil=>cases h
 | cons y l ih=>
  rw[depths]
  rcases List.mem_cons.1 h with rfl | h
  ·omega
  ·have:=ih h;omega
end Go.Proofs.YtlibkhbachmcgaaGreatDoor
namespace Go.Proofs.YtlibkhbachmcgaaGreatDoor
set_option linter.unusedSimpArgs false
set_option linter.unusedVariables false
open Go.RowKit
def SLies (w:World) (p:Option Addr) (l:List Stp):Prop:=l= []∨ ∃g o,p=some ⟨g,o,none⟩∧g<w.heap.size∧ ∀(j:Nat) (x:Stp),l[j]?=some x→w.cell? ⟨g,o+j,none⟩=some (.string (bs x))
theorem SLies.keep {w w':World}{p:Option Addr}{l:List Stp} (h:SLies w p l) (hb:Below w.heap.size w w'):SLies w' p l:=by
 rcases h with h | ⟨g,o,h2,h3,h4⟩
 ·exact .inl h
 ·exact .inr ⟨g,o,h2,Nat.lt_of_lt_of_le h3 hb.size,fun j x hx=>by rw[hb.cell (p:=⟨g,o+j,none⟩) h3];exact h4 j x hx⟩
theorem SLies.at_ {w:World}{p:Option Addr}{l:List Stp} (h:SLies w p l) {j:Nat}{x:Stp} (hx:l[j]?=some x): ∃g o,p=some ⟨g,o,none⟩∧w.cell? ⟨g,o+j,none⟩=some (.string (bs x)):=by
 rcases h with h | ⟨g,o,h2,h3,h4⟩
 ·rw[h] at hx;simp at hx
 ·exact⟨g,o,h2,h4 j x hx⟩
def SV (w:World) (v:Value) (l:List Stp):Prop:= ∃p c,v= .slice p l.length c∧l.length≤c∧SLies w p l
theorem SV.keep {w w':World}{v:Value}{l:List Stp} (h:SV w v l) (hb:Below w.heap.size w w'):SV w' v l:=by
 obtain⟨p,c,h1,h2,h3⟩:=h
 exact⟨p,c,h1,h2,h3.keep hb⟩
def VD (w:World):Nat→VT→Value→Value→Prop
 | 0,_,_,_=>False
 | n+1,t,kv,iv=>SV w kv t.keys∧ ∃p c,iv= .slice p t.items.length c∧t.items.length≤c∧(t.items= []∨ ∃g o,p=some ⟨g,o,none⟩∧g<w.heap.size∧ ∀(j:Nat) (x:VT),t.items[j]?=some x→ ∃kv' iv',w.cell? ⟨g,o+j*4,none⟩=some (.int .i64 x.kind)∧w.cell? ⟨g,o+j*4+1,none⟩=some (.string (bs x.text))∧w.cell? ⟨g,o+j*4+2,none⟩=some kv'∧w.cell? ⟨g,o+j*4+3,none⟩=some iv'∧VD w n x kv' iv')
def vv (t:VT) (kv iv:Value):Value:= .agg #[.int .i64 t.kind, .string (bs t.text),kv,iv]
theorem VD.keep {w w':World} (hb:Below w.heap.size w w'): ∀ {n:Nat}{t:VT}{kv iv:Value},VD w n t kv iv→VD w' n t kv iv
 | 0,_,_,_,h=>h
 | n+1,t,kv,iv,h=>by
  obtain⟨h1,p,c,h2,h3,h4⟩:=h
  refine⟨h1.keep hb,p,c,h2,h3,?_⟩
  rcases h4 with h4 | ⟨g,o,h4,h5,h6⟩
  ·exact .inl h4
  ·refine .inr ⟨g,o,h4,Nat.lt_of_lt_of_le h5 hb.size,fun j x hx=>?_⟩
   obtain⟨kv',iv',e0,e1,e2,e3,e4⟩:=h6 j x hx
   exact⟨kv',iv',by rw[hb.cell (p:=⟨g,_,none⟩) h5];exact e0,by rw[hb.cell (p:=⟨g,_,none⟩) h5];exact e1,by rw[hb.cell (p:=⟨g,_,none⟩) h5];exact e2,by rw[hb.cell (p:=⟨g,_,none⟩) h5];exact e3,VD.keep hb e4⟩
def Items (w:World) (m:Nat) (p:Option Addr) (l:List VT):Prop:= ∀(j:Nat) (x:VT),l[j]?=some x→ ∃g o kv' iv',p=some ⟨g,o,none⟩∧g<w.heap.size∧w.cell? ⟨g,o+j*4,none⟩=some (.int .i64 x.kind)∧w.cell? ⟨g,o+j*4+1,none⟩=some (.string (bs x.text))∧w.cell? ⟨g,o+j*4+2,none⟩=some kv'∧w.cell? ⟨g,o+j*4+3,none⟩=some iv'∧VD w m x kv' iv'
theorem Items.keep {w w':World}{m:Nat}{p:Option Addr}{l:List VT} (h:Items w m p l) (hb:Below w.heap.size w w'):Items w' m p l:=by
 intro j x hx
 obtain⟨g,o,kv,iv,e0,e1,e2,e3,e4,e5,e6⟩:=h j x hx
 exact⟨g,o,kv,iv,e0,Nat.lt_of_lt_of_le e1 hb.size,by rw[hb.cell (p:=⟨g,_,none⟩) e1];exact e2,by rw[hb.cell (p:=⟨g,_,none⟩) e1];exact e3,by rw[hb.cell (p:=⟨g,_,none⟩) e1];exact e4,by rw[hb.cell (p:=⟨g,_,none⟩) e1];exact e5,e6.keep hb⟩
theorem VD.parts {w:World}{n:Nat}{t:VT}{kv iv:Value} (h:VD w n t kv iv): ∃m,n=m+1∧SV w kv t.keys∧ ∃p c,iv= .slice p t.items.length c∧t.items.length≤c∧Items w m p t.items:=by
 cases n with
 | zero=>exact h.elim
 | succ m=>
  obtain⟨h1,p,c,h2,h3,h4⟩:=h
  refine⟨m,rfl,h1,p,c,h2,h3,fun j x hx=>?_⟩
  rcases h4 with h4 | ⟨g,o,h4,h5,h6⟩
  ·rw[h4] at hx;simp at hx
  ·obtain⟨kv',iv',e⟩:=h6 j x hx
   exact⟨g,o,kv',iv',h4,h5,e⟩
theorem VD.form {w:World}{n:Nat}{t:VT}{kv iv:Value} (h:VD w n t kv iv): ∃pk ck p c,kv= .slice pk t.keys.length ck∧iv= .slice p t.items.length c:=by
 obtain⟨_,_,⟨pk,ck,h1,_,_⟩,p,c,h2,_,_⟩:=h.parts
 exact⟨pk,ck,p,c,h1,h2⟩
def VBox (w:World) (b:Nat) (t:VT) (kv iv:Value):Prop:=w.heap[b]?=some (.cells #[.int .i64 t.kind, .string (bs t.text),kv,iv] 36)
theorem VBox.new (w:World) (t:VT) (kv iv:Value):VBox (w.alloc (.cells #[.int .i64 t.kind, .string (bs t.text),kv,iv] 36)) w.heap.size t kv iv:=heap_alloc_new w _
theorem VBox.keep {w w':World}{b:Nat}{t:VT}{kv iv:Value} (h:VBox w b t kv iv) (hb:Below w.heap.size w w'):VBox w' b t kv iv:=by
 unfold VBox at h
 exact(hb.block _ (cell_it h)).trans h
theorem VBox.cells {w:World}{b:Nat}{t:VT}{kv iv:Value} (h:VBox w b t kv iv):w.cell? ⟨b,0,none⟩=some (.int .i64 t.kind)∧w.cell? ⟨b,1,none⟩=some (.string (bs t.text))∧w.cell? ⟨b,2,none⟩=some kv∧w.cell? ⟨b,3,none⟩=some iv:=by
 unfold VBox at h
 refine⟨?_,?_,?_,?_⟩<;>simp[World.cell?,h]
theorem take_one {α:Type}{l:List α}{k:Nat}{x:α} (h:l[k]?=some x):l.take (k+1)=l.take k++ [x]:=by
 rw[List.take_add_one,h];rfl
theorem vsize_any: ∀(n:Nat) (t:VT) (kv iv:Value) (w:World),VD w n t kv iv→t.bulk≤1099511627776→
  Calls Tryz.prog 22 #[vv t kv iv] w fun e w'=>e= .returned (.int .i64 (t.size:Int))∧Below w.heap.size w w':=by
 intro n
 induction n with
 | zero=>intro t kv iv w h;exact h.elim
 | succ m ih=>
  intro t kv iv w h hbk
  obtain⟨m',hm,hsv,p,c,rfl,hlc,hit⟩:=h.parts
  obtain rfl:m=m':=by omega
  obtain⟨k,s,ks,l⟩:=t
  obtain⟨R,hR⟩: ∃R,(VT.mk k s ks l).size=R:=⟨_,rfl⟩
  rw[hR]
  rw[VT.size] at hR
  simp only[VT.items] at hlc hit
  have hbl:bulks l≤1099511627776:=by rw[VT.bulk] at hbk;omega
  have hll:l.length≤1099511627776:=Nat.le_trans (len_le_bulks l) hbl
  have HR:=hid hR
  have HIT:=hid hit
  have HIH:=hid ih
  clear hR hit ih h hsv hm hbk
  unfold vv
  simp only[VT.kind,VT.text,VT.items]
  go_enter Tryz.func22,Tryz.ntmps22
  go_wp2_with fail
  go_loopw [3,9] (fun s3 s9 wr=> ∃(i:Nat),s3= .int .i64 ((sizes (l.take i)+1:Nat):Int)∧s9= .int .i64 (i:Int)∧i≤l.length∧Hid (Below w.heap.size w wr)) (fun _ s9 _=>l.length-(RowKit.intOf s9).toNat)
  case atStart=>exact⟨0,rfl,rfl,Nat.zero_le _,hid (below_alloc1 w _)⟩
  case round=>
   obtain⟨i,rfl,rfl,hi,HBr⟩:=hrel
   by_cases hil:i<l.length
   ·obtain⟨x,hx⟩: ∃x,l[i]?=some x:=⟨_,List.getElem?_eq_getElem hil⟩
    obtain⟨g,o,kv',iv',rfl,hg,n0,n1,n2,n3,hvd⟩:=HIT.out.keep HBr.out i x hx
    obtain⟨pk,ck,px,cx,rfl,rfl⟩:=hvd.form
    have hxb:=Nat.le_trans (bulk_mem (List.mem_of_getElem? hx)) hbl
    have hi1:(i:Int)<(l.length:Int):=by omega
    have dk:decide ((i:Int)<(l.length:Int))=true:=decide_eq_true hi1
    have hsz:sizes (l.take i)+1+x.size=sizes (l.take (i+1))+1:=by rw[take_one hx,sizes_app,sizes,sizes];omega
    have hbd:sizes (l.take (i+1))≤bulks l:=by
     have h1:sizes (l.take (i+1))≤sizes l:=by
      have:=sizes_app (l.take (i+1)) (l.drop (i+1))
      rw[List.take_append_drop] at this
      omega
     exact Nat.le_trans h1 (sizes_le_bulks l)
    have HX:=hid hx
    have HVD:=hid hvd
    have HSZ:=hid hsz
    have HBd:=hid hbd
    clear hx hvd hsz hbd
    go_upto_region 5 with fail
    have HB5:=hid (below_alloc1 wr (.cells #[.int .i64 x.kind, .string (bs x.text), .slice pk x.keys.length ck, .slice px x.items.length cx] 36))
    have HC:=hid (HIH.out x _ _ (wr.alloc (.cells #[.int .i64 x.kind, .string (bs x.text), .slice pk x.keys.length ck, .slice px x.items.length cx] 36)) (HVD.out.keep HB5.out) hxb)
    unfold vv at HC
    go_wp2_with fail
    refine HC.out.mono ?_
    rintro e w2 ⟨rfl,hb2⟩
    have HB6:=hid (below_of_new HBr.out (below_of_new HB5.out hb2))
    have hbd:=HBd.out
    have hsz:=HSZ.out
    have hszz:((sizes (l.take i)+1:Nat):Int)+(x.size:Int)=((sizes (l.take (i+1))+1:Nat):Int):=by omega
    clear hb2
    go_wp2_with fail
    go_roundw
    ·exact⟨i+1,by congr 1<;>omega,rfl,hil,HB6⟩
    ·simp only[RowKit.intOf]
     omega
   ·have dk:decide ((i:Int)<(l.length:Int))=false:=decide_eq_false (by omega)
    obtain rfl:i=l.length:=by omega
    rw[List.take_length]
    have hdl:depths l≤1099511627776:=Nat.le_trans (depths_le_bulks l) hbl
    go_wp2_with fail
    go_ret
    exact⟨by rw[←HR.out];first | rfl | simp,HBr.out⟩
theorem vdepth_any: ∀(n:Nat) (t:VT) (kv iv:Value) (w:World),VD w n t kv iv→t.bulk≤1099511627776→
  Calls Tryz.prog 77 #[vv t kv iv] w fun e w'=>e= .returned (.int .i64 (t.depth:Int))∧Below w.heap.size w w':=by
 intro n
 induction n with
 | zero=>intro t kv iv w h;exact h.elim
 | succ m ih=>
  intro t kv iv w h hbk
  obtain⟨m',hm,hsv,p,c,rfl,hlc,hit⟩:=h.parts
  obtain rfl:m=m':=by omega
  obtain⟨k,s,ks,l⟩:=t
  obtain⟨R,hR⟩: ∃R,(VT.mk k s ks l).depth=R:=⟨_,rfl⟩
  rw[hR]
  rw[VT.depth] at hR
  simp only[VT.items] at hlc hit
  have hbl:bulks l≤1099511627776:=by rw[VT.bulk] at hbk;omega
  have hll:l.length≤1099511627776:=Nat.le_trans (len_le_bulks l) hbl
  have HR:=hid hR
  have HIT:=hid hit
  have HIH:=hid ih
  clear hR hit ih h hsv hm hbk
  unfold vv
  simp only[VT.kind,VT.text,VT.items]
  go_enter Tryz.func77,Tryz.ntmps77
  go_wp2_with fail
  go_loopw [3,9] (fun s3 s9 wr=> ∃(i:Nat),s3= .int .i64 ((depths (l.take i):Nat):Int)∧s9= .int .i64 (i:Int)∧i≤l.length∧Hid (Below w.heap.size w wr)) (fun _ s9 _=>l.length-(RowKit.intOf s9).toNat)
  case atStart=>exact⟨0,rfl,rfl,Nat.zero_le _,hid (below_alloc1 w _)⟩
  case round=>
   obtain⟨i,rfl,rfl,hi,HBr⟩:=hrel
   by_cases hil:i<l.length
   ·obtain⟨x,hx⟩: ∃x,l[i]?=some x:=⟨_,List.getElem?_eq_getElem hil⟩
    obtain⟨g,o,kv',iv',rfl,hg,n0,n1,n2,n3,hvd⟩:=HIT.out.keep HBr.out i x hx
    obtain⟨pk,ck,px,cx,rfl,rfl⟩:=hvd.form
    have hxb:=Nat.le_trans (bulk_mem (List.mem_of_getElem? hx)) hbl
    have hi1:(i:Int)<(l.length:Int):=by omega
    have dk:decide ((i:Int)<(l.length:Int))=true:=decide_eq_true hi1
    have hsz:max (depths (l.take i)) x.depth=depths (l.take (i+1)):=by rw[take_one hx,depths_app,depths,depths];omega
    have hbd:depths (l.take (i+1))≤bulks l:=by
     have h1:depths (l.take (i+1))≤depths l:=by
      have:=depths_app (l.take (i+1)) (l.drop (i+1))
      rw[List.take_append_drop] at this
      omega
     exact Nat.le_trans h1 (depths_le_bulks l)
    have HX:=hid hx
    have HVD:=hid hvd
    have HSZ:=hid hsz
    have HBd:=hid hbd
    clear hx hvd hsz hbd
    go_upto_region 5 with fail
    have HB5:=hid (below_alloc1 wr (.cells #[.int .i64 x.kind, .string (bs x.text), .slice pk x.keys.length ck, .slice px x.items.length cx] 36))
    have HC:=hid (HIH.out x _ _ (wr.alloc (.cells #[.int .i64 x.kind, .string (bs x.text), .slice pk x.keys.length ck, .slice px x.items.length cx] 36)) (HVD.out.keep HB5.out) hxb)
    unfold vv at HC
    go_wp2_with fail
    refine HC.out.mono ?_
    rintro e w2 ⟨rfl,hb2⟩
    have HB6:=hid (below_of_new HBr.out (below_of_new HB5.out hb2))
    have hbd:=HBd.out
    have hsz:=HSZ.out
    have hszz:max ((depths (l.take i):Nat):Int) (x.depth:Int)=((depths (l.take (i+1)):Nat):Int):=by omega
    clear hb2
    go_wp2_with fail
    go_roundw
    ·exact⟨i+1,by congr 1<;>omega,rfl,hil,HB6⟩
    ·simp only[RowKit.intOf]
     omega
   ·have dk:decide ((i:Int)<(l.length:Int))=false:=decide_eq_false (by omega)
    obtain rfl:i=l.length:=by omega
    rw[List.take_length]
    have hdl:depths l≤1099511627776:=Nat.le_trans (depths_le_bulks l) hbl
    go_wp2_with fail
    go_ret
    exact⟨by rw[←HR.out];first | rfl | simp,HBr.out⟩
end Go.Proofs.YtlibkhbachmcgaaGreatDoor
namespace Go.Proofs.YtlibkhbachmcgaaGreatDoor
set_option linter.unusedSimpArgs false
set_option linter.unusedVariables false
open Go.Lib
def slT (txt:List UInt8) (s:Sp):Stp:=if s.2<s.1∨txt.length<s.2 then [] else(txt.take s.2).drop s.1
def textV (k:Nat) (s:Stp):Stp:=if k=2 then s else if k=3 then textL (parseL s).1 else if k=4 then(unqL s).1 else []
def keyV (txt:List UInt8) (ns:List NodeD) (k:Nat):Stp:=match ns[k]? with
 | some x=>(unqL (slT txt x.key)).1
 | none=> []
def nodeV (txt:List UInt8) (ns:List NodeD):Nat→Nat→VT
 | 0,_=> .mk 0 [] [] []
 | f+1,k=>match ns[k]? with
  | none=> .mk 0 [] [] []
  | some x=> .mk (x.kind:Int) (textV x.kind (slT txt (x.sf,x.st))) (if x.kind=6 then x.kids.map (keyV txt ns) else []) (x.kids.map (nodeV txt ns f))
def KidsOk (P:Nat→Nat→Prop):List Nat→Nat→Nat→Prop
 | [],a,hi=>a=hi
 | kid::l,a,hi=>kid=a∧ ∃m,P kid m∧KidsOk P l m hi
theorem KidsOk.snoc {P:Nat→Nat→Prop}{hi:Nat}: ∀ {l:List Nat}{a k:Nat},KidsOk P l a k→P k hi→KidsOk P (l++ [k]) a hi
 | [],a,k,h,hp=>by
  have e:a=k:=h
  exact⟨e.symm,hi,hp,rfl⟩
 | x::l,a,k,h,hp=>by
  obtain⟨h1,m,h2,h3⟩:=h
  exact⟨h1,m,h2,h3.snoc hp⟩
def TOk (ns:List NodeD):Nat→Nat→Nat→Prop
 | 0,_,_=>False
 | lv+1,k,hi=> ∃x,ns[k]?=some x∧KidsOk (TOk ns lv) x.kids (k+1) hi
theorem KidsOk.imp {P Q:Nat→Nat→Prop} (hi:Nat) (hlt: ∀k m,P k m→k<m): ∀ {l:List Nat}{a:Nat},KidsOk P l a hi→(∀k m,a≤k→m≤hi→P k m→Q k m)→KidsOk Q l a hi
 | [],a,h,_=>h
 | x::l,a,h,hq=>by
  obtain⟨rfl,m,h2,h3⟩:=h
  have hle: ∀ {l:List Nat}{a:Nat},KidsOk P l a hi→a≤hi:=by
   intro l
   induction l with
   | nil=>intro a h;exact Nat.le_of_eq h
   | cons y l ih=>
    intro a h
    obtain⟨rfl,m,h2,h3⟩:=h
    have:=ih h3
    have:=hlt _ _ h2
    omega
  have h4:=hlt _ _ h2
  exact⟨rfl,m,hq _ _ (Nat.le_refl _) (hle h3) h2,h3.imp hi hlt (fun k m' h5 h6 h7=>hq k m' (by omega) h6 h7)⟩
theorem TOk.lt {ns:List NodeD}: ∀ {lv k hi:Nat},TOk ns lv k hi→k<hi
 | lv+1,k,hi,h=>by
  obtain⟨x,hx,h2⟩:=h
  have: ∀(l:List Nat) (a:Nat),KidsOk (TOk ns lv) l a hi→a≤hi:=by
   intro l
   induction l with
   | nil=>intro a h;exact Nat.le_of_eq h
   | cons y l ih=>
    intro a h
    obtain⟨rfl,m,h2,h3⟩:=h
    have:=ih m h3
    have:=TOk.lt h2
    omega
  have:=this _ _ h2
  omega
theorem TOk.mono {ns ns':List NodeD}: ∀ {lv k hi:Nat},TOk ns lv k hi→(∀j y,k≤j→j<hi→ns[j]?=some y→ ∃y',ns'[j]?=some y'∧y'.kids=y.kids)→TOk ns' lv k hi
 | lv+1,k,hi,h,hs=>by
  have hlt:=h.lt
  obtain⟨x,hx,h2⟩:=h
  obtain⟨x',hx',hk⟩:=hs k x (Nat.le_refl _) hlt hx
  refine⟨x',hx',?_⟩
  rw[hk]
  exact h2.imp hi (fun _ _=>TOk.lt) (fun a m h3 h4 h5=>h5.mono (fun j y h6 h7=>hs j y (by omega) (by omega)))
def VT2 (lv:Nat) (V:VF):Prop:= ∀rest last nodes key r l ns,V rest last nodes key= .ok r l ns→TOk ns lv nodes.length ns.length
theorem kid_tok {txt:List UInt8}{V:VF}{lv:Nat} (hV:VT2 lv V) {obj:Bool}{had had':List (List UInt8)}{rest r:List Tok}{last l:Sp}{nodes ns:List NodeD} (h:kidM txt V obj had rest last nodes=(.ok r l ns,had')):TOk ns lv nodes.length ns.length:=by
 unfold kidM at h
 split at h
 ·injection h with h _
  exact hV _ _ _ _ _ _ _ h
 ·split at h
  ·injection h with h _;cases h
  ·split at h
   ·injection h with h _;cases h
   ·split at h
    ·injection h with h _;cases h
    ·split at h
     ·injection h with h _;cases h
     ·split at h
      ·injection h with h _;cases h
      ·injection h with h _
       exact hV _ _ _ _ _ _ _ h
theorem loop_tok {txt:List UInt8}{V:VF}{lv:Nat} (hV:VT2 lv V) (hE:Ext V) {closing:Nat}{obj:Bool}{pre:List NodeD}: ∀(f:Nat) {had:List (List UInt8)}{rest:List Tok}{last:Sp}{nodes:List NodeD}{r:List Tok}{l:Sp}{ns:List NodeD}{x:NodeD}{post:List NodeD},
  Mid pre x post nodes→KidsOk (TOk nodes lv) x.kids (pre.length+1) nodes.length→loopM txt V closing obj pre.length f had rest last nodes= .ok r l ns→ ∃x' post',Mid pre x' post' ns∧KidsOk (TOk ns lv) x'.kids (pre.length+1) ns.length
 | 0,_,_,_,_,_,_,_,_,_,_,_,h=>by cases h
 | f +1,had,rest,last,nodes,r,l,ns,x,post,hm,hK,h=>by
  unfold loopM at h
  split at h
  ·cases h
  ·rename_i r1 l1 ns1 had1 hk
   have ht:=kid_tok hV hk
   obtain⟨more,rfl,h2,h3,⟨kk,h4⟩,h5⟩:=kid_ext hE hk
   split at h
   ·cases h
   ·rename_i t r'
    have hm2:=hm.add h5 h2 nodes.length (last.2,t.sf)
    have hst: ∀j y,pre.length+1≤j→(nodes++more)[j]?=some y→ ∃y',(addKid pre.length nodes.length (last.2,t.sf) (nodes++more))[j]?=some y'∧y'.kids=y.kids:=by
     intro j y hj hy
     unfold addKid
     rw[modN_at,if_neg (by omega)]
     exact⟨y,hy,rfl⟩
    have hml:=mid_len hm
    have hK2:KidsOk (TOk (addKid pre.length nodes.length (last.2,t.sf) (nodes++more)) lv) (x.kids++ [nodes.length]) (pre.length+1) (addKid pre.length nodes.length (last.2,t.sf) (nodes++more)).length:=by
     have hlen:(addKid pre.length nodes.length (last.2,t.sf) (nodes++more)).length=(nodes++more).length:=modN_len _ _ _
     rw[hlen]
     refine KidsOk.snoc (hK.imp _ (fun _ _=>TOk.lt) (fun k m h6 h7 h8=>h8.mono (fun j y h9 h10 h11=>?_))) (ht.mono (fun j y h9 h10 h11=>hst j y (by omega) h11))
     exact hst j y (by omega) (by rw[List.getElem?_append_left (by omega)];exact h11)
    split at h
    ·injection h with e1 e2 e3
     subst e3
     exact⟨_,_,hm2,hK2⟩
    ·split at h
     ·exact loop_tok hV hE f hm2 hK2 h
     ·cases h
theorem kids_tok {txt:List UInt8}{V:VF}{lv:Nat} (hV:VT2 lv V) (hE:Ext V) {closing:Nat}{obj:Bool}{pre:List NodeD}{rest:List Tok}{last:Sp}{nodes:List NodeD}{r:List Tok}{l:Sp}{ns:List NodeD}{x:NodeD}{post:List NodeD}
  (hm:Mid pre x post nodes) (hK:KidsOk (TOk nodes lv) x.kids (pre.length+1) nodes.length) (h:kidsM txt V closing obj pre.length rest last nodes= .ok r l ns): ∃x' post',Mid pre x' post' ns∧KidsOk (TOk ns lv) x'.kids (pre.length+1) ns.length:=by
 unfold kidsM at h
 split at h
 ·exact loop_tok hV hE _ hm hK h
 ·split at h
  ·injection h with h1 h2 h3
   subst h3
   exact⟨x,post,hm,hK⟩
  ·exact loop_tok hV hE _ hm hK h
theorem value_tok (txt:List UInt8): ∀lv,VT2 lv (valueM txt lv)
 | 0=>fun rest last nodes key r l ns h=>by
  unfold valueM at h
  split at h<;>cases h
 | lv +1=>fun rest last nodes key r l ns h=>by
  have ih:=value_tok txt lv
  have ie:=value_ext txt lv
  cases rest with
  | nil=>
   unfold valueM at h
   rw[if_pos (show kindOfT (kindT [])=0 from rfl)] at h
   cases h
  | cons t q=>
   unfold valueM at h
   split at h
   ·cases h
   ·split at h
    ·cases h
    ·simp only[] at h
     obtain⟨ns',h1,rfl⟩:=endM_ok h
     have hm0:Mid nodes ⟨kindOfT t.kind,t.sf,t.st,key,[],[]⟩ [] (nodes++ [⟨kindOfT t.kind,t.sf,t.st,key,[],[]⟩]):=⟨rfl,Nat.le_refl _,Nat.le_refl _,fun y hy=>by cases hy⟩
     have hK0:KidsOk (TOk (nodes++ [(⟨kindOfT t.kind,t.sf,t.st,key,[],[]⟩:NodeD)]) lv) ([]:List Nat) (nodes.length+1) (nodes++ [(⟨kindOfT t.kind,t.sf,t.st,key,[],[]⟩:NodeD)]).length:=by
      show nodes.length+1=_
      rw[List.length_append,List.length_singleton]
     have fin: ∀ {x':NodeD}{post':List NodeD},Mid nodes x' post' ns'→KidsOk (TOk ns' lv) x'.kids (nodes.length+1) ns'.length→TOk (setTo nodes.length l.2 ns') (lv+1) nodes.length (setTo nodes.length l.2 ns').length:=by
      intro x' post' hm hk
      have hlen:(setTo nodes.length l.2 ns').length=ns'.length:=modN_len _ _ _
      have hxa:=mid_at hm
      refine⟨{ x' with st:=l.2 },?_,?_⟩
      ·unfold setTo
       rw[modN_at,if_pos rfl,hxa]
       rfl
      ·rw[hlen]
       refine hk.imp _ (fun _ _=>TOk.lt) (fun k m h6 h7 h8=>h8.mono (fun j y h9 h10 h11=>?_))
       refine⟨y,?_,rfl⟩
       unfold setTo
       rw[modN_at,if_neg (by omega)]
       exact h11
     split at h1
     ·obtain⟨x',post',i1,i2⟩:=kids_tok ih ie hm0 hK0 h1
      exact fin i1 i2
     ·split at h1
      ·obtain⟨x',post',i1,i2⟩:=kids_tok ih ie hm0 hK0 h1
       exact fin i1 i2
      ·injection h1 with h2 h3 h4
       subst h4
       exact fin hm0 hK0
theorem parse_tree {s:List UInt8}{ns:List NodeD}{n:Int} (h:parseJ s=(ns,n,0)):TOk ns 32 0 ns.length:=by
 obtain⟨hs,T,l,ns',hT,hv,hp⟩:=parse_ok (s:=s) (by rw[h])
 rw[h] at hp
 injection hp with e1 e2
 subst e1
 exact value_tok s 32 _ _ _ _ _ _ _ hv
theorem KidsOk.mem {P:Nat→Nat→Prop}{hi:Nat}: ∀ {l:List Nat}{a:Nat},KidsOk P l a hi→ ∀k∈l,∃m,P k m
 | [],_,_,k,hk=>by cases hk
 | x::l,a,h,k,hk=>by
  obtain⟨rfl,m,h2,h3⟩:=h
  rcases List.mem_cons.1 hk with rfl | hk
  ·exact⟨m,h2⟩
  ·exact h3.mem k hk
theorem TOk.kid {ns:List NodeD}{lv k hi:Nat} (h:TOk ns (lv+1) k hi) {x:NodeD} (hx:ns[k]?=some x) {q:Nat} (hq:q∈x.kids):(∃m,TOk ns lv q m)∧q<ns.length:=by
 obtain⟨x',hx',h2⟩:=h
 rw[hx] at hx'
 injection hx' with e
 subst e
 obtain⟨m,hm⟩:=h2.mem q hq
 refine⟨⟨m,hm⟩,?_⟩
 cases lv with
 | zero=>exact hm.elim
 | succ lv=>
  obtain⟨y,hy,_⟩:=hm
  exact(List.getElem?_eq_some_iff.1 hy).1
end Go.Proofs.YtlibkhbachmcgaaGreatDoor
namespace Go.Proofs.YtlibkhbachmcgaaGreatDoor
set_option linter.unusedSimpArgs false
set_option linter.unusedVariables false
open Go.RowKit
open Go.Lib hiding intOf
def DTab (w:World):Prop:=w.cell? ⟨7,15,none⟩=some (.int .u8 4)
theorem DTab.keep {w w':World} (h:DTab w) (hb:Below w.heap.size w w'):DTab w':=by
 unfold DTab at h ⊢
 rw[hb.cell (p:=⟨_,_,none⟩) (cell_lt h),h]
theorem pow16_any (w:World):Calls Tryz.prog 253 #[.int .i64 16] w fun e w'=>e= .returned (.bool true)∧w=w':=by
 have h1:bits .and .i64 16 15=0:=by decide
 go_enter Tryz.func253,Tryz.ntmps253
 go_wp2_with fail
 go_ret
 exact⟨rfl,rfl⟩
theorem zeros64_any (w:World) (hT:DTab w):Calls Tryz.prog 268 #[.int .u64 16] w fun e w'=>e= .returned (.int .i64 4)∧w=w':=by
 unfold DTab at hT
 have h1:IntKind.u64.wrap (bits .and .u64 16 (IntKind.u64.wrap (-16))*285870213051353865) / 288230376151711744=15:=by decide
 go_enter Tryz.func268,Tryz.ntmps268
 go_wp2_with fail
 go_ret
 exact⟨rfl,rfl⟩
theorem zerosU_any (w:World) (hT:DTab w):Calls Tryz.prog 254 #[.int .u64 16] w fun e w'=>e= .returned (.int .i64 4)∧w=w':=by
 go_enter Tryz.func254,Tryz.ntmps254
 go_wp2_with (go_at_call 268;refine(zeros64_any _ hT).mono ?_;rintro e w' ⟨rfl,rfl⟩)
 go_ret
 exact⟨rfl,rfl⟩
theorem and15: ∀n:Fin 32,bits .and .u64 (n.val:Int) 15=((n.val % 16:Nat):Int):=by decide
def hexC (n:Nat):UInt8:=UInt8.ofNat (if n<10 then 48+n else 87+n)
def digT:ByteArray:=⟨#[48,49,50,51,52,53,54,55,56,57,97,98,99,100,101,102,103,104,105,106,107,108,109,110,111,112,113,114,115,116,117,118,119,120,121,122]⟩
theorem digT_all: ∀k:Fin 16,digT.data.toList[k.val]?=some (hexC k.val):=by decide
theorem digT_at (n:Nat) (h:n<16) (h2:n<digT.size):digT[n]'h2=hexC n:=by
 have h1:digT.data.toList[n]?=some (hexC n):=digT_all ⟨n,h⟩
 have h3:digT.data.toList[n]?=some (digT[n]'h2):=by rw[Array.getElem?_toList];exact Array.getElem?_eq_getElem h2
 rw[h3] at h1
 exact Option.some.inj h1
theorem new_cells (w:World) (k:Nat) (hk:k<65):(w.alloc (.cells Tryz.zeroCells247 247)).cell? ⟨w.heap.size,k,none⟩=some (.int .u8 0):=by
 rw[World.cell?_alloc_new]
 have: ∀j:Fin 65,(Tryz.zeroCells247)[j.val]?=some (.int .u8 0):=by
  have e:Tryz.zeroCells247=Array.replicate 65 (.int .u8 0):=by kernel_rfl
  intro j
  rw[e,Array.getElem?_replicate,if_pos j.isLt]
 exact this ⟨k,hk⟩
theorem add_plain' (b o j:Nat):(⟨b,o,none⟩:Addr).add j=⟨b,o+j,none⟩:=by
 unfold Addr.add
 split
 ·rename_i h;subst h;rfl
 ·rfl
theorem conv_lo (w:World) (x:UInt8):(convert 83 9 (.slice (some ⟨w.heap.size,64,none⟩) 1 1)).run Tryz.prog (w.alloc (.cells ((Tryz.zeroCells247).setIfInBounds 64 (.int .u8 (x.toNat:Int))) 247))= .ok (.string (bs [x])) (w.alloc (.cells ((Tryz.zeroCells247).setIfInBounds 64 (.int .u8 (x.toNat:Int))) 247)):=by
 refine run_convert_bytes_back _ _ _ 5 ⟨w.heap.size,64,none⟩ 1 [x] Tryz.underlying83 Tryz.underlying5 Tryz.underlying9 (fun j hj=>?_)
 obtain rfl:j=0:=by simp at hj;omega
 rw[add_plain',World.cell?_alloc_new]
 have e:Tryz.zeroCells247=Array.replicate 65 (.int .u8 0):=by kernel_rfl
 rw[e];simp
theorem conv_hi (w:World) (x y:UInt8):(convert 83 9 (.slice (some ⟨w.heap.size,63,none⟩) 2 2)).run Tryz.prog (w.alloc (.cells (((Tryz.zeroCells247).setIfInBounds 64 (.int .u8 (x.toNat:Int))).setIfInBounds 63 (.int .u8 (y.toNat:Int))) 247))= .ok (.string (bs [y,x])) (w.alloc (.cells (((Tryz.zeroCells247).setIfInBounds 64 (.int .u8 (x.toNat:Int))).setIfInBounds 63 (.int .u8 (y.toNat:Int))) 247)):=by
 refine run_convert_bytes_back _ _ _ 5 ⟨w.heap.size,63,none⟩ 2 [y,x] Tryz.underlying83 Tryz.underlying5 Tryz.underlying9 (fun j hj=>?_)
 have e:Tryz.zeroCells247=Array.replicate 65 (.int .u8 0):=by kernel_rfl
 rw[add_plain',World.cell?_alloc_new,e]
 match j,hj with
 | 0,_=>simp
 | 1,_=>simp
 | (j+2),hj=>exact absurd hj (by simp)
theorem hexC_at (n:Nat) (h:n<16) (h2:n<(⟨#[48,49,50,51,52,53,54,55,56,57,97,98,99,100,101,102,103,104,105,106,107,108,109,110,111,112,113,114,115,116,117,118,119,120,121,122]⟩:ByteArray).size):
  (⟨#[48,49,50,51,52,53,54,55,56,57,97,98,99,100,101,102,103,104,105,106,107,108,109,110,111,112,113,114,115,116,117,118,119,120,121,122]⟩:ByteArray)[n]'h2=hexC n:=digT_at n h h2
theorem ret_fmt {a b:ByteArray} (h:a=b):Ending.returned (.tuple #[.slice none 0 0, .string a])= .returned (.tuple #[.slice none 0 0, .string b]):=by rw[h]
theorem fmtBits_lo (c:Nat) (hc:c<16) (w:World) (hT:DTab w):Calls Tryz.prog 219 #[.slice none 0 0, .int .u64 c, .int .i64 16, .bool false, .bool false] w fun e w'=>e= .returned (.tuple #[.slice none 0 0, .string (bs [hexC c])])∧Below w.heap.size w w':=by
 have HT:=hid hT;clear hT
 have hn:=new_cells w 64 (by omega)
 have hcv:=conv_lo w
 go_enter Tryz.func219,Tryz.ntmps219
 go_wp2_with (first | (go_at_call 253;refine(pow16_any _).mono ?_;rintro e w' ⟨rfl,rfl⟩) | (go_at_call 254;refine(zerosU_any _ (HT.out.keep (below_alloc1 _ _))).mono ?_;rintro e w' ⟨rfl,rfl⟩))
 go_loop [1,13] (fun u i=>u= .int .u64 c∧i= .int .i64 65) (fun _ _=>0)
 case atStart=>exact⟨rfl,rfl⟩
 case round=>
  obtain⟨rfl,rfl⟩:=hrel
  go_wp2_with fail
  go_ret2
  exact⟨ret_fmt (congrArg (fun z=>bs [z]) (hexC_at c hc (by show c<36;omega))),below_alloc1 _ _⟩
theorem fmtBits_hi (c:Nat) (h16:16≤c) (hc:c<32) (w:World) (hT:DTab w):Calls Tryz.prog 219 #[.slice none 0 0, .int .u64 c, .int .i64 16, .bool false, .bool false] w fun e w'=>e= .returned (.tuple #[.slice none 0 0, .string (bs [49,hexC (c-16)])])∧Below w.heap.size w w':=by
 have HT:=hid hT;clear hT
 have hn:=new_cells w 64 (by omega)
 have hn2:=new_cells w 63 (by omega)
 have hcv:=conv_hi w
 obtain⟨d,rfl⟩: ∃d,c=d+16:=⟨c-16,by omega⟩
 have ha:=and15 ⟨d+16,hc⟩
 simp only[] at ha
 rw[show (d+16) % 16=d by omega,show ((d+16:Nat):Int)=(d:Int)+16 by omega] at ha
 have hs:((d:Int)+16) / 16=1:=by omega
 have hd0:(0:Int)≤(d:Int):=by omega
 have hd1:(d:Int)<36:=by omega
 go_enter Tryz.func219,Tryz.ntmps219
 go_wp2_with (first | (go_at_call 253;refine(pow16_any _).mono ?_;rintro e w' ⟨rfl,rfl⟩) | (go_at_call 254;refine(zerosU_any _ (HT.out.keep (below_alloc1 _ _))).mono ?_;rintro e w' ⟨rfl,rfl⟩))
 go_loopw [1,13] (fun u i wr=> ∃z:Nat,(z=0∧u= .int .u64 ((d+16:Nat):Int)∧i= .int .i64 65∧wr=w.alloc (.cells Tryz.zeroCells247 247))∨(z=1∧u= .int .u64 1∧i= .int .i64 64∧wr=w.alloc (.cells ((Tryz.zeroCells247).setIfInBounds 64 (.int .u8 ((hexC d).toNat:Int))) 247))) (fun _ i _=>(RowKit.intOf i).toNat)
 case atStart=>exact⟨0, .inl ⟨rfl,rfl,rfl,rfl⟩⟩
 case round=>
  obtain⟨z,⟨rfl,rfl,rfl,rfl⟩ | ⟨rfl,rfl,rfl,rfl⟩⟩:=hrel
  ·go_wp2_with fail
   go_roundw
   case rel=>exact⟨1, .inr ⟨rfl,rfl,by go_num,by rw[←hexC_at d (by omega) (by show d<36;omega)]⟩⟩
   case measure=>simp[RowKit.intOf]
  ·go_wp2_with fail
   go_ret2
   exact⟨ret_fmt (by rw[show d+16-16=d by omega];exact congrArg (fun z=>bs [z,hexC d]) (hexC_at 1 (by omega) (by show 1<36;omega))),below_alloc1 _ _⟩
def hexS (c:Nat):List UInt8:=if c<16 then [hexC c] else [49,hexC (c-16)]
theorem fmtBits_any (c:Nat) (hc:c<32) (w:World) (hT:DTab w):Calls Tryz.prog 219 #[.slice none 0 0, .int .u64 c, .int .i64 16, .bool false, .bool false] w fun e w'=>e= .returned (.tuple #[.slice none 0 0, .string (bs (hexS c))])∧Below w.heap.size w w':=by
 unfold hexS
 by_cases h:c<16
 ·rw[if_pos h];exact fmtBits_lo c h w hT
 ·rw[if_neg h];exact fmtBits_hi c (by omega) hc w hT
theorem fmtInner_any (c:Nat) (hc:c<32) (w:World) (hT:DTab w):Calls Tryz.prog 180 #[.int .i64 c, .int .i64 16] w fun e w'=>e= .returned (.string (bs (hexS c)))∧Below w.heap.size w w':=by
 have C:=hid (fun w hT=>fmtBits_any c hc w hT)
 have HT:=hid hT;clear hT
 go_enter Tryz.func180,Tryz.ntmps180
 go_wp2_with fail
 refine(C.out _ HT.out).mono ?_
 rintro e w1 ⟨rfl,hb1⟩
 go_wp2_with fail
 go_ret
 exact⟨rfl,hb1⟩
theorem fmt16_any (c:Nat) (hc:c<32) (w:World) (hT:DTab w):Calls Tryz.prog 142 #[.int .i64 c, .int .i64 16] w fun e w'=>e= .returned (.string (bs (hexS c)))∧Below w.heap.size w w':=by
 have C:=hid (fun w hT=>fmtInner_any c hc w hT)
 have HT:=hid hT;clear hT
 go_enter Tryz.func142,Tryz.ntmps142
 go_wp2_with fail
 refine(C.out _ HT.out).mono ?_
 rintro e w1 ⟨rfl,hb1⟩
 go_wp2_with fail
 go_ret
 exact⟨rfl,hb1⟩
theorem zeros_any (e:Nat) (w:World) (he:e≤1000000):
  Calls Tryz.prog 143 #[.string ⟨#[48]⟩, .int .i64 e] w fun en w'=>en= .returned (.string (bs (List.replicate e 48)))∧Below w.heap.size w w':=by
 have h:=Tryz.strings_Repeat ⟨#[48]⟩ e w (by omega) (by show 1*e≤_;omega)
 have hr:Lib.repeatL (⟨#[48]⟩:ByteArray).data.toList e=List.replicate e 48:=by
  show Lib.repeatL [48] e=_
  clear h he
  induction e with
  | zero=>rfl
  | succ k ih=>rw[show Lib.repeatL [48] (k+1)= [48]++Lib.repeatL [48] k from rfl,ih,List.replicate_succ];rfl
 rw[hr] at h
 exact h
end Go.Proofs.YtlibkhbachmcgaaGreatDoor
