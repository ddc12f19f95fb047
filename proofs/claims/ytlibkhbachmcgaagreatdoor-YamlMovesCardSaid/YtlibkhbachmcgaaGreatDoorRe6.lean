import Derived.Test.YtlibkhbachmcgaaGreatDoorRe3
import Derived.Test.YtlibkhbachmcgaaGreatDoorRe4
import Derived.Test.YtlibkhbachmcgaaGreatDoorRe5
import Derived.Deep.RegionHeld3
import Derived.BigQuiet
import Derived.Deep.DeepCutAuto
import Derived.Test.YtlibkhbachmcgaaGreatDoorRe1
import Derived.Deep.AppendLies
import Derived.Orders
import Derived.RegionTactic
namespace Go.Proofs.YtlibkhbachmcgaaGreatDoor
set_option linter.unusedSimpArgs false
set_option linter.unusedVariables false
open Go.RowKit Go.Maps Go.WideMaps
open Go.Lib hiding intOf
def VVar (w:World):Prop:=Tabs w∧PTab w
theorem VVar.keep {w w':World} (h:VVar w) (hb:Below w.heap.size w w'):VVar w':=⟨h.1.keep hb,h.2.keep hb⟩
def NbBox (w:World) (X:Nat) (n:Num):Prop:=w.heap[X]?=some (.cells #[.bool n.neg, .string (bs n.dig), .int .i64 n.exp] 88 (0,0))
abbrev NbCells (w:World) (X:Nat) (n:Num):Prop:=w.cell? ⟨X,0,none⟩=some (.bool n.neg)∧w.cell? ⟨X,1,none⟩=some (.string (bs n.dig))∧w.cell? ⟨X,2,none⟩=some (.int .i64 n.exp)∧w.frozen? ⟨X,0,none⟩=false∧w.frozen? ⟨X,1,none⟩=false∧w.frozen? ⟨X,2,none⟩=false
theorem NbBox.cells {w:World}{X:Nat}{n:Num} (h:NbBox w X n):NbCells w X n:=by
 unfold NbBox at h
 refine⟨?_,?_,?_,?_,?_,?_⟩<;>simp[World.cell?,World.frozen?,h]
theorem NbBox.new (w:World) (n:Num):NbBox (w.alloc (.cells #[.bool n.neg, .string (bs n.dig), .int .i64 n.exp] 88)) w.heap.size n:=heap_alloc_new w _
section
variable {w w1 w2:World}{X:Nat}{n:Num}
end
theorem parse_dig (s:Stp) (h:(parseL s).2=0):(parseL s).1.dig.length≤1000:=by
 have h':parseL s=((parseL s).1,0):=by rw[←h]
 exact(rightB_bd (parseL_right h')).1
def trueL:Stp:= [116,114,117,101]
def falseL:Stp:= [102,97,108,115,101]
theorem str_lit (s l:Stp):((bs s).toList==l)=decide (s=l):=by
 rw[Lib.toList_data,bs_data]
 by_cases h:s=l
 ·rw[decide_eq_true h,h];simp
 ·rw[decide_eq_false h];simpa using h
theorem str_nil (s:Stp):((bs s).toList== [])=s.isEmpty:=by
 rw[str_lit]
 cases s<;>simp
theorem str_nil2 (s:Stp):(bs s).toList.isEmpty=s.isEmpty:=by rw[Lib.toList_data,bs_data]
end Go.Proofs.YtlibkhbachmcgaaGreatDoor
namespace Go.Proofs.YtlibkhbachmcgaaGreatDoor
set_option linter.unusedSimpArgs false
set_option linter.unusedVariables false
open Go.RowKit
open Go.Lib hiding intOf
theorem grown_bel {A B:World} (h:Below A.heap.size A B):A.grownBy B none:=⟨h.os,h.tape,h.output,h.size,fun i hi _=>h.block i hi⟩
theorem owns_below {B size:Nat}{e:TypeId}{A W:World}{v:Value}{n:Nat}{xs:List Value} (h:A.ownsRow B e size v n xs) (hb:Below A.heap.size A W):W.ownsRow B e size v n xs:=
 h.kept (grown_bel hb) (by cases h:v.ownBlock with
  | none=>exact .inl rfl
  | some k=>exact .inr (by simp))
theorem own_ne {w:World}{B1 B2:Nat}{e1 e2:TypeId}{s1 s2:Nat}{v1 v2:Value}{n1 n2:Nat}{x1 x2:List Value} (h1:w.ownsRow B1 e1 s1 v1 n1 x1) (h2:w.ownsRow B2 e2 s2 v2 n2 x2) (he:e1≠e2):v1.ownBlock=none∨v1.ownBlock≠v2.ownBlock:=by
 rcases h1.2 with⟨rfl,_⟩ | ⟨g,cap,cur,rfl,_,hg,_⟩
 ·exact .inl rfl
 ·right
  rcases h2.2 with⟨rfl,_⟩ | ⟨g2,cap2,cur2,rfl,_,hg2,_⟩
  ·intro h;cases h
  ·intro h
   have hgg:g=g2:=Option.some.inj h
   subst hgg
   rw[hg] at hg2
   injection hg2 with hg2
   injection hg2 with _ hg2
   exact he hg2
theorem own_off {w:World}{B:Nat}{e t:TypeId}{s:Nat}{v:Value}{n:Nat}{xs:List Value}{X:Nat}{cs:Array Value}{fz:Nat×Nat} (h:w.ownsRow B e s v n xs) (hX:w.heap[X]?=some (.cells cs t fz)) (he:e≠t):v.ownBlock=none∨v.ownBlock≠some X:=by
 rcases h.2 with⟨rfl,_⟩ | ⟨g,cap,cur,rfl,_,hg,_⟩
 ·exact .inl rfl
 ·refine .inr fun hh=>?_
  have hgg:g=X:=Option.some.inj hh
  subst hgg
  rw[hg] at hX
  injection hX with hX
  injection hX with _ hX
  exact he hX
def JBox (w:World) (P:Nat) (txt:List UInt8) (rv:Value) (l:Sp) (nv:Value) (a:Nat) (er:Int):Prop:=
 w.heap[P]?=some (.cells #[.string (bs txt),rv, .int .i64 l.1, .int .i64 l.2,nv, .int .i64 a, .int .i64 er] 210 (0,0))
abbrev JCells (w:World) (P:Nat) (txt:List UInt8) (rv:Value) (l:Sp) (nv:Value) (a:Nat) (er:Int):Prop:=
 w.cell? ⟨P,0,none⟩=some (.string (bs txt))∧w.cell? ⟨P,1,none⟩=some rv∧w.cell? ⟨P,2,none⟩=some (.int .i64 l.1)∧w.cell? ⟨P,3,none⟩=some (.int .i64 l.2)∧w.cell? ⟨P,4,none⟩=some nv∧
 w.cell? ⟨P,5,none⟩=some (.int .i64 a)∧w.cell? ⟨P,6,none⟩=some (.int .i64 er)∧
 w.frozen? ⟨P,1,none⟩=false∧w.frozen? ⟨P,2,none⟩=false∧w.frozen? ⟨P,3,none⟩=false∧w.frozen? ⟨P,4,none⟩=false∧w.frozen? ⟨P,5,none⟩=false∧w.frozen? ⟨P,6,none⟩=false
section
variable {w w':World}{P:Nat}{txt:List UInt8}{rv nv:Value}{l:Sp}{a:Nat}{er:Int}
theorem JBox.cells (h:JBox w P txt rv l nv a er):JCells w P txt rv l nv a er:=by
 unfold JBox at h
 refine⟨?_,?_,?_,?_,?_,?_,?_,?_,?_,?_,?_,?_,?_⟩<;>simp[World.cell?,World.frozen?,h]
theorem JBox.lt (h:JBox w P txt rv l nv a er):P<w.heap.size:=cell_it h
theorem JBox.keep (h:JBox w P txt rv l nv a er) (hb:Below w.heap.size w w'):JBox w' P txt rv l nv a er:=(hb.block P h.lt).trans h
end
def TV (w:World) (v:Value) (ts:List Tok):Prop:= ∃p c,v= .slice p ts.length c∧ts.length≤c∧(ts= []∨ ∃g o cur,p=some ⟨g,o,none⟩∧w.heap[g]?=some (.cells cur 188 (0,0))∧
 ∀(j:Nat) (t:Tok),ts[j]?=some t→w.cell? ⟨g,o+j*3,none⟩=some (.int .i64 t.kind)∧w.cell? ⟨g,o+j*3+1,none⟩=some (.int .i64 t.sf)∧w.cell? ⟨g,o+j*3+2,none⟩=some (.int .i64 t.st))
theorem cell_same {w w':World}{g:Nat} (h:w'.heap[g]?=w.heap[g]?) (o:Nat):w'.cell? ⟨g,o,none⟩=w.cell? ⟨g,o,none⟩:=by
 unfold World.cell?
 simp only[h]
theorem TV.same {w w':World}{v:Value}{ts:List Tok} (h:TV w v ts) (hs: ∀(g:Nat) (cur:Array Value),w.heap[g]?=some (.cells cur 188 (0,0))→w'.heap[g]?=w.heap[g]?):TV w' v ts:=by
 obtain⟨p,c,h1,h2,h3⟩:=h
 refine⟨p,c,h1,h2,?_⟩
 rcases h3 with h3 | ⟨g,o,cur,h3,h4,h5⟩
 ·exact .inl h3
 ·have e:=hs g cur h4
  refine .inr ⟨g,o,cur,h3,e.trans h4,fun j t ht=>?_⟩
  rw[cell_same e,cell_same e,cell_same e]
  exact h5 j t ht
theorem TV.keep {w w':World}{v:Value}{ts:List Tok} (h:TV w v ts) (hb:Below w.heap.size w w'):TV w' v ts:=h.same (fun g cur hg=>hb.block g (cell_it hg))
theorem TV.head {w:World}{v:Value}{t:Tok}{r:List Tok} (h:TV w v (t::r)): ∃g o c,v= .slice (some ⟨g,o,none⟩) (r.length+1) c∧r.length+1≤c∧w.cell? ⟨g,o,none⟩=some (.int .i64 t.kind)∧w.cell? ⟨g,o+1,none⟩=some (.int .i64 t.sf)∧w.cell? ⟨g,o+2,none⟩=some (.int .i64 t.st)∧
  TV w (.slice (if c=1 then some ⟨g,o,none⟩ else some ⟨g,o+3,none⟩) r.length (c-1)) r:=by
 obtain⟨p,c,h1,h2,h3⟩:=h
 rcases h3 with h3 | ⟨g,o,cur,rfl,h4,h5⟩
 ·cases h3
 ·simp only[List.length_cons] at h1 h2
  have h0:=h5 0 t rfl
  rw[Nat.zero_mul,Nat.add_zero] at h0
  refine⟨g,o,c,h1,h2,h0.1,h0.2.1,h0.2.2,_,_,rfl,by omega,?_⟩
  cases r with
  | nil=>exact .inl rfl
  | cons u r=>
   refine .inr ⟨g,o+3,cur,if_neg (by simp only[List.length_cons] at h2;omega),h4,fun j t ht=>?_⟩
   have:=h5 (j+1) t (by simpa using ht)
   rw[show o+(j+1)*3=o+3+j*3 by omega] at this
   exact this
theorem TV.empty {w:World}{v:Value} (h:TV w v []): ∃p c,v= .slice p 0 c:=by
 obtain⟨p,c,h1,_⟩:=h
 exact⟨p,c,h1⟩
abbrev ND:=NodeD×Value×Value
def intCells (l:List Nat):List Value:=l.map fun(k:Nat)=>Value.int .i64 (k:Int)
def spCells (l:List Sp):List Value:=l.flatMap fun s=> [.int .i64 (s.1:Int), .int .i64 (s.2:Int)]
def ndCells (y:ND):List Value:= [.int .i64 (y.1.kind:Int), .int .i64 (y.1.sf:Int), .int .i64 (y.1.st:Int), .int .i64 (y.1.key.1:Int), .int .i64 (y.1.key.2:Int),y.2.1,y.2.2]
def nodeCells (z:List ND):List Value:=z.flatMap ndCells
theorem nodeCells_cons (y:ND) (z:List ND):nodeCells (y::z)=ndCells y++nodeCells z:=rfl
theorem nodeCells_at: ∀(z:List ND) (j:Nat) (y:ND),z[j]?=some y→ ∀i,i<7→(nodeCells z)[j*7+i]?=(ndCells y)[i]?
 | [],j,y,h,i,hi=>by simp at h
 | x::z,0,y,h,i,hi=>by
  obtain rfl:x=y:=by simpa using h
  rw[nodeCells_cons,Nat.zero_mul,Nat.zero_add,List.getElem?_append_left (by simpa [ndCells] using hi)]
 | x::z,j+1,y,h,i,hi=>by
  rw[List.getElem?_cons_succ] at h
  have:=nodeCells_at z j y h i hi
  rw[nodeCells_cons,List.getElem?_append_right (by simp[ndCells];omega),←this]
  congr 1
  simp[ndCells]
  omega
theorem nodeCells_set: ∀(z:List ND) (j:Nat) (y y':ND),z[j]?=some y→ ∀i u,i<7→(ndCells y).set i u=ndCells y'→(nodeCells z).set (j*7+i) u=nodeCells (z.set j y')
 | [],j,y,y',h,i,u,hi,hu=>by simp at h
 | x::z,0,y,y',h,i,u,hi,hu=>by
  obtain rfl:x=y:=by simpa using h
  rw[nodeCells_cons,Nat.zero_mul,Nat.zero_add,List.set_append_left _ _ (by simpa [ndCells] using hi),hu]
  rfl
 | x::z,j+1,y,y',h,i,u,hi,hu=>by
  rw[List.getElem?_cons_succ] at h
  have:=nodeCells_set z j y y' h i u hi hu
  rw[nodeCells_cons,List.set_append_right _ _ (by simp[ndCells];omega),List.set_cons_succ,nodeCells_cons,←this]
  congr 2
  simp[ndCells]
  omega
def Apart (f:ND→Value) (z:List ND):Prop:= ∀(i j:Nat) (yi yj:ND),i≠j→z[i]?=some yi→z[j]?=some yj→(f yi).ownBlock=none∨(f yi).ownBlock≠(f yj).ownBlock
theorem Apart.push {f:ND→Value}{z:List ND}{y:ND} (h:Apart f z) (hy:(f y).ownBlock=none):Apart f (z++ [y]):=by
 have key: ∀(j:Nat) (yj:ND),(z++ [y])[j]?=some yj→z[j]?=some yj∨(j=z.length∧yj=y):=by
  intro j yj hj
  by_cases h2:j<z.length
  ·rw[List.getElem?_append_left h2] at hj;exact .inl hj
  ·have hl:=(List.getElem?_eq_some_iff.1 hj).1
   rw[List.length_append,List.length_singleton] at hl
   rw[List.getElem?_append_right (by omega),show j-z.length=0 by omega] at hj
   simp only[List.getElem?_cons_zero,Option.some.injEq] at hj
   exact .inr ⟨by omega,hj.symm⟩
 intro i j yi yj hij hi hj
 rcases key i yi hi with hi | ⟨hi,rfl⟩
 ·rcases key j yj hj with hj | ⟨hj,rfl⟩
  ·exact h i j yi yj hij hi hj
  ·by_cases hn:(f yi).ownBlock=none
   ·exact .inl hn
   ·exact .inr (by rw[hy];exact hn)
 ·exact .inl hy
theorem Apart.set {f:ND→Value}{z:List ND}{n:Nat}{y y':ND} (h:Apart f z) (hn:z[n]?=some y) (hb:(f y').ownBlock=(f y).ownBlock∨ ∀(j:Nat) (yj:ND),z[j]?=some yj→(f yj).ownBlock≠(f y').ownBlock):Apart f (z.set n y'):=by
 intro i j yi yj hij hi hj
 rw[List.getElem?_set] at hi hj
 by_cases h1:n=i
 ·subst h1
  rw[if_pos rfl,if_pos (List.getElem?_eq_some_iff.1 hn).1] at hi
  obtain rfl:=Option.some.inj hi
  rw[if_neg hij] at hj
  rcases hb with hb | hb
  ·rw[hb];exact h n j y yj hij hn hj
  ·exact .inr (Ne.symm (hb j yj hj))
 ·rw[if_neg h1] at hi
  by_cases h2:n=j
  ·subst h2
   rw[if_pos rfl,if_pos (List.getElem?_eq_some_iff.1 hn).1] at hj
   obtain rfl:=Option.some.inj hj
   rcases hb with hb | hb
   ·rw[hb];exact h i n yi y hij hi hn
   ·exact .inr (hb i yi hi)
  ·rw[if_neg h2] at hj
   exact h i j yi yj hij hi hj
structure NodesAt (B:Nat) (z:List ND) (nv:Value) (w:World):Prop where
 row:w.ownsRow B 192 7 nv z.length (nodeCells z)
 kids: ∀y∈z,w.ownsRow B 3 1 y.2.1 y.1.kids.length (intCells y.1.kids)
 pcs: ∀y∈z,w.ownsRow B 42 2 y.2.2 y.1.pcs.length (spCells y.1.pcs)
 ak:Apart (fun y=>y.2.1) z
 ap:Apart (fun y=>y.2.2) z
section
variable {B:Nat}{z:List ND}{nv:Value}{w w' w1:World}
theorem NodesAt.keep (h:NodesAt B z nv w) (hb:Below w.heap.size w w'):NodesAt B z nv w':=
 ⟨owns_below h.row hb,fun y hy=>owns_below (h.kids y hy) hb,fun y hy=>owns_below (h.pcs y hy) hb,h.ak,h.ap⟩
theorem NodesAt.other (h:NodesAt B z nv w) {X:Nat}{cs:Array Value}{t:TypeId}{fz:Nat×Nat} (hX:w.heap[X]?=some (.cells cs t fz)) (h1:192≠t) (h2:3≠t) (h3:42≠t) (hg:w.grownBy w' (some X)):NodesAt B z nv w':=
 ⟨h.row.kept hg (own_off h.row hX h1),fun y hy=>(h.kids y hy).kept hg (own_off (h.kids y hy) hX h2),fun y hy=>(h.pcs y hy).kept hg (own_off (h.pcs y hy) hX h3),h.ak,h.ap⟩
theorem NodesAt.nil (B:Nat) (w:World):NodesAt B [] (.slice none 0 0) w:=
 ⟨⟨rfl, .inl ⟨rfl,rfl⟩⟩,fun y hy=>(by cases hy),fun y hy=>(by cases hy),fun i j yi yj _ h=>(by simp at h),fun i j yi yj _ h=>(by simp at h)⟩
theorem NodesAt.push (h:NodesAt B z nv w) {nv':Value}{x:NodeD} (hk:x.kids= []) (hp:x.pcs= []) (hr:w'.ownsRow B 192 7 nv' (z.length+1) (nodeCells z++ndCells (x, .slice none 0 0, .slice none 0 0))) (hg:w.grownBy w' nv.ownBlock):
  NodesAt B (z++ [(x, .slice none 0 0, .slice none 0 0)]) nv' w':=by
 refine⟨?_,fun y hy=>?_,fun y hy=>?_,h.ak.push rfl,h.ap.push rfl⟩
 ·have e:nodeCells (z++ [(x, .slice none 0 0, .slice none 0 0)])=nodeCells z++ndCells (x, .slice none 0 0, .slice none 0 0):=by unfold nodeCells;simp
  rw[e,List.length_append]
  exact hr
 ·rcases List.mem_append.1 hy with hy | hy
  ·exact(h.kids y hy).kept hg (own_ne (h.kids y hy) h.row (by decide))
  ·rw[List.mem_singleton.1 hy]
   simp only[]
   rw[hk]
   exact⟨rfl, .inl ⟨rfl,rfl⟩⟩
 ·rcases List.mem_append.1 hy with hy | hy
  ·exact(h.pcs y hy).kept hg (own_ne (h.pcs y hy) h.row (by decide))
  ·rw[List.mem_singleton.1 hy]
   simp only[]
   rw[hp]
   exact⟨rfl, .inl ⟨rfl,rfl⟩⟩
theorem NodesAt.form (h:NodesAt B z nv w) (hz:z≠ []): ∃g cap cur,nv= .slice (some ⟨g,0,none⟩) z.length cap∧z.length≤cap∧B≤g∧w.heap[g]?=some (.cells cur 192 (0,0)):=by
 rcases h.row.2 with⟨_,h1⟩ | ⟨g,cap,cur,h1,h2,h3,h4,_⟩
 ·exact absurd (List.length_eq_zero_iff.1 h1) hz
 ·exact⟨g,cap,cur,h1,h4,h2,h3⟩
theorem NodesAt.slice (h:NodesAt B z nv w): ∃p cap,nv= .slice p z.length cap:=by
 rcases h.row.2 with⟨h0,h1⟩ | ⟨g,cap,cur,h1,h2,h3,h4,_⟩
 ·exact⟨none,0,by rw[h0,h1]⟩
 ·exact⟨_,cap,h1⟩
theorem NodesAt.at_ {g cap:Nat} (h:NodesAt B z (.slice (some ⟨g,0,none⟩) z.length cap) w) {n:Nat}{y:ND} (hy:z[n]?=some y) (i:Nat) (hi:i<7) {u:Value} (hu:(ndCells y)[i]?=some u):
  w.cell? ⟨g,n*7+i,none⟩=some u∧w.frozen? ⟨g,n*7+i,none⟩=false:=by
 have hn:=(List.getElem?_eq_some_iff.1 hy).1
 refine⟨?_,World.ownsRow.frozenAt h.row _⟩
 rw[World.ownsRow.cellAt h.row _ (by omega),nodeCells_at z n y hy i hi,hu]
theorem NodesAt.field {g cap:Nat} (h:NodesAt B z (.slice (some ⟨g,0,none⟩) z.length cap) w) {n:Nat}{y y':ND} (hy:z[n]?=some y) (i:Nat) (hi:i<7) (u:Value) (hu:(ndCells y).set i u=ndCells y') (hk:y'.1.kids=y.1.kids) (hp:y'.1.pcs=y.1.pcs) (h1:y'.2=y.2):
  NodesAt B (z.set n y') (.slice (some ⟨g,0,none⟩) (z.set n y').length cap) (w.setCell ⟨g,n*7+i,none⟩ u):=by
 obtain⟨hr,hg⟩:=World.ownsRow.stored h.row (n*7+i) u
 obtain⟨g',cap',cur,e,_,_,hcur⟩:=h.form (fun e=>by rw[e] at hy;simp at hy)
 have hgg:g=g':=by injection e with e;injection e with e;injection e
 subst hgg
 rw[nodeCells_set z n y y' hy i u hi hu] at hr
 have hmem: ∀x∈z.set n y',x=y'∨x∈z:=fun x hx=>(List.mem_or_eq_of_mem_set hx).symm
 refine⟨by rw[List.length_set];exact hr,fun x hx=>?_,fun x hx=>?_,?_,?_⟩
 ·rcases hmem x hx with rfl | hx
  ·rw[hk,h1]
   have hm:=h.kids y (List.mem_of_getElem? hy)
   exact hm.kept hg (own_off hm hcur (by decide))
  ·exact(h.kids x hx).kept hg (own_off (h.kids x hx) hcur (by decide))
 ·rcases hmem x hx with rfl | hx
  ·rw[hp,h1]
   have hm:=h.pcs y (List.mem_of_getElem? hy)
   exact hm.kept hg (own_off hm hcur (by decide))
  ·exact(h.pcs x hx).kept hg (own_off (h.pcs x hx) hcur (by decide))
 ·exact h.ak.set hy (.inl (by rw[h1]))
 ·exact h.ap.set hy (.inl (by rw[h1]))
theorem NodesAt.kid {g cap:Nat} (h:NodesAt B z (.slice (some ⟨g,0,none⟩) z.length cap) w) {n k:Nat}{y:ND} (hy:z[n]?=some y) {kv:Value}{H:Nat} (hH:w.heap.size≤H)
  (hr:w1.ownsRow B 3 1 kv (y.1.kids.length+1) (intCells y.1.kids++ [.int .i64 (k:Int)])) (hg:w.grownBy w1 y.2.1.ownBlock) (hat:kv.ownBlock=y.2.1.ownBlock∨kv.ownBlock=some H):
  NodesAt B (z.set n ({ y.1 with kids:=y.1.kids++ [k] },kv,y.2.2)) (.slice (some ⟨g,0,none⟩) (z.set n ({ y.1 with kids:=y.1.kids++ [k] },kv,y.2.2)).length cap) (w1.setCell ⟨g,n*7+5,none⟩ kv):=by
 have hkm:=h.kids y (List.mem_of_getElem? hy)
 have hrow1:=h.row.kept hg (own_ne h.row hkm (by decide))
 obtain⟨hr2,hg2⟩:=World.ownsRow.stored hrow1 (n*7+5) kv
 obtain⟨g',cap',cur,e,_,_,hcur0⟩:=h.form (fun e=>by rw[e] at hy;simp at hy)
 have hgg:g=g':=by injection e with e;injection e with e;injection e
 subst hgg
 have hcur:w1.heap[g]?=some (.cells cur 192 (0,0)):=by
  rw[hg.block g (cell_it hcur0) (fun e=>by
   rcases own_off hkm hcur0 (by decide) with h1 | h1
   ·rw[h1] at e;cases e
   ·exact h1 e.symm)]
  exact hcur0
 rw[nodeCells_set z n y ({ y.1 with kids:=y.1.kids++ [k] },kv,y.2.2) hy 5 kv (by omega) rfl] at hr2
 refine⟨by rw[List.length_set];exact hr2,fun x hx=>?_,fun x hx=>?_,?_,?_⟩
 ·obtain⟨j,hj⟩:=List.getElem?_of_mem hx
  rw[List.getElem?_set] at hj
  by_cases hnj:n=j
  ·subst hnj
   rw[if_pos rfl,if_pos (List.getElem?_eq_some_iff.1 hy).1] at hj
   obtain rfl:=Option.some.inj hj
   have e:intCells (y.1.kids++ [k])=intCells y.1.kids++ [.int .i64 (k:Int)]:=by unfold intCells;simp
   simp only[e,List.length_append,List.length_singleton]
   exact hr.kept hg2 (own_off hr hcur (by decide))
  ·rw[if_neg hnj] at hj
   have hm:=h.kids x (List.mem_of_getElem? hj)
   have h1:=hm.kept hg (h.ak j n x y (Ne.symm hnj) hj hy)
   exact h1.kept hg2 (own_off h1 hcur (by decide))
 ·have key: ∀x∈z,(w1.setCell ⟨g,n*7+5,none⟩ kv).ownsRow B 42 2 x.2.2 x.1.pcs.length (spCells x.1.pcs):=fun x hx=>by
   have hm:=h.pcs x hx
   have h1:=hm.kept hg (own_ne hm hkm (by decide))
   exact h1.kept hg2 (own_off h1 hcur (by decide))
  rcases List.mem_or_eq_of_mem_set hx with hx | rfl
  ·exact key x hx
  ·exact key y (List.mem_of_getElem? hy)
 ·refine h.ak.set hy ?_
  rcases hat with hat | hat
  ·exact .inl hat
  ·refine .inr (fun j yj hj e=>?_)
   have hm:=h.kids yj (List.mem_of_getElem? hj)
   simp only[] at e
   rw[hat] at e
   have:=(World.ownsRow.lt hm H e).2
   omega
 ·exact h.ap.set hy (.inl rfl)
theorem NodesAt.pc {g cap:Nat} (h:NodesAt B z (.slice (some ⟨g,0,none⟩) z.length cap) w) {n:Nat}{k:Sp}{y:ND} (hy:z[n]?=some y) {kv:Value}{H:Nat} (hH:w.heap.size≤H)
  (hr:w1.ownsRow B 42 2 kv (y.1.pcs.length+1) (spCells y.1.pcs++ [.int .i64 (k.1:Int), .int .i64 (k.2:Int)])) (hg:w.grownBy w1 y.2.2.ownBlock) (hat:kv.ownBlock=y.2.2.ownBlock∨kv.ownBlock=some H):
  NodesAt B (z.set n ({ y.1 with pcs:=y.1.pcs++ [k] },y.2.1,kv)) (.slice (some ⟨g,0,none⟩) (z.set n ({ y.1 with pcs:=y.1.pcs++ [k] },y.2.1,kv)).length cap) (w1.setCell ⟨g,n*7+6,none⟩ kv):=by
 have hkm:=h.pcs y (List.mem_of_getElem? hy)
 have hrow1:=h.row.kept hg (own_ne h.row hkm (by decide))
 obtain⟨hr2,hg2⟩:=World.ownsRow.stored hrow1 (n*7+6) kv
 obtain⟨g',cap',cur,e,_,_,hcur0⟩:=h.form (fun e=>by rw[e] at hy;simp at hy)
 have hgg:g=g':=by injection e with e;injection e with e;injection e
 subst hgg
 have hcur:w1.heap[g]?=some (.cells cur 192 (0,0)):=by
  rw[hg.block g (cell_it hcur0) (fun e=>by
   rcases own_off hkm hcur0 (by decide) with h1 | h1
   ·rw[h1] at e;cases e
   ·exact h1 e.symm)]
  exact hcur0
 rw[nodeCells_set z n y ({ y.1 with pcs:=y.1.pcs++ [k] },y.2.1,kv) hy 6 kv (by omega) rfl] at hr2
 refine⟨by rw[List.length_set];exact hr2,fun x hx=>?_,fun x hx=>?_,?_,?_⟩
 ·have key: ∀x∈z,(w1.setCell ⟨g,n*7+6,none⟩ kv).ownsRow B 3 1 x.2.1 x.1.kids.length (intCells x.1.kids):=fun x hx=>by
   have hm:=h.kids x hx
   have h1:=hm.kept hg (own_ne hm hkm (by decide))
   exact h1.kept hg2 (own_off h1 hcur (by decide))
  rcases List.mem_or_eq_of_mem_set hx with hx | rfl
  ·exact key x hx
  ·exact key y (List.mem_of_getElem? hy)
 ·obtain⟨j,hj⟩:=List.getElem?_of_mem hx
  rw[List.getElem?_set] at hj
  by_cases hnj:n=j
  ·subst hnj
   rw[if_pos rfl,if_pos (List.getElem?_eq_some_iff.1 hy).1] at hj
   obtain rfl:=Option.some.inj hj
   have e:spCells (y.1.pcs++ [k])=spCells y.1.pcs++ [.int .i64 (k.1:Int), .int .i64 (k.2:Int)]:=by unfold spCells;simp
   simp only[e,List.length_append,List.length_singleton]
   exact hr.kept hg2 (own_off hr hcur (by decide))
  ·rw[if_neg hnj] at hj
   have hm:=h.pcs x (List.mem_of_getElem? hj)
   have h1:=hm.kept hg (h.ap j n x y (Ne.symm hnj) hj hy)
   exact h1.kept hg2 (own_off h1 hcur (by decide))
 ·exact h.ak.set hy (.inl rfl)
 ·refine h.ap.set hy ?_
  rcases hat with hat | hat
  ·exact .inl hat
  ·refine .inr (fun j yj hj e=>?_)
   have hm:=h.pcs yj (List.mem_of_getElem? hj)
   simp only[] at e
   rw[hat] at e
   have:=(World.ownsRow.lt hm H e).2
   omega
end
def mutT (t:TypeId):Bool:=t==192||t==3||t==42
def Safe (o:Obj):Prop:=match o with
 | .cells _ t _=>mutT t=false
 | _=>True
structure Fr (B P:Nat) (w w':World):Prop where
 bel:Below B w w'
 sz:w.heap.size≤w'.heap.size
 blk: ∀(k:Nat) (o:Obj),w.heap[k]?=some o→k≠P→Safe o→w'.heap[k]?=some o
theorem Fr.trans {B P:Nat}{w w1 w2:World} (h1:Fr B P w w1) (h2:Fr B P w1 w2):Fr B P w w2:=
 ⟨h1.bel.trans h2.bel,Nat.le_trans h1.sz h2.sz,fun k o hk hP hs=>h2.blk k o (h1.blk k o hk hP hs) hP hs⟩
theorem Fr.refl (B P:Nat) (w:World):Fr B P w w:=⟨Below.refl _ _,Nat.le_refl _,fun _ _ h _ _=>h⟩
theorem Fr.of_below {B P:Nat}{w w':World} (h:Below w.heap.size w w') (hB:B≤w.heap.size):Fr B P w w':=
 ⟨h.mono hB,h.size,fun k o hk _ _=>by rw[h.block k (cell_it hk)];exact hk⟩
theorem Fr.setP {B P i:Nat}{w:World}{u:Value} (hP:B≤P):Fr B P w (w.setCell ⟨P,i,none⟩ u):=
 ⟨(Below.refl B w).setCell (p:=⟨P,i,none⟩) hP u,by simp[World.setCell],fun k o hk hne _=>by rw[Below.heap_setCell _ _ _ k hne];exact hk⟩
theorem Fr.setM {B P X i:Nat}{w:World}{u:Value}{cs:Array Value}{t:TypeId}{fz:Nat×Nat} (hX:w.heap[X]?=some (.cells cs t fz)) (ht:mutT t=true) (hB:B≤X):Fr B P w (w.setCell ⟨X,i,none⟩ u):=
 ⟨(Below.refl B w).setCell (p:=⟨X,i,none⟩) hB u,by simp[World.setCell],fun k o hk hne hs=>by
  rw[Below.heap_setCell _ _ _ k (fun e=>by
   subst e
   rw[hk] at hX
   obtain rfl:=Option.some.inj hX
   unfold Safe at hs
   simp only[] at hs
   rw[ht] at hs;cases hs)]
  exact hk⟩
theorem Fr.grown {B P:Nat}{w w':World}{e:TypeId}{s:Nat}{v:Value}{n:Nat}{xs:List Value} (hr:w.ownsRow B e s v n xs) (ht:mutT e=true) (hg:w.grownBy w' v.ownBlock) (hB:B≤w.heap.size):Fr B P w w':=
 ⟨(Below.refl B w).grown hg hB (fun k hk=>(World.ownsRow.lt hr k hk).1),hg.size,fun k o hk hne hs=>by
  rw[hg.block k (cell_it hk) (fun e=>by
   rcases hr.2 with⟨rfl,_⟩ | ⟨g,cap,cur,rfl,_,hgc,_⟩
   ·cases e
   ·obtain rfl:k=g:=Option.some.inj e
    rw[hk] at hgc
    obtain rfl:=Option.some.inj hgc
    unfold Safe at hs
    simp only[] at hs
    rw[ht] at hs;cases hs)]
  exact hk⟩
end Go.Proofs.YtlibkhbachmcgaaGreatDoor
namespace Go.Proofs.YtlibkhbachmcgaaGreatDoor
set_option linter.unusedSimpArgs false
set_option linter.unusedVariables false
open Go.RowKit
section
variable {P:Program}{ops:Array Oper}{Q:Exit→Act→World→Prop}{md:Region.Mode}
theorem cnt_listed (L:Array Bool) (i:Nat) (h:L.getD i true=false):(L.setIfInBounds i true).toList.countP (fun b=>!b)+1=L.toList.countP (fun b=>!b):=by
 have hi:i<L.toList.length:=by
  rw[Array.length_toList]
  by_cases hi:i<L.size
  ·exact hi
  ·rw[Array.getD_eq_getD_getElem?,Array.getElem?_eq_none (by omega)] at h
   cases h
 have hv:L.toList[i]=false:=by
  rw[Array.getD_eq_getD_getElem?,Array.getElem?_eq_getElem (by simpa using hi)] at h
  simpa using h
 rw[Array.toList_setIfInBounds,List.countP_set hi,hv]
 have:0<L.toList.countP (fun b=>!b):=List.countP_pos_iff.2 ⟨false,by rw[←hv];exact List.getElem_mem hi,rfl⟩
 simp only[Bool.not_false,Bool.not_true,if_true,Bool.false_eq_true,if_false]
 omega
theorem wpAny_inv (Inv:Array Bool→Act→World→Prop)
  (hs: ∀(L:Array Bool) (a:Act) (w:World) (i:Nat) (o:Oper),L.size=ops.size→ops[i]?=some o→L.getD i true=false→(∀e∈o.after,Region.binds md e=true→L.getD e.on false=true)→Inv L a w→
   ∀K:Act→World→Prop,(∀a' w',Inv (L.setIfInBounds i true) a' w'→K a' w')→if Region.wanted o (yielded ops a.tmps)=true then o.wp P a w K Q else K (a.put o.dst undef) w)
  (hd: ∀(L:Array Bool) (a:Act) (w:World),L.size=ops.size→Inv L a w→Region.ready md ops L= []→Q .normal a w):
  ∀(fuel:Nat) (L:Array Bool) (a:Act) (w:World),L.size=ops.size→L.toList.countP (fun b=>!b)≤fuel→Inv L a w→wpAny P md ops Q fuel L a w:=by
 intro fuel
 induction fuel with
 | zero=>
  intro L a w hL hc hI
  have hr:Region.ready md ops L= []:=by
   rw[List.eq_nil_iff_forall_not_mem]
   intro i hi
   have:=cnt_listed L i (mem_ready.1 hi).1
   omega
  exact⟨hr,hd L a w hL hI hr⟩
 | succ fuel ih=>
  intro L a w hL hc hI
  refine⟨fun hr=>hd L a w hL hI hr,fun i hi=>?_⟩
  obtain⟨h0,o,ho,hall⟩:=mem_ready.1 hi
  refine wpOp_step ho fun K hK=>hs L a w i o hL ho h0 hall hI K fun a' w' h=>hK a' w' (ih _ _ _ (by simpa using hL) ?_ h)
  have:=cnt_listed L i h0
  omega
theorem wp_region_inv {id:Nat}{a:Act}{w:World} (hm:P.follows .mixedOrders=true) (Inv:Array Bool→Act→World→Prop)
  (h0:Inv (Array.replicate ops.size false) a w.drew)
  (hs: ∀(L:Array Bool) (a:Act) (w:World) (i:Nat) (o:Oper),L.size=ops.size→ops[i]?=some o→L.getD i true=false→(∀e∈o.after,Region.binds .any e=true→L.getD e.on false=true)→Inv L a w→
   ∀K:Act→World→Prop,(∀a' w',Inv (L.setIfInBounds i true) a' w'→K a' w')→if Region.wanted o (yielded ops a.tmps)=true then o.wp P a w K Q else K (a.put o.dst undef) w)
  (hd: ∀(L:Array Bool) (a:Act) (w:World),L.size=ops.size→Inv L a w→Region.ready .any ops L= []→Q .normal a w):(Code.region id ops true).wp P Q a w:=by
 refine wp_region_any hm (wpAny_inv Inv hs hd ops.size _ a _ (by simp) ?_ h0)
 rw[Array.toList_replicate,List.countP_replicate]
 split<;>omega
end
def backB (ops:Array Oper):Bool:=(List.range ops.size).all fun i=>match ops[i]? with
 | some o=>o.after.toList.all (fun e=>!Region.binds .any e||decide (e.on<i))&&o.guard.isNone
 | none=>true
theorem backB_at {ops:Array Oper} (h:backB ops=true) {i:Nat}{o:Oper} (ho:ops[i]?=some o):(∀e∈o.after,Region.binds .any e=true→e.on<i)∧o.guard=none:=by
 have hi:=(Array.getElem?_eq_some_iff.1 ho).1
 have:=List.all_eq_true.1 h i (List.mem_range.2 hi)
 rw[ho] at this
 simp only[Bool.and_eq_true] at this
 refine⟨fun e he hb=>?_,Option.isNone_iff_eq_none.1 this.2⟩
 have:=List.all_eq_true.1 this.1 e (Array.mem_toList_iff.2 he)
 rw[hb,Bool.not_true,Bool.false_or] at this
 exact of_decide_eq_true this
theorem all_listed {ops:Array Oper} (h:backB ops=true) {L:Array Bool} (hL:L.size=ops.size) (hr:Region.ready .any ops L= []): ∀i,i<ops.size→L.getD i false=true:=by
 intro i
 induction i using Nat.strongRecOn with
 | _ i ih=>
  intro hi
  obtain⟨o,ho⟩: ∃o,ops[i]?=some o:=⟨_,Array.getElem?_eq_getElem hi⟩
  cases hc:L.getD i false with
  | true=>rfl
  | false=>
   have hm:i∈Region.ready .any ops L:=mem_ready.2 ⟨by
    rw[Array.getD_eq_getD_getElem?,Array.getElem?_eq_getElem (by omega)] at hc ⊢
    simpa using hc,o,ho,fun e he hb=>ih _ ((backB_at h ho).1 e he hb) (by have:=(backB_at h ho).1 e he hb;omega)⟩
   rw[hr] at hm
   cases hm
def fillT (t:Array Value) (v:Nat→Value):List Nat→Array Value
 | []=>t
 | k::ks=>(fillT t v ks).setIfInBounds k (v k)
theorem size_fillT (t:Array Value) (v:Nat→Value): ∀ks,(fillT t v ks).size=t.size
 | []=>rfl
 | k::ks=>by rw[fillT,Array.size_setIfInBounds,size_fillT t v ks]
theorem get_fillT (t:Array Value) (v:Nat→Value) (j:Nat) (hj:j<t.size): ∀ks,(fillT t v ks)[j]?=if j∈ks then some (v j) else t[j]?
 | []=>by simp[fillT]
 | k ::ks=>by
  rw[fillT,Array.getElem?_setIfInBounds]
  by_cases h:k=j
  ·subst h
   rw[if_pos rfl,size_fillT,if_pos hj,if_pos List.mem_cons_self]
  ·rw[if_neg h,get_fillT t v j hj ks]
   by_cases hm:j∈ks
   ·rw[if_pos hm,if_pos (List.mem_cons_of_mem _ hm)]
   ·rw[if_neg hm,if_neg (by
     rw[List.mem_cons]
     rintro(h2 | h2)
     ·exact h h2.symm
     ·exact hm h2)]
def setB (d:Nat→Bool) (i:Nat):Nat→Bool:=fun j=>if j=i then true else d j
def setV (v:Nat→Value) (t:Option Tmp) (x:Value):Nat→Value:=match t with
 | some t=>fun k=>if k=t then x else v k
 | none=>v
theorem getD_put (a:Act) (t:Option Tmp) (x:Value) (ht: ∀k,t=some k→k<a.tmps.size):(fun k=>(a.put t x).tmps.getD k undef)=setV (fun k=>a.tmps.getD k undef) t x:=by
 funext k
 cases t with
 | none=>rfl
 | some t=>
  show (a.tmps.setIfInBounds t x).getD k undef=if k=t then x else a.tmps.getD k undef
  rw[Array.getD_eq_getD_getElem?,Array.getElem?_setIfInBounds]
  by_cases h:t=k
  ·subst h
   rw[if_pos rfl,if_pos (ht t rfl),if_pos rfl]
   rfl
  ·rw[if_neg h,if_neg (Ne.symm h),Array.getD_eq_getD_getElem?]
theorem getD_set (L:Array Bool) (i:Nat) (hi:i<L.size):(fun j=>(L.setIfInBounds i true).getD j false)=setB (fun j=>L.getD j false) i:=by
 funext j
 unfold setB
 rw[Array.getD_eq_getD_getElem?,Array.getElem?_setIfInBounds]
 by_cases h:i=j
 ·subst h
  rw[if_pos rfl,if_pos hi,if_pos rfl]
  rfl
 ·rw[if_neg h,if_neg (Ne.symm h)]
  show _=L.getD j false
  rw[Array.getD_eq_getD_getElem?]
def dstsB (ops:Array Oper) (K:List Nat) (n:Nat):Bool:=ops.toList.all fun o=>match o.dst with
 | some t=>K.contains t&&decide (t<n)
 | none=>true
theorem dsts_at {ops:Array Oper}{K:List Nat}{n:Nat} (h:dstsB ops K n=true) {i:Nat}{o:Oper} (ho:ops[i]?=some o): ∀t,o.dst=some t→t∈K∧t<n:=by
 intro t ht
 have:=List.all_eq_true.1 h o (Array.mem_toList_iff.2 (Array.mem_of_getElem? ho))
 rw[ht] at this
 simp only[Bool.and_eq_true,decide_eq_true_eq] at this
 exact⟨by simpa using this.1,this.2⟩
theorem wp_region_facts {P:Program}{ops:Array Oper}{Q:Exit→Act→World→Prop}{id:Nat}{a0:Act}{w0:World} (hm:P.follows .mixedOrders=true) (K:List Nat) (n:Nat) (hn:a0.tmps.size=n) (hback:backB ops=true) (hdst:dstsB ops K n=true)
  (F:(Nat→Bool)→(Nat→Value)→World→Prop) (h0:F (fun _=>false) (fun k=>a0.tmps.getD k undef) w0.drew)
  (hs: ∀(d:Nat→Bool) (a:Act) (w:World) (i:Nat) (o:Oper),ops[i]?=some o→d i=false→(∀e∈o.after,Region.binds .any e=true→d e.on=true)→(∀k,k ∉ K→a.tmps.getD k undef=a0.tmps.getD k undef)→F d (fun k=>a.tmps.getD k undef) w→
   ∀R:Act→World→Prop,(∀x w',F (setB d i) (setV (fun k=>a.tmps.getD k undef) o.dst x) w'→R (a.put o.dst x) w')→o.wp P a w R Q)
  (hd: ∀(v:Nat→Value) (w:World),F (fun i=>decide (i<ops.size)) v w→Q .normal { a0 with tmps:=fillT a0.tmps v K } w):(Code.region id ops true).wp P Q a0 w0:=by
 subst hn
 refine wp_region_inv hm (fun L a w=>(a.defers=a0.defers∧a.tmps.size=a0.tmps.size∧ ∀k,k ∉ K→a.tmps.getD k undef=a0.tmps.getD k undef)∧F (fun i=>L.getD i false) (fun k=>a.tmps.getD k undef) w) ⟨⟨rfl,rfl,fun k _=>rfl⟩,?_⟩ ?_ ?_
 ·have:(fun i=>(Array.replicate ops.size false).getD i false)=fun _=>false:=by
   funext i
   rw[Array.getD_eq_getD_getElem?,Array.getElem?_replicate]
   split<;>rfl
  rw[this]
  exact h0
 ·intro L a w i o hL ho hi hall hI R hR
  obtain⟨⟨h1,h2,h3⟩,hF⟩:=hI
  have hlt:i<L.size:=by rw[hL];exact(Array.getElem?_eq_some_iff.1 ho).1
  have hw:Region.wanted o (yielded ops a.tmps)=true:=by simp[Region.wanted,(backB_at hback ho).2]
  rw[if_pos hw]
  refine hs (fun i=>L.getD i false) a w i o ho ?_ hall h3 hF R fun x w' hx=>hR _ _ ⟨⟨?_,?_,fun k hk=>?_⟩,?_⟩
  ·rw[Array.getD_eq_getD_getElem?,Array.getElem?_eq_getElem hlt] at hi ⊢
   simpa using hi
  ·unfold Act.put;cases o.dst<;>exact h1
  ·unfold Act.put;cases o.dst
   ·exact h2
   ·rw[Array.size_setIfInBounds];exact h2
  ·rw[←h3 k hk]
   have hg:=congrFun (getD_put a o.dst x (fun t ht=>by rw[h2];exact(dsts_at hdst ho t ht).2)) k
   have e: ∀t,o.dst=t→setV (fun k=>a.tmps.getD k undef) t x k=a.tmps.getD k undef:=fun t ht=>by
    cases t with
    | none=>rfl
    | some t=>exact if_neg (fun h=>hk (by rw[h];exact(dsts_at hdst ho t ht).1))
   exact hg.trans (e _ rfl)
  ·rw[getD_set L i hlt,getD_put a o.dst x (fun t ht=>by rw[h2];exact(dsts_at hdst ho t ht).2)]
   exact hx
 ·intro L a w hL hI hr
  obtain⟨⟨h1,h2,h3⟩,hF⟩:=hI
  have hall:=all_listed hback hL hr
  have hfun:(fun i=>L.getD i false)=fun i=>decide (i<ops.size):=by
   funext i
   by_cases hi:i<ops.size
   ·rw[hall i hi,decide_eq_true hi]
   ·rw[decide_eq_false hi,Array.getD_eq_getD_getElem?,Array.getElem?_eq_none (by omega)]
    rfl
  rw[hfun] at hF
  have:=hd _ w hF
  have ha:a= { a0 with tmps:=fillT a0.tmps (fun k=>a.tmps.getD k undef) K }:=by
   cases a with
   | mk tmps defers=>
    simp only at h1 h2 h3 ⊢
    rw[h1]
    congr 1
    refine Array.ext_getElem? fun j=>?_
    by_cases hj:j<a0.tmps.size
    ·rw[get_fillT _ _ j hj]
     have hget:tmps[j]?=some (tmps.getD j undef):=by rw[Array.getD_eq_getD_getElem?,Array.getElem?_eq_getElem (by omega)];rfl
     split
     ·exact hget
     ·rename_i hk
      rw[hget,h3 j hk,Array.getD_eq_getD_getElem?,Array.getElem?_eq_getElem hj];rfl
    ·rw[Array.getElem?_eq_none (by omega),Array.getElem?_eq_none (by rw[size_fillT];omega)]
  rw[ha]
  exact this
section
variable {dst dead:Nat→Nat}{own:Nat→Bool}{claim:Nat→Value→World→Prop}{B:Nat}{w0 w w':World}{d:Nat→Bool}{v:Nat→Value}
theorem setB_ne {d:Nat→Bool}{i j:Nat} (h:j≠i):setB d i j=d j:=if_neg h
theorem setB_eq {d:Nat→Bool}{i:Nat}:setB d i i=true:=if_pos rfl
end
end Go.Proofs.YtlibkhbachmcgaaGreatDoor
