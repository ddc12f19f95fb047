import Derived.Test.YtlibkhbachmcgaaGreatDoorRe1
import Derived.Test.YtlibkhbachmcgaaGreatDoorShelf
import Derived.Test.YtlibkhbachmcgaaGreatDoorProg
import Derived.Lib.IndexBytes
import Derived.Test.YtlibkhbachmcgaaGreatDoorRe15
import Derived.Test.YtlibkhbachmcgaaGreatDoorRe16
import Derived.Test.YtlibkhbachmcgaaGreatDoorRe6
set_option maxRecDepth 100000
set_option maxHeartbeats 1000000
namespace Go.Proofs.YtlibkhbachmcgaaGreatDoor
set_option linter.unusedSimpArgs false
set_option linter.unusedVariables false
open Go.RowKit
open Go.Lib hiding intOf
def linesL:List UInt8→Nat→Nat→List (Nat×Nat)
 | [],k,pos=> [(k,pos)]
 | c::t,k,pos=>if c=10 then(k,pos+1)::linesL t (pos+1) (pos+1) else linesL t k (pos+1)
def linesOf (s:ByteArray):List (Nat×Nat):=linesL s.data.toList 0 0
theorem linesL_len: ∀(l:List UInt8) (k pos:Nat),(linesL l k pos).length≤l.length+1∧1≤(linesL l k pos).length
 | [],k,pos=>by simp[linesL]
 | c::t,k,pos=>by
  unfold linesL
  have h1:=linesL_len t (pos+1) (pos+1)
  have h2:=linesL_len t k (pos+1)
  split<;>simp<;>omega
theorem linesOf_len (s:ByteArray):(linesOf s).length≤s.size+1∧1≤(linesOf s).length:=linesL_len s.data.toList 0 0
def spanCells (xs:List (Nat×Nat)):List Value:=xs.flatMap fun p=> [.int .i64 p.1, .int .i64 p.2]
theorem spanCells_snoc (xs:List (Nat×Nat)) (a b:Nat):spanCells (xs++ [(a,b)])=spanCells xs++ [.int .i64 a, .int .i64 b]:=by simp[spanCells]
def OwnsSpans (B:Nat) (w:World) (v:Value) (xs:List (Nat×Nat)):Prop:=w.ownsRow B 42 2 v xs.length (spanCells xs)
theorem OwnsSpans.snoc {B:Nat}{w:World}{v:Value}{xs:List (Nat×Nat)}{a b:Nat} (h:w.ownsRow B 42 2 v (xs.length+1) (spanCells xs++(#[Value.int .i64 a,Value.int .i64 b]:Array Value).toList)):OwnsSpans B w v (xs++ [(a,b)]):=by
 unfold OwnsSpans
 rw[spanCells_snoc,List.length_append]
 exact h
def Lns (s:ByteArray) (xs:List (Nat×Nat)) (k i:Nat):Prop:=xs++linesL (s.data.toList.drop i) k i=linesOf s∧k≤i
theorem Lns.zero (s:ByteArray):Lns s [] 0 0:=⟨rfl,Nat.le_refl _⟩
theorem Lns.len {s:ByteArray}{xs:List (Nat×Nat)}{k i:Nat} (h:Lns s xs k i):xs.length≤s.size:=by
 have h1:=congrArg List.length h.1
 have h2:=linesL_len (s.data.toList.drop i) k i
 have h3:=linesOf_len s
 rw[List.length_append] at h1
 omega
theorem linesL_none: ∀(l:List UInt8) (k pos:Nat),Lib.indexByte l 10<0→linesL l k pos= [(k,pos+l.length)]
 | [],k,pos,_=>rfl
 | c ::t,k,pos,h=>by
  unfold Lib.indexByte at h
  have hge:=Lib.indexByte_ge t 10
  by_cases hc:c=10
  ·subst hc;simp at h
  ·rw[if_neg (by simpa using hc)] at h
   have ht:Lib.indexByte t 10<0:=by
    split at h
    ·rename_i h1;have h2:Lib.indexByte t 10= -1:=by simpa using h1
     omega
    ·omega
   rw[linesL,if_neg hc,linesL_none t k (pos+1) ht,List.length_cons,show pos+1+t.length=pos+(t.length+1) by omega]
theorem linesL_some: ∀(l:List UInt8) (k pos j:Nat),Lib.indexByte l 10=(j:Int)→j<l.length∧linesL l k pos=(k,pos+j+1)::linesL (l.drop (j+1)) (pos+j+1) (pos+j+1)
 | [],k,pos,j,h=>by simp[Lib.indexByte] at h<;>omega
 | c::t,k,pos,j,h=>by
  unfold Lib.indexByte at h
  have hge:=Lib.indexByte_ge t 10
  by_cases hc:c=10
  ·subst hc
   obtain rfl:j=0:=by simp at h;omega
   simp[linesL]
  ·rw[if_neg (by simpa using hc)] at h
   by_cases h1:(Lib.indexByte t 10== -1)=true
   ·rw[if_pos h1] at h;omega
   ·rw[if_neg h1] at h
    have hn:Lib.indexByte t 10≠ -1:=by simpa using h1
    obtain⟨m,rfl⟩: ∃m,j=m+1:=⟨j-1,by omega⟩
    obtain⟨h2,h3⟩:=linesL_some t k (pos+1) m (by omega)
    refine⟨by simp;omega,?_⟩
    rw[linesL,if_neg hc,h3,show pos+1+m+1=pos+(m+1)+1 by omega];rfl
theorem Lns.last {s:ByteArray}{xs:List (Nat×Nat)}{k:Nat} (h:Lns s xs k k) (hk:k≤s.size) (hi:Lib.indexByte (s.data.toList.drop k) 10<0):xs++ [(k,s.size)]=linesOf s:=by
 have h1:=h.1
 rw[linesL_none _ _ _ hi,List.length_drop,show k+(s.data.toList.length-k)=s.size by have:s.data.toList.length=s.size:=rfl;omega] at h1
 exact h1
theorem Lns.line {s:ByteArray}{xs:List (Nat×Nat)}{k j:Nat} (h:Lns s xs k k) (hi:Lib.indexByte (s.data.toList.drop k) 10=(j:Int)):k+j+1≤s.size∧Lns s (xs++ [(k,k+j+1)]) (k+j+1) (k+j+1):=by
 obtain⟨h2,h3⟩:=linesL_some _ k k j hi
 have hl:s.data.toList.length=s.size:=rfl
 rw[List.length_drop] at h2
 have h1:=h.1
 rw[h3,List.drop_drop] at h1
 refine⟨by omega,?_,Nat.le_refl _⟩
 rw[←h1,List.append_assoc];rfl
theorem idx_at (s:ByteArray) (k:Nat) (w:World):
  Calls Tryz.prog 57 #[.string (s.extract k s.size), .int .u8 10] w fun e w'=>e= .returned (.int .i64 (Lib.indexByte (s.data.toList.drop k) 10))∧w=w':=by
 have h:=Tryz.strings_IndexByte (s.extract k s.size) 10 w
 rw[show (s.extract k s.size).data.toList=s.data.toList.drop k from Lib.extract_to_end s k] at h
 exact h.mono fun _ _ ⟨a,b⟩=>⟨a,b.symm⟩
theorem lines_any (s:ByteArray) (w:World) (hs:s.size≤4294967000):
  Calls Tryz.prog 33 #[.string s] w fun e w'=> ∃v,e= .returned v∧OwnsSpans w.heap.size w' v (linesOf s)∧Below w.heap.size w w':=by
 obtain⟨i0,hi0,hz0,hz1,hz2⟩:=info_parts Tryz.infoSpan
 go_enter Tryz.func33,Tryz.ntmps33
 go_wp2_with fail
 go_loopw [3,4] (fun v f wr=> ∃(k:Nat) (xs:List (Nat×Nat)),k≤s.size∧xs.length≤s.size∧f= .int .i64 k∧Hid (OwnsSpans w.heap.size wr v xs)∧Hid (Below w.heap.size w wr)∧Hid (Lns s xs k k)) (fun _ f _=>s.size-(RowKit.intOf f).toNat)
 case atStart=>exact⟨0,[],by omega,by simp,rfl,World.ownsRow_nil _ _ _ _,Below.refl _ _,Lns.zero s⟩
 case round=>
  obtain⟨k,xs,hk,hxs,rfl,hown,hbw,hL⟩:=hrel
  have hsize:=hbw.out.size
  have hix:=idx_at s k
  by_cases hneg:Lib.indexByte (s.data.toList.drop k) 10<0
  ·have hL2:=hid (hL.out.last hk hneg)
   generalize Lib.indexByte (s.data.toList.drop k) 10=I at *
   have HIX:=hid hix;clear hix
   go_wp2_with (first | (go_at_call 57;refine(HIX.out _).mono ?_;rintro e w' ⟨rfl,rfl⟩) | (at_builtin;go_must (refine wpList_push rfl _ _ 64 rfl w.heap.size 42 i0 _ 2 16 Tryz.underlying64 hi0 hz0 hz1 hz2 rfl (by decide) wr u3 xs.length (spanCells xs) rfl hown.out #[.int .i64 k, .int .i64 s.size] rfl rfl (by simp[Value.oneCell']) (by omega) (by decide) hsize ?_);intro v1 w1 hown1 hsz1 hbel1 hkeep1 hne1))
   go_ret
   exact⟨v1,rfl,by rw[←hL2.out];exact OwnsSpans.snoc hown1,hbw.out.trans hbel1⟩
  ·obtain⟨j,hj⟩:=Int.eq_ofNat_of_zero_le (Int.not_lt.1 hneg)
   obtain⟨hkj,hL1⟩:=hL.out.line hj
   have hL2:=hid hL1;clear hL1
   rw[hj] at hix
   have HIX:=hid hix;clear hix hj hneg
   go_wp2_with (first | (go_at_call 57;refine(HIX.out _).mono ?_;rintro e w' ⟨rfl,rfl⟩) | (at_builtin;go_must (refine wpList_push rfl _ _ 64 rfl w.heap.size 42 i0 _ 2 16 Tryz.underlying64 hi0 hz0 hz1 hz2 rfl (by decide) wr u3 xs.length (spanCells xs) rfl hown.out #[.int .i64 k, .int .i64 ((k:Int)+j+1)] rfl rfl (by simp[Value.oneCell']) (by omega) (by decide) hsize ?_);intro v1 w1 hown1 hsz1 hbel1 hkeep1 hne1))
   have hn:xs.length+1≤s.size:=by have:=hL2.out.len;simpa using this
   go_roundw
   case rel=>exact⟨k+j+1,xs++ [(k,k+j+1)],by omega,by simpa using hn,by go_num,OwnsSpans.snoc hown1,hbw.out.trans hbel1,hL2.out⟩
   case measure=>simp[RowKit.intOf];omega
end Go.Proofs.YtlibkhbachmcgaaGreatDoor
namespace Go.Proofs.YtlibkhbachmcgaaGreatDoor
set_option linter.unusedSimpArgs false
set_option linter.unusedVariables false
open Go.Lib
def cutSp:List (Nat×Nat)→List (Nat×Nat)
 | []=> []
 | [x]=> [x]
 | x::y::r=>(x.1,x.2-1)::cutSp (y::r)
theorem cutSp_len: ∀l,(cutSp l).length=l.length
 | []=>rfl
 | [_]=>rfl
 | x::y::r=>by rw[cutSp,List.length_cons,cutSp_len (y::r)];rfl
structure YND where
 kind:Nat
 ind:Int
 fr:Nat
 til:Nat
 kf:Int
 kt:Int
 rf:Int
 rt:Int
 kids:List Nat
structure YS where
 lines:List LineR
 nodes:List YND
 total:Nat
def contentB (x:LineR):Bool:=decide (3≤x.kind)&&decide (x.kind≤5)
inductive NX where
 | ok (k:Nat) (lines:List LineR)
 | bad (a:Int) (er:Int)
def nextG (s:Stp):List (Nat×Nat)→Nat→List LineR→NX
 | [],k,lines=> .ok k lines
 | x::r,k,lines=>match lines[k]? with
  | some l=>if contentB l then .ok k lines else nextG s r (k+1) lines
  | none=>if(lineL s x.1 x.2).2.2≠0 then .bad (lineL s x.1 x.2).2.1 (lineL s x.1 x.2).2.2 else
   if contentB (lineL s x.1 x.2).1 then .ok k (lines++ [(lineL s x.1 x.2).1]) else nextG s r (k+1) (lines++ [(lineL s x.1 x.2).1])
def nextM (s:Stp) (sp:List (Nat×Nat)) (k:Nat) (lines:List LineR):NX:=nextG s (sp.drop k) k lines
def lineT (s:Stp) (x:Nat×Nat):Stp:=(s.drop x.1).take (x.2-x.1)
def slI (s:Stp) (a b:Int):Stp:=(s.drop a.toNat).take (b.toNat-a.toNat)
def lnAt (ls:List LineR) (k:Nat):LineR:=ls[k]?.getD noLine
def spAt (sp:List (Nat×Nat)) (k:Nat):Nat×Nat:=sp[k]?.getD (0,0)
def beginsM (sp:List (Nat×Nat)) (st:YS) (k:Nat):Int:=((spAt sp k).1:Int)+(lnAt st.lines k).ind
inductive YR where
 | ok (n:Nat) (st:YS)
 | bad (a:Int) (er:Int)
def addM (x:YND) (lv:Nat) (a:Int) (st:YS):YR:=
 if lv=0 then .bad a 5 else if 4096≤st.total then .bad a 6 else .ok st.nodes.length ⟨st.lines,st.nodes++ [x],st.total+1⟩
def restM (s:Stp) (lv:Nat) (k:Nat) (kf kt:Int) (st:YS):YR:=
 match addM ⟨1,(lnAt st.lines k).ind,k,k+1,kf,kt,(lnAt st.lines k).rf,(lnAt st.lines k).rt,[]⟩ lv (lnAt st.lines k).rf st with
 | .bad a e=> .bad a e
 | .ok n s1=>
  let v:=readY (slI s (lnAt st.lines k).rf (lnAt st.lines k).rt)
  if v.2≠0 then .bad (lnAt st.lines k).rf v.2 else
  if lv<v.1.depth then .bad (lnAt st.lines k).rf 5 else
  if 4096<s1.total+v.1.size-1 then .bad (lnAt st.lines k).rf 6 else .ok n ⟨s1.lines,s1.nodes,s1.total+v.1.size-1⟩
def reachG (s:Stp) (ind:Int):List (Nat×Nat)→Nat→Nat→Nat→Nat
 | [],_,til,_=>til
 | x::r,i,til,first=>
  if spL (lineT s x)=(lineT s x).length then reachG s ind r (i+1) til first else
  if(spL (lineT s x):Int)≤ind∨spL (lineT s x)<first then til else reachG s ind r (i+1) (i+1) (if first=0 then spL (lineT s x) else first)
def reachM (s:Stp) (sp:List (Nat×Nat)) (ind:Int) (k:Nat):Nat:=reachG s ind (sp.drop (k+1)) (k+1) (k+1) 0
def badM (d:Nat×Nat):Bool:=(d.1==65533&&d.2==1)||!(d.1==9||(decide (32≤d.1)&&d.1 !=127))
def mayGo (s:Stp) (e:Nat):Nat→Nat→Nat
 | 0,i=>i
 | f+1,i=>if e≤i then i else if badM (decodeL (s.drop i)) then i else mayGo s e f (i+(decodeL (s.drop i)).2)
def mayA (s:Stp) (x:Nat×Nat):Nat:=mayGo s x.2 (x.2-x.1) x.1
def textLine (s:Stp) (x:Nat×Nat):LineR:=⟨6,x.1,x.2,spL (lineT s x),0,0,0,0,0,0⟩
def takesG (s:Stp):List (Nat×Nat)→List LineR→List LineR ⊕ Int
 | [],ls=> .inl ls
 | x::r,ls=>if mayA s x<x.2 then .inr (mayA s x:Int) else takesG s r (ls++ [textLine s x])
def literalM (s:Stp) (sp:List (Nat×Nat)) (lv:Nat) (k:Nat) (kf kt:Int) (st:YS):YR:=
 match addM ⟨4,(lnAt st.lines k).ind,k,reachM s sp (lnAt st.lines k).ind k,kf,kt,(lnAt st.lines k).rf,(lnAt st.lines k).rt,[]⟩ lv (lnAt st.lines k).rf st with
 | .bad a e=> .bad a e
 | .ok n s1=>match takesG s ((sp.drop (k+1)).take (reachM s sp (lnAt st.lines k).ind k-(k+1))) s1.lines with
  | .inr a=> .bad a 2
  | .inl ls=> .ok n ⟨ls,s1.nodes,s1.total⟩
abbrev YB:=Nat→Int→Int→YS→YR
def ymValue (s:Stp) (sp:List (Nat×Nat)) (B:YB) (lv:Nat):YB:=fun k kf kt st=>
 let t:=slI s (lnAt st.lines k).rf (lnAt st.lines k).rt
 if t= [124]∨t= [124,45] then literalM s sp lv k kf kt st else
 if t= [] then
  match nextM s sp (k+1) st.lines with
  | .bad a e=> .bad a e
  | .ok nx ls=>if nx<sp.length∧(lnAt st.lines k).ind<(lnAt ls nx).ind then B nx kf kt ⟨ls,st.nodes,st.total⟩ else restM s lv k kf kt ⟨ls,st.nodes,st.total⟩
 else restM s lv k kf kt st
def modY (f:YND→YND):Nat→List YND→List YND
 | _,[]=> []
 | 0,x::l=>f x::l
 | n+1,x::l=>x::modY f n l
def toOf (ns:List YND) (k:Nat):Nat:=match ns[k]? with
 | some x=>x.til
 | none=>0
def addKidY (n kid:Nat) (ns:List YND):List YND:=modY (fun x=> { x with kids:=x.kids++ [kid],til:=toOf ns kid }) n ns
def oneM (s:Stp) (V:YB) (map:Bool) (had:List Stp) (k:Nat) (st:YS):YR×List Stp:=
 if map then
  let kr:=keyRd (slI s (lnAt st.lines k).kf (lnAt st.lines k).kt)
  if kr.2≠0 then(.bad (lnAt st.lines k).kf kr.2,had) else
  if kr.1∈had then(.bad (lnAt st.lines k).kf 7,had) else(V k (lnAt st.lines k).kf (lnAt st.lines k).kt st,kr.1::had)
 else(V k 0 0 st,had)
inductive OR where
 | ok (nx:Nat) (st:YS) (had:List Stp)
 | bad (a:Int) (er:Int)
def ymOne (s:Stp) (sp:List (Nat×Nat)) (V:YB) (map:Bool) (n:Nat) (ind:Int) (had:List Stp) (k:Nat) (st:YS):OR:=
 match oneM s V map had k st with
 | (.bad a e,_)=> .bad a e
 | (.ok kid s2,had')=>
  match nextM s sp (toOf s2.nodes kid) s2.lines with
  | .bad a e=> .bad a e
  | .ok nx ls=>if nx<sp.length∧ind<(lnAt ls nx).ind then .bad (((spAt sp nx).1:Int)+(lnAt ls nx).ind) 2 else .ok nx ⟨ls,addKidY n kid s2.nodes,s2.total⟩ had'
def ymLoop (s:Stp) (sp:List (Nat×Nat)) (V:YB) (map:Bool) (n:Nat) (ind kind:Int):Nat→List Stp→Nat→YS→YR
 | 0,_,_,st=> .ok n st
 | f+1,had,k,st=>
  if k<sp.length∧(lnAt st.lines k).ind=ind∧(lnAt st.lines k).kind=kind then
   match ymOne s sp V map n ind had k st with
   | .bad a e=> .bad a e
   | .ok nx s2 had'=>ymLoop s sp V map n ind kind f had' nx s2
  else .ok n st
def ymBlockS (s:Stp) (sp:List (Nat×Nat)) (V:YB) (lv:Nat):YB:=fun k kf kt st=>
 let x:=lnAt st.lines k
 if x.kind=5 then restM s lv k kf kt st else
 match addM ⟨if x.kind=4 then 3 else 2,x.ind,k,0,kf,kt,0,0,[]⟩ lv (beginsM sp st k) st with
 | .bad a e=> .bad a e
 | .ok n s1=>ymLoop s sp V (decide (x.kind=4)) n x.ind x.kind (sp.length-k) [] k s1
def ymBlock (s:Stp) (sp:List (Nat×Nat)):Nat→YB
 | 0=>ymBlockS s sp (fun _ _ _ _=> .bad 0 0) 0
 | lv+1=>ymBlockS s sp (ymValue s sp (ymBlock s sp lv) lv) (lv+1)
structure YDoc where
 lines:List LineR
 nodes:List YND
def ymWhole (s:Stp) (sp:List (Nat×Nat)):YDoc×Int×Int:=
 match nextM s sp 0 [] with
 | .bad a e=>(⟨[],[]⟩,a,e)
 | .ok k ls=>
  if ¬k<sp.length then(⟨ls,[⟨1,0,0,0,0,0,(s.length:Int),(s.length:Int),[]⟩]⟩,(s.length:Int),0) else
  match ymBlock s sp 32 k 0 0 ⟨ls,[],0⟩ with
  | .bad a e=>(⟨[],[]⟩,a,e)
  | .ok _ st=>
   match nextM s sp (toOf st.nodes 0) st.lines with
   | .bad a e=>(⟨[],[]⟩,a,e)
   | .ok k2 ls2=>if k2<sp.length then(⟨[],[]⟩,((spAt sp k2).1:Int)+(lnAt ls2 k2).ind,2) else(⟨ls2,st.nodes⟩,(s.length:Int),0)
def spY (s:Stp):List (Nat×Nat):=cutSp (linesL s 0 0)
def parseYm (s:Stp):YDoc×Int×Int:=if 65536<s.length then(⟨[],[]⟩,0,3) else ymWhole s (spY s)
end Go.Proofs.YtlibkhbachmcgaaGreatDoor
namespace Go.Proofs.YtlibkhbachmcgaaGreatDoor
set_option linter.unusedSimpArgs false
set_option linter.unusedVariables false
open Go.RowKit
open Go.Lib hiding intOf
theorem flat_at {α:Type} (f:α→List Value) (m:Nat) (hf: ∀x,(f x).length=m): ∀(z:List α) (j:Nat) (y:α),z[j]?=some y→ ∀i,i<m→(z.flatMap f)[j*m+i]?=(f y)[i]?
 | [],j,y,h,i,hi=>by simp at h
 | x::z,0,y,h,i,hi=>by
  obtain rfl:x=y:=by simpa using h
  rw[List.flatMap_cons,Nat.zero_mul,Nat.zero_add,List.getElem?_append_left (by rw[hf];exact hi)]
 | x::z,j+1,y,h,i,hi=>by
  rw[List.getElem?_cons_succ] at h
  have:=flat_at f m hf z j y h i hi
  rw[List.flatMap_cons,List.getElem?_append_right (by rw[hf,Nat.succ_mul];omega),←this]
  congr 1
  rw[hf,Nat.succ_mul]
  omega
theorem flat_set {α:Type} (f:α→List Value) (m:Nat) (hf: ∀x,(f x).length=m): ∀(z:List α) (j:Nat) (y y':α),z[j]?=some y→ ∀i u,i<m→(f y).set i u=f y'→(z.flatMap f).set (j*m+i) u=(z.set j y').flatMap f
 | [],j,y,y',h,i,u,hi,hu=>by simp at h
 | x::z,0,y,y',h,i,u,hi,hu=>by
  obtain rfl:x=y:=by simpa using h
  rw[List.flatMap_cons,Nat.zero_mul,Nat.zero_add,List.set_append_left _ _ (by rw[hf];exact hi),hu]
  rfl
 | x::z,j+1,y,y',h,i,u,hi,hu=>by
  rw[List.getElem?_cons_succ] at h
  have:=flat_set f m hf z j y y' h i u hi hu
  rw[List.flatMap_cons,List.set_append_right _ _ (by rw[hf,Nat.succ_mul];omega),List.set_cons_succ,List.flatMap_cons,←this]
  congr 2
  rw[hf,Nat.succ_mul]
  omega
def lineC (r:LineR):List Value:= [.int .i64 r.kind, .int .i64 r.sf, .int .i64 r.st, .int .i64 r.ind, .int .i64 r.kf, .int .i64 r.kt, .int .i64 r.rf, .int .i64 r.rt, .int .i64 r.nf, .int .i64 r.nt]
def lnCells (l:List LineR):List Value:=l.flatMap lineC
abbrev YN:=YND×Value
def yndCells (y:YN):List Value:= [.int .i64 (y.1.kind:Int), .int .i64 y.1.ind, .int .i64 (y.1.fr:Int), .int .i64 (y.1.til:Int), .int .i64 y.1.kf, .int .i64 y.1.kt, .int .i64 y.1.rf, .int .i64 y.1.rt,y.2]
def ynCells (z:List YN):List Value:=z.flatMap yndCells
theorem lineC_len (r:LineR):(lineC r).length=10:=rfl
theorem yndCells_len (y:YN):(yndCells y).length=9:=rfl
def ApartY (z:List YN):Prop:= ∀(i j:Nat) (yi yj:YN),i≠j→z[i]?=some yi→z[j]?=some yj→yi.2.ownBlock=none∨yi.2.ownBlock≠yj.2.ownBlock
theorem ApartY.push {z:List YN}{y:YN} (h:ApartY z) (hy:y.2.ownBlock=none):ApartY (z++ [y]):=by
 have key: ∀(j:Nat) (yj:YN),(z++ [y])[j]?=some yj→z[j]?=some yj∨(j=z.length∧yj=y):=by
  intro j yj hj
  by_cases h2:j<z.length
  ·rw[List.getElem?_append_left h2] at hj;exact .inl hj
  ·have hl:=(List.getElem?_eq_some_iff.1 hj).1
   rw[List.length_append,List.length_singleton] at hl
   rw[List.getElem?_append_right (by omega),show j-z.length=0 by omega] at hj
   simp only[List.getElem?_cons_zero,Option.some.injEq] at hj
   exact .inr ⟨by omega,hj.symm⟩
 intro i j yi yj hij hi hj
 rcases key i yi hi with hi | ⟨hi,rfl⟩
 ·rcases key j yj hj with hj | ⟨hj,rfl⟩
  ·exact h i j yi yj hij hi hj
  ·by_cases hn:yi.2.ownBlock=none
   ·exact .inl hn
   ·exact .inr (by rw[hy];exact hn)
 ·exact .inl hy
theorem ApartY.set {z:List YN}{n:Nat}{y y':YN} (h:ApartY z) (hn:z[n]?=some y) (hb:y'.2.ownBlock=y.2.ownBlock∨ ∀(j:Nat) (yj:YN),z[j]?=some yj→yj.2.ownBlock≠y'.2.ownBlock):ApartY (z.set n y'):=by
 intro i j yi yj hij hi hj
 rw[List.getElem?_set] at hi hj
 by_cases h1:n=i
 ·subst h1
  rw[if_pos rfl,if_pos (List.getElem?_eq_some_iff.1 hn).1] at hi
  obtain rfl:=Option.some.inj hi
  rw[if_neg hij] at hj
  rcases hb with hb | hb
  ·rw[hb];exact h n j y yj hij hn hj
  ·exact .inr (Ne.symm (hb j yj hj))
 ·rw[if_neg h1] at hi
  by_cases h2:n=j
  ·subst h2
   rw[if_pos rfl,if_pos (List.getElem?_eq_some_iff.1 hn).1] at hj
   obtain rfl:=Option.some.inj hj
   rcases hb with hb | hb
   ·rw[hb];exact h i n yi y hij hi hn
   ·exact .inr (hb i yi hi)
  ·rw[if_neg h2] at hj
   exact h i j yi yj hij hi hj
structure YNodesAt (B:Nat) (z:List YN) (nv:Value) (w:World):Prop where
 row:w.ownsRow B 45 9 nv z.length (ynCells z)
 kids: ∀y∈z,w.ownsRow B 3 1 y.2 y.1.kids.length (intCells y.1.kids)
 ak:ApartY z
theorem YNodesAt.nil (B:Nat) (w:World):YNodesAt B [] (.slice none 0 0) w:=
 ⟨⟨rfl, .inl ⟨rfl,rfl⟩⟩,fun y hy=>(by cases hy),fun i j yi yj _ h=>(by simp at h)⟩
section
variable {B:Nat}{z:List YN}{nv:Value}{w w' w1:World}
theorem YNodesAt.keep (h:YNodesAt B z nv w) (hb:Below w.heap.size w w'):YNodesAt B z nv w':=
 ⟨owns_below h.row hb,fun y hy=>owns_below (h.kids y hy) hb,h.ak⟩
theorem YNodesAt.other (h:YNodesAt B z nv w) {X:Nat}{cs:Array Value}{t:TypeId}{fz:Nat×Nat} (hX:w.heap[X]?=some (.cells cs t fz)) (h1:45≠t) (h2:3≠t) (hg:w.grownBy w' (some X)):YNodesAt B z nv w':=
 ⟨h.row.kept hg (own_off h.row hX h1),fun y hy=>(h.kids y hy).kept hg (own_off (h.kids y hy) hX h2),h.ak⟩
theorem YNodesAt.grow (h:YNodesAt B z nv w) {B2 s n:Nat}{e:TypeId}{v:Value}{xs:List Value} (hr:w.ownsRow B2 e s v n xs) (h1:45≠e) (h2:3≠e) (hg:w.grownBy w' v.ownBlock):YNodesAt B z nv w':=
 ⟨h.row.kept hg (own_ne h.row hr h1),fun y hy=>(h.kids y hy).kept hg (own_ne (h.kids y hy) hr h2),h.ak⟩
theorem YNodesAt.push (h:YNodesAt B z nv w) {nv':Value}{x:YND} (hk:x.kids= []) (hr:w'.ownsRow B 45 9 nv' (z.length+1) (ynCells z++yndCells (x, .slice none 0 0))) (hg:w.grownBy w' nv.ownBlock):
  YNodesAt B (z++ [(x, .slice none 0 0)]) nv' w':=by
 refine⟨?_,fun y hy=>?_,h.ak.push rfl⟩
 ·have e:ynCells (z++ [(x, .slice none 0 0)])=ynCells z++yndCells (x, .slice none 0 0):=by unfold ynCells;simp
  rw[e,List.length_append]
  exact hr
 ·rcases List.mem_append.1 hy with hy | hy
  ·exact(h.kids y hy).kept hg (own_ne (h.kids y hy) h.row (by decide))
  ·rw[List.mem_singleton.1 hy]
   simp only[]
   rw[hk]
   exact⟨rfl, .inl ⟨rfl,rfl⟩⟩
theorem YNodesAt.form (h:YNodesAt B z nv w) (hz:z≠ []): ∃g cap cur,nv= .slice (some ⟨g,0,none⟩) z.length cap∧z.length≤cap∧B≤g∧w.heap[g]?=some (.cells cur 45 (0,0)):=by
 rcases h.row.2 with⟨_,h1⟩ | ⟨g,cap,cur,h1,h2,h3,h4,_⟩
 ·exact absurd (List.length_eq_zero_iff.1 h1) hz
 ·exact⟨g,cap,cur,h1,h4,h2,h3⟩
theorem YNodesAt.at_ {g cap:Nat} (h:YNodesAt B z (.slice (some ⟨g,0,none⟩) z.length cap) w) {n:Nat}{y:YN} (hy:z[n]?=some y) (i:Nat) (hi:i<9) {u:Value} (hu:(yndCells y)[i]?=some u):
  w.cell? ⟨g,n*9+i,none⟩=some u∧w.frozen? ⟨g,n*9+i,none⟩=false:=by
 have hn:=(List.getElem?_eq_some_iff.1 hy).1
 refine⟨?_,World.ownsRow.frozenAt h.row _⟩
 rw[World.ownsRow.cellAt h.row _ (by omega),ynCells,flat_at _ 9 yndCells_len z n y hy i hi,hu]
theorem YNodesAt.field {g cap:Nat} (h:YNodesAt B z (.slice (some ⟨g,0,none⟩) z.length cap) w) {n:Nat}{y y':YN} (hy:z[n]?=some y) (i:Nat) (hi:i<9) (u:Value) (hu:(yndCells y).set i u=yndCells y') (hk:y'.1.kids=y.1.kids) (h1:y'.2=y.2):
  YNodesAt B (z.set n y') (.slice (some ⟨g,0,none⟩) (z.set n y').length cap) (w.setCell ⟨g,n*9+i,none⟩ u):=by
 obtain⟨hr,hg⟩:=World.ownsRow.stored h.row (n*9+i) u
 obtain⟨g',cap',cur,e,_,_,hcur⟩:=h.form (fun e=>by rw[e] at hy;simp at hy)
 have hgg:g=g':=by injection e with e;injection e with e;injection e
 subst hgg
 rw[ynCells,flat_set _ 9 yndCells_len z n y y' hy i u hi hu] at hr
 have hmem: ∀x∈z.set n y',x=y'∨x∈z:=fun x hx=>(List.mem_or_eq_of_mem_set hx).symm
 refine⟨by rw[List.length_set];exact hr,fun x hx=>?_,?_⟩
 ·rcases hmem x hx with rfl | hx
  ·rw[hk,h1]
   have hm:=h.kids y (List.mem_of_getElem? hy)
   exact hm.kept hg (own_off hm hcur (by decide))
  ·exact(h.kids x hx).kept hg (own_off (h.kids x hx) hcur (by decide))
 ·exact h.ak.set hy (.inl (by rw[h1]))
theorem YNodesAt.kid {g cap:Nat} (h:YNodesAt B z (.slice (some ⟨g,0,none⟩) z.length cap) w) {n k:Nat}{y:YN} (hy:z[n]?=some y) {kv:Value}{H:Nat} (hH:w.heap.size≤H)
  (hr:w1.ownsRow B 3 1 kv (y.1.kids.length+1) (intCells y.1.kids++ [.int .i64 (k:Int)])) (hg:w.grownBy w1 y.2.ownBlock) (hat:kv.ownBlock=y.2.ownBlock∨kv.ownBlock=some H):
  YNodesAt B (z.set n ({ y.1 with kids:=y.1.kids++ [k] },kv)) (.slice (some ⟨g,0,none⟩) (z.set n ({ y.1 with kids:=y.1.kids++ [k] },kv)).length cap) (w1.setCell ⟨g,n*9+8,none⟩ kv):=by
 have hkm:=h.kids y (List.mem_of_getElem? hy)
 have hrow1:=h.row.kept hg (own_ne h.row hkm (by decide))
 obtain⟨hr2,hg2⟩:=World.ownsRow.stored hrow1 (n*9+8) kv
 obtain⟨g',cap',cur,e,_,_,hcur0⟩:=h.form (fun e=>by rw[e] at hy;simp at hy)
 have hgg:g=g':=by injection e with e;injection e with e;injection e
 subst hgg
 have hcur:w1.heap[g]?=some (.cells cur 45 (0,0)):=by
  rw[hg.block g (cell_it hcur0) (fun e=>by
   rcases own_off hkm hcur0 (by decide) with h1 | h1
   ·rw[h1] at e;cases e
   ·exact h1 e.symm)]
  exact hcur0
 rw[ynCells,flat_set _ 9 yndCells_len z n y ({ y.1 with kids:=y.1.kids++ [k] },kv) hy 8 kv (by omega) rfl] at hr2
 refine⟨by rw[List.length_set];exact hr2,fun x hx=>?_,?_⟩
 ·obtain⟨j,hj⟩:=List.getElem?_of_mem hx
  rw[List.getElem?_set] at hj
  by_cases hnj:n=j
  ·subst hnj
   rw[if_pos rfl,if_pos (List.getElem?_eq_some_iff.1 hy).1] at hj
   obtain rfl:=Option.some.inj hj
   have e:intCells (y.1.kids++ [k])=intCells y.1.kids++ [.int .i64 (k:Int)]:=by unfold intCells;simp
   simp only[e,List.length_append,List.length_singleton]
   exact hr.kept hg2 (own_off hr hcur (by decide))
  ·rw[if_neg hnj] at hj
   have hm:=h.kids x (List.mem_of_getElem? hj)
   have h1:=hm.kept hg (h.ak j n x y (Ne.symm hnj) hj hy)
   exact h1.kept hg2 (own_off h1 hcur (by decide))
 ·refine h.ak.set hy ?_
  rcases hat with hat | hat
  ·exact .inl hat
  ·refine .inr (fun j yj hj e=>?_)
   have hm:=h.kids yj (List.mem_of_getElem? hj)
   simp only[] at e
   rw[hat] at e
   have:=(World.ownsRow.lt hm H e).2
   omega
end
abbrev Frm:=Nat→Option Obj
def Frm.put (Pr:Frm) (X:Nat) (o:Obj):Frm:=fun k=>if k=X then some o else Pr k
theorem Frm.put_eq (Pr:Frm) (X:Nat) (o:Obj):Pr.put X o X=some o:=if_pos rfl
theorem Frm.put_ne (Pr:Frm) {X k:Nat} (o:Obj) (h:k≠X):Pr.put X o k=Pr k:=if_neg h
structure YK (T:TypeId) (Pr:Frm) (w0:World) (P:Nat) (txt:Stp) (sp:List (Nat×Nat)) (lines:List LineR) (z:List YN) (tot:Nat) (a er:Int) (sv lv nv:Value) (w:World):Prop where
 box:w.heap[P]?=some (.cells #[.string (bs txt),sv,lv,nv, .int .i64 (tot:Int), .int .i64 a, .int .i64 er] T (0,0))
 spr:w.ownsRow w0.heap.size 42 2 sv sp.length (spanCells sp)
 lnr:w.ownsRow w0.heap.size 51 10 lv lines.length (lnCells lines)
 nod:YNodesAt w0.heap.size z nv w
 hB:w0.heap.size≤P
 ty:T≠42∧T≠51∧T≠45∧T≠3
 bel:Below w0.heap.size w0 w
 fr: ∀k o,Pr k=some o→w.heap[k]?=some o∧k≠P∧lv.ownBlock≠some k∧nv.ownBlock≠some k∧ ∀y∈z,y.2.ownBlock≠some k
section
variable {T:TypeId}{Pr:Frm}{w0 w w' w1:World}{P:Nat}{txt:Stp}{sp:List (Nat×Nat)}{lines:List LineR}{z:List YN}{tot:Nat}{a er:Int}{sv lv nv:Value}
theorem YK.keep (h:YK T Pr w0 P txt sp lines z tot a er sv lv nv w) (hb:Below w.heap.size w w'):YK T Pr w0 P txt sp lines z tot a er sv lv nv w':=
 ⟨(hb.block P (cell_it h.box)).trans h.box,owns_below h.spr hb,owns_below h.lnr hb,h.nod.keep hb,h.hB,h.ty,h.bel.trans (hb.mono h.bel.size),fun k o hk=>by
  obtain⟨h1,h2⟩:=h.fr k o hk
  exact⟨(hb.block k (cell_it h1)).trans h1,h2⟩⟩
theorem YK.lt (h:YK T Pr w0 P txt sp lines z tot a er sv lv nv w):P<w.heap.size:=cell_it h.box
theorem YK.cells (h:YK T Pr w0 P txt sp lines z tot a er sv lv nv w):(w.cell? ⟨P,0,none⟩=some (.string (bs txt))∧w.cell? ⟨P,1,none⟩=some sv∧w.cell? ⟨P,2,none⟩=some lv∧w.cell? ⟨P,3,none⟩=some nv∧w.cell? ⟨P,4,none⟩=some (.int .i64 (tot:Int))∧w.cell? ⟨P,5,none⟩=some (.int .i64 a)∧w.cell? ⟨P,6,none⟩=some (.int .i64 er))∧
  w.frozen? ⟨P,2,none⟩=false∧w.frozen? ⟨P,3,none⟩=false∧w.frozen? ⟨P,4,none⟩=false∧w.frozen? ⟨P,5,none⟩=false∧w.frozen? ⟨P,6,none⟩=false:=by
 have hb:=h.box
 refine⟨⟨?_,?_,?_,?_,?_,?_,?_⟩,?_,?_,?_,?_,?_⟩<;>simp[World.cell?,World.frozen?,hb]
theorem YK.put (h:YK T Pr w0 P txt sp lines z tot a er sv lv nv w) (hb:Below w.heap.size w w') {X:Nat}{o:Obj} (hX:w.heap.size≤X) (ho:w'.heap[X]?=some o):YK T (Pr.put X o) w0 P txt sp lines z tot a er sv lv nv w':=by
 have h2:=h.keep hb
 refine⟨h2.box,h2.spr,h2.lnr,h2.nod,h2.hB,h2.ty,h2.bel,fun k o' hk=>?_⟩
 by_cases hkX:k=X
 ·subst hkX
  rw[Frm.put_eq] at hk
  obtain rfl:=Option.some.inj hk
  have hP:=cell_it h.box
  refine⟨ho,by omega,fun e=>?_,fun e=>?_,fun y hy e=>?_⟩
  ·have:=(World.ownsRow.lt h.lnr k e).2;omega
  ·have:=(World.ownsRow.lt h.nod.row k e).2;omega
  ·have:=(World.ownsRow.lt (h.nod.kids y hy) k e).2;omega
 ·rw[Frm.put_ne _ _ hkX] at hk
  exact h2.fr k o' hk
theorem YK.frLt (h:YK T Pr w0 P txt sp lines z tot a er sv lv nv w) {k:Nat}{o:Obj} (hk:Pr k=some o):k<w.heap.size:=cell_it (h.fr k o hk).1
theorem YK.less {Pr':Frm} (h:YK T Pr w0 P txt sp lines z tot a er sv lv nv w) (hp: ∀k o,Pr' k=some o→Pr k=some o):YK T Pr' w0 P txt sp lines z tot a er sv lv nv w:=
 ⟨h.box,h.spr,h.lnr,h.nod,h.hB,h.ty,h.bel,fun k o hk=>h.fr k o (hp k o hk)⟩
theorem Frm.put_less {N X:Nat}{o:Obj} (hp: ∀k o',Pr k=some o'→k<N) (hX:N≤X): ∀k o',Pr k=some o'→Pr.put X o k=some o':=fun k o' hk=>by
 have:=hp k o' hk
 rw[Frm.put_ne _ _ (by omega)]
 exact hk
theorem YK.boxed (h:YK T Pr w0 P txt sp lines z tot a er sv lv nv w) (i:Nat) (u:Value) {tot':Nat}{a' er':Int} (hu:([.string (bs txt),sv,lv,nv, .int .i64 (tot:Int), .int .i64 a, .int .i64 er]:List Value).set i u= [.string (bs txt),sv,lv,nv, .int .i64 (tot':Int), .int .i64 a', .int .i64 er']):
  YK T Pr w0 P txt sp lines z tot' a' er' sv lv nv (w.setCell ⟨P,i,none⟩ u):=by
 have hb:=h.box
 have hg:=grown_set w P i u
 have hPs: ∀ {e:TypeId}{s n:Nat}{v:Value}{xs:List Value},w.ownsRow w0.heap.size e s v n xs→e≠T→(w.setCell ⟨P,i,none⟩ u).ownsRow w0.heap.size e s v n xs:=fun h1 h2=>h1.kept hg (own_off h1 hb h2)
 obtain⟨t1,t2,t3,t4⟩:=h.ty
 refine⟨?_,hPs h.spr (Ne.symm t1),hPs h.lnr (Ne.symm t2),h.nod.other hb (Ne.symm t3) (Ne.symm t4) hg,h.hB,h.ty,h.bel.setCell (p:=⟨P,i,none⟩) h.hB u,fun k o hk=>?_⟩
 ·simp[World.setCell,Array.getElem?_modify,hb,hu]
 ·obtain⟨f1,f2,f3⟩:=h.fr k o hk
  exact⟨by rw[Below.heap_setCell w ⟨P,i,none⟩ u k f2];exact f1,f2,f3⟩
theorem YK.fail (h:YK T Pr w0 P txt sp lines z tot a er sv lv nv w) (a2 e2:Int):YK T Pr w0 P txt sp lines z tot a2 e2 sv lv nv ((w.setCell ⟨P,5,none⟩ (.int .i64 a2)).setCell ⟨P,6,none⟩ (.int .i64 e2)):=
 (h.boxed 5 (.int .i64 a2) (tot':=tot) (a':=a2) (er':=er) rfl).boxed 6 (.int .i64 e2) rfl
theorem YK.count (h:YK T Pr w0 P txt sp lines z tot a er sv lv nv w) (t2:Nat):YK T Pr w0 P txt sp lines z t2 a er sv lv nv (w.setCell ⟨P,4,none⟩ (.int .i64 (t2:Int))):=
 h.boxed 4 (.int .i64 (t2:Int)) rfl
theorem YK.box_grown (h:YK T Pr w0 P txt sp lines z tot a er sv lv nv w) {B2 s n:Nat}{e:TypeId}{v:Value}{xs:List Value} (hr:w.ownsRow B2 e s v n xs) (he:e≠T) (hg:w.grownBy w1 v.ownBlock):w1.heap[P]?=some (.cells #[.string (bs txt),sv,lv,nv, .int .i64 (tot:Int), .int .i64 a, .int .i64 er] T (0,0)):=by
 rw[hg.block P h.lt (fun e2=>by
  rcases own_off hr h.box he with h1 | h1
  ·rw[h1] at e2;cases e2
  ·exact h1 e2.symm)]
 exact h.box
theorem at_new {v v':Value}{H N k:Nat} (hat:v'.ownBlock=v.ownBlock∨v'.ownBlock=some H) (hH:N≤H) (hk:k<N) (hv:v.ownBlock≠some k):v'.ownBlock≠some k:=by
 rcases hat with e | e
 ·rw[e];exact hv
 ·rw[e];intro e2;have:=Option.some.inj e2;omega
theorem grown_at {k:Nat}{o:Obj}{r:Option Nat} (hg:w.grownBy w1 r) (hk:w.heap[k]?=some o) (hr:r≠some k):w1.heap[k]?=some o:=by
 rw[hg.block k (cell_it hk) (fun e=>hr e.symm)]
 exact hk
theorem YK.line (h:YK T Pr w0 P txt sp lines z tot a er sv lv nv w) {lv':Value}{r:LineR}{H:Nat} (hH:w.heap.size≤H) (hr:w1.ownsRow w0.heap.size 51 10 lv' (lines.length+1) (lnCells lines++lineC r)) (hg:w.grownBy w1 lv.ownBlock) (hat:lv'.ownBlock=lv.ownBlock∨lv'.ownBlock=some H):
  YK T Pr w0 P txt sp (lines++ [r]) z tot a er sv lv' nv (w1.setCell ⟨P,2,none⟩ lv'):=by
 obtain⟨t1,t2,t3,t4⟩:=h.ty
 have hb:=h.box_grown h.lnr (Ne.symm t2) hg
 have hg2:=grown_set w1 P 2 lv'
 have e:lnCells (lines++ [r])=lnCells lines++lineC r:=by unfold lnCells;simp
 have hn1:=h.nod.grow h.lnr (by decide) (by decide) hg
 refine⟨?_,?_,?_,hn1.other hb (Ne.symm t3) (Ne.symm t4) hg2,h.hB,h.ty,?_,fun k o hk=>?_⟩
 ·simp[World.setCell,Array.getElem?_modify,hb]
 ·have h1:=h.spr.kept hg (own_ne h.spr h.lnr (by decide))
  exact h1.kept hg2 (own_off h1 hb (Ne.symm t1))
 ·rw[e,List.length_append]
  exact hr.kept hg2 (own_off hr hb (Ne.symm t2))
 ·exact(h.bel.grown hg h.bel.size (fun k hk=>(World.ownsRow.lt h.lnr k hk).1)).setCell (p:=⟨P,2,none⟩) h.hB lv'
 ·obtain⟨f1,f2,f3,f4,f5⟩:=h.fr k o hk
  refine⟨?_,f2,at_new hat hH (cell_it f1) f3,f4,f5⟩
  rw[Below.heap_setCell w1 ⟨P,2,none⟩ lv' k f2]
  exact grown_at hg f1 f3
theorem YK.node (h:YK T Pr w0 P txt sp lines z tot a er sv lv nv w) {nv':Value}{x:YND} (hx:x.kids= []) {H:Nat} (hH:w.heap.size≤H) (hr:w1.ownsRow w0.heap.size 45 9 nv' (z.length+1) (ynCells z++yndCells (x, .slice none 0 0))) (hg:w.grownBy w1 nv.ownBlock) (hat:nv'.ownBlock=nv.ownBlock∨nv'.ownBlock=some H):
  YK T Pr w0 P txt sp lines (z++ [(x, .slice none 0 0)]) tot a er sv lv nv' (w1.setCell ⟨P,3,none⟩ nv'):=by
 obtain⟨t1,t2,t3,t4⟩:=h.ty
 have hb:=h.box_grown h.nod.row (Ne.symm t3) hg
 have hg2:=grown_set w1 P 3 nv'
 have hn1:=h.nod.push hx hr hg
 refine⟨?_,?_,?_,hn1.other hb (Ne.symm t3) (Ne.symm t4) hg2,h.hB,h.ty,?_,fun k o hk=>?_⟩
 ·simp[World.setCell,Array.getElem?_modify,hb]
 ·have h1:=h.spr.kept hg (own_ne h.spr h.nod.row (by decide))
  exact h1.kept hg2 (own_off h1 hb (Ne.symm t1))
 ·have h1:=h.lnr.kept hg (own_ne h.lnr h.nod.row (by decide))
  exact h1.kept hg2 (own_off h1 hb (Ne.symm t2))
 ·exact(h.bel.grown hg h.bel.size (fun k hk=>(World.ownsRow.lt h.nod.row k hk).1)).setCell (p:=⟨P,3,none⟩) h.hB nv'
 ·obtain⟨f1,f2,f3,f4,f5⟩:=h.fr k o hk
  refine⟨?_,f2,f3,at_new hat hH (cell_it f1) f4,fun y hy=>?_⟩
  ·rw[Below.heap_setCell w1 ⟨P,3,none⟩ nv' k f2]
   exact grown_at hg f1 f4
  ·rcases List.mem_append.1 hy with hy | hy
   ·exact f5 y hy
   ·rw[List.mem_singleton.1 hy];exact fun e=>by cases e
theorem YK.kid {g cap:Nat} (h:YK T Pr w0 P txt sp lines z tot a er sv lv (.slice (some ⟨g,0,none⟩) z.length cap) w) {n k:Nat}{y:YN} (hy:z[n]?=some y) {kv:Value}{H:Nat} (hH:w.heap.size≤H)
  (hr:w1.ownsRow w0.heap.size 3 1 kv (y.1.kids.length+1) (intCells y.1.kids++ [.int .i64 (k:Int)])) (hg:w.grownBy w1 y.2.ownBlock) (hat:kv.ownBlock=y.2.ownBlock∨kv.ownBlock=some H):
  YK T Pr w0 P txt sp lines (z.set n ({ y.1 with kids:=y.1.kids++ [k] },kv)) tot a er sv lv (.slice (some ⟨g,0,none⟩) (z.set n ({ y.1 with kids:=y.1.kids++ [k] },kv)).length cap) (w1.setCell ⟨g,n*9+8,none⟩ kv):=by
 obtain⟨t1,t2,t3,t4⟩:=h.ty
 have hkm:=h.nod.kids y (List.mem_of_getElem? hy)
 have hb:=h.box_grown hkm (Ne.symm t4) hg
 obtain⟨g',cap',cur,e,_,hgB,hcur0⟩:=h.nod.form (fun e=>by rw[e] at hy;simp at hy)
 have hgg:g=g':=by injection e with e;injection e with e;injection e
 subst hgg
 have hcur:w1.heap[g]?=some (.cells cur 45 (0,0)):=grown_at hg hcur0 (fun e=>by
  rcases own_off hkm hcur0 (by decide) with h1 | h1
  ·rw[h1] at e;cases e
  ·exact h1 e)
 have hg2:=grown_set w1 g (n*9+8) kv
 have hPg:P≠g:=fun e=>by
  subst e
  rw[hb] at hcur
  injection hcur with hcur
  injection hcur with _ hcur
  exact t3 hcur
 refine⟨?_,?_,?_,h.nod.kid hy hH hr hg hat,h.hB,h.ty,?_,fun k o hk=>?_⟩
 ·rw[Below.heap_setCell w1 ⟨g,n*9+8,none⟩ kv P hPg,List.length_set]
  exact hb
 ·have h1:=h.spr.kept hg (own_ne h.spr hkm (by decide))
  exact h1.kept hg2 (own_off h1 hcur (by decide))
 ·have h1:=h.lnr.kept hg (own_ne h.lnr hkm (by decide))
  exact h1.kept hg2 (own_off h1 hcur (by decide))
 ·exact(h.bel.grown hg h.bel.size (fun k hk=>(World.ownsRow.lt hkm k hk).1)).setCell (p:=⟨g,n*9+8,none⟩) hgB kv
 ·obtain⟨f1,f2,f3,f4,f5⟩:=h.fr k o hk
  have fy:=f5 y (List.mem_of_getElem? hy)
  refine⟨?_,f2,f3,f4,fun x hx=>?_⟩
  ·rw[Below.heap_setCell w1 ⟨g,n*9+8,none⟩ kv k (fun e=>f4 (by rw[e];rfl))]
   exact grown_at hg f1 fy
  ·rcases List.mem_or_eq_of_mem_set hx with hx | rfl
   ·exact f5 x hx
   ·exact at_new hat hH (cell_it f1) fy
theorem YK.til {g cap:Nat} (h:YK T Pr w0 P txt sp lines z tot a er sv lv (.slice (some ⟨g,0,none⟩) z.length cap) w) {n:Nat}{y:YN} (hy:z[n]?=some y) (e:Nat):
  YK T Pr w0 P txt sp lines (z.set n ({ y.1 with til:=e },y.2)) tot a er sv lv (.slice (some ⟨g,0,none⟩) (z.set n ({ y.1 with til:=e },y.2)).length cap) (w.setCell ⟨g,n*9+3,none⟩ (.int .i64 (e:Int))):=by
 obtain⟨t1,t2,t3,t4⟩:=h.ty
 obtain⟨g',cap',cur,e',_,hgB,hcur⟩:=h.nod.form (fun e=>by rw[e] at hy;simp at hy)
 have hgg:g=g':=by injection e' with e;injection e with e;injection e
 subst hgg
 have hg2:=grown_set w g (n*9+3) (.int .i64 (e:Int))
 have hPg:P≠g:=fun e=>by
  have hb:=h.box
  subst e
  rw[hb] at hcur
  injection hcur with hcur
  injection hcur with _ hcur
  exact t3 hcur
 refine⟨?_,h.spr.kept hg2 (own_off h.spr hcur (by decide)),h.lnr.kept hg2 (own_off h.lnr hcur (by decide)),h.nod.field hy 3 (by omega) _ rfl rfl rfl,h.hB,h.ty,h.bel.setCell (p:=⟨g,n*9+3,none⟩) hgB _,fun k o hk=>?_⟩
 ·rw[Below.heap_setCell w ⟨g,n*9+3,none⟩ _ P hPg,List.length_set]
  exact h.box
 ·obtain⟨f1,f2,f3,f4,f5⟩:=h.fr k o hk
  refine⟨?_,f2,f3,f4,fun x hx=>?_⟩
  ·rw[Below.heap_setCell w ⟨g,n*9+3,none⟩ _ k (fun e=>f4 (by rw[e];rfl))]
   exact f1
  ·rcases List.mem_or_eq_of_mem_set hx with hx | rfl
   ·exact f5 x hx
   ·exact f5 y (List.mem_of_getElem? hy)
theorem YK.lineAt (h:YK T Pr w0 P txt sp lines z tot a er sv lv nv w) {k:Nat}{r:LineR} (hr:lines[k]?=some r): ∃g cap,lv= .slice (some ⟨g,0,none⟩) lines.length cap∧lines.length≤cap∧ ∀i u,i<10→(lineC r)[i]?=some u→w.cell? ⟨g,k*10+i,none⟩=some u:=by
 have hl:=(List.getElem?_eq_some_iff.1 hr).1
 rcases h.lnr.2 with⟨_,h1⟩ | ⟨g,cap,cur,h1,h2,h3,h4,_⟩
 ·omega
 ·refine⟨g,cap,h1,h4,fun i u hi hu=>?_⟩
  have hr':=h.lnr
  rw[h1] at hr'
  rw[World.ownsRow.cellAt hr' _ (by omega),lnCells,flat_at _ 10 lineC_len lines k r hr i hi,hu]
theorem YK.lnSlice (h:YK T Pr w0 P txt sp lines z tot a er sv lv nv w): ∃p cap,lv= .slice p lines.length cap:=by
 rcases h.lnr.2 with⟨h0,h1⟩ | ⟨g,cap,cur,h1,h2,h3,h4,_⟩
 ·exact⟨none,0,by rw[h0,h1]⟩
 ·exact⟨_,cap,h1⟩
theorem spanC_len (p:Nat×Nat):([.int .i64 (p.1:Int), .int .i64 (p.2:Int)]:List Value).length=2:=rfl
theorem YK.spanAt (h:YK T Pr w0 P txt sp lines z tot a er sv lv nv w) {k:Nat}{r:Nat×Nat} (hr:sp[k]?=some r): ∃g cap,sv= .slice (some ⟨g,0,none⟩) sp.length cap∧sp.length≤cap∧w.cell? ⟨g,k*2,none⟩=some (.int .i64 (r.1:Int))∧w.cell? ⟨g,k*2+1,none⟩=some (.int .i64 (r.2:Int)):=by
 have hl:=(List.getElem?_eq_some_iff.1 hr).1
 rcases h.spr.2 with⟨_,h1⟩ | ⟨g,cap,cur,h1,h2,h3,h4,_⟩
 ·omega
 ·have hr':=h.spr
  rw[h1] at hr'
  have key:=flat_at (fun p:Nat×Nat=>([.int .i64 (p.1:Int), .int .i64 (p.2:Int)]:List Value)) 2 spanC_len sp k r hr
  refine⟨g,cap,h1,h4,?_,?_⟩
  ·have:=key 0 (by omega)
   rw[Nat.add_zero] at this
   rw[World.ownsRow.cellAt hr' _ (by omega)]
   exact this
  ·rw[World.ownsRow.cellAt hr' _ (by omega)]
   exact key 1 (by omega)
theorem YK.spSlice (h:YK T Pr w0 P txt sp lines z tot a er sv lv nv w): ∃p cap,sv= .slice p sp.length cap:=by
 rcases h.spr.2 with⟨h0,h1⟩ | ⟨g,cap,cur,h1,h2,h3,h4,_⟩
 ·exact⟨none,0,by rw[h0,h1]⟩
 ·exact⟨_,cap,h1⟩
end
end Go.Proofs.YtlibkhbachmcgaaGreatDoor
