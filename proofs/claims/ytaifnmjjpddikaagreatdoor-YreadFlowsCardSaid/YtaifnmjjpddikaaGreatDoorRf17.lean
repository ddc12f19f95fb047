import Derived.Test.YtaifnmjjpddikaaGreatDoorRf1
import Derived.Test.YtaifnmjjpddikaaGreatDoorShelf
import Derived.Test.YtaifnmjjpddikaaGreatDoorProg
import Derived.Lib.IndexBytes
import Derived.Test.YtaifnmjjpddikaaGreatDoorRf15
import Derived.Test.YtaifnmjjpddikaaGreatDoorRf16
import Derived.Test.YtaifnmjjpddikaaGreatDoorRf5
set_option maxRecDepth 100000
set_option maxHeartbeats 1000000
namespace Go.Proofs.YtaifnmjjpddikaaGreatDoor
set_option linter.unusedVariables false
set_option linter.unusedSimpArgs false
section
open Go.RowKit
open Go.Lib hiding intOf
def fK:List UInt8->Nat->Nat->List (Nat×Nat)
 | [],k,pos=> [(k,pos)]
 | c::t,k,pos=>if c=10 then(k,pos+1)::fK t (pos+1) (pos+1) else fK t k (pos+1)
def sJ (s:ByteArray):List (Nat×Nat):=fK s.data.toList 0 0
theorem sM: ∀(l:List UInt8) (k pos:Nat),(fK l k pos).length<=l.length+1/\1<=(fK l k pos).length
 | [],k,pos=>by simp[fK]
 | c::t,k,pos=>by
  unfold fK;have h1:=sM t (pos+1) (pos+1);have h2:=sM t k (pos+1);split<;>simp<;>omega
theorem Wp (s:ByteArray):(sJ s).length<=s.size+1/\1<=(sJ s).length:=sM s.data.toList 0 0
def mY (xs:List (Nat×Nat)):List Value:=xs.flatMap λp=> [.int .i64 p.1, .int .i64 p.2]
theorem Wq (xs:List (Nat×Nat)) (a b:Nat):mY (xs++ [(a,b)])=mY xs++ [.int .i64 a, .int .i64 b]:=by simp[mY]
def lR (B:Nat) (w:World) (v:Value) (xs:List (Nat×Nat)):Prop:=w.ownsRow B 59 2 v xs.length (mY xs)
theorem lR.snoc {B:Nat}{w:World}{v:Value}{xs:List (Nat×Nat)}{a b:Nat} (h:w.ownsRow B 59 2 v (xs.length+1) (mY xs++(#[Value.int .i64 a,Value.int .i64 b]:Array Value).toList)):lR B w v (xs++ [(a,b)]):=by
 unfold lR;rw[Wq,aS];exact h
def mZ (s:ByteArray) (xs:List (Nat×Nat)) (k i:Nat):Prop:=xs++fK (s.data.toList.drop i) k i=sJ s/\k<=i
theorem mZ.zero (s:ByteArray):mZ s [] 0 0:=⟨rfl,aE _⟩
theorem mZ.len {s:ByteArray}{xs:List (Nat×Nat)}{k i:Nat} (h:mZ s xs k i):xs.length<=s.size:=by
 have h1:=congrArg List.length h.1;have h2:=sM (s.data.toList.drop i) k i;have h3:=Wp s;rw[aS] at h1;omega
theorem Ke: ∀(l:List UInt8) (k pos:Nat),Lib.indexByte l 10<0->fK l k pos= [(k,pos+l.length)]
 | [],k,pos,_=>rfl
 | c ::t,k,pos,h=>by
  unfold Lib.indexByte at h;have hge:=Lib.indexByte_ge t 10;by_cases hc:c=10
  ·subst hc;simp at h
  ·rw[if_neg (by simpa using hc)] at h;have ht:Lib.indexByte t 10<0:=by
    split at h
    ·rename_i h1;have h2:Lib.indexByte t 10= -1:=(by simpa using h1);omega
    ·omega
   rw[fK,if_neg hc,Ke t k (pos+1) ht,aT,show pos+1+t.length=pos+(t.length+1) by omega]
theorem Kf: ∀(l:List UInt8) (k pos j:Nat),Lib.indexByte l 10=(j:Int)->j<l.length/\fK l k pos=(k,pos+j+1)::fK (l.drop (j+1)) (pos+j+1) (pos+j+1)
 | [],k,pos,j,h=>by simp[Lib.indexByte] at h<;>omega
 | c::t,k,pos,j,h=>by
  unfold Lib.indexByte at h;have hge:=Lib.indexByte_ge t 10;by_cases hc:c=10
  ·subst hc;obtain rfl:j=0:=by simp at h;omega
   simp[fK]
  ·rw[if_neg (by simpa using hc)] at h;by_cases h1:(Lib.indexByte t 10== -1)=true
   ·rw[if_pos h1] at h;omega
   ·rw[if_neg h1] at h;have hn:Lib.indexByte t 10≠ -1:=(by simpa using h1);obtain⟨m,rfl⟩: ∃m,j=m+1:=⟨j-1,by omega⟩;obtain⟨h2,h3⟩:=Kf t k (pos+1) m (by omega);refine⟨by simp;omega,?_⟩;rw[fK,if_neg hc,h3,show pos+1+m+1=pos+(m+1)+1 by omega];rfl
theorem mZ.last {s:ByteArray}{xs:List (Nat×Nat)}{k:Nat} (h:mZ s xs k k) (hk:k<=s.size) (hi:Lib.indexByte (s.data.toList.drop k) 10<0):xs++ [(k,s.size)]=sJ s:=by
 have h1:=h.1;rw[Ke _ _ _ hi,aV,show k+(s.data.toList.length-k)=s.size by have:s.data.toList.length=s.size:=rfl;omega] at h1;exact h1
theorem mZ.line {s:ByteArray}{xs:List (Nat×Nat)}{k j:Nat} (h:mZ s xs k k) (hi:Lib.indexByte (s.data.toList.drop k) 10=(j:Int)):k+j+1<=s.size/\mZ s (xs++ [(k,k+j+1)]) (k+j+1) (k+j+1):=by
 obtain⟨h2,h3⟩:=Kf _ k k j hi;have hl:s.data.toList.length=s.size:=rfl;rw[aV] at h2;have h1:=h.1;rw[h3,kB] at h1;refine⟨by omega,?_,aE _⟩;rw[<-h1,pN];rfl
theorem Ws (s:ByteArray) (k:Nat) (w:World):
  Calls Tryz.prog 32 #[.string (s.extract k s.size), .int .u8 10] w λe w'=>e= .returned (.int .i64 (Lib.indexByte (s.data.toList.drop k) 10))/\w=w':=by
 have h:=Tryz.strings_IndexByte (s.extract k s.size) 10 w;rw[show (s.extract k s.size).data.toList=s.data.toList.drop k from Lib.extract_to_end s k] at h;exact h.mono λ_ _ ⟨a,b⟩=>⟨a,b.symm⟩
theorem Wt (s:ByteArray) (w:World) (hs:s.size<=4294967000):
  Calls Tryz.prog 17 #[.string s] w λe w'=> ∃v,e= .returned v/\lR w.heap.size w' v (sJ s)/\Below w.heap.size w w':=by
 obtain⟨i0,hi0,hz0,hz1,hz2⟩:=info_parts Tryz.infoSpan;go_enter Tryz.func17,Tryz.ntmps17;go_wp2_with fail;go_loopw [3,4] (λv f wr=> ∃(k:Nat) (xs:List (Nat×Nat)),k<=s.size/\xs.length<=s.size/\f= .int .i64 k/\Hid (lR w.heap.size wr v xs)/\Hid (Below w.heap.size w wr)/\Hid (mZ s xs k k)) (λ_ f _=>s.size-(RowKit.intOf f).toNat)
 case atStart=>exact⟨0,[],by omega,by simp,rfl,World.ownsRow_nil _ _ _ _,aB _ _,mZ.zero s⟩
 case round=>
  obtain⟨k,xs,hk,hxs,rfl,hown,hbw,hL⟩:=hrel;have hsize:=hbw.out.size;have hix:=Ws s k;by_cases hneg:Lib.indexByte (s.data.toList.drop k) 10<0
  ·have hL2:=hid (hL.out.last hk hneg);generalize Lib.indexByte (s.data.toList.drop k) 10=I at *;have HIX:=hid hix;clear hix;go_wp2_with (first | (go_at_call 32;refine(HIX.out _).mono ?_;rintro e w' ⟨rfl,rfl⟩) | (at_builtin;go_must (refine uR rfl _ _ 54 rfl w.heap.size 59 i0 _ 2 16 Tryz.underlying54 hi0 hz0 hz1 hz2 rfl (by decide) wr u3 xs.length (mY xs) rfl hown.out #[.int .i64 k, .int .i64 s.size] rfl rfl (by simp[Value.oneCell']) (by omega) (by decide) hsize ?_);intro v1 w1 hown1 hsz1 hbel1 hkeep1 hne1));go_ret;exact⟨v1,rfl,by rw[<-hL2.out];exact lR.snoc hown1,hbw.out.trans hbel1⟩
  ·obtain⟨j,hj⟩:=Int.eq_ofNat_of_zero_le (Int.not_lt.1 hneg);obtain⟨hkj,hL1⟩:=hL.out.line hj;have hL2:=hid hL1;clear hL1;rw[hj] at hix;have HIX:=hid hix;clear hix hj hneg;go_wp2_with (first | (go_at_call 32;refine(HIX.out _).mono ?_;rintro e w' ⟨rfl,rfl⟩) | (at_builtin;go_must (refine uR rfl _ _ 54 rfl w.heap.size 59 i0 _ 2 16 Tryz.underlying54 hi0 hz0 hz1 hz2 rfl (by decide) wr u3 xs.length (mY xs) rfl hown.out #[.int .i64 k, .int .i64 ((k:Int)+j+1)] rfl rfl (by simp[Value.oneCell']) (by omega) (by decide) hsize ?_);intro v1 w1 hown1 hsz1 hbel1 hkeep1 hne1));have hn:xs.length+1<=s.size:=by have:=hL2.out.len;simpa using this
   go_roundw
   case rel=>exact⟨k+j+1,xs++ [(k,k+j+1)],by omega,by simpa using hn,by go_num,lR.snoc hown1,hbw.out.trans hbel1,hL2.out⟩
   case measure=>simp[RowKit.intOf];omega
end
section
open Go.Lib
def rE:List (Nat×Nat)->List (Nat×Nat)
 | []=> []
 | [x]=> [x]
 | x::y::r=>(x.1,x.2-1)::rE (y::r)
theorem Ck: ∀l,(rE l).length=l.length
 | []=>rfl
 | [_]=>rfl
 | x::y::r=>by rw[rE,aT,Ck (y::r)];rfl
structure aM where
 kind:Nat
 ind:Int
 fr:Nat
 til:Nat
 kf:Int
 kt:Int
 rf:Int
 rt:Int
 kids:List Nat
structure YS where
 lines:List aP
 nodes:List aM
 total:Nat
def jL (x:aP):Bool:=decide (3<=x.kind)&&decide (x.kind<=5)
inductive NX where
 | ok (k:Nat) (lines:List aP)
 | bad (a:Int) (er:Int)
def mK (s:aA):List (Nat×Nat)->Nat->List aP->NX
 | [],k,lines=> .ok k lines
 | x::r,k,lines=>match lines[k]? with
  | some l=>if jL l then .ok k lines else mK s r (k+1) lines
  | none=>if(eL s x.1 x.2).2.2≠0 then .bad (eL s x.1 x.2).2.1 (eL s x.1 x.2).2.2 else
   if jL (eL s x.1 x.2).1 then .ok k (lines++ [(eL s x.1 x.2).1]) else mK s r (k+1) (lines++ [(eL s x.1 x.2).1])
def gA (s:aA) (sp:List (Nat×Nat)) (k:Nat) (lines:List aP):NX:=mK s (sp.drop k) k lines
def fR (s:aA) (x:Nat×Nat):aA:=(s.drop x.1).take (x.2-x.1)
def eH (s:aA) (a b:Int):aA:=(s.drop a.toNat).take (b.toNat-a.toNat)
def aZ (ls:List aP) (k:Nat):aP:=ls[k]?.getD cT
def oT (sp:List (Nat×Nat)) (k:Nat):Nat×Nat:=sp[k]?.getD (0,0)
def yK (sp:List (Nat×Nat)) (st:YS) (k:Nat):Int:=((oT sp k).1:Int)+(aZ st.lines k).ind
inductive YR where
 | ok (n:Nat) (st:YS)
 | bad (a:Int) (er:Int)
def iR (x:aM) (lv:Nat) (a:Int) (st:YS):YR:=
 if lv=0 then .bad a 5 else if 4096<=st.total then .bad a 6 else .ok st.nodes.length ⟨st.lines,st.nodes++ [x],st.total+1⟩
def iZ (s:aA) (lv:Nat) (k:Nat) (kf kt:Int) (st:YS):YR:=
 match iR ⟨1,(aZ st.lines k).ind,k,k+1,kf,kt,(aZ st.lines k).rf,(aZ st.lines k).rt,[]⟩ lv (aZ st.lines k).rf st with
 | .bad a e=> .bad a e
 | .ok n s1=>
  let v:=jJ (eH s (aZ st.lines k).rf (aZ st.lines k).rt)
  if v.2≠0 then .bad (aZ st.lines k).rf v.2 else
  if lv<v.1.depth then .bad (aZ st.lines k).rf 5 else
  if 4096<s1.total+v.1.size-1 then .bad (aZ st.lines k).rf 6 else .ok n ⟨s1.lines,s1.nodes,s1.total+v.1.size-1⟩
def mL (s:aA) (ind:Int):List (Nat×Nat)->Nat->Nat->Nat->Nat
 | [],_,til,_=>til
 | x::r,i,til,first=>
  if bQ (fR s x)=(fR s x).length then mL s ind r (i+1) til first else
  if(bQ (fR s x):Int)<=ind\/bQ (fR s x)<first then til else mL s ind r (i+1) (i+1) (if first=0 then bQ (fR s x) else first)
def oU (s:aA) (sp:List (Nat×Nat)) (ind:Int) (k:Nat):Nat:=mL s ind (sp.drop (k+1)) (k+1) (k+1) 0
def Cm (d:Nat×Nat):Bool:=(d.1==65533&&d.2==1)||!(d.1==9||(decide (32<=d.1)&&d.1 !=127))
def sN (s:aA) (e:Nat):Nat->Nat->Nat
 | 0,i=>i
 | f+1,i=>if e<=i then i else if Cm (decodeL (s.drop i)) then i else sN s e f (i+(decodeL (s.drop i)).2)
def oV (s:aA) (x:Nat×Nat):Nat:=sN s x.2 (x.2-x.1) x.1
def nA (s:aA) (x:Nat×Nat):aP:=⟨6,x.1,x.2,bQ (fR s x),0,0,0,0,0,0⟩
def oW (s:aA):List (Nat×Nat)->List aP->List aP ⊕ Int
 | [],ls=> .inl ls
 | x::r,ls=>if oV s x<x.2 then .inr (oV s x:Int) else oW s r (ls++ [nA s x])
def nB (s:aA) (sp:List (Nat×Nat)) (lv:Nat) (k:Nat) (kf kt:Int) (st:YS):YR:=
 match iR ⟨4,(aZ st.lines k).ind,k,oU s sp (aZ st.lines k).ind k,kf,kt,(aZ st.lines k).rf,(aZ st.lines k).rt,[]⟩ lv (aZ st.lines k).rf st with
 | .bad a e=> .bad a e
 | .ok n s1=>match oW s ((sp.drop (k+1)).take (oU s sp (aZ st.lines k).ind k-(k+1))) s1.lines with
  | .inr a=> .bad a 2
  | .inl ls=> .ok n ⟨ls,s1.nodes,s1.total⟩
abbrev YB:=Nat->Int->Int->YS->YR
def oZ (s:aA) (sp:List (Nat×Nat)) (B:YB) (lv:Nat):YB:=λk kf kt st=>
 let t:=eH s (aZ st.lines k).rf (aZ st.lines k).rt
 if t= [124]\/t= [124,45] then nB s sp lv k kf kt st else
 if t= [] then
  match gA s sp (k+1) st.lines with
  | .bad a e=> .bad a e
  | .ok nx ls=>if nx<sp.length/\(aZ st.lines k).ind<(aZ ls nx).ind then B nx kf kt ⟨ls,st.nodes,st.total⟩ else iZ s lv k kf kt ⟨ls,st.nodes,st.total⟩
 else iZ s lv k kf kt st
def qE (f:aM->aM):Nat->List aM->List aM
 | _,[]=> []
 | 0,x::l=>f x::l
 | n+1,x::l=>x::qE f n l
def fS (ns:List aM) (k:Nat):Nat:=match ns[k]? with
 | some x=>x.til
 | none=>0
def lS (n kid:Nat) (ns:List aM):List aM:=qE (λx=> { x with kids:=x.kids++ [kid],til:=fS ns kid }) n ns
def gB (s:aA) (V:YB) (map:Bool) (had:List aA) (k:Nat) (st:YS):YR×List aA:=
 if map then
  let kr:=oO (eH s (aZ st.lines k).kf (aZ st.lines k).kt)
  if kr.2≠0 then(.bad (aZ st.lines k).kf kr.2,had) else
  if kr.1∈had then(.bad (aZ st.lines k).kf 7,had) else(V k (aZ st.lines k).kf (aZ st.lines k).kt st,kr.1::had)
 else(V k 0 0 st,had)
inductive OR where
 | ok (nx:Nat) (st:YS) (had:List aA)
 | bad (a:Int) (er:Int)
def iF (s:aA) (sp:List (Nat×Nat)) (V:YB) (map:Bool) (n:Nat) (ind:Int) (had:List aA) (k:Nat) (st:YS):OR:=
 match gB s V map had k st with
 | (.bad a e,_)=> .bad a e
 | (.ok kid s2,had')=>
  match gA s sp (fS s2.nodes kid) s2.lines with
  | .bad a e=> .bad a e
  | .ok nx ls=>if nx<sp.length/\ind<(aZ ls nx).ind then .bad (((oT sp nx).1:Int)+(aZ ls nx).ind) 2 else .ok nx ⟨ls,lS n kid s2.nodes,s2.total⟩ had'
def kP (s:aA) (sp:List (Nat×Nat)) (V:YB) (map:Bool) (n:Nat) (ind kind:Int):Nat->List aA->Nat->YS->YR
 | 0,_,_,st=> .ok n st
 | f+1,had,k,st=>
  if k<sp.length/\(aZ st.lines k).ind=ind/\(aZ st.lines k).kind=kind then
   match iF s sp V map n ind had k st with
   | .bad a e=> .bad a e
   | .ok nx s2 had'=>kP s sp V map n ind kind f had' nx s2
  else .ok n st
def lT (s:aA) (sp:List (Nat×Nat)) (V:YB) (lv:Nat):YB:=λk kf kt st=>
 let x:=aZ st.lines k
 if x.kind=5 then iZ s lv k kf kt st else
 match iR ⟨if x.kind=4 then 3 else 2,x.ind,k,0,kf,kt,0,0,[]⟩ lv (yK sp st k) st with
 | .bad a e=> .bad a e
 | .ok n s1=>kP s sp V (decide (x.kind=4)) n x.ind x.kind (sp.length-k) [] k s1
def nC (s:aA) (sp:List (Nat×Nat)):Nat->YB
 | 0=>lT s sp (λ_ _ _ _=> .bad 0 0) 0
 | lv+1=>lT s sp (oZ s sp (nC s sp lv) lv) (lv+1)
structure dG where
 lines:List aP
 nodes:List aM
def kQ (s:aA) (sp:List (Nat×Nat)):dG×Int×Int:=
 match gA s sp 0 [] with
 | .bad a e=>(⟨[],[]⟩,a,e)
 | .ok k ls=>
  if ¬k<sp.length then(⟨ls,[⟨1,0,0,0,0,0,(s.length:Int),(s.length:Int),[]⟩]⟩,(s.length:Int),0) else
  match nC s sp 32 k 0 0 ⟨ls,[],0⟩ with
  | .bad a e=>(⟨[],[]⟩,a,e)
  | .ok _ st=>
   match gA s sp (fS st.nodes 0) st.lines with
   | .bad a e=>(⟨[],[]⟩,a,e)
   | .ok k2 ls2=>if k2<sp.length then(⟨[],[]⟩,((oT sp k2).1:Int)+(aZ ls2 k2).ind,2) else(⟨ls2,st.nodes⟩,(s.length:Int),0)
def fT (s:aA):List (Nat×Nat):=rE (fK s 0 0)
def gN (s:aA):dG×Int×Int:=if 65536<s.length then(⟨[],[]⟩,0,3) else kQ s (fT s)
end
section
open Go.RowKit
open Go.Lib hiding intOf
theorem sO {α:Type} (f:α->List Value) (m:Nat) (hf: ∀x,(f x).length=m): ∀(z:List α) (j:Nat) (y:α),z[j]?=some y-> ∀i,i<m->(z.flatMap f)[j*m+i]?=(f y)[i]?
 | [],j,y,h,i,hi=>by simp at h
 | x::z,0,y,h,i,hi=>by
  obtain rfl:x=y:=by simpa using h
  rw[List.flatMap_cons,Nat.zero_mul,Nat.zero_add,mE (by rw[hf];exact hi)]
 | x::z,j+1,y,h,i,hi=>by
  rw[cD] at h;have:=sO f m hf z j y h i hi;rw[List.flatMap_cons,kX (by rw[hf,Nat.succ_mul];omega),<-this];congr 1;rw[hf,Nat.succ_mul];omega
theorem yL {α:Type} (f:α->List Value) (m:Nat) (hf: ∀x,(f x).length=m): ∀(z:List α) (j:Nat) (y y':α),z[j]?=some y-> ∀i u,i<m->(f y).set i u=f y'->(z.flatMap f).set (j*m+i) u=(z.set j y').flatMap f
 | [],j,y,y',h,i,u,hi,hu=>by simp at h
 | x::z,0,y,y',h,i,u,hi,hu=>by
  obtain rfl:x=y:=by simpa using h
  rw[List.flatMap_cons,Nat.zero_mul,Nat.zero_add,List.set_append_left _ _ (by rw[hf];exact hi),hu];rfl
 | x::z,j+1,y,y',h,i,u,hi,hu=>by
  rw[cD] at h;have:=yL f m hf z j y y' h i u hi hu;rw[List.flatMap_cons,List.set_append_right _ _ (by rw[hf,Nat.succ_mul];omega),dF,List.flatMap_cons,<-this];congr 2;rw[hf,Nat.succ_mul];omega
def sP (r:aP):List Value:= [.int .i64 r.kind, .int .i64 r.sf, .int .i64 r.st, .int .i64 r.ind, .int .i64 r.kf, .int .i64 r.kt, .int .i64 r.rf, .int .i64 r.rt, .int .i64 r.nf, .int .i64 r.nt]
def jA (l:List aP):List Value:=l.flatMap sP
abbrev YN:=aM×Value
def jB (y:YN):List Value:= [.int .i64 (y.1.kind:Int), .int .i64 y.1.ind, .int .i64 (y.1.fr:Int), .int .i64 (y.1.til:Int), .int .i64 y.1.kf, .int .i64 y.1.kt, .int .i64 y.1.rf, .int .i64 y.1.rt,y.2]
def iG (z:List YN):List Value:=z.flatMap jB
theorem Kg (r:aP):(sP r).length=10:=rfl
theorem yM (y:YN):(jB y).length=9:=rfl
def sQ (z:List YN):Prop:= ∀(i j:Nat) (yi yj:YN),i≠j->z[i]?=some yi->z[j]?=some yj->yi.2.ownBlock=none\/yi.2.ownBlock≠yj.2.ownBlock
theorem sQ.push {z:List YN}{y:YN} (h:sQ z) (hy:y.2.ownBlock=none):sQ (z++ [y]):=by
 have key: ∀(j:Nat) (yj:YN),(z++ [y])[j]?=some yj->z[j]?=some yj\/(j=z.length/\yj=y):=by
  intro j yj hj;by_cases h2:j<z.length
  ·rw[mE h2] at hj;exact .inl hj
  ·have hl:=(aQ.1 hj).1;rw[aS,eD] at hl;rw[kX (by omega),show j-z.length=0 by omega] at hj;simp only[dA,cS] at hj;exact .inr ⟨by omega,hj.symm⟩
 intro i j yi yj hij hi hj;rcases key i yi hi with hi | ⟨hi,rfl⟩
 ·rcases key j yj hj with hj | ⟨hj,rfl⟩
  ·exact h i j yi yj hij hi hj
  ·by_cases hn:yi.2.ownBlock=none
   ·exact .inl hn
   ·exact .inr (by rw[hy];exact hn)
 ·exact .inl hy
theorem sQ.set {z:List YN}{n:Nat}{y y':YN} (h:sQ z) (hn:z[n]?=some y) (hb:y'.2.ownBlock=y.2.ownBlock\/ ∀(j:Nat) (yj:YN),z[j]?=some yj->yj.2.ownBlock≠y'.2.ownBlock):sQ (z.set n y'):=by
 intro i j yi yj hij hi hj;rw[List.getElem?_set] at hi hj;by_cases h1:n=i
 ·subst h1;rw[if_pos rfl,if_pos (aQ.1 hn).1] at hi;obtain rfl:=bD hi;rw[if_neg hij] at hj;rcases hb with hb | hb
  ·rw[hb];exact h n j y yj hij hn hj
  ·exact .inr (Ne.symm (hb j yj hj))
 ·rw[if_neg h1] at hi;by_cases h2:n=j
  ·subst h2;rw[if_pos rfl,if_pos (aQ.1 hn).1] at hj;obtain rfl:=bD hj;rcases hb with hb | hb
   ·rw[hb];exact h i n yi y hij hi hn
   ·exact .inr (hb i yi hi)
  ·rw[if_neg h2] at hj;exact h i j yi yj hij hi hj
structure eI (B:Nat) (z:List YN) (nv:Value) (w:World):Prop where
 row:w.ownsRow B 62 9 nv z.length (iG z)
 kids: ∀y∈z,w.ownsRow B 3 1 y.2 y.1.kids.length (dV y.1.kids)
 ak:sQ z
theorem eI.nil (B:Nat) (w:World):eI B [] (.slice none 0 0) w:=
 ⟨⟨rfl, .inl ⟨rfl,rfl⟩⟩,λy hy=>(by cases hy),λi j yi yj _ h=>(by simp at h)⟩
section
variable {B:Nat}{z:List YN}{nv:Value}{w w' w1:World}
theorem eI.keep (h:eI B z nv w) (hb:Below w.heap.size w w'):eI B z nv w':=
 ⟨jQ h.row hb,λy hy=>jQ (h.kids y hy) hb,h.ak⟩
theorem eI.other (h:eI B z nv w) {X:Nat}{cs:Array Value}{t:TypeId}{fz:Nat×Nat} (hX:w.heap[X]?=some (.cells cs t fz)) (h1:62≠t) (h2:3≠t) (hg:w.grownBy w' (some X)):eI B z nv w':=
 ⟨h.row.kept hg (cY h.row hX h1),λy hy=>(h.kids y hy).kept hg (cY (h.kids y hy) hX h2),h.ak⟩
theorem eI.grow (h:eI B z nv w) {B2 s n:Nat}{e:TypeId}{v:Value}{xs:List Value} (hr:w.ownsRow B2 e s v n xs) (h1:62≠e) (h2:3≠e) (hg:w.grownBy w' v.ownBlock):eI B z nv w':=
 ⟨h.row.kept hg (iC h.row hr h1),λy hy=>(h.kids y hy).kept hg (iC (h.kids y hy) hr h2),h.ak⟩
theorem eI.push (h:eI B z nv w) {nv':Value}{x:aM} (hk:x.kids= []) (hr:w'.ownsRow B 62 9 nv' (z.length+1) (iG z++jB (x, .slice none 0 0))) (hg:w.grownBy w' nv.ownBlock):
  eI B (z++ [(x, .slice none 0 0)]) nv' w':=by
 refine⟨?_,λy hy=>?_,h.ak.push rfl⟩
 ·have e:iG (z++ [(x, .slice none 0 0)])=iG z++jB (x, .slice none 0 0):=by unfold iG;simp
  rw[e,aS];exact hr
 ·rcases pP.1 hy with hy | hy
  ·exact(h.kids y hy).kept hg (iC (h.kids y hy) h.row (by decide))
  ·rw[kH.1 hy];simp only[];rw[hk];exact⟨rfl, .inl ⟨rfl,rfl⟩⟩
theorem eI.form (h:eI B z nv w) (hz:z≠ []): ∃g cap cur,nv= .slice (some ⟨g,0,none⟩) z.length cap/\z.length<=cap/\B<=g/\w.heap[g]?=some (.cells cur 62 (0,0)):=by
 rcases h.row.2 with⟨_,h1⟩ | ⟨g,cap,cur,h1,h2,h3,h4,_⟩
 ·exact absurd (List.length_eq_zero_iff.1 h1) hz
 ·exact⟨g,cap,cur,h1,h4,h2,h3⟩
theorem eI.at_ {g cap:Nat} (h:eI B z (.slice (some ⟨g,0,none⟩) z.length cap) w) {n:Nat}{y:YN} (hy:z[n]?=some y) (i:Nat) (hi:i<9) {u:Value} (hu:(jB y)[i]?=some u):
  w.cell? ⟨g,n*9+i,none⟩=some u/\w.frozen? ⟨g,n*9+i,none⟩=false:=by
 have hn:=(aQ.1 hy).1;refine⟨?_,World.ownsRow.frozenAt h.row _⟩;rw[World.ownsRow.cellAt h.row _ (by omega),iG,sO _ 9 yM z n y hy i hi,hu]
theorem eI.field {g cap:Nat} (h:eI B z (.slice (some ⟨g,0,none⟩) z.length cap) w) {n:Nat}{y y':YN} (hy:z[n]?=some y) (i:Nat) (hi:i<9) (u:Value) (hu:(jB y).set i u=jB y') (hk:y'.1.kids=y.1.kids) (h1:y'.2=y.2):
  eI B (z.set n y') (.slice (some ⟨g,0,none⟩) (z.set n y').length cap) (w.setCell ⟨g,n*9+i,none⟩ u):=by
 obtain⟨hr,hg⟩:=World.ownsRow.stored h.row (n*9+i) u;obtain⟨g',cap',cur,e,_,_,hcur⟩:=h.form (λe=>by rw[e] at hy;simp at hy);have hgg:g=g':=by injection e with e;injection e with e;injection e
 subst hgg;rw[iG,yL _ 9 yM z n y y' hy i u hi hu] at hr;have hmem: ∀x∈z.set n y',x=y'\/x∈z:=λx hx=>(List.mem_or_eq_of_mem_set hx).symm;refine⟨by rw[List.length_set];exact hr,λx hx=>?_,?_⟩
 ·rcases hmem x hx with rfl | hx
  ·rw[hk,h1];have hm:=h.kids y (aX hy);exact hm.kept hg (cY hm hcur (by decide))
  ·exact(h.kids x hx).kept hg (cY (h.kids x hx) hcur (by decide))
 ·exact h.ak.set hy (.inl (by rw[h1]))
theorem eI.kid {g cap:Nat} (h:eI B z (.slice (some ⟨g,0,none⟩) z.length cap) w) {n k:Nat}{y:YN} (hy:z[n]?=some y) {kv:Value}{H:Nat} (hH:w.heap.size<=H)
  (hr:w1.ownsRow B 3 1 kv (y.1.kids.length+1) (dV y.1.kids++ [.int .i64 (k:Int)])) (hg:w.grownBy w1 y.2.ownBlock) (hat:kv.ownBlock=y.2.ownBlock\/kv.ownBlock=some H):
  eI B (z.set n ({ y.1 with kids:=y.1.kids++ [k] },kv)) (.slice (some ⟨g,0,none⟩) (z.set n ({ y.1 with kids:=y.1.kids++ [k] },kv)).length cap) (w1.setCell ⟨g,n*9+8,none⟩ kv):=by
 have hkm:=h.kids y (aX hy);have hrow1:=h.row.kept hg (iC h.row hkm (by decide));obtain⟨hr2,hg2⟩:=World.ownsRow.stored hrow1 (n*9+8) kv;obtain⟨g',cap',cur,e,_,_,hcur0⟩:=h.form (λe=>by rw[e] at hy;simp at hy);have hgg:g=g':=by injection e with e;injection e with e;injection e
 subst hgg;have hcur:w1.heap[g]?=some (.cells cur 62 (0,0)):=by
  rw[hg.block g (aF hcur0) (λe=>by
   rcases cY hkm hcur0 (by decide) with h1 | h1
   ·rw[h1] at e;cases e
   ·exact h1 e.symm)]
  exact hcur0
 rw[iG,yL _ 9 yM z n y ({ y.1 with kids:=y.1.kids++ [k] },kv) hy 8 kv (by omega) rfl] at hr2;refine⟨by rw[List.length_set];exact hr2,λx hx=>?_,?_⟩
 ·obtain⟨j,hj⟩:=List.getElem?_of_mem hx;rw[List.getElem?_set] at hj;by_cases hnj:n=j
  ·subst hnj;rw[if_pos rfl,if_pos (aQ.1 hy).1] at hj;obtain rfl:=bD hj;have e:dV (y.1.kids++ [k])=dV y.1.kids++ [.int .i64 (k:Int)]:=by unfold dV;simp
   simp only[e,aS,eD];exact hr.kept hg2 (cY hr hcur (by decide))
  ·rw[if_neg hnj] at hj;have hm:=h.kids x (aX hj);have h1:=hm.kept hg (h.ak j n x y (Ne.symm hnj) hj hy);exact h1.kept hg2 (cY h1 hcur (by decide))
 ·refine h.ak.set hy ?_;rcases hat with hat | hat
  ·exact .inl hat
  ·refine .inr (λj yj hj e=>?_);have hm:=h.kids yj (aX hj);simp only[] at e;rw[hat] at e;have:=(World.ownsRow.lt hm H e).2;omega
end
abbrev aK:=Nat->Option Obj
def aK.put (Pr:aK) (X:Nat) (o:Obj):aK:=λk=>if k=X then some o else Pr k
theorem aK.put_eq (Pr:aK) (X:Nat) (o:Obj):Pr.put X o X=some o:=if_pos rfl
theorem aK.put_ne (Pr:aK) {X k:Nat} (o:Obj) (h:k≠X):Pr.put X o k=Pr k:=if_neg h
structure YK (T:TypeId) (Pr:aK) (w0:World) (P:Nat) (txt:aA) (sp:List (Nat×Nat)) (lines:List aP) (z:List YN) (tot:Nat) (a er:Int) (sv lv nv:Value) (w:World):Prop where
 box:w.heap[P]?=some (.cells #[.string (bs txt),sv,lv,nv, .int .i64 (tot:Int), .int .i64 a, .int .i64 er] T (0,0))
 spr:w.ownsRow w0.heap.size 59 2 sv sp.length (mY sp)
 lnr:w.ownsRow w0.heap.size 121 10 lv lines.length (jA lines)
 nod:eI w0.heap.size z nv w
 hB:w0.heap.size<=P
 ty:T≠59/\T≠121/\T≠62/\T≠3
 bel:Below w0.heap.size w0 w
 fr: ∀k o,Pr k=some o->w.heap[k]?=some o/\k≠P/\lv.ownBlock≠some k/\nv.ownBlock≠some k/\ ∀y∈z,y.2.ownBlock≠some k
section
variable {T:TypeId}{Pr:aK}{w0 w w' w1:World}{P:Nat}{txt:aA}{sp:List (Nat×Nat)}{lines:List aP}{z:List YN}{tot:Nat}{a er:Int}{sv lv nv:Value}
theorem YK.keep (h:YK T Pr w0 P txt sp lines z tot a er sv lv nv w) (hb:Below w.heap.size w w'):YK T Pr w0 P txt sp lines z tot a er sv lv nv w':=
 ⟨(hb.block P (aF h.box)).trans h.box,jQ h.spr hb,jQ h.lnr hb,h.nod.keep hb,h.hB,h.ty,h.bel.trans (hb.mono h.bel.size),λk o hk=>by obtain⟨h1,h2⟩:=h.fr k o hk;exact⟨(hb.block k (aF h1)).trans h1,h2⟩⟩
theorem YK.lt (h:YK T Pr w0 P txt sp lines z tot a er sv lv nv w):P<w.heap.size:=aF h.box
theorem YK.cells (h:YK T Pr w0 P txt sp lines z tot a er sv lv nv w):(w.cell? ⟨P,0,none⟩=some (.string (bs txt))/\w.cell? ⟨P,1,none⟩=some sv/\w.cell? ⟨P,2,none⟩=some lv/\w.cell? ⟨P,3,none⟩=some nv/\w.cell? ⟨P,4,none⟩=some (.int .i64 (tot:Int))/\w.cell? ⟨P,5,none⟩=some (.int .i64 a)/\w.cell? ⟨P,6,none⟩=some (.int .i64 er))/\
  w.frozen? ⟨P,2,none⟩=false/\w.frozen? ⟨P,3,none⟩=false/\w.frozen? ⟨P,4,none⟩=false/\w.frozen? ⟨P,5,none⟩=false/\w.frozen? ⟨P,6,none⟩=false:=by
 have hb:=h.box;refine⟨⟨?_,?_,?_,?_,?_,?_,?_⟩,?_,?_,?_,?_,?_⟩<;>simp[World.cell?,World.frozen?,hb]
theorem YK.put (h:YK T Pr w0 P txt sp lines z tot a er sv lv nv w) (hb:Below w.heap.size w w') {X:Nat}{o:Obj} (hX:w.heap.size<=X) (ho:w'.heap[X]?=some o):YK T (Pr.put X o) w0 P txt sp lines z tot a er sv lv nv w':=by
 have h2:=h.keep hb;refine⟨h2.box,h2.spr,h2.lnr,h2.nod,h2.hB,h2.ty,h2.bel,λk o' hk=>?_⟩;by_cases hkX:k=X
 ·subst hkX;rw[aK.put_eq] at hk;obtain rfl:=bD hk;have hP:=aF h.box;refine⟨ho,by omega,λe=>?_,λe=>?_,λy hy e=>?_⟩
  ·have:=(World.ownsRow.lt h.lnr k e).2;omega
  ·have:=(World.ownsRow.lt h.nod.row k e).2;omega
  ·have:=(World.ownsRow.lt (h.nod.kids y hy) k e).2;omega
 ·rw[aK.put_ne _ _ hkX] at hk;exact h2.fr k o' hk
theorem YK.frLt (h:YK T Pr w0 P txt sp lines z tot a er sv lv nv w) {k:Nat}{o:Obj} (hk:Pr k=some o):k<w.heap.size:=aF (h.fr k o hk).1
theorem YK.less {Pr':aK} (h:YK T Pr w0 P txt sp lines z tot a er sv lv nv w) (hp: ∀k o,Pr' k=some o->Pr k=some o):YK T Pr' w0 P txt sp lines z tot a er sv lv nv w:=
 ⟨h.box,h.spr,h.lnr,h.nod,h.hB,h.ty,h.bel,λk o hk=>h.fr k o (hp k o hk)⟩
theorem aK.put_less {N X:Nat}{o:Obj} (hp: ∀k o',Pr k=some o'->k<N) (hX:N<=X): ∀k o',Pr k=some o'->Pr.put X o k=some o':=λk o' hk=>by
 have:=hp k o' hk;rw[aK.put_ne _ _ (by omega)];exact hk
theorem YK.boxed (h:YK T Pr w0 P txt sp lines z tot a er sv lv nv w) (i:Nat) (u:Value) {tot':Nat}{a' er':Int} (hu:([.string (bs txt),sv,lv,nv, .int .i64 (tot:Int), .int .i64 a, .int .i64 er]:List Value).set i u= [.string (bs txt),sv,lv,nv, .int .i64 (tot':Int), .int .i64 a', .int .i64 er']):
  YK T Pr w0 P txt sp lines z tot' a' er' sv lv nv (w.setCell ⟨P,i,none⟩ u):=by
 have hb:=h.box;have hg:=gM w P i u;have hPs: ∀ {e:TypeId}{s n:Nat}{v:Value}{xs:List Value},w.ownsRow w0.heap.size e s v n xs->e≠T->(w.setCell ⟨P,i,none⟩ u).ownsRow w0.heap.size e s v n xs:=λh1 h2=>h1.kept hg (cY h1 hb h2);obtain⟨t1,t2,t3,t4⟩:=h.ty;refine⟨?_,hPs h.spr (Ne.symm t1),hPs h.lnr (Ne.symm t2),h.nod.other hb (Ne.symm t3) (Ne.symm t4) hg,h.hB,h.ty,h.bel.setCell (p:=⟨P,i,none⟩) h.hB u,λk o hk=>?_⟩
 ·simp[World.setCell,Array.getElem?_modify,hb,hu]
 ·obtain⟨f1,f2,f3⟩:=h.fr k o hk;exact⟨by rw[dC w ⟨P,i,none⟩ u k f2];exact f1,f2,f3⟩
theorem YK.fail (h:YK T Pr w0 P txt sp lines z tot a er sv lv nv w) (a2 e2:Int):YK T Pr w0 P txt sp lines z tot a2 e2 sv lv nv ((w.setCell ⟨P,5,none⟩ (.int .i64 a2)).setCell ⟨P,6,none⟩ (.int .i64 e2)):=
 (h.boxed 5 (.int .i64 a2) (tot':=tot) (a':=a2) (er':=er) rfl).boxed 6 (.int .i64 e2) rfl
theorem YK.count (h:YK T Pr w0 P txt sp lines z tot a er sv lv nv w) (t2:Nat):YK T Pr w0 P txt sp lines z t2 a er sv lv nv (w.setCell ⟨P,4,none⟩ (.int .i64 (t2:Int))):=
 h.boxed 4 (.int .i64 (t2:Int)) rfl
theorem YK.box_grown (h:YK T Pr w0 P txt sp lines z tot a er sv lv nv w) {B2 s n:Nat}{e:TypeId}{v:Value}{xs:List Value} (hr:w.ownsRow B2 e s v n xs) (he:e≠T) (hg:w.grownBy w1 v.ownBlock):w1.heap[P]?=some (.cells #[.string (bs txt),sv,lv,nv, .int .i64 (tot:Int), .int .i64 a, .int .i64 er] T (0,0)):=by
 rw[hg.block P h.lt (λe2=>by
  rcases cY hr h.box he with h1 | h1
  ·rw[h1] at e2;cases e2
  ·exact h1 e2.symm)]
 exact h.box
theorem Cn {v v':Value}{H N k:Nat} (hat:v'.ownBlock=v.ownBlock\/v'.ownBlock=some H) (hH:N<=H) (hk:k<N) (hv:v.ownBlock≠some k):v'.ownBlock≠some k:=by
 rcases hat with e | e
 ·rw[e];exact hv
 ·rw[e];intro e2;have:=bD e2;omega
theorem qF {k:Nat}{o:Obj}{r:Option Nat} (hg:w.grownBy w1 r) (hk:w.heap[k]?=some o) (hr:r≠some k):w1.heap[k]?=some o:=by
 rw[hg.block k (aF hk) (λe=>hr e.symm)];exact hk
theorem YK.line (h:YK T Pr w0 P txt sp lines z tot a er sv lv nv w) {lv':Value}{r:aP}{H:Nat} (hH:w.heap.size<=H) (hr:w1.ownsRow w0.heap.size 121 10 lv' (lines.length+1) (jA lines++sP r)) (hg:w.grownBy w1 lv.ownBlock) (hat:lv'.ownBlock=lv.ownBlock\/lv'.ownBlock=some H):
  YK T Pr w0 P txt sp (lines++ [r]) z tot a er sv lv' nv (w1.setCell ⟨P,2,none⟩ lv'):=by
 obtain⟨t1,t2,t3,t4⟩:=h.ty;have hb:=h.box_grown h.lnr (Ne.symm t2) hg;have hg2:=gM w1 P 2 lv';have e:jA (lines++ [r])=jA lines++sP r:=by unfold jA;simp
 have hn1:=h.nod.grow h.lnr (by decide) (by decide) hg;refine⟨?_,?_,?_,hn1.other hb (Ne.symm t3) (Ne.symm t4) hg2,h.hB,h.ty,?_,λk o hk=>?_⟩
 ·simp[World.setCell,Array.getElem?_modify,hb]
 ·have h1:=h.spr.kept hg (iC h.spr h.lnr (by decide));exact h1.kept hg2 (cY h1 hb (Ne.symm t1))
 ·rw[e,aS];exact hr.kept hg2 (cY hr hb (Ne.symm t2))
 ·exact(h.bel.grown hg h.bel.size (λk hk=>(World.ownsRow.lt h.lnr k hk).1)).setCell (p:=⟨P,2,none⟩) h.hB lv'
 ·obtain⟨f1,f2,f3,f4,f5⟩:=h.fr k o hk;refine⟨?_,f2,Cn hat hH (aF f1) f3,f4,f5⟩;rw[dC w1 ⟨P,2,none⟩ lv' k f2];exact qF hg f1 f3
theorem YK.node (h:YK T Pr w0 P txt sp lines z tot a er sv lv nv w) {nv':Value}{x:aM} (hx:x.kids= []) {H:Nat} (hH:w.heap.size<=H) (hr:w1.ownsRow w0.heap.size 62 9 nv' (z.length+1) (iG z++jB (x, .slice none 0 0))) (hg:w.grownBy w1 nv.ownBlock) (hat:nv'.ownBlock=nv.ownBlock\/nv'.ownBlock=some H):
  YK T Pr w0 P txt sp lines (z++ [(x, .slice none 0 0)]) tot a er sv lv nv' (w1.setCell ⟨P,3,none⟩ nv'):=by
 obtain⟨t1,t2,t3,t4⟩:=h.ty;have hb:=h.box_grown h.nod.row (Ne.symm t3) hg;have hg2:=gM w1 P 3 nv';have hn1:=h.nod.push hx hr hg;refine⟨?_,?_,?_,hn1.other hb (Ne.symm t3) (Ne.symm t4) hg2,h.hB,h.ty,?_,λk o hk=>?_⟩
 ·simp[World.setCell,Array.getElem?_modify,hb]
 ·have h1:=h.spr.kept hg (iC h.spr h.nod.row (by decide));exact h1.kept hg2 (cY h1 hb (Ne.symm t1))
 ·have h1:=h.lnr.kept hg (iC h.lnr h.nod.row (by decide));exact h1.kept hg2 (cY h1 hb (Ne.symm t2))
 ·exact(h.bel.grown hg h.bel.size (λk hk=>(World.ownsRow.lt h.nod.row k hk).1)).setCell (p:=⟨P,3,none⟩) h.hB nv'
 ·obtain⟨f1,f2,f3,f4,f5⟩:=h.fr k o hk;refine⟨?_,f2,f3,Cn hat hH (aF f1) f4,λy hy=>?_⟩
  ·rw[dC w1 ⟨P,3,none⟩ nv' k f2];exact qF hg f1 f4
  ·rcases pP.1 hy with hy | hy
   ·exact f5 y hy
   ·rw[kH.1 hy];exact λe=>by cases e
theorem YK.kid {g cap:Nat} (h:YK T Pr w0 P txt sp lines z tot a er sv lv (.slice (some ⟨g,0,none⟩) z.length cap) w) {n k:Nat}{y:YN} (hy:z[n]?=some y) {kv:Value}{H:Nat} (hH:w.heap.size<=H)
  (hr:w1.ownsRow w0.heap.size 3 1 kv (y.1.kids.length+1) (dV y.1.kids++ [.int .i64 (k:Int)])) (hg:w.grownBy w1 y.2.ownBlock) (hat:kv.ownBlock=y.2.ownBlock\/kv.ownBlock=some H):
  YK T Pr w0 P txt sp lines (z.set n ({ y.1 with kids:=y.1.kids++ [k] },kv)) tot a er sv lv (.slice (some ⟨g,0,none⟩) (z.set n ({ y.1 with kids:=y.1.kids++ [k] },kv)).length cap) (w1.setCell ⟨g,n*9+8,none⟩ kv):=by
 obtain⟨t1,t2,t3,t4⟩:=h.ty;have hkm:=h.nod.kids y (aX hy);have hb:=h.box_grown hkm (Ne.symm t4) hg;obtain⟨g',cap',cur,e,_,hgB,hcur0⟩:=h.nod.form (λe=>by rw[e] at hy;simp at hy);have hgg:g=g':=by injection e with e;injection e with e;injection e
 subst hgg;have hcur:w1.heap[g]?=some (.cells cur 62 (0,0)):=qF hg hcur0 (λe=>by
  rcases cY hkm hcur0 (by decide) with h1 | h1
  ·rw[h1] at e;cases e
  ·exact h1 e)
 have hg2:=gM w1 g (n*9+8) kv;have hPg:P≠g:=λe=>by
  subst e;rw[hb] at hcur;injection hcur with hcur;injection hcur with _ hcur;exact t3 hcur
 refine⟨?_,?_,?_,h.nod.kid hy hH hr hg hat,h.hB,h.ty,?_,λk o hk=>?_⟩
 ·rw[dC w1 ⟨g,n*9+8,none⟩ kv P hPg,List.length_set];exact hb
 ·have h1:=h.spr.kept hg (iC h.spr hkm (by decide));exact h1.kept hg2 (cY h1 hcur (by decide))
 ·have h1:=h.lnr.kept hg (iC h.lnr hkm (by decide));exact h1.kept hg2 (cY h1 hcur (by decide))
 ·exact(h.bel.grown hg h.bel.size (λk hk=>(World.ownsRow.lt hkm k hk).1)).setCell (p:=⟨g,n*9+8,none⟩) hgB kv
 ·obtain⟨f1,f2,f3,f4,f5⟩:=h.fr k o hk;have fy:=f5 y (aX hy);refine⟨?_,f2,f3,f4,λx hx=>?_⟩
  ·rw[dC w1 ⟨g,n*9+8,none⟩ kv k (λe=>f4 (by rw[e];rfl))];exact qF hg f1 fy
  ·rcases List.mem_or_eq_of_mem_set hx with hx | rfl
   ·exact f5 x hx
   ·exact Cn hat hH (aF f1) fy
theorem YK.til {g cap:Nat} (h:YK T Pr w0 P txt sp lines z tot a er sv lv (.slice (some ⟨g,0,none⟩) z.length cap) w) {n:Nat}{y:YN} (hy:z[n]?=some y) (e:Nat):
  YK T Pr w0 P txt sp lines (z.set n ({ y.1 with til:=e },y.2)) tot a er sv lv (.slice (some ⟨g,0,none⟩) (z.set n ({ y.1 with til:=e },y.2)).length cap) (w.setCell ⟨g,n*9+3,none⟩ (.int .i64 (e:Int))):=by
 obtain⟨t1,t2,t3,t4⟩:=h.ty;obtain⟨g',cap',cur,e',_,hgB,hcur⟩:=h.nod.form (λe=>by rw[e] at hy;simp at hy);have hgg:g=g':=by injection e' with e;injection e with e;injection e
 subst hgg;have hg2:=gM w g (n*9+3) (.int .i64 (e:Int));have hPg:P≠g:=λe=>by
  have hb:=h.box;subst e;rw[hb] at hcur;injection hcur with hcur;injection hcur with _ hcur;exact t3 hcur
 refine⟨?_,h.spr.kept hg2 (cY h.spr hcur (by decide)),h.lnr.kept hg2 (cY h.lnr hcur (by decide)),h.nod.field hy 3 (by omega) _ rfl rfl rfl,h.hB,h.ty,h.bel.setCell (p:=⟨g,n*9+3,none⟩) hgB _,λk o hk=>?_⟩
 ·rw[dC w ⟨g,n*9+3,none⟩ _ P hPg,List.length_set];exact h.box
 ·obtain⟨f1,f2,f3,f4,f5⟩:=h.fr k o hk;refine⟨?_,f2,f3,f4,λx hx=>?_⟩
  ·rw[dC w ⟨g,n*9+3,none⟩ _ k (λe=>f4 (by rw[e];rfl))];exact f1
  ·rcases List.mem_or_eq_of_mem_set hx with hx | rfl
   ·exact f5 x hx
   ·exact f5 y (aX hy)
theorem YK.lineAt (h:YK T Pr w0 P txt sp lines z tot a er sv lv nv w) {k:Nat}{r:aP} (hr:lines[k]?=some r): ∃g cap,lv= .slice (some ⟨g,0,none⟩) lines.length cap/\lines.length<=cap/\ ∀i u,i<10->(sP r)[i]?=some u->w.cell? ⟨g,k*10+i,none⟩=some u:=by
 have hl:=(aQ.1 hr).1;rcases h.lnr.2 with⟨_,h1⟩ | ⟨g,cap,cur,h1,h2,h3,h4,_⟩
 ·omega
 ·refine⟨g,cap,h1,h4,λi u hi hu=>?_⟩;have hr':=h.lnr;rw[h1] at hr';rw[World.ownsRow.cellAt hr' _ (by omega),jA,sO _ 10 Kg lines k r hr i hi,hu]
theorem YK.lnSlice (h:YK T Pr w0 P txt sp lines z tot a er sv lv nv w): ∃p cap,lv= .slice p lines.length cap:=by
 rcases h.lnr.2 with⟨h0,h1⟩ | ⟨g,cap,cur,h1,h2,h3,h4,_⟩
 ·exact⟨none,0,by rw[h0,h1]⟩
 ·exact⟨_,cap,h1⟩
theorem Co (p:Nat×Nat):([.int .i64 (p.1:Int), .int .i64 (p.2:Int)]:List Value).length=2:=rfl
theorem YK.spanAt (h:YK T Pr w0 P txt sp lines z tot a er sv lv nv w) {k:Nat}{r:Nat×Nat} (hr:sp[k]?=some r): ∃g cap,sv= .slice (some ⟨g,0,none⟩) sp.length cap/\sp.length<=cap/\w.cell? ⟨g,k*2,none⟩=some (.int .i64 (r.1:Int))/\w.cell? ⟨g,k*2+1,none⟩=some (.int .i64 (r.2:Int)):=by
 have hl:=(aQ.1 hr).1;rcases h.spr.2 with⟨_,h1⟩ | ⟨g,cap,cur,h1,h2,h3,h4,_⟩
 ·omega
 ·have hr':=h.spr;rw[h1] at hr';have key:=sO (λp:Nat×Nat=>([.int .i64 (p.1:Int), .int .i64 (p.2:Int)]:List Value)) 2 Co sp k r hr;refine⟨g,cap,h1,h4,?_,?_⟩
  ·have:=key 0 (by omega);rw[Nat.add_zero] at this;rw[World.ownsRow.cellAt hr' _ (by omega)];exact this
  ·rw[World.ownsRow.cellAt hr' _ (by omega)];exact key 1 (by omega)
theorem YK.spSlice (h:YK T Pr w0 P txt sp lines z tot a er sv lv nv w): ∃p cap,sv= .slice p sp.length cap:=by
 rcases h.spr.2 with⟨h0,h1⟩ | ⟨g,cap,cur,h1,h2,h3,h4,_⟩
 ·exact⟨none,0,by rw[h0,h1]⟩
 ·exact⟨_,cap,h1⟩
end
end
end Go.Proofs.YtaifnmjjpddikaaGreatDoor
