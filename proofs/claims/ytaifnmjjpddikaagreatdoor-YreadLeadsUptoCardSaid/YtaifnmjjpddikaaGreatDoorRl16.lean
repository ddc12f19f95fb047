import Derived.Test.YtaifnmjjpddikaaGreatDoorRl1
import Derived.Test.YtaifnmjjpddikaaGreatDoorShelf
import Derived.Test.YtaifnmjjpddikaaGreatDoorProg
import Derived.Lib.IndexBytes
import Derived.Test.YtaifnmjjpddikaaGreatDoorRl14
import Derived.Test.YtaifnmjjpddikaaGreatDoorRl15
import Derived.Test.YtaifnmjjpddikaaGreatDoorRl4
set_option maxRecDepth 100000
set_option maxHeartbeats 1000000
namespace Go.Proofs.YtaifnmjjpddikaaGreatDoor
set_option linter.unusedVariables false
set_option linter.unusedSimpArgs false
section
open Go.RowKit
open Go.Lib hiding intOf
def eF:List UInt8->Nat->Nat->List (Nat×Nat)
 | [],k,pos=> [(k,pos)]
 | c::t,k,pos=>if c=10 then(k,pos+1)::eF t (pos+1) (pos+1) else eF t k (pos+1)
def tC (s:ByteArray):List (Nat×Nat):=eF s.data.toList 0 0
theorem rS: ∀(l:List UInt8) (k pos:Nat),(eF l k pos).length<=l.length+1/\1<=(eF l k pos).length
 | [],k,pos=>by simp[eF]
 | c::t,k,pos=>by
  unfold eF;have h1:=rS t (pos+1) (pos+1);have h2:=rS t k (pos+1);split<;>simp<;>omega
theorem Xs (s:ByteArray):(tC s).length<=s.size+1/\1<=(tC s).length:=rS s.data.toList 0 0
def nZ (xs:List (Nat×Nat)):List Value:=xs.flatMap λp=> [.int .i64 p.1, .int .i64 p.2]
theorem Xt (xs:List (Nat×Nat)) (a b:Nat):nZ (xs++ [(a,b)])=nZ xs++ [.int .i64 a, .int .i64 b]:=by simp[nZ]
def mJ (B:Nat) (w:World) (v:Value) (xs:List (Nat×Nat)):Prop:=w.ownsRow B 59 2 v xs.length (nZ xs)
theorem mJ.snoc {B:Nat}{w:World}{v:Value}{xs:List (Nat×Nat)}{a b:Nat} (h:w.ownsRow B 59 2 v (xs.length+1) (nZ xs++(#[Value.int .i64 a,Value.int .i64 b]:Array Value).toList)):mJ B w v (xs++ [(a,b)]):=by
 unfold mJ;rw[Xt,aW];exact h
def oA (s:ByteArray) (xs:List (Nat×Nat)) (k i:Nat):Prop:=xs++eF (s.data.toList.drop i) k i=tC s/\k<=i
theorem oA.zero (s:ByteArray):oA s [] 0 0:=⟨rfl,aE _⟩
theorem oA.len {s:ByteArray}{xs:List (Nat×Nat)}{k i:Nat} (h:oA s xs k i):xs.length<=s.size:=by
 have b:=congrArg List.length h.1;have h2:=rS (s.data.toList.drop i) k i;have h3:=Xs s;rw[aW] at b;omega
theorem Lf: ∀(l:List UInt8) (k pos:Nat),Lib.indexByte l 10<0->eF l k pos= [(k,pos+l.length)]
 | [],k,pos,_=>rfl
 | c ::t,k,pos,h=>by
  unfold Lib.indexByte at h;have hge:=Lib.indexByte_ge t 10;by_cases hc:c=10
  ·subst hc;simp at h
  ·rw[if_neg (by simpa using hc)] at h;have b:Lib.indexByte t 10<0:=by
    split at h
    ·rename_i d;have h2:Lib.indexByte t 10= -1:=(by simpa using d);omega
    ·omega
   rw[eF,if_neg hc,Lf t k (pos+1) b,aV,show pos+1+t.length=pos+(t.length+1) by omega]
theorem Lg: ∀(l:List UInt8) (k pos j:Nat),Lib.indexByte l 10=(j:Int)->j<l.length/\eF l k pos=(k,pos+j+1)::eF (l.drop (j+1)) (pos+j+1) (pos+j+1)
 | [],k,pos,j,h=>by simp[Lib.indexByte] at h<;>omega
 | c::t,k,pos,j,h=>by
  unfold Lib.indexByte at h;have hge:=Lib.indexByte_ge t 10;by_cases hc:c=10
  ·subst hc;obtain rfl:j=0:=by simp at h;omega
   simp[eF]
  ·rw[if_neg (by simpa using hc)] at h;by_cases h1:(Lib.indexByte t 10== -1)=true
   ·rw[if_pos h1] at h;omega
   ·rw[if_neg h1] at h;have hn:Lib.indexByte t 10≠ -1:=(by simpa using h1);obtain⟨m,rfl⟩: ∃m,j=m+1:=⟨j-1,by omega⟩;obtain⟨h2,b⟩:=Lg t k (pos+1) m (by omega);refine⟨by simp;omega,?_⟩;rw[eF,if_neg hc,b,show pos+1+m+1=pos+(m+1)+1 by omega];rfl
theorem oA.last {s:ByteArray}{xs:List (Nat×Nat)}{k:Nat} (h:oA s xs k k) (hk:k<=s.size) (hi:Lib.indexByte (s.data.toList.drop k) 10<0):xs++ [(k,s.size)]=tC s:=by
 have b:=h.1;rw[Lf _ _ _ hi,bB,show k+(s.data.toList.length-k)=s.size by have:s.data.toList.length=s.size:=rfl;omega] at b;exact b
theorem oA.line {s:ByteArray}{xs:List (Nat×Nat)}{k j:Nat} (h:oA s xs k k) (hi:Lib.indexByte (s.data.toList.drop k) 10=(j:Int)):k+j+1<=s.size/\oA s (xs++ [(k,k+j+1)]) (k+j+1) (k+j+1):=by
 obtain⟨c,d⟩:=Lg _ k k j hi;have hl:s.data.toList.length=s.size:=rfl;rw[bB] at c;have b:=h.1;rw[d,jH] at b;refine⟨by omega,?_,aE _⟩;rw[<-b,mV];rfl
theorem Xu (s:ByteArray) (k:Nat) (w:World):
  Calls Tryz.prog 32 #[.string (s.extract k s.size), .int .u8 10] w λe w'=>e= .returned (.int .i64 (Lib.indexByte (s.data.toList.drop k) 10))/\w=w':=by
 have h:=Tryz.strings_IndexByte (s.extract k s.size) 10 w;rw[show (s.extract k s.size).data.toList=s.data.toList.drop k from Lib.extract_to_end s k] at h;exact h.mono λ_ _ ⟨a,b⟩=>⟨a,b.symm⟩
theorem Xv (s:ByteArray) (w:World) (hs:s.size<=4294967000):
  Calls Tryz.prog 17 #[.string s] w λe w'=> ∃v,e= .returned v/\mJ w.heap.size w' v (tC s)/\Below w.heap.size w w':=by
 obtain⟨i0,o,u,x,p⟩:=info_parts Tryz.infoSpan;go_enter Tryz.func17,Tryz.ntmps17;go_wp2_with fail;go_loopw [3,4] (λv f wr=> ∃(k:Nat) (xs:List (Nat×Nat)),k<=s.size/\xs.length<=s.size/\f= .int .i64 k/\Hid (mJ w.heap.size wr v xs)/\Hid (Below w.heap.size w wr)/\Hid (oA s xs k k)) (λ_ f _=>s.size-(RowKit.intOf f).toNat)
 case atStart=>exact⟨0,[],by omega,by simp,rfl,World.ownsRow_nil _ _ _ _,aB _ _,oA.zero s⟩
 case round=>
  obtain⟨k,xs,D,hxs,rfl,l,n,A⟩:=hrel;have g:=n.out.size;have d:=Xu s k;by_cases hneg:Lib.indexByte (s.data.toList.drop k) 10<0
  ·have h:=hid (A.out.last D hneg);generalize Lib.indexByte (s.data.toList.drop k) 10=I at *;have m:=hid d;clear d;go_wp2_with (first | (go_at_call 32;refine(m.out _).mono ?_;rintro e w' ⟨rfl,rfl⟩) | (at_builtin;go_must (refine vJ rfl _ _ 54 rfl w.heap.size 59 i0 _ 2 16 Tryz.underlying54 o u x p rfl (by decide) wr u3 xs.length (nZ xs) rfl l.out #[.int .i64 k, .int .i64 s.size] rfl rfl (by simp[Value.oneCell']) (by omega) (by decide) g ?_);intro v1 w1 c t b i r));go_ret;exact⟨v1,rfl,by rw[<-h.out];exact mJ.snoc c,n.out.trans b⟩
  ·obtain⟨j,y⟩:=Int.eq_ofNat_of_zero_le (Int.not_lt.1 hneg);obtain⟨hkj,q⟩:=A.out.line y;have h:=hid q;clear q;rw[y] at d;have m:=hid d;clear d y hneg;go_wp2_with (first | (go_at_call 32;refine(m.out _).mono ?_;rintro e w' ⟨rfl,rfl⟩) | (at_builtin;go_must (refine vJ rfl _ _ 54 rfl w.heap.size 59 i0 _ 2 16 Tryz.underlying54 o u x p rfl (by decide) wr u3 xs.length (nZ xs) rfl l.out #[.int .i64 k, .int .i64 ((k:Int)+j+1)] rfl rfl (by simp[Value.oneCell']) (by omega) (by decide) g ?_);intro v1 w1 c t b i r));have C:xs.length+1<=s.size:=by have:=h.out.len;simpa using this
   go_roundw
   case rel=>exact⟨k+j+1,xs++ [(k,k+j+1)],by omega,by simpa using C,by go_num,mJ.snoc c,n.out.trans b,h.out⟩
   case measure=>simp[RowKit.intOf];omega
end
section
open Go.Lib
def lN:List (Nat×Nat)->List (Nat×Nat)
 | []=> []
 | [x]=> [x]
 | x::y::r=>(x.1,x.2-1)::lN (y::r)
theorem yZ: ∀l,(lN l).length=l.length
 | []=>rfl
 | [_]=>rfl
 | x::y::r=>by rw[lN,aV,yZ (y::r)];rfl
structure aG where
 kind:Nat
 ind:Int
 fr:Nat
 til:Nat
 kf:Int
 kt:Int
 rf:Int
 rt:Int
 kids:List Nat
structure YS where
 lines:List aP
 nodes:List aG
 total:Nat
def kJ (x:aP):Bool:=decide (3<=x.kind)&&decide (x.kind<=5)
inductive NX where
 | ok (k:Nat) (lines:List aP)
 | bad (a:Int) (er:Int)
def oB (s:aA):List (Nat×Nat)->Nat->List aP->NX
 | [],k,lines=> .ok k lines
 | x::r,k,lines=>match lines[k]? with
  | some l=>if kJ l then .ok k lines else oB s r (k+1) lines
  | none=>if(fD s x.1 x.2).2.2≠0 then .bad (fD s x.1 x.2).2.1 (fD s x.1 x.2).2.2 else
   if kJ (fD s x.1 x.2).1 then .ok k (lines++ [(fD s x.1 x.2).1]) else oB s r (k+1) (lines++ [(fD s x.1 x.2).1])
def gH (s:aA) (sp:List (Nat×Nat)) (k:Nat) (lines:List aP):NX:=oB s (sp.drop k) k lines
def bV (s:aA) (x:Nat×Nat):aA:=(s.drop x.1).take (x.2-x.1)
def dG (s:aA) (a b:Int):aA:=(s.drop a.toNat).take (b.toNat-a.toNat)
def aU (ls:List aP) (k:Nat):aP:=ls[k]?.getD dA
def pO (sp:List (Nat×Nat)) (k:Nat):Nat×Nat:=sp[k]?.getD (0,0)
def zA (sp:List (Nat×Nat)) (st:YS) (k:Nat):Int:=((pO sp k).1:Int)+(aU st.lines k).ind
inductive YR where
 | ok (n:Nat) (st:YS)
 | bad (a:Int) (er:Int)
def jA (x:aG) (lv:Nat) (a:Int) (st:YS):YR:=
 if lv=0 then .bad a 5 else if 4096<=st.total then .bad a 6 else .ok st.nodes.length ⟨st.lines,st.nodes++ [x],st.total+1⟩
def iU (s:aA) (lv:Nat) (k:Nat) (kf kt:Int) (st:YS):YR:=
 match jA ⟨1,(aU st.lines k).ind,k,k+1,kf,kt,(aU st.lines k).rf,(aU st.lines k).rt,[]⟩ lv (aU st.lines k).rf st with
 | .bad a e=> .bad a e
 | .ok n s1=>
  let v:=fP (dG s (aU st.lines k).rf (aU st.lines k).rt)
  if v.2≠0 then .bad (aU st.lines k).rf v.2 else
  if lv<v.1.depth then .bad (aU st.lines k).rf 5 else
  if 4096<s1.total+v.1.size-1 then .bad (aU st.lines k).rf 6 else .ok n ⟨s1.lines,s1.nodes,s1.total+v.1.size-1⟩
def lO (s:aA) (ind:Int):List (Nat×Nat)->Nat->Nat->Nat->Nat
 | [],_,til,_=>til
 | x::r,i,til,first=>
  if bI (bV s x)=(bV s x).length then lO s ind r (i+1) til first else
  if(bI (bV s x):Int)<=ind\/bI (bV s x)<first then til else lO s ind r (i+1) (i+1) (if first=0 then bI (bV s x) else first)
def gL (s:aA) (sp:List (Nat×Nat)) (ind:Int) (k:Nat):Nat:=lO s ind (sp.drop (k+1)) (k+1) (k+1) 0
def zB (d:Nat×Nat):Bool:=(d.1==65533&&d.2==1)||!(d.1==9||(decide (32<=d.1)&&d.1 !=127))
def qP (s:aA) (e:Nat):Nat->Nat->Nat
 | 0,i=>i
 | f+1,i=>if e<=i then i else if zB (decodeL (s.drop i)) then i else qP s e f (i+(decodeL (s.drop i)).2)
def nC (s:aA) (x:Nat×Nat):Nat:=qP s x.2 (x.2-x.1) x.1
def lP (s:aA) (x:Nat×Nat):aP:=⟨6,x.1,x.2,bI (bV s x),0,0,0,0,0,0⟩
def lQ (s:aA):List (Nat×Nat)->List aP->List aP ⊕ Int
 | [],ls=> .inl ls
 | x::r,ls=>if nC s x<x.2 then .inr (nC s x:Int) else lQ s r (ls++ [lP s x])
def mK (s:aA) (sp:List (Nat×Nat)) (lv:Nat) (k:Nat) (kf kt:Int) (st:YS):YR:=
 match jA ⟨4,(aU st.lines k).ind,k,gL s sp (aU st.lines k).ind k,kf,kt,(aU st.lines k).rf,(aU st.lines k).rt,[]⟩ lv (aU st.lines k).rf st with
 | .bad a e=> .bad a e
 | .ok n s1=>match lQ s ((sp.drop (k+1)).take (gL s sp (aU st.lines k).ind k-(k+1))) s1.lines with
  | .inr a=> .bad a 2
  | .inl ls=> .ok n ⟨ls,s1.nodes,s1.total⟩
abbrev YB:=Nat->Int->Int->YS->YR
def nD (s:aA) (sp:List (Nat×Nat)) (B:YB) (lv:Nat):YB:=λk kf kt st=>
 let t:=dG s (aU st.lines k).rf (aU st.lines k).rt
 if t= [124]\/t= [124,45] then mK s sp lv k kf kt st else
 if t= [] then
  match gH s sp (k+1) st.lines with
  | .bad a e=> .bad a e
  | .ok nx ls=>if nx<sp.length/\(aU st.lines k).ind<(aU ls nx).ind then B nx kf kt ⟨ls,st.nodes,st.total⟩ else iU s lv k kf kt ⟨ls,st.nodes,st.total⟩
 else iU s lv k kf kt st
def oC (f:aG->aG):Nat->List aG->List aG
 | _,[]=> []
 | 0,x::l=>f x::l
 | n+1,x::l=>x::oC f n l
def fA (ns:List aG) (k:Nat):Nat:=match ns[k]? with
 | some x=>x.til
 | none=>0
def kK (n kid:Nat) (ns:List aG):List aG:=oC (λx=> { x with kids:=x.kids++ [kid],til:=fA ns kid }) n ns
def fQ (s:aA) (V:YB) (map:Bool) (had:List aA) (k:Nat) (st:YS):YR×List aA:=
 if map then
  let kr:=jO (dG s (aU st.lines k).kf (aU st.lines k).kt)
  if kr.2≠0 then(.bad (aU st.lines k).kf kr.2,had) else
  if kr.1∈had then(.bad (aU st.lines k).kf 7,had) else(V k (aU st.lines k).kf (aU st.lines k).kt st,kr.1::had)
 else(V k 0 0 st,had)
inductive OR where
 | ok (nx:Nat) (st:YS) (had:List aA)
 | bad (a:Int) (er:Int)
def gM (s:aA) (sp:List (Nat×Nat)) (V:YB) (map:Bool) (n:Nat) (ind:Int) (had:List aA) (k:Nat) (st:YS):OR:=
 match fQ s V map had k st with
 | (.bad a e,_)=> .bad a e
 | (.ok kid s2,had')=>
  match gH s sp (fA s2.nodes kid) s2.lines with
  | .bad a e=> .bad a e
  | .ok nx ls=>if nx<sp.length/\ind<(aU ls nx).ind then .bad (((pO sp nx).1:Int)+(aU ls nx).ind) 2 else .ok nx ⟨ls,kK n kid s2.nodes,s2.total⟩ had'
def jQ (s:aA) (sp:List (Nat×Nat)) (V:YB) (map:Bool) (n:Nat) (ind kind:Int):Nat->List aA->Nat->YS->YR
 | 0,_,_,st=> .ok n st
 | f+1,had,k,st=>
  if k<sp.length/\(aU st.lines k).ind=ind/\(aU st.lines k).kind=kind then
   match gM s sp V map n ind had k st with
   | .bad a e=> .bad a e
   | .ok nx s2 had'=>jQ s sp V map n ind kind f had' nx s2
  else .ok n st
def lR (s:aA) (sp:List (Nat×Nat)) (V:YB) (lv:Nat):YB:=λk kf kt st=>
 let x:=aU st.lines k
 if x.kind=5 then iU s lv k kf kt st else
 match jA ⟨if x.kind=4 then 3 else 2,x.ind,k,0,kf,kt,0,0,[]⟩ lv (zA sp st k) st with
 | .bad a e=> .bad a e
 | .ok n s1=>jQ s sp V (decide (x.kind=4)) n x.ind x.kind (sp.length-k) [] k s1
def oD (s:aA) (sp:List (Nat×Nat)):Nat->YB
 | 0=>lR s sp (λ_ _ _ _=> .bad 0 0) 0
 | lv+1=>lR s sp (nD s sp (oD s sp lv) lv) (lv+1)
structure cF where
 lines:List aP
 nodes:List aG
def kL (s:aA) (sp:List (Nat×Nat)):cF×Int×Int:=
 match gH s sp 0 [] with
 | .bad a e=>(⟨[],[]⟩,a,e)
 | .ok k ls=>
  if ¬k<sp.length then(⟨ls,[⟨1,0,0,0,0,0,(s.length:Int),(s.length:Int),[]⟩]⟩,(s.length:Int),0) else
  match oD s sp 32 k 0 0 ⟨ls,[],0⟩ with
  | .bad a e=>(⟨[],[]⟩,a,e)
  | .ok _ st=>
   match gH s sp (fA st.nodes 0) st.lines with
   | .bad a e=>(⟨[],[]⟩,a,e)
   | .ok k2 ls2=>if k2<sp.length then(⟨[],[]⟩,((pO sp k2).1:Int)+(aU ls2 k2).ind,2) else(⟨ls2,st.nodes⟩,(s.length:Int),0)
def dX (s:aA):List (Nat×Nat):=lN (eF s 0 0)
def gI (s:aA):cF×Int×Int:=if 65536<s.length then(⟨[],[]⟩,0,3) else kL s (dX s)
end
section
open Go.RowKit
open Go.Lib hiding intOf
theorem tD {α:Type} (f:α->List Value) (m:Nat) (hf: ∀x,(f x).length=m): ∀(z:List α) (j:Nat) (y:α),z[j]?=some y-> ∀i,i<m->(z.flatMap f)[j*m+i]?=(f y)[i]?
 | [],j,y,h,i,hi=>by simp at h
 | x::z,0,y,h,i,hi=>by
  obtain rfl:x=y:=by simpa using h
  rw[List.flatMap_cons,Nat.zero_mul,Nat.zero_add,kP (by rw[hf];exact hi)]
 | x::z,j+1,y,h,i,hi=>by
  rw[cH] at h;have:=tD f m hf z j y h i hi;rw[List.flatMap_cons,mC (by rw[hf,Nat.succ_mul];omega),<-this];congr 1;rw[hf,Nat.succ_mul];omega
theorem zC {α:Type} (f:α->List Value) (m:Nat) (hf: ∀x,(f x).length=m): ∀(z:List α) (j:Nat) (y y':α),z[j]?=some y-> ∀i u,i<m->(f y).set i u=f y'->(z.flatMap f).set (j*m+i) u=(z.set j y').flatMap f
 | [],j,y,y',h,i,u,hi,hu=>by simp at h
 | x::z,0,y,y',h,i,u,hi,hu=>by
  obtain rfl:x=y:=by simpa using h
  rw[List.flatMap_cons,Nat.zero_mul,Nat.zero_add,List.set_append_left _ _ (by rw[hf];exact hi),hu];rfl
 | x::z,j+1,y,y',h,i,u,hi,hu=>by
  rw[cH] at h;have:=zC f m hf z j y y' h i u hi hu;rw[List.flatMap_cons,List.set_append_right _ _ (by rw[hf,Nat.succ_mul];omega),dO,List.flatMap_cons,<-this];congr 2;rw[hf,Nat.succ_mul];omega
def tE (r:aP):List Value:= [.int .i64 r.kind, .int .i64 r.sf, .int .i64 r.st, .int .i64 r.ind, .int .i64 r.kf, .int .i64 r.kt, .int .i64 r.rf, .int .i64 r.rt, .int .i64 r.nf, .int .i64 r.nt]
def jB (l:List aP):List Value:=l.flatMap tE
abbrev YN:=aG×Value
def jC (y:YN):List Value:= [.int .i64 (y.1.kind:Int), .int .i64 y.1.ind, .int .i64 (y.1.fr:Int), .int .i64 (y.1.til:Int), .int .i64 y.1.kf, .int .i64 y.1.kt, .int .i64 y.1.rf, .int .i64 y.1.rt,y.2]
def iM (z:List YN):List Value:=z.flatMap jC
theorem Lh (r:aP):(tE r).length=10:=rfl
theorem zD (y:YN):(jC y).length=9:=rfl
def tF (z:List YN):Prop:= ∀(i j:Nat) (yi yj:YN),i≠j->z[i]?=some yi->z[j]?=some yj->yi.2.ownBlock=none\/yi.2.ownBlock≠yj.2.ownBlock
theorem tF.push {z:List YN}{y:YN} (h:tF z) (hy:y.2.ownBlock=none):tF (z++ [y]):=by
 have key: ∀(j:Nat) (yj:YN),(z++ [y])[j]?=some yj->z[j]?=some yj\/(j=z.length/\yj=y):=by
  intro j yj b;by_cases h2:j<z.length
  ·rw[kP h2] at b;exact .inl b
  ·have e:=(aR.1 b).1;rw[aW,dU] at e;rw[mC (by omega),show j-z.length=0 by omega] at b;simp only[dV,cN] at b;exact .inr ⟨by omega,b.symm⟩
 intro i j yi yj d c b;rcases key i yi c with c | ⟨c,rfl⟩
 ·rcases key j yj b with b | ⟨b,rfl⟩
  ·exact h i j yi yj d c b
  ·by_cases hn:yi.2.ownBlock=none
   ·exact .inl hn
   ·exact .inr (by rw[hy];exact hn)
 ·exact .inl hy
theorem tF.set {z:List YN}{n:Nat}{y y':YN} (h:tF z) (hn:z[n]?=some y) (hb:y'.2.ownBlock=y.2.ownBlock\/ ∀(j:Nat) (yj:YN),z[j]?=some yj->yj.2.ownBlock≠y'.2.ownBlock):tF (z.set n y'):=by
 intro i j yi yj b d c;rw[List.getElem?_set] at d c;by_cases h1:n=i
 ·subst h1;rw[if_pos rfl,if_pos (aR.1 hn).1] at d;obtain rfl:=bD d;rw[if_neg b] at c;rcases hb with hb | hb
  ·rw[hb];exact h n j y yj b hn c
  ·exact .inr (Ne.symm (hb j yj c))
 ·rw[if_neg h1] at d;by_cases h2:n=j
  ·subst h2;rw[if_pos rfl,if_pos (aR.1 hn).1] at c;obtain rfl:=bD c;rcases hb with hb | hb
   ·rw[hb];exact h i n yi y b d hn
   ·exact .inr (hb i yi d)
  ·rw[if_neg h2] at c;exact h i j yi yj b d c
structure eP (B:Nat) (z:List YN) (nv:Value) (w:World):Prop where
 row:w.ownsRow B 62 9 nv z.length (iM z)
 kids: ∀y∈z,w.ownsRow B 3 1 y.2 y.1.kids.length (eI y.1.kids)
 ak:tF z
theorem eP.nil (B:Nat) (w:World):eP B [] (.slice none 0 0) w:=
 ⟨⟨rfl, .inl ⟨rfl,rfl⟩⟩,λy b=>(by cases b),λi j yi yj _ h=>(by simp at h)⟩
section
variable {B:Nat}{z:List YN}{nv:Value}{w w' w1:World}
theorem eP.keep (h:eP B z nv w) (hb:Below w.heap.size w w'):eP B z nv w':=
 ⟨jZ h.row hb,λy b=>jZ (h.kids y b) hb,h.ak⟩
theorem eP.other (h:eP B z nv w) {X:Nat}{cs:Array Value}{t:TypeId}{fz:Nat×Nat} (hX:w.heap[X]?=some (.cells cs t fz)) (h1:62≠t) (h2:3≠t) (hg:w.grownBy w' (some X)):eP B z nv w':=
 ⟨h.row.kept hg (dK h.row hX h1),λy b=>(h.kids y b).kept hg (dK (h.kids y b) hX h2),h.ak⟩
theorem eP.grow (h:eP B z nv w) {B2 s n:Nat}{e:TypeId}{v:Value}{xs:List Value} (hr:w.ownsRow B2 e s v n xs) (h1:62≠e) (h2:3≠e) (hg:w.grownBy w' v.ownBlock):eP B z nv w':=
 ⟨h.row.kept hg (iJ h.row hr h1),λy b=>(h.kids y b).kept hg (iJ (h.kids y b) hr h2),h.ak⟩
theorem eP.push (h:eP B z nv w) {nv':Value}{x:aG} (hk:x.kids= []) (hr:w'.ownsRow B 62 9 nv' (z.length+1) (iM z++jC (x, .slice none 0 0))) (hg:w.grownBy w' nv.ownBlock):
  eP B (z++ [(x, .slice none 0 0)]) nv' w':=by
 refine⟨?_,λy b=>?_,h.ak.push rfl⟩
 ·have e:iM (z++ [(x, .slice none 0 0)])=iM z++jC (x, .slice none 0 0):=by unfold iM;simp
  rw[e,aW];exact hr
 ·rcases nN.1 b with b | b
  ·exact(h.kids y b).kept hg (iJ (h.kids y b) h.row (by decide))
  ·rw[iQ.1 b];simp only[];rw[hk];exact⟨rfl, .inl ⟨rfl,rfl⟩⟩
theorem eP.form (h:eP B z nv w) (hz:z≠ []): ∃g cap cur,nv= .slice (some ⟨g,0,none⟩) z.length cap/\z.length<=cap/\B<=g/\w.heap[g]?=some (.cells cur 62 (0,0)):=by
 rcases h.row.2 with⟨_,b⟩ | ⟨g,cap,cur,b,e,d,c,_⟩
 ·exact absurd (List.length_eq_zero_iff.1 b) hz
 ·exact⟨g,cap,cur,b,c,e,d⟩
theorem eP.at_ {g cap:Nat} (h:eP B z (.slice (some ⟨g,0,none⟩) z.length cap) w) {n:Nat}{y:YN} (hy:z[n]?=some y) (i:Nat) (hi:i<9) {u:Value} (hu:(jC y)[i]?=some u):
  w.cell? ⟨g,n*9+i,none⟩=some u/\w.frozen? ⟨g,n*9+i,none⟩=false:=by
 have hn:=(aR.1 hy).1;refine⟨?_,World.ownsRow.frozenAt h.row _⟩;rw[World.ownsRow.cellAt h.row _ (by omega),iM,tD _ 9 zD z n y hy i hi,hu]
theorem eP.field {g cap:Nat} (h:eP B z (.slice (some ⟨g,0,none⟩) z.length cap) w) {n:Nat}{y y':YN} (hy:z[n]?=some y) (i:Nat) (hi:i<9) (u:Value) (hu:(jC y).set i u=jC y') (hk:y'.1.kids=y.1.kids) (h1:y'.2=y.2):
  eP B (z.set n y') (.slice (some ⟨g,0,none⟩) (z.set n y').length cap) (w.setCell ⟨g,n*9+i,none⟩ u):=by
 obtain⟨k,l⟩:=World.ownsRow.stored h.row (n*9+i) u;obtain⟨g',cap',cur,e,_,_,b⟩:=h.form (λe=>by rw[e] at hy;simp at hy);have f:g=g':=by injection e with e;injection e with e;injection e
 subst f;rw[iM,zC _ 9 zD z n y y' hy i u hi hu] at k;have d: ∀x∈z.set n y',x=y'\/x∈z:=λx c=>(List.mem_or_eq_of_mem_set c).symm;refine⟨by rw[List.length_set];exact k,λx c=>?_,?_⟩
 ·rcases d x c with rfl | c
  ·rw[hk,h1];have j:=h.kids y (aX hy);exact j.kept l (dK j b (by decide))
  ·exact(h.kids x c).kept l (dK (h.kids x c) b (by decide))
 ·exact h.ak.set hy (.inl (by rw[h1]))
theorem eP.kid {g cap:Nat} (h:eP B z (.slice (some ⟨g,0,none⟩) z.length cap) w) {n k:Nat}{y:YN} (hy:z[n]?=some y) {kv:Value}{H:Nat} (hH:w.heap.size<=H)
  (hr:w1.ownsRow B 3 1 kv (y.1.kids.length+1) (eI y.1.kids++ [.int .i64 (k:Int)])) (hg:w.grownBy w1 y.2.ownBlock) (hat:kv.ownBlock=y.2.ownBlock\/kv.ownBlock=some H):
  eP B (z.set n ({ y.1 with kids:=y.1.kids++ [k] },kv)) (.slice (some ⟨g,0,none⟩) (z.set n ({ y.1 with kids:=y.1.kids++ [k] },kv)).length cap) (w1.setCell ⟨g,n*9+8,none⟩ kv):=by
 have o:=h.kids y (aX hy);have f:=h.row.kept hg (iJ h.row o (by decide));obtain⟨m,l⟩:=World.ownsRow.stored f (n*9+8) kv;obtain⟨g',cap',cur,e,_,_,b⟩:=h.form (λe=>by rw[e] at hy;simp at hy);have p:g=g':=by injection e with e;injection e with e;injection e
 subst p;have d:w1.heap[g]?=some (.cells cur 62 (0,0)):=by
  rw[hg.block g (aF b) (λe=>by
   rcases dK o b (by decide) with i | i
   ·rw[i] at e;cases e
   ·exact i e.symm)]
  exact b
 rw[iM,zC _ 9 zD z n y ({ y.1 with kids:=y.1.kids++ [k] },kv) hy 8 kv (by omega) rfl] at m;refine⟨by rw[List.length_set];exact m,λx r=>?_,?_⟩
 ·obtain⟨j,c⟩:=List.getElem?_of_mem r;rw[List.getElem?_set] at c;by_cases hnj:n=j
  ·subst hnj;rw[if_pos rfl,if_pos (aR.1 hy).1] at c;obtain rfl:=bD c;have e:eI (y.1.kids++ [k])=eI y.1.kids++ [.int .i64 (k:Int)]:=by unfold eI;simp
   simp only[e,aW,dU];exact hr.kept l (dK hr d (by decide))
  ·rw[if_neg hnj] at c;have q:=h.kids x (aX c);have i:=q.kept hg (h.ak j n x y (Ne.symm hnj) c hy);exact i.kept l (dK i d (by decide))
 ·refine h.ak.set hy ?_;rcases hat with hat | hat
  ·exact .inl hat
  ·refine .inr (λj yj c e=>?_);have q:=h.kids yj (aX c);simp only[] at e;rw[hat] at e;have:=(World.ownsRow.lt q H e).2;omega
end
abbrev aL:=Nat->Option Obj
def aL.put (Pr:aL) (X:Nat) (o:Obj):aL:=λk=>if k=X then some o else Pr k
theorem aL.put_eq (Pr:aL) (X:Nat) (o:Obj):Pr.put X o X=some o:=if_pos rfl
theorem aL.put_ne (Pr:aL) {X k:Nat} (o:Obj) (h:k≠X):Pr.put X o k=Pr k:=if_neg h
structure YK (T:TypeId) (Pr:aL) (w0:World) (P:Nat) (txt:aA) (sp:List (Nat×Nat)) (lines:List aP) (z:List YN) (tot:Nat) (a er:Int) (sv lv nv:Value) (w:World):Prop where
 box:w.heap[P]?=some (.cells #[.string (bs txt),sv,lv,nv, .int .i64 (tot:Int), .int .i64 a, .int .i64 er] T (0,0))
 spr:w.ownsRow w0.heap.size 59 2 sv sp.length (nZ sp)
 lnr:w.ownsRow w0.heap.size 121 10 lv lines.length (jB lines)
 nod:eP w0.heap.size z nv w
 hB:w0.heap.size<=P
 ty:T≠59/\T≠121/\T≠62/\T≠3
 bel:Below w0.heap.size w0 w
 fr: ∀k o,Pr k=some o->w.heap[k]?=some o/\k≠P/\lv.ownBlock≠some k/\nv.ownBlock≠some k/\ ∀y∈z,y.2.ownBlock≠some k
section
variable {T:TypeId}{Pr:aL}{w0 w w' w1:World}{P:Nat}{txt:aA}{sp:List (Nat×Nat)}{lines:List aP}{z:List YN}{tot:Nat}{a er:Int}{sv lv nv:Value}
theorem YK.keep (h:YK T Pr w0 P txt sp lines z tot a er sv lv nv w) (hb:Below w.heap.size w w'):YK T Pr w0 P txt sp lines z tot a er sv lv nv w':=
 ⟨(hb.block P (aF h.box)).trans h.box,jZ h.spr hb,jZ h.lnr hb,h.nod.keep hb,h.hB,h.ty,h.bel.trans (hb.mono h.bel.size),λk o c=>by obtain⟨b,d⟩:=h.fr k o c;exact⟨(hb.block k (aF b)).trans b,d⟩⟩
theorem YK.lt (h:YK T Pr w0 P txt sp lines z tot a er sv lv nv w):P<w.heap.size:=aF h.box
theorem YK.cells (h:YK T Pr w0 P txt sp lines z tot a er sv lv nv w):(w.cell? ⟨P,0,none⟩=some (.string (bs txt))/\w.cell? ⟨P,1,none⟩=some sv/\w.cell? ⟨P,2,none⟩=some lv/\w.cell? ⟨P,3,none⟩=some nv/\w.cell? ⟨P,4,none⟩=some (.int .i64 (tot:Int))/\w.cell? ⟨P,5,none⟩=some (.int .i64 a)/\w.cell? ⟨P,6,none⟩=some (.int .i64 er))/\
  w.frozen? ⟨P,2,none⟩=false/\w.frozen? ⟨P,3,none⟩=false/\w.frozen? ⟨P,4,none⟩=false/\w.frozen? ⟨P,5,none⟩=false/\w.frozen? ⟨P,6,none⟩=false:=by
 have b:=h.box;refine⟨⟨?_,?_,?_,?_,?_,?_,?_⟩,?_,?_,?_,?_,?_⟩<;>simp[World.cell?,World.frozen?,b]
theorem YK.put (h:YK T Pr w0 P txt sp lines z tot a er sv lv nv w) (hb:Below w.heap.size w w') {X:Nat}{o:Obj} (hX:w.heap.size<=X) (ho:w'.heap[X]?=some o):YK T (Pr.put X o) w0 P txt sp lines z tot a er sv lv nv w':=by
 have b:=h.keep hb;refine⟨b.box,b.spr,b.lnr,b.nod,b.hB,b.ty,b.bel,λk o' c=>?_⟩;by_cases hkX:k=X
 ·subst hkX;rw[aL.put_eq] at c;obtain rfl:=bD c;have hP:=aF h.box;refine⟨ho,by omega,λe=>?_,λe=>?_,λy d e=>?_⟩
  ·have:=(World.ownsRow.lt h.lnr k e).2;omega
  ·have:=(World.ownsRow.lt h.nod.row k e).2;omega
  ·have:=(World.ownsRow.lt (h.nod.kids y d) k e).2;omega
 ·rw[aL.put_ne _ _ hkX] at c;exact b.fr k o' c
theorem YK.frLt (h:YK T Pr w0 P txt sp lines z tot a er sv lv nv w) {k:Nat}{o:Obj} (hk:Pr k=some o):k<w.heap.size:=aF (h.fr k o hk).1
theorem YK.less {Pr':aL} (h:YK T Pr w0 P txt sp lines z tot a er sv lv nv w) (hp: ∀k o,Pr' k=some o->Pr k=some o):YK T Pr' w0 P txt sp lines z tot a er sv lv nv w:=
 ⟨h.box,h.spr,h.lnr,h.nod,h.hB,h.ty,h.bel,λk o b=>h.fr k o (hp k o b)⟩
theorem aL.put_less {N X:Nat}{o:Obj} (hp: ∀k o',Pr k=some o'->k<N) (hX:N<=X): ∀k o',Pr k=some o'->Pr.put X o k=some o':=λk o' b=>by
 have:=hp k o' b;rw[aL.put_ne _ _ (by omega)];exact b
theorem YK.boxed (h:YK T Pr w0 P txt sp lines z tot a er sv lv nv w) (i:Nat) (u:Value) {tot':Nat}{a' er':Int} (hu:([.string (bs txt),sv,lv,nv, .int .i64 (tot:Int), .int .i64 a, .int .i64 er]:List Value).set i u= [.string (bs txt),sv,lv,nv, .int .i64 (tot':Int), .int .i64 a', .int .i64 er']):
  YK T Pr w0 P txt sp lines z tot' a' er' sv lv nv (w.setCell ⟨P,i,none⟩ u):=by
 have c:=h.box;have f:=gT w P i u;have b: ∀ {e:TypeId}{s n:Nat}{v:Value}{xs:List Value},w.ownsRow w0.heap.size e s v n xs->e≠T->(w.setCell ⟨P,i,none⟩ u).ownsRow w0.heap.size e s v n xs:=λd j=>d.kept f (dK d c j);obtain⟨t1,t2,t3,t4⟩:=h.ty;refine⟨?_,b h.spr (Ne.symm t1),b h.lnr (Ne.symm t2),h.nod.other c (Ne.symm t3) (Ne.symm t4) f,h.hB,h.ty,h.bel.setCell (p:=⟨P,i,none⟩) h.hB u,λk o g=>?_⟩
 ·simp[World.setCell,Array.getElem?_modify,c,hu]
 ·obtain⟨f1,f2,f3⟩:=h.fr k o g;exact⟨by rw[cP w ⟨P,i,none⟩ u k f2];exact f1,f2,f3⟩
theorem YK.fail (h:YK T Pr w0 P txt sp lines z tot a er sv lv nv w) (a2 e2:Int):YK T Pr w0 P txt sp lines z tot a2 e2 sv lv nv ((w.setCell ⟨P,5,none⟩ (.int .i64 a2)).setCell ⟨P,6,none⟩ (.int .i64 e2)):=
 (h.boxed 5 (.int .i64 a2) (tot':=tot) (a':=a2) (er':=er) rfl).boxed 6 (.int .i64 e2) rfl
theorem YK.count (h:YK T Pr w0 P txt sp lines z tot a er sv lv nv w) (t2:Nat):YK T Pr w0 P txt sp lines z t2 a er sv lv nv (w.setCell ⟨P,4,none⟩ (.int .i64 (t2:Int))):=
 h.boxed 4 (.int .i64 (t2:Int)) rfl
theorem YK.box_grown (h:YK T Pr w0 P txt sp lines z tot a er sv lv nv w) {B2 s n:Nat}{e:TypeId}{v:Value}{xs:List Value} (hr:w.ownsRow B2 e s v n xs) (he:e≠T) (hg:w.grownBy w1 v.ownBlock):w1.heap[P]?=some (.cells #[.string (bs txt),sv,lv,nv, .int .i64 (tot:Int), .int .i64 a, .int .i64 er] T (0,0)):=by
 rw[hg.block P h.lt (λe2=>by
  rcases dK hr h.box he with b | b
  ·rw[b] at e2;cases e2
  ·exact b e2.symm)]
 exact h.box
theorem Dc {v v':Value}{H N k:Nat} (hat:v'.ownBlock=v.ownBlock\/v'.ownBlock=some H) (hH:N<=H) (hk:k<N) (hv:v.ownBlock≠some k):v'.ownBlock≠some k:=by
 rcases hat with e | e
 ·rw[e];exact hv
 ·rw[e];intro e2;have:=bD e2;omega
theorem qQ {k:Nat}{o:Obj}{r:Option Nat} (hg:w.grownBy w1 r) (hk:w.heap[k]?=some o) (hr:r≠some k):w1.heap[k]?=some o:=by
 rw[hg.block k (aF hk) (λe=>hr e.symm)];exact hk
theorem YK.line (h:YK T Pr w0 P txt sp lines z tot a er sv lv nv w) {lv':Value}{r:aP}{H:Nat} (hH:w.heap.size<=H) (hr:w1.ownsRow w0.heap.size 121 10 lv' (lines.length+1) (jB lines++tE r)) (hg:w.grownBy w1 lv.ownBlock) (hat:lv'.ownBlock=lv.ownBlock\/lv'.ownBlock=some H):
  YK T Pr w0 P txt sp (lines++ [r]) z tot a er sv lv' nv (w1.setCell ⟨P,2,none⟩ lv'):=by
 obtain⟨t1,t2,t3,t4⟩:=h.ty;have c:=h.box_grown h.lnr (Ne.symm t2) hg;have b:=gT w1 P 2 lv';have e:jB (lines++ [r])=jB lines++tE r:=by unfold jB;simp
 have f:=h.nod.grow h.lnr (by decide) (by decide) hg;refine⟨?_,?_,?_,f.other c (Ne.symm t3) (Ne.symm t4) b,h.hB,h.ty,?_,λk o d=>?_⟩
 ·simp[World.setCell,Array.getElem?_modify,c]
 ·have g:=h.spr.kept hg (iJ h.spr h.lnr (by decide));exact g.kept b (dK g c (Ne.symm t1))
 ·rw[e,aW];exact hr.kept b (dK hr c (Ne.symm t2))
 ·exact(h.bel.grown hg h.bel.size (λk d=>(World.ownsRow.lt h.lnr k d).1)).setCell (p:=⟨P,2,none⟩) h.hB lv'
 ·obtain⟨f1,f2,f3,f4,f5⟩:=h.fr k o d;refine⟨?_,f2,Dc hat hH (aF f1) f3,f4,f5⟩;rw[cP w1 ⟨P,2,none⟩ lv' k f2];exact qQ hg f1 f3
theorem YK.node (h:YK T Pr w0 P txt sp lines z tot a er sv lv nv w) {nv':Value}{x:aG} (hx:x.kids= []) {H:Nat} (hH:w.heap.size<=H) (hr:w1.ownsRow w0.heap.size 62 9 nv' (z.length+1) (iM z++jC (x, .slice none 0 0))) (hg:w.grownBy w1 nv.ownBlock) (hat:nv'.ownBlock=nv.ownBlock\/nv'.ownBlock=some H):
  YK T Pr w0 P txt sp lines (z++ [(x, .slice none 0 0)]) tot a er sv lv nv' (w1.setCell ⟨P,3,none⟩ nv'):=by
 obtain⟨t1,t2,t3,t4⟩:=h.ty;have f:=h.box_grown h.nod.row (Ne.symm t3) hg;have b:=gT w1 P 3 nv';have i:=h.nod.push hx hr hg;refine⟨?_,?_,?_,i.other f (Ne.symm t3) (Ne.symm t4) b,h.hB,h.ty,?_,λk o g=>?_⟩
 ·simp[World.setCell,Array.getElem?_modify,f]
 ·have d:=h.spr.kept hg (iJ h.spr h.nod.row (by decide));exact d.kept b (dK d f (Ne.symm t1))
 ·have d:=h.lnr.kept hg (iJ h.lnr h.nod.row (by decide));exact d.kept b (dK d f (Ne.symm t2))
 ·exact(h.bel.grown hg h.bel.size (λk g=>(World.ownsRow.lt h.nod.row k g).1)).setCell (p:=⟨P,3,none⟩) h.hB nv'
 ·obtain⟨f1,f2,f3,f4,f5⟩:=h.fr k o g;refine⟨?_,f2,f3,Dc hat hH (aF f1) f4,λy c=>?_⟩
  ·rw[cP w1 ⟨P,3,none⟩ nv' k f2];exact qQ hg f1 f4
  ·rcases nN.1 c with c | c
   ·exact f5 y c
   ·rw[iQ.1 c];exact λe=>by cases e
theorem YK.kid {g cap:Nat} (h:YK T Pr w0 P txt sp lines z tot a er sv lv (.slice (some ⟨g,0,none⟩) z.length cap) w) {n k:Nat}{y:YN} (hy:z[n]?=some y) {kv:Value}{H:Nat} (hH:w.heap.size<=H)
  (hr:w1.ownsRow w0.heap.size 3 1 kv (y.1.kids.length+1) (eI y.1.kids++ [.int .i64 (k:Int)])) (hg:w.grownBy w1 y.2.ownBlock) (hat:kv.ownBlock=y.2.ownBlock\/kv.ownBlock=some H):
  YK T Pr w0 P txt sp lines (z.set n ({ y.1 with kids:=y.1.kids++ [k] },kv)) tot a er sv lv (.slice (some ⟨g,0,none⟩) (z.set n ({ y.1 with kids:=y.1.kids++ [k] },kv)).length cap) (w1.setCell ⟨g,n*9+8,none⟩ kv):=by
 obtain⟨t1,t2,t3,t4⟩:=h.ty;have d:=h.nod.kids y (aX hy);have s:=h.box_grown d (Ne.symm t4) hg;obtain⟨g',cap',cur,e,_,l,c⟩:=h.nod.form (λe=>by rw[e] at hy;simp at hy);have j:g=g':=by injection e with e;injection e with e;injection e
 subst j;have b:w1.heap[g]?=some (.cells cur 62 (0,0)):=qQ hg c (λe=>by
  rcases dK d c (by decide) with f | f
  ·rw[f] at e;cases e
  ·exact f e)
 have i:=gT w1 g (n*9+8) kv;have r:P≠g:=λe=>by
  subst e;rw[s] at b;injection b with b;injection b with _ b;exact t3 b
 refine⟨?_,?_,?_,h.nod.kid hy hH hr hg hat,h.hB,h.ty,?_,λk o q=>?_⟩
 ·rw[cP w1 ⟨g,n*9+8,none⟩ kv P r,List.length_set];exact s
 ·have f:=h.spr.kept hg (iJ h.spr d (by decide));exact f.kept i (dK f b (by decide))
 ·have f:=h.lnr.kept hg (iJ h.lnr d (by decide));exact f.kept i (dK f b (by decide))
 ·exact(h.bel.grown hg h.bel.size (λk q=>(World.ownsRow.lt d k q).1)).setCell (p:=⟨g,n*9+8,none⟩) l kv
 ·obtain⟨f1,f2,f3,f4,f5⟩:=h.fr k o q;have fy:=f5 y (aX hy);refine⟨?_,f2,f3,f4,λx m=>?_⟩
  ·rw[cP w1 ⟨g,n*9+8,none⟩ kv k (λe=>f4 (by rw[e];rfl))];exact qQ hg f1 fy
  ·rcases List.mem_or_eq_of_mem_set m with m | rfl
   ·exact f5 x m
   ·exact Dc hat hH (aF f1) fy
theorem YK.til {g cap:Nat} (h:YK T Pr w0 P txt sp lines z tot a er sv lv (.slice (some ⟨g,0,none⟩) z.length cap) w) {n:Nat}{y:YN} (hy:z[n]?=some y) (e:Nat):
  YK T Pr w0 P txt sp lines (z.set n ({ y.1 with til:=e },y.2)) tot a er sv lv (.slice (some ⟨g,0,none⟩) (z.set n ({ y.1 with til:=e },y.2)).length cap) (w.setCell ⟨g,n*9+3,none⟩ (.int .i64 (e:Int))):=by
 obtain⟨t1,t2,t3,t4⟩:=h.ty;obtain⟨g',cap',cur,e',_,f,b⟩:=h.nod.form (λe=>by rw[e] at hy;simp at hy);have d:g=g':=by injection e' with e;injection e with e;injection e
 subst d;have c:=gT w g (n*9+3) (.int .i64 (e:Int));have j:P≠g:=λe=>by
  have m:=h.box;subst e;rw[m] at b;injection b with b;injection b with _ b;exact t3 b
 refine⟨?_,h.spr.kept c (dK h.spr b (by decide)),h.lnr.kept c (dK h.lnr b (by decide)),h.nod.field hy 3 (by omega) _ rfl rfl rfl,h.hB,h.ty,h.bel.setCell (p:=⟨g,n*9+3,none⟩) f _,λk o l=>?_⟩
 ·rw[cP w ⟨g,n*9+3,none⟩ _ P j,List.length_set];exact h.box
 ·obtain⟨f1,f2,f3,f4,f5⟩:=h.fr k o l;refine⟨?_,f2,f3,f4,λx i=>?_⟩
  ·rw[cP w ⟨g,n*9+3,none⟩ _ k (λe=>f4 (by rw[e];rfl))];exact f1
  ·rcases List.mem_or_eq_of_mem_set i with i | rfl
   ·exact f5 x i
   ·exact f5 y (aX hy)
theorem YK.lineAt (h:YK T Pr w0 P txt sp lines z tot a er sv lv nv w) {k:Nat}{r:aP} (hr:lines[k]?=some r): ∃g cap,lv= .slice (some ⟨g,0,none⟩) lines.length cap/\lines.length<=cap/\ ∀i u,i<10->(tE r)[i]?=some u->w.cell? ⟨g,k*10+i,none⟩=some u:=by
 have hl:=(aR.1 hr).1;rcases h.lnr.2 with⟨_,c⟩ | ⟨g,cap,cur,c,h2,h3,d,_⟩
 ·omega
 ·refine⟨g,cap,c,d,λi u e f=>?_⟩;have b:=h.lnr;rw[c] at b;rw[World.ownsRow.cellAt b _ (by omega),jB,tD _ 10 Lh lines k r hr i e,f]
theorem YK.lnSlice (h:YK T Pr w0 P txt sp lines z tot a er sv lv nv w): ∃p cap,lv= .slice p lines.length cap:=by
 rcases h.lnr.2 with⟨c,b⟩ | ⟨g,cap,cur,b,h2,h3,h4,_⟩
 ·exact⟨none,0,by rw[c,b]⟩
 ·exact⟨_,cap,b⟩
theorem Dd (p:Nat×Nat):([.int .i64 (p.1:Int), .int .i64 (p.2:Int)]:List Value).length=2:=rfl
theorem YK.spanAt (h:YK T Pr w0 P txt sp lines z tot a er sv lv nv w) {k:Nat}{r:Nat×Nat} (hr:sp[k]?=some r): ∃g cap,sv= .slice (some ⟨g,0,none⟩) sp.length cap/\sp.length<=cap/\w.cell? ⟨g,k*2,none⟩=some (.int .i64 (r.1:Int))/\w.cell? ⟨g,k*2+1,none⟩=some (.int .i64 (r.2:Int)):=by
 have hl:=(aR.1 hr).1;rcases h.spr.2 with⟨_,c⟩ | ⟨g,cap,cur,c,h2,h3,d,_⟩
 ·omega
 ·have b:=h.spr;rw[c] at b;have key:=tD (λp:Nat×Nat=>([.int .i64 (p.1:Int), .int .i64 (p.2:Int)]:List Value)) 2 Dd sp k r hr;refine⟨g,cap,c,d,?_,?_⟩
  ·have:=key 0 (by omega);rw[Nat.add_zero] at this;rw[World.ownsRow.cellAt b _ (by omega)];exact this
  ·rw[World.ownsRow.cellAt b _ (by omega)];exact key 1 (by omega)
theorem YK.spSlice (h:YK T Pr w0 P txt sp lines z tot a er sv lv nv w): ∃p cap,sv= .slice p sp.length cap:=by
 rcases h.spr.2 with⟨c,b⟩ | ⟨g,cap,cur,b,h2,h3,h4,_⟩
 ·exact⟨none,0,by rw[c,b]⟩
 ·exact⟨_,cap,b⟩
end
end
end Go.Proofs.YtaifnmjjpddikaaGreatDoor
