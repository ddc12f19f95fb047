import Derived.Test.YtjnooaljcgkfpaaGreatDoorBk1
import Derived.Test.YtjnooaljcgkfpaaGreatDoorShelf
import Derived.Test.YtjnooaljcgkfpaaGreatDoorProg
import Derived.Lib.IndexBytes
import Derived.Test.YtjnooaljcgkfpaaGreatDoorBk15
import Derived.Test.YtjnooaljcgkfpaaGreatDoorBk16
import Derived.Test.YtjnooaljcgkfpaaGreatDoorBk4
import Derived.Test.YtjnooaljcgkfpaaGreatDoorBk12
set_option maxRecDepth 100000
set_option maxHeartbeats 1000000
namespace Go.Proofs.YtjnooaljcgkfpaaGreatDoor
set_option linter.unusedVariables false
set_option linter.unusedSimpArgs false
section
open Go.RowKit
open Go.Lib hiding intOf
def fA:List UInt8->Nat->Nat->List (Nat×Nat)
 | [],k,pos=> [(k,pos)]
 | c::t,k,pos=>if c=10 then(k,pos+1)::fA t (pos+1) (pos+1) else fA t k (pos+1)
def uB (s:ByteArray):List (Nat×Nat):=fA s.data.toList 0 0
theorem sX: ∀(l:List UInt8) (k pos:Nat),(fA l k pos).length<=l.length+1/\1<=(fA l k pos).length
 | [],k,pos=>by simp[fA]
 | c::t,k,pos=>by
  unfold fA;have h1:=sX t (pos+1) (pos+1);have h2:=sX t k (pos+1);split<;>simp<;>omega
theorem aBn (s:ByteArray):(uB s).length<=s.size+1/\1<=(uB s).length:=sX s.data.toList 0 0
def oR (xs:List (Nat×Nat)):List Value:=xs.flatMap λp=> [.int .i64 p.1, .int .i64 p.2]
theorem aBo (xs:List (Nat×Nat)) (a b:Nat):oR (xs++ [(a,b)])=oR xs++ [.int .i64 a, .int .i64 b]:=by simp[oR]
def nI (B:Nat) (w:World) (v:Value) (xs:List (Nat×Nat)):Prop:=w.ownsRow B 76 2 v xs.length (oR xs)
theorem nI.snoc {B:Nat}{w:World}{v:Value}{xs:List (Nat×Nat)}{a b:Nat} (h:w.ownsRow B 76 2 v (xs.length+1) (oR xs++(#[Value.int .i64 a,Value.int .i64 b]:Array Value).toList)):nI B w v (xs++ [(a,b)]):=by
 unfold nI;rw[aBo,aI];exact h
def oS (s:ByteArray) (xs:List (Nat×Nat)) (k i:Nat):Prop:=xs++fA (s.data.toList.drop i) k i=uB s/\k<=i
theorem oS.zero (s:ByteArray):oS s [] 0 0:=⟨rfl,aD _⟩
theorem oS.len {s:ByteArray}{xs:List (Nat×Nat)}{k i:Nat} (h:oS s xs k i):xs.length<=s.size:=by
 have a:=congrArg List.length h.1;have h2:=sX (s.data.toList.drop i) k i;have h3:=aBn s;rw[aI] at a;omega
theorem Nt: ∀(l:List UInt8) (k pos:Nat),Lib.indexByte l 10<0->fA l k pos= [(k,pos+l.length)]
 | [],k,pos,_=>rfl
 | c ::t,k,pos,h=>by
  unfold Lib.indexByte at h;have hge:=Lib.indexByte_ge t 10;by_cases hc:c=10
  ·subst hc;simp at h
  ·rw[if_neg (by simpa using hc)] at h;have b:Lib.indexByte t 10<0:=by
    split at h
    ·rename_i a;have h2:Lib.indexByte t 10= -1:=(by simpa using a);omega
    ·omega
   rw[fA,if_neg hc,Nt t k (pos+1) b,aL,show pos+1+t.length=pos+(t.length+1) by omega]
theorem Nu: ∀(l:List UInt8) (k pos j:Nat),Lib.indexByte l 10=(j:Int)->j<l.length/\fA l k pos=(k,pos+j+1)::fA (l.drop (j+1)) (pos+j+1) (pos+j+1)
 | [],k,pos,j,h=>by simp[Lib.indexByte] at h<;>omega
 | c::t,k,pos,j,h=>by
  unfold Lib.indexByte at h;have hge:=Lib.indexByte_ge t 10;by_cases hc:c=10
  ·subst hc;obtain rfl:j=0:=by simp at h;omega
   simp[fA]
  ·rw[if_neg (by simpa using hc)] at h;by_cases h1:(Lib.indexByte t 10== -1)=true
   ·rw[if_pos h1] at h;omega
   ·rw[if_neg h1] at h;have hn:Lib.indexByte t 10≠ -1:=(by simpa using h1);obtain⟨m,rfl⟩: ∃m,j=m+1:=⟨j-1,by omega⟩;obtain⟨h2,a⟩:=Nu t k (pos+1) m (by omega);refine⟨by simp;omega,?_⟩;rw[fA,if_neg hc,a,show pos+1+m+1=pos+(m+1)+1 by omega];rfl
theorem oS.last {s:ByteArray}{xs:List (Nat×Nat)}{k:Nat} (h:oS s xs k k) (hk:k<=s.size) (hi:Lib.indexByte (s.data.toList.drop k) 10<0):xs++ [(k,s.size)]=uB s:=by
 have a:=h.1;rw[Nt _ _ _ hi,aZ,show k+(s.data.toList.length-k)=s.size by have:s.data.toList.length=s.size:=rfl;omega] at a;exact a
theorem oS.line {s:ByteArray}{xs:List (Nat×Nat)}{k j:Nat} (h:oS s xs k k) (hi:Lib.indexByte (s.data.toList.drop k) 10=(j:Int)):k+j+1<=s.size/\oS s (xs++ [(k,k+j+1)]) (k+j+1) (k+j+1):=by
 obtain⟨c,b⟩:=Nu _ k k j hi;have hl:s.data.toList.length=s.size:=rfl;rw[aZ] at c;have a:=h.1;rw[b,lP] at a;refine⟨by omega,?_,aD _⟩;rw[<-a,dY];rfl
theorem aBp (s:ByteArray) (k:Nat) (w:World):
  Calls Tryz.prog 55 #[.string (s.extract k s.size), .int .u8 10] w λe w'=>e= .returned (.int .i64 (Lib.indexByte (s.data.toList.drop k) 10))/\w=w':=by
 have h:=Tryz.strings_IndexByte (s.extract k s.size) 10 w;rw[show (s.extract k s.size).data.toList=s.data.toList.drop k from Lib.extract_to_end s k] at h;exact h.mono λ_ _ ⟨a,b⟩=>⟨a,b.symm⟩
theorem aBq (s:ByteArray) (w:World) (hs:s.size<=4294967000):
  Calls Tryz.prog 43 #[.string s] w λe w'=> ∃v,e= .returned v/\nI w.heap.size w' v (uB s)/\Below w.heap.size w w':=by
 obtain⟨i0,p,n,t,r⟩:=info_parts Tryz.infoSpan;go_enter Tryz.func43,Tryz.ntmps43;go_wp2_with fail;go_loopw [3,4] (λv f wr=> ∃(k:Nat) (xs:List (Nat×Nat)),k<=s.size/\xs.length<=s.size/\f= .int .i64 k/\Hid (nI w.heap.size wr v xs)/\Hid (Below w.heap.size w wr)/\Hid (oS s xs k k)) (λ_ f _=>s.size-(RowKit.intOf f).toNat)
 case atStart=>exact⟨0,[],by omega,by simp,rfl,World.ownsRow_nil _ _ _ _,aB _ _,oS.zero s⟩
 case round=>
  obtain⟨k,xs,A,hxs,rfl,i,m,y⟩:=hrel;have c:=m.out.size;have d:=aBp s k;by_cases hneg:Lib.indexByte (s.data.toList.drop k) 10<0
  ·have h:=hid (y.out.last A hneg);generalize Lib.indexByte (s.data.toList.drop k) 10=I at *;have l:=hid d;clear d;go_wp2_with (first | (go_at_call 55;refine(l.out _).mono ?_;rintro e w' ⟨rfl,rfl⟩) | (at_builtin;go_must (refine wP rfl _ _ 71 rfl w.heap.size 76 i0 _ 2 16 Tryz.underlying71 p n t r rfl (by decide) wr u3 xs.length (oR xs) rfl i.out #[.int .i64 k, .int .i64 s.size] rfl rfl (by simp[Value.oneCell']) (by omega) (by decide) c ?_);intro v1 w1 a q b g u));go_ret;exact⟨v1,rfl,by rw[<-h.out];exact nI.snoc a,m.out.trans b⟩
  ·obtain⟨j,x⟩:=Int.eq_ofNat_of_zero_le (Int.not_lt.1 hneg);obtain⟨hkj,o⟩:=y.out.line x;have h:=hid o;clear o;rw[x] at d;have l:=hid d;clear d x hneg;go_wp2_with (first | (go_at_call 55;refine(l.out _).mono ?_;rintro e w' ⟨rfl,rfl⟩) | (at_builtin;go_must (refine wP rfl _ _ 71 rfl w.heap.size 76 i0 _ 2 16 Tryz.underlying71 p n t r rfl (by decide) wr u3 xs.length (oR xs) rfl i.out #[.int .i64 k, .int .i64 ((k:Int)+j+1)] rfl rfl (by simp[Value.oneCell']) (by omega) (by decide) c ?_);intro v1 w1 a q b g u));have z:xs.length+1<=s.size:=by have:=h.out.len;simpa using this
   go_roundw
   case rel=>exact⟨k+j+1,xs++ [(k,k+j+1)],by omega,by simpa using z,by go_num,nI.snoc a,m.out.trans b,h.out⟩
   case measure=>simp[RowKit.intOf];omega
end
section
open Go.Lib
def qH:List (Nat×Nat)->List (Nat×Nat)
 | []=> []
 | [x]=> [x]
 | x::y::r=>(x.1,x.2-1)::qH (y::r)
theorem Fo: ∀l,(qH l).length=l.length
 | []=>rfl
 | [_]=>rfl
 | x::y::r=>by rw[qH,aL,Fo (y::r)];rfl
structure aM where
 kind:Nat
 ind:Int
 fr:Nat
 til:Nat
 kf:Int
 kt:Int
 rf:Int
 rt:Int
 kids:List Nat
structure YS where
 lines:List aO
 nodes:List aM
 total:Nat
def iV (x:aO):Bool:=decide (3<=x.kind)&&decide (x.kind<=5)
inductive NX where
 | ok (k:Nat) (lines:List aO)
 | bad (a:Int) (er:Int)
def lZ (s:aA):List (Nat×Nat)->Nat->List aO->NX
 | [],k,lines=> .ok k lines
 | x::r,k,lines=>match lines[k]? with
  | some l=>if iV l then .ok k lines else lZ s r (k+1) lines
  | none=>if(dI s x.1 x.2).2.2≠0 then .bad (dI s x.1 x.2).2.1 (dI s x.1 x.2).2.2 else
   if iV (dI s x.1 x.2).1 then .ok k (lines++ [(dI s x.1 x.2).1]) else lZ s r (k+1) (lines++ [(dI s x.1 x.2).1])
def gA (s:aA) (sp:List (Nat×Nat)) (k:Nat) (lines:List aO):NX:=lZ s (sp.drop k) k lines
def gH (s:aA) (x:Nat×Nat):aA:=(s.drop x.1).take (x.2-x.1)
def fD (s:aA) (a b:Int):aA:=(s.drop a.toNat).take (b.toNat-a.toNat)
def aR (ls:List aO) (k:Nat):aO:=ls[k]?.getD cX
def fI (sp:List (Nat×Nat)) (k:Nat):Nat×Nat:=sp[k]?.getD (0,0)
def Ba (sp:List (Nat×Nat)) (st:YS) (k:Nat):Int:=((fI sp k).1:Int)+(aR st.lines k).ind
inductive YR where
 | ok (n:Nat) (st:YS)
 | bad (a:Int) (er:Int)
def jE (x:aM) (lv:Nat) (a:Int) (st:YS):YR:=
 if lv=0 then .bad a 5 else if 4096<=st.total then .bad a 6 else .ok st.nodes.length ⟨st.lines,st.nodes++ [x],st.total+1⟩
def kB (s:aA) (lv:Nat) (k:Nat) (kf kt:Int) (st:YS):YR:=
 match jE ⟨1,(aR st.lines k).ind,k,k+1,kf,kt,(aR st.lines k).rf,(aR st.lines k).rt,[]⟩ lv (aR st.lines k).rf st with
 | .bad a e=> .bad a e
 | .ok n s1=>
  let v:=iU (fD s (aR st.lines k).rf (aR st.lines k).rt)
  if v.2≠0 then .bad (aR st.lines k).rf v.2 else
  if lv<v.1.depth then .bad (aR st.lines k).rf 5 else
  if 4096<s1.total+v.1.size-1 then .bad (aR st.lines k).rf 6 else .ok n ⟨s1.lines,s1.nodes,s1.total+v.1.size-1⟩
def oD (s:aA) (ind:Int):List (Nat×Nat)->Nat->Nat->Nat->Nat
 | [],_,til,_=>til
 | x::r,i,til,first=>
  if bI (gH s x)=(gH s x).length then oD s ind r (i+1) til first else
  if(bI (gH s x):Int)<=ind\/bI (gH s x)<first then til else oD s ind r (i+1) (i+1) (if first=0 then bI (gH s x) else first)
def qI (s:aA) (sp:List (Nat×Nat)) (ind:Int) (k:Nat):Nat:=oD s ind (sp.drop (k+1)) (k+1) (k+1) 0
def Fp (d:Nat×Nat):Bool:=(d.1==65533&&d.2==1)||!(d.1==9||(decide (32<=d.1)&&d.1 !=127))
def uC (s:aA) (e:Nat):Nat->Nat->Nat
 | 0,i=>i
 | f+1,i=>if e<=i then i else if Fp (decodeL (s.drop i)) then i else uC s e f (i+(decodeL (s.drop i)).2)
def qJ (s:aA) (x:Nat×Nat):Nat:=uC s x.2 (x.2-x.1) x.1
def oT (s:aA) (x:Nat×Nat):aO:=⟨6,x.1,x.2,bI (gH s x),0,0,0,0,0,0⟩
def qK (s:aA):List (Nat×Nat)->List aO->List aO ⊕ Int
 | [],ls=> .inl ls
 | x::r,ls=>if qJ s x<x.2 then .inr (qJ s x:Int) else qK s r (ls++ [oT s x])
def oU (s:aA) (sp:List (Nat×Nat)) (lv:Nat) (k:Nat) (kf kt:Int) (st:YS):YR:=
 match jE ⟨4,(aR st.lines k).ind,k,qI s sp (aR st.lines k).ind k,kf,kt,(aR st.lines k).rf,(aR st.lines k).rt,[]⟩ lv (aR st.lines k).rf st with
 | .bad a e=> .bad a e
 | .ok n s1=>match qK s ((sp.drop (k+1)).take (qI s sp (aR st.lines k).ind k-(k+1))) s1.lines with
  | .inr a=> .bad a 2
  | .inl ls=> .ok n ⟨ls,s1.nodes,s1.total⟩
abbrev YB:=Nat->Int->Int->YS->YR
def lI (s:aA) (sp:List (Nat×Nat)) (B:YB) (lv:Nat):YB:=λk kf kt st=>
 let t:=fD s (aR st.lines k).rf (aR st.lines k).rt
 if t= [124]\/t= [124,45] then oU s sp lv k kf kt st else
 if t= [] then
  match gA s sp (k+1) st.lines with
  | .bad a e=> .bad a e
  | .ok nx ls=>if nx<sp.length/\(aR st.lines k).ind<(aR ls nx).ind then B nx kf kt ⟨ls,st.nodes,st.total⟩ else kB s lv k kf kt ⟨ls,st.nodes,st.total⟩
 else kB s lv k kf kt st
def rK (f:aM->aM):Nat->List aM->List aM
 | _,[]=> []
 | 0,x::l=>f x::l
 | n+1,x::l=>x::rK f n l
def gB (ns:List aM) (k:Nat):Nat:=match ns[k]? with
 | some x=>x.til
 | none=>0
def mL (n kid:Nat) (ns:List aM):List aM:=rK (λx=> { x with kids:=x.kids++ [kid],til:=gB ns kid }) n ns
def gC (s:aA) (V:YB) (map:Bool) (had:List aA) (k:Nat) (st:YS):YR×List aA:=
 if map then
  let kr:=mJ (fD s (aR st.lines k).kf (aR st.lines k).kt)
  if kr.2≠0 then(.bad (aR st.lines k).kf kr.2,had) else
  if kr.1∈had then(.bad (aR st.lines k).kf 7,had) else(V k (aR st.lines k).kf (aR st.lines k).kt st,kr.1::had)
 else(V k 0 0 st,had)
inductive OR where
 | ok (nx:Nat) (st:YS) (had:List aA)
 | bad (a:Int) (er:Int)
def iC (s:aA) (sp:List (Nat×Nat)) (V:YB) (map:Bool) (n:Nat) (ind:Int) (had:List aA) (k:Nat) (st:YS):OR:=
 match gC s V map had k st with
 | (.bad a e,_)=> .bad a e
 | (.ok kid s2,had')=>
  match gA s sp (gB s2.nodes kid) s2.lines with
  | .bad a e=> .bad a e
  | .ok nx ls=>if nx<sp.length/\ind<(aR ls nx).ind then .bad (((fI sp nx).1:Int)+(aR ls nx).ind) 2 else .ok nx ⟨ls,mL n kid s2.nodes,s2.total⟩ had'
def kO (s:aA) (sp:List (Nat×Nat)) (V:YB) (map:Bool) (n:Nat) (ind kind:Int):Nat->List aA->Nat->YS->YR
 | 0,_,_,st=> .ok n st
 | f+1,had,k,st=>
  if k<sp.length/\(aR st.lines k).ind=ind/\(aR st.lines k).kind=kind then
   match iC s sp V map n ind had k st with
   | .bad a e=> .bad a e
   | .ok nx s2 had'=>kO s sp V map n ind kind f had' nx s2
  else .ok n st
def mM (s:aA) (sp:List (Nat×Nat)) (V:YB) (lv:Nat):YB:=λk kf kt st=>
 let x:=aR st.lines k
 if x.kind=5 then kB s lv k kf kt st else
 match jE ⟨if x.kind=4 then 3 else 2,x.ind,k,0,kf,kt,0,0,[]⟩ lv (Ba sp st k) st with
 | .bad a e=> .bad a e
 | .ok n s1=>kO s sp V (decide (x.kind=4)) n x.ind x.kind (sp.length-k) [] k s1
def kC (s:aA) (sp:List (Nat×Nat)):Nat->YB
 | 0=>mM s sp (λ_ _ _ _=> .bad 0 0) 0
 | lv+1=>mM s sp (lI s sp (kC s sp lv) lv) (lv+1)
structure fS where
 lines:List aO
 nodes:List aM
def mA (s:aA) (sp:List (Nat×Nat)):fS×Int×Int:=
 match gA s sp 0 [] with
 | .bad a e=>(⟨[],[]⟩,a,e)
 | .ok k ls=>
  if ¬k<sp.length then(⟨ls,[⟨1,0,0,0,0,0,(s.length:Int),(s.length:Int),[]⟩]⟩,(s.length:Int),0) else
  match kC s sp 32 k 0 0 ⟨ls,[],0⟩ with
  | .bad a e=>(⟨[],[]⟩,a,e)
  | .ok _ st=>
   match gA s sp (gB st.nodes 0) st.lines with
   | .bad a e=>(⟨[],[]⟩,a,e)
   | .ok k2 ls2=>if k2<sp.length then(⟨[],[]⟩,((fI sp k2).1:Int)+(aR ls2 k2).ind,2) else(⟨ls2,st.nodes⟩,(s.length:Int),0)
def gM (s:aA):List (Nat×Nat):=qH (fA s 0 0)
def jF (s:aA):fS×Int×Int:=if 65536<s.length then(⟨[],[]⟩,0,3) else mA s (gM s)
theorem Nv: ∀(l:List (Nat×Nat)) (x:Nat×Nat),x∈qH l-> ∃y∈l,x.1=y.1/\(x.2=y.2\/x.2=y.2-1/\y∈l.dropLast)
 | [],x,h=>by cases h
 | [y],x,h=>⟨y,by simp,by rw[jX.1 h];simp⟩
 | y::z::r,x,h=>by
  rw[qH] at h;rcases eV.1 h with rfl | h
  ·exact⟨y,by simp,rfl, .inr ⟨rfl,by simp⟩⟩
  ·obtain⟨q,h1,h2,h3⟩:=Nv (z::r) x h;refine⟨q,List.mem_cons_of_mem _ h1,h2,h3.imp_right fun⟨e,h⟩=>⟨e,?_⟩⟩;rw[List.dropLast_cons_of_ne_nil (by simp)];exact List.mem_cons_of_mem _ h
theorem Bb: ∀(l:aA) (k pos:Nat),k<=pos->(∀x∈fA l k pos,k<=x.1/\x.1<=x.2/\x.2<=pos+l.length)/\(∀x∈(fA l k pos).dropLast,x.1<x.2)
 | [],k,pos,h=>by simp[fA];omega
 | c::t,k,pos,h=>by
  unfold fA;split
  ·obtain⟨h1,h2⟩:=Bb t (pos+1) (pos+1) (aD _);have b:fA t (pos+1) (pos+1)≠ []:=λe=>by have:=(sX t (pos+1) (pos+1)).2;rw[e] at this;simp at this
   refine⟨λx a=>?_,λx a=>?_⟩
   ·rw[aL];rcases eV.1 a with rfl | a
    ·simp only[];omega
    ·have:=h1 x a;omega
   ·rw[List.dropLast_cons_of_ne_nil b] at a;rcases eV.1 a with rfl | a
    ·simp only[];omega
    ·exact h2 x a
  ·obtain⟨h1,h2⟩:=Bb t k (pos+1) (by omega);refine⟨λx a=>?_,h2⟩;have:=h1 x a;rw[aL];omega
def eS (s:aA) (sp:List (Nat×Nat)):Prop:= ∀x∈sp,x.1<=x.2/\x.2<=s.length
theorem Nw (s:aA):eS s (gM s):=by
 intro x d;obtain⟨y,b,h2,a⟩:=Nv _ _ d;obtain⟨g1,g2⟩:=Bb s 0 0 (aD _);have h4:=g1 y b;rcases a with a | ⟨a,c⟩
 ·omega
 ·have:=g2 y c;omega
structure yG (s:aA) (x:Nat×Nat) (r:aO):Prop where
 ind:0<=r.ind/\(x.1:Int)+r.ind<=(x.2:Int)/\(x.2:Int)<=(s.length:Int)
 key:0<=r.kf/\r.kf<=r.kt/\r.kt<=(s.length:Int)
 rst:0<=r.rf/\r.rf<=r.rt/\r.rt<=(s.length:Int)
theorem aBr {s:aA}{x:Nat×Nat} (h1:x.1<=x.2) (h2:x.2<=s.length) (h:(dI s x.1 x.2).2.2=0):yG s x (dI s x.1 x.2).1:=by
 unfold dI at h ⊢;rw[if_neg (by omega)] at h ⊢;simp only[eU,show ((x.2:Int)-(x.1:Int)).toNat=x.2-x.1 by omega] at h ⊢;obtain⟨t,d⟩:=exQ<|(s.drop x.1).take (x.2-x.1);have htl:t.length=x.2-x.1:=by rw[<-d,cB,aZ];omega
 rw[d] at h ⊢;split at h
 ·cases h
 ·rename_i b;rw[if_neg b];split at h
  ·cases h
  ·rename_i g;rw[if_neg g];have hsl:=oO t;cases hc:mE (t.drop (bI t)) with
   | none=>rw[hc] at h;cases h
   | some c=>
    have e:=Mi _ _ hc;have a:(t.drop (bI t)).length=t.length-bI t:=aZ;have f:=e.ord;rw[a] at f;simp only[];unfold kM;refine⟨⟨by simp only[];omega,by simp only[];omega,by omega⟩,?_,⟨by simp only[];omega,by simp only[];omega,by simp only[];omega⟩⟩;simp only[];by_cases h4:c.kind=4
    ·have:=(e.key h4).2.1;rw[if_pos h4,if_pos h4];omega
    ·rw[if_neg h4,if_neg h4];omega
theorem aBs {s:aA}{x:Nat×Nat} (h1:x.1<=x.2) (h2:x.2<=s.length):0<=(dI s x.1 x.2).2.1/\(dI s x.1 x.2).2.1<=(s.length:Int):=by
 unfold dI;rw[if_neg (by omega)];simp only[eU,show ((x.2:Int)-(x.1:Int)).toNat=x.2-x.1 by omega];obtain⟨t,a⟩:=exQ<|(s.drop x.1).take (x.2-x.1);have htl:t.length=x.2-x.1:=by rw[<-a,cB,aZ];omega
 rw[a];have hsl:=oO t;split
 ·simp only[];omega
 ·split
  ·simp only[];omega
  ·split
   ·simp only[];omega
   ·simp only[];omega
theorem aBt {ls:List aO}{k:Nat}{r:aO} (h:ls[k]?=some r):aR ls k=r:=by unfold aR;rw[h];rfl
theorem qL {ls:List aO}{k:Nat} (h:k<ls.length):ls[k]?=some (aR ls k):=by unfold aR;rw[bH h];rfl
theorem Nx {ls more:List aO}{k:Nat} (h:k<ls.length):aR (ls++more) k=aR ls k:=by unfold aR;rw[oL h]
theorem Ny (ls:List aO) (r:aO):aR (ls++ [r]) ls.length=r:=by unfold aR;rw[jO (aD _)];simp
theorem Fq {sp:List (Nat×Nat)}{k:Nat}{x:Nat×Nat} (h:sp[k]?=some x):fI sp k=x:=by unfold fI;rw[h];rfl
def mN (s:aA) (sp:List (Nat×Nat)) (ls:List aO):Prop:=ls.length<=sp.length/\ ∀k,k<ls.length->yG s (fI sp k) (aR ls k)
theorem mN.push {s:aA}{sp:List (Nat×Nat)}{ls:List aO} (h:mN s sp ls) (hl:ls.length<sp.length) {r:aO} (hr:yG s (fI sp ls.length) r):mN s sp (ls++ [r]):=by
 refine⟨by rw[aI,dQ];omega,λk a=>?_⟩;rw[aI,dQ] at a;by_cases h2:k<ls.length
 ·rw[Nx h2];exact h.2 k h2
 ·obtain rfl:k=ls.length:=by omega
  rw[Ny];exact hr
def uD (x:aO):Prop:=x.kind=1\/x.kind=2
theorem uD.no {x:aO} (h:uD x):iV x=false:=by
 unfold iV;rcases h with h | h<;>rw[h]<;>decide
theorem aBu {s:aA}{x:Nat×Nat} (h:(dI s x.1 x.2).2.2=0):iV (dI s x.1 x.2).1=true\/uD (dI s x.1 x.2).1:=by
 unfold dI at h ⊢;split at h
 ·cases h
 ·rename_i d;rw[if_neg d];simp only[] at h ⊢;split at h
  ·cases h
  ·rename_i a;rw[if_neg a];split at h
   ·cases h
   ·rename_i b;rw[if_neg b];split at h
    ·cases h
    ·rename_i c e;have:=(Mi _ _ e).kind;simp only[];unfold uD iV kM;simp only[bV,eA];omega
def Lk (ls:List aO) (k:Nat):Prop:= ∀i,k<=i->i<ls.length->uD (aR ls i)\/(i+1=ls.length/\iV (aR ls i)=true)
structure rL (s:aA) (sp:List (Nat×Nat)) (k:Nat) (lines:List aO) (nx:Nat) (ls:List aO):Prop where
 pre: ∃more,ls=lines++more
 le:k<=nx/\nx<=sp.length
 hit:nx<sp.length->ls.length=nx+1/\iV (aR ls nx)=true
 miss: ∀i,k<=i->i<nx->uD (aR ls i)
 all:nx=sp.length->ls.length=sp.length
 ok:mN s sp ls
theorem Nz (s:aA) (sp:List (Nat×Nat)) (hsp:eS s sp): ∀(rest:List (Nat×Nat)) (k:Nat) (lines:List aO),sp.drop k=rest->k<=sp.length->k<=lines.length->mN s sp lines->Lk lines k->
  match lZ s rest k lines with
  | .ok nx ls=>rL s sp k lines nx ls
  | .bad a e=>0<=a/\a<=(s.length:Int)/\e≠0
 | [],k,lines,hd,hk,hkl,hok,hl=>by
  have hks:k=sp.length:=by
   have:=congrArg List.length hd;rw[aZ] at this;simp at this;omega
  unfold lZ;exact⟨⟨[],by simp⟩,⟨aD _,hk⟩,λh=>by omega,λi t n=>by omega,λ_=>by have:=hok.1;omega,hok⟩
 | x ::r,k,lines,hd,hk,hkl,hok,hl=>by
  have y:k<sp.length:=by
   have:=congrArg List.length hd;rw[aZ] at this;simp at this;omega
  have B:sp[k]?=some x:=by
   have:=congrArg (λl=>l[0]?) hd;simpa using this
  have w:sp.drop (k+1)=r:=by
   have:=congrArg List.tail hd;rw[List.tail_drop] at this;simpa using this
  obtain⟨x1,x2⟩:=hsp x (bA B);unfold lZ;have step: ∀(lines':List aO),(∃m,lines'=lines++m)->k<lines'.length->uD (aR lines' k)->mN s sp lines'->Lk lines' (k+1)->
    match lZ s r (k+1) lines' with
    | .ok nx ls=>rL s sp k lines nx ls
    | .bad a e=>0<=a/\a<=(s.length:Int)/\e≠0:=by
   intro lines' C f c b A;have:=Nz s sp hsp r (k+1) lines' w y f b A;cases hn:lZ s r (k+1) lines' with
   | bad a e=>rw[hn] at this;exact this
   | ok nx ls=>
    rw[hn] at this;simp only[] at this ⊢;obtain⟨m2,p⟩:=this.pre;obtain⟨m1,v⟩:=C;refine⟨⟨m1++m2,by rw[p,v,dY]⟩,⟨by have:=this.le;omega,this.le.2⟩,this.hit,λi t n=>?_,this.all,this.ok⟩;by_cases hik:i=k
    ·subst hik;rw[p,Nx f];exact c
    ·exact this.miss i (by omega) n
  cases hln:lines[k]? with
  | some l=>
   simp only[];have d:=(aP.1 hln).1;have j:=aBt hln;by_cases c:iV l=true
   ·rw[if_pos c];simp only[];refine⟨⟨[],by simp⟩,⟨aD _,hk⟩,λ_=>⟨?_,by rw[j];exact c⟩,λi t n=>by omega,λh=>by omega,hok⟩;rcases hl k (aD _) d with h | h
    ·rw[j] at h;rw[h.no] at c;cases c
    ·exact h.1.symm
   ·rw[if_neg c];refine step lines ⟨[],by simp⟩ d ?_ hok (λi t n=>hl i (by omega) n);rcases hl k (aD _) d with h | h
    ·exact h
    ·rw[j] at h;exact absurd h.2 c
  | none=>
   simp only[];have o:k=lines.length:=by
    rw[Dq] at hln;omega
   by_cases h0:(dI s x.1 x.2).2.2≠0
   ·rw[if_pos h0];simp only[];have:=aBs x1 x2;exact⟨this.1,this.2,h0⟩
   ·rw[if_neg h0];have q:(dI s x.1 x.2).2.2=0:=(by omega);have u:=aBr x1 x2 q;have b:=hok.push (by omega) (by rw[<-o,Fq B];exact u);have g:aR (lines++ [(dI s x.1 x.2).1]) k=(dI s x.1 x.2).1:=by rw[o];exact Ny _ _
    have z:(lines++ [(dI s x.1 x.2).1]).length=k+1:=(by rw[aI,dQ,o]);by_cases c:iV (dI s x.1 x.2).1=true
    ·rw[if_pos c];simp only[];exact⟨⟨_,rfl⟩,⟨aD _,hk⟩,λ_=>⟨z,by rw[g];exact c⟩,λi t n=>by omega,λh=>by omega,b⟩
    ·rw[if_neg c];exact step _ ⟨_,rfl⟩ (by omega) (by rw[g];exact(aBu q).resolve_left c) b (λi t n=>by omega)
theorem oV {s:aA}{sp:List (Nat×Nat)} (hsp:eS s sp) {k:Nat}{lines:List aO} (hkl:k<=lines.length) (hok:mN s sp lines) (hl:Lk lines k):
  match gA s sp k lines with
  | .ok nx ls=>rL s sp k lines nx ls
  | .bad a e=>0<=a/\a<=(s.length:Int)/\e≠0:=Nz s sp hsp (sp.drop k) k lines rfl (aV hkl hok.1) hkl hok hl
theorem rL.lk {s:aA}{sp:List (Nat×Nat)}{k nx:Nat}{lines ls:List aO} (h:rL s sp k lines nx ls):Lk ls k:=by
 intro i b h2;by_cases hi:i<nx
 ·exact .inl (h.miss i b hi)
 ·right;by_cases hn:nx<sp.length
  ·obtain⟨c,a⟩:=h.hit hn;obtain rfl:i=nx:=(by omega);exact⟨c.symm,a⟩
  ·have:=h.all (by have:=h.le;omega);have:=h.le;omega
theorem rL.len {s:aA}{sp:List (Nat×Nat)}{k nx:Nat}{lines ls:List aO} (h:rL s sp k lines nx ls):lines.length<=ls.length:=by
 obtain⟨m,a⟩:=h.pre;rw[a,aI];omega
structure eL (s:aA) (sp:List (Nat×Nat)) (st:YS):Prop where
 ls:mN s sp st.lines
 tot:st.nodes.length<=st.total/\st.total<=4096
structure mO (s:aA) (sp:List (Nat×Nat)) (k:Nat) (st:YS) (n:Nat) (st':YS):Prop where
 num:n=st.nodes.length
 nds: ∃more,more≠ []/\st'.nodes=st.nodes++more
 lns: ∃more,st'.lines=st.lines++more
 til:k<gB st'.nodes n/\gB st'.nodes n<=st'.lines.length
 lk:Lk st'.lines (gB st'.nodes n)
 wf:eL s sp st'
def rM (s:aA) (sp:List (Nat×Nat)) (k:Nat) (st:YS) (R:YR):Prop:=match R with
 | .ok n st'=>mO s sp k st n st'
 | .bad a e=>0<=a/\a<=(s.length:Int)/\e≠0
def iD (s:aA) (sp:List (Nat×Nat)) (V:YB):Prop:= ∀k kf kt st,eL s sp st->k+1=st.lines.length->rM s sp k st (V k kf kt st)
theorem Bc (ns:List aM) (x:aM) (more:List aM):gB (ns++x::more) ns.length=x.til:=by
 unfold gB;rw[jO (aD _),Nat.sub_self];rfl
theorem Fs {s:aA}{sp:List (Nat×Nat)} (lv:Nat) {k:Nat} (kf kt:Int) {st:YS} (hw:eL s sp st) (hk:k<st.lines.length) (hlk:Lk st.lines (k+1)):rM s sp k st (kB s lv k kf kt st):=by
 have b:=hw.ls.2 k hk;unfold kB jE;split
 ·rename_i a e h;split at h
  ·injection h with c d;subst c d;exact⟨b.rst.1,by have:=b.rst;omega,by decide⟩
  ·split at h
   ·injection h with c d;subst c d;exact⟨b.rst.1,by have:=b.rst;omega,by decide⟩
   ·cases h
 ·rename_i n s1 h;split at h
  ·cases h
  ·split at h
   ·cases h
   ·rename_i ht;injection h with c d;subst c d;simp only[];split
    ·exact⟨b.rst.1,by have:=b.rst;omega,by assumption⟩
    ·split
     ·exact⟨b.rst.1,by have:=b.rst;omega,by decide⟩
     ·split
      ·exact⟨b.rst.1,by have:=b.rst;omega,by decide⟩
      ·rename_i h3;have f:=Bc st.nodes ⟨1,(aR st.lines k).ind,k,k+1,kf,kt,(aR st.lines k).rf,(aR st.lines k).rt,[]⟩ [];have hsz:=rA (iU (fD s (aR st.lines k).rf (aR st.lines k).rt)).1;have htot:=hw.tot;refine⟨rfl,⟨_,List.cons_ne_nil _ _,rfl⟩,⟨[],by simp⟩,?_,?_,⟨hw.ls,?_⟩⟩
       ·simp only[f];omega
       ·simp only[f];exact hlk
       ·simp only[aI,dQ];omega
theorem Ft (s:aA) (ind:Int): ∀(l:List (Nat×Nat)) (i til first:Nat),til<=i->til<=oD s ind l i til first/\oD s ind l i til first<=i+l.length
 | [],i,til,first,h=>by simp[oD];omega
 | x::r,i,til,first,h=>by
  unfold oD;rw[aL];split
  ·have:=Ft s ind r (i+1) til first (by omega);omega
  ·split
   ·omega
   ·have:=Ft s ind r (i+1) (i+1) (if first=0 then bI (gH s x) else first) (aD _);omega
theorem Oa {s:aA}{sp:List (Nat×Nat)} (ind:Int) {k:Nat} (hk:k<sp.length):k+1<=qI s sp ind k/\qI s sp ind k<=sp.length:=by
 have:=Ft s ind (sp.drop (k+1)) (k+1) (k+1) 0 (aD _);rw[aZ] at this;unfold qI;omega
theorem Fu {s:aA}{x:Nat×Nat} (h1:x.1<=x.2) (h2:x.2<=s.length):(gH s x).length=x.2-x.1:=by
 unfold gH;rw[cB,aZ];omega
theorem aBv {s:aA}{x:Nat×Nat} (h1:x.1<=x.2) (h2:x.2<=s.length):yG s x (oT s x):=by
 have:=oO (gH s x);have:=Fu h1 h2;unfold oT;exact⟨by simp only[];omega,by simp only[];omega,by simp only[];omega⟩
theorem Ob {s:aA}{sp:List (Nat×Nat)} (hsp:eS s sp): ∀(l:List (Nat×Nat)) (ls:List aO),mN s sp ls->(∃r,sp.drop ls.length=l++r)->
  match qK s l ls with
  | .inl ls'=>mN s sp ls'/\ls'.length=ls.length+l.length/\(∃more,ls'=ls++more)
  | .inr a=>0<=a/\a<=(s.length:Int)
 | [],ls,h,hd=>⟨h,rfl,[],by simp⟩
 | x::l,ls,h,⟨r,hd⟩=>by
  have hx:sp[ls.length]?=some x:=by
   have:=congrArg (λl=>l[0]?) hd;simpa using this
  have c:=(aP.1 hx).1;have b:sp.drop (ls.length+1)=l++r:=by
   have:=congrArg List.tail hd;rw[List.tail_drop] at this;simpa using this
  obtain⟨x1,x2⟩:=hsp x (bA hx);unfold qK;by_cases hm:qJ s x<x.2
  ·rw[if_pos hm];simp only[];omega
  ·rw[if_neg hm];have ih:=Ob hsp l (ls++ [oT s x]) (h.push c (by rw[Fq hx];exact aBv x1 x2)) ⟨r,by rw[aI,dQ];exact b⟩;cases ht:qK s l (ls++ [oT s x]) with
   | inr a=>rw[ht] at ih;exact ih
   | inl ls'=>
    rw[ht] at ih;simp only[] at ih ⊢;obtain⟨i1,i2,m,i3⟩:=ih;refine⟨i1,?_,oT s x::m,by rw[i3];simp⟩;rw[i2,aI,dQ,aL];omega
theorem aBw {s:aA}{sp:List (Nat×Nat)} (hsp:eS s sp) (lv:Nat) {k:Nat} (kf kt:Int) {st:YS} (hw:eL s sp st) (hk:k+1=st.lines.length):rM s sp k st (oU s sp lv k kf kt st):=by
 have b:=hw.ls.2 k (by omega);have j:k<sp.length:=by have:=hw.ls.1;omega
 obtain⟨r1,r2⟩:=Oa (s:=s) (aR st.lines k).ind j;unfold oU jE;obtain⟨til,l⟩:=exQ<|qI s sp (aR st.lines k).ind k;rw[l] at r1 r2 ⊢;split
 ·rename_i a e h;split at h
  ·injection h with d f;subst d f;exact⟨b.rst.1,by have:=b.rst;omega,by decide⟩
  ·split at h
   ·injection h with d f;subst d f;exact⟨b.rst.1,by have:=b.rst;omega,by decide⟩
   ·cases h
 ·rename_i n s1 h;split at h
  ·cases h
  ·split at h
   ·cases h
   ·rename_i ht;injection h with d f;subst d f;simp only[];have tk:=Ob hsp ((sp.drop (k+1)).take (til-(k+1))) st.lines hw.ls ⟨(sp.drop (k+1)).drop (til-(k+1)),by rw[<-hk,mC]⟩;have g:((sp.drop (k+1)).take (til-(k+1))).length=til-(k+1):=by rw[cB,aZ];omega
    cases htk:qK s ((sp.drop (k+1)).take (til-(k+1))) st.lines with
    | inr a=>rw[htk] at tk;exact⟨tk.1,tk.2,by decide⟩
    | inl ls=>
     rw[htk] at tk;simp only[] at tk ⊢;obtain⟨t1,t2,m,t3⟩:=tk;rw[g] at t2;have c:=Bc st.nodes ⟨4,(aR st.lines k).ind,k,til,kf,kt,(aR st.lines k).rf,(aR st.lines k).rt,[]⟩ [];have htot:=hw.tot;refine⟨rfl,⟨_,List.cons_ne_nil _ _,rfl⟩,⟨m,t3⟩,?_,?_,⟨t1,?_⟩⟩
     ·simp only[c];omega
     ·simp only[c];intro i d f;omega
     ·simp only[aI,dQ];omega
theorem mO.more {s:aA}{sp:List (Nat×Nat)}{k k':Nat}{st:YS}{ls m:List aO}{tot n:Nat}{st':YS} (h:mO s sp k' ⟨ls,st.nodes,tot⟩ n st') (hm:ls=st.lines++m) (hk:k<=k'):mO s sp k st n st':=by
 obtain⟨g1,g2,⟨m2,g3⟩,g4,g5,g6⟩:=h;exact⟨g1,g2,⟨m++m2,by rw[g3,hm,dY]⟩,by omega,g5,g6⟩
theorem rM.more {s:aA}{sp:List (Nat×Nat)}{k k':Nat}{st:YS}{ls m:List aO}{tot:Nat}{R:YR} (h:rM s sp k' ⟨ls,st.nodes,tot⟩ R) (hm:ls=st.lines++m) (hk:k<=k'):rM s sp k st R:=by
 cases R with
 | bad a e=>exact h
 | ok n st'=>exact mO.more (show mO s sp k' ⟨ls,st.nodes,tot⟩ n st' from h) hm hk
theorem Fv {s:aA}{sp:List (Nat×Nat)} (hsp:eS s sp) {B:YB} (hB:iD s sp B) (lv:Nat):iD s sp (lI s sp B lv):=by
 intro k kf kt st g j;have c:Lk st.lines (k+1):=λi h1 h2=>by omega
 unfold lI;simp only[];split
 ·exact aBw hsp lv kf kt g j
 ·split
  ·have b:=oV hsp (k:=k+1) (by omega) g.ls c;cases hm:gA s sp (k+1) st.lines with
   | bad a e=>rw[hm] at b;exact b
   | ok nx ls=>
    rw[hm] at b;simp only[] at b ⊢;have d:eL s sp ⟨ls,st.nodes,st.total⟩:=⟨b.ok,g.tot⟩;obtain⟨m,f⟩:=b.pre;have hle:=b.le;have hll:=b.len;split
    ·rename_i h;exact(hB nx kf kt ⟨ls,st.nodes,st.total⟩ d (b.hit h.1).1.symm).more f (by omega)
    ·exact(Fs (s:=s) lv kf kt d (k:=k) (by simp only[];omega) b.lk).more f (aD _)
  ·exact Fs lv kf kt g (by omega) c
theorem Fw (f:aM->aM): ∀(n:Nat) (l:List aM),(rK f n l).length=l.length
 | _,[]=>by cases ‹Nat› <;>rfl
 | 0,_::_=>rfl
 | n+1,x::l=>by rw[rK,aL,Fw f n l,aL]
theorem yH (f:aM->aM): ∀(n:Nat) (l:List aM) (x:aM),l[n]?=some x->rK f n l=l.set n (f x)
 | _,[],x,h=>by simp at h
 | 0,y::l,x,h=>by
  obtain rfl:y=x:=by simpa using h
  rfl
 | n+1,y::l,x,h=>by
  rw[rK,eP,yH f n l x (by simpa using h)]
theorem Oc (f:aM->aM) (pre:List aM) (x:aM) (post:List aM):rK f pre.length (pre++x::post)=pre++f x::post:=by
 rw[yH f pre.length _ x (by rw[jO (aD _),Nat.sub_self];rfl),List.set_append_right _ _ (aD _),Nat.sub_self];rfl
theorem Fx {ns:List aM}{k:Nat}{x:aM} (h:ns[k]?=some x):gB ns k=x.til:=by unfold gB;rw[h]
theorem yI {s:aA}{sp:List (Nat×Nat)}{V:YB} (hV:iD s sp V) (map:Bool) (had:List aA) {k:Nat}{st:YS} (hw:eL s sp st) (hk:k+1=st.lines.length):rM s sp k st (gC s V map had k st).1:=by
 have a:=hw.ls.2 k (by omega);unfold gC;split
 ·simp only[];split
  ·rename_i h;exact⟨a.key.1,by have:=a.key;omega,h⟩
  ·split
   ·exact⟨a.key.1,by have:=a.key;omega,by decide⟩
   ·exact hV _ _ _ _ hw hk
 ·exact hV _ _ _ _ hw hk
structure Od (s:aA) (sp:List (Nat×Nat)) (k0 n:Nat) (st0:YS) (k:Nat) (st:YS):Prop where
 nds: ∃x post,st.nodes=st0.nodes++x::post/\x.til<=st.lines.length/\k0<x.til/\Lk st.lines x.til/\x.til<=k
 num:n=st0.nodes.length
 lns: ∃more,st.lines=st0.lines++more
 wf:eL s sp st
 k:k<=sp.length/\k0<k/\(k<sp.length->k+1=st.lines.length)
theorem Fy {s:aA}{sp:List (Nat×Nat)} (hsp:eS s sp) {V:YB} (hV:iD s sp V) (map:Bool) {n:Nat} (ind:Int) (had:List aA) {k0 k:Nat}{st0 st:YS} (hw:eL s sp st) (hk:k+1=st.lines.length) (hk0:k0<=k) (hn:n=st0.nodes.length) (hnd: ∃x post,st.nodes=st0.nodes++x::post) (hls: ∃more,st.lines=st0.lines++more):
  match iC s sp V map n ind had k st with
  | .ok nx s2 had'=>Od s sp k0 n st0 nx s2/\k<nx
  | .bad a e=>0<=a/\a<=(s.length:Int)/\e≠0:=by
 have g:=yI hV map had hw hk;unfold iC;obtain⟨R,l⟩:=exQ<|gC s V map had k st;rw[l] at g ⊢;obtain⟨R,had'⟩:=R;cases R with
 | bad a e=>exact g
 | ok kid s2=>
  obtain⟨g1,⟨m1,g2n,g2⟩,⟨m2,g3⟩,g4,g5,g6⟩:=(show mO s sp k st kid s2 from g);simp only[];have b:=oV hsp (k:=gB s2.nodes kid) g4.2 g6.ls g5;cases hm:gA s sp (gB s2.nodes kid) s2.lines with
  | bad a e=>rw[hm] at b;exact b
  | ok nx ls=>
   rw[hm] at b;simp only[] at b ⊢;obtain⟨m3,f⟩:=b.pre;have c:=b.le;have hll:=b.len;by_cases hc:nx<sp.length/\ind<(aR ls nx).ind
   ·rw[if_pos hc];have d:=b.ok.2 nx (by have:=(b.hit hc.1).1;omega);have:=d.ind;simp only[];exact⟨by omega,by omega,by decide⟩
   ·rw[if_neg hc];simp only[];obtain⟨x,post,j⟩:=hnd;obtain⟨m0,i⟩:=hls;refine⟨⟨⟨{ x with kids:=x.kids++ [kid],til:=gB s2.nodes kid },post++m1,?_,by simp only[];omega,by simp only[];omega,b.lk,c.1⟩,hn,⟨m0++m2++m3,by simp only[];rw[f,g3,i];simp⟩,⟨b.ok,?_⟩,⟨c.2,by omega,λh=>(b.hit h).1.symm⟩⟩,by omega⟩
    ·simp only[];unfold mL;rw[hn]
     conv=>lhs;arg 3;rw[g2,j,dY,cU]
     rw[Oc]
    ·have:=g6.tot;simp only[];unfold mL;rw[Fw];exact this
theorem Oe {s:aA}{sp:List (Nat×Nat)} (hsp:eS s sp) {V:YB} (hV:iD s sp V) (map:Bool) {n:Nat} (ind kind:Int) {k0:Nat}{st0:YS}: ∀(f:Nat) (had:List aA) (k:Nat) (st:YS),Od s sp k0 n st0 k st->rM s sp k0 st0 (kO s sp V map n ind kind f had k st)
 | f,had,k,st,h=>by
  have fin:rM s sp k0 st0 (.ok n st):=by
   obtain⟨⟨x,post,b,g,i,j,_⟩,c,l,o,h8⟩:=h;have d:gB st.nodes n=x.til:=by rw[b,c];exact Bc _ _ _
   exact⟨c,⟨_,List.cons_ne_nil _ _,b⟩,l,by rw[d];exact⟨i,g⟩,by rw[d];exact j,o⟩
  cases f with
  | zero=>exact fin
  | succ f=>
   unfold kO;split
   ·rename_i m;have b:=Fy hsp hV map (n:=n) ind had h.wf (h.k.2.2 m.1) (Nat.le_of_lt h.k.2.1) h.num (by obtain⟨x,post,b,_⟩:=h.nds;exact⟨x,post,b⟩) h.lns;cases ho:iC s sp V map n ind had k st with
    | bad a e=>rw[ho] at b;exact b
    | ok nx s2 had'=>
     rw[ho] at b;exact Oe hsp hV map ind kind f had' nx s2 b.1
   ·exact fin
theorem qM {x:aM}{lv:Nat}{a:Int}{st:YS}{n:Nat}{s1:YS} (h:jE x lv a st= .ok n s1):n=st.nodes.length/\s1=⟨st.lines,st.nodes++ [x],st.total+1⟩/\lv≠0/\st.total<4096:=by
 unfold jE at h;split at h
 ·cases h
 ·split at h
  ·cases h
  ·injection h with b c;exact⟨b.symm,c.symm,by assumption,by omega⟩
theorem aBx {x:aM}{lv:Nat}{a:Int}{st:YS}{b e:Int} (h:jE x lv a st= .bad b e):b=a/\(e=5\/e=6):=by
 unfold jE at h;split at h
 ·injection h with c d;exact⟨c.symm, .inl d.symm⟩
 ·split at h
  ·injection h with c d;exact⟨c.symm, .inr d.symm⟩
  ·cases h
theorem Of {s:aA}{sp:List (Nat×Nat)} (hsp:eS s sp) {V:YB} (lv:Nat) (hV:lv≠0->iD s sp V):iD s sp (mM s sp V lv):=by
 intro k kf kt st d r;have m:Lk st.lines (k+1):=λi c h2=>by omega
 have j:=d.ls.2 k (by omega);have g:k<sp.length:=by have:=d.ls.1;omega
 unfold mM;simp only[];split
 ·exact Fs lv kf kt d (by omega) m
 ·split
  ·rename_i a e h;obtain⟨rfl,q⟩:=aBx h;have:=j.ind;unfold Ba;exact⟨by omega,by omega,by rcases q with rfl|rfl<;>decide⟩
  ·rename_i n s1 h;obtain⟨rfl,rfl,o,h4⟩:=qM h;obtain⟨f,p⟩: ∃f,sp.length-k=f+1:=⟨sp.length-k-1,by omega⟩;have htot:=d.tot;rw[p];unfold kO;rw[if_pos ⟨g,rfl,rfl⟩];have c:=Fy hsp (hV o) (decide ((aR st.lines k).kind=4)) (n:=st.nodes.length) (aR st.lines k).ind [] (k0:=k) (st0:=st) (st:=⟨st.lines,st.nodes++ [⟨if(aR st.lines k).kind=4 then 3 else 2,(aR st.lines k).ind,k,0,kf,kt,0,0,[]⟩],st.total+1⟩) ⟨d.ls,by simp only[aI,dQ];omega⟩ r (aD _) rfl ⟨_,[],rfl⟩ ⟨[],by simp⟩;split
   ·rename_i a e l;rw[l] at c;exact c
   ·rename_i nx s2 b l;rw[l] at c;exact Oe hsp (hV o) _ _ _ f b nx s2 c.1
theorem uE {s:aA}{sp:List (Nat×Nat)} (hsp:eS s sp): ∀lv,iD s sp (kC s sp lv)
 | 0=>Of hsp 0 (λh=>absurd rfl h)
 | lv+1=>Of hsp (lv+1) (λ_=>Fv hsp (uE hsp lv) lv)
def jG (s:aA) (a b:Int):aA:=if a<0\/b<a\/(s.length:Int)<b then [] else fD s a b
def qN:List aA->aA
 | []=> []
 | [x]=>x
 | x::y::r=>x++10::qN (y::r)
def lJ:List (aA×Int)->Int
 | []=> -1
 | (t,i)::r=>if bI t≠t.length then i else lJ r
def qO (ls:List aO) (x:aM):List aO:=(ls.take x.til).drop (x.fr+1)
def rN (s:aA) (ls:List aO) (x:aM):List (aA×Int):=(qO ls x).map λl=>(jG s l.sf l.st,l.ind)
def yJ (s:aA) (ls:List aO) (x:aM):aA:=
 qN ((rN s ls x).map λt=>t.1.drop (lJ (rN s ls x)).toNat)++(if rN s ls x≠ []/\jG s x.rf x.rt= [124] then [10] else [])
def nJ (s:aA) (ns:List aM) (q:Nat):aA:=match ns[q]? with
 | some y=>(mJ (jG s y.kf y.kt)).1
 | none=> []
def bE (s:aA) (d:fS):Nat->Nat->VT
 | 0,_=>gQ
 | f+1,k=>match d.nodes[k]? with
  | none=>gQ
  | some x=>if x.kind=1 then(iU (jG s x.rf x.rt)).1 else if x.kind=4 then lF (yJ s d.lines x) else
   .mk (if x.kind=3 then 6 else 5) [] (if x.kind=3 then x.kids.map (nJ s d.nodes) else []) (x.kids.map (bE s d f))
def eM (ns:List aM):Nat->Nat->Nat->Prop
 | 0,_,_=>False
 | lv+1,k,hi=> ∃x,ns[k]?=some x/\dP (eM ns lv) x.kids (k+1) hi
theorem eM.lt {ns:List aM}: ∀ {lv k hi:Nat},eM ns lv k hi->k<hi
 | lv+1,k,hi,h=>by
  obtain⟨x,hx,h2⟩:=h;have: ∀(l:List Nat) (a:Nat),dP (eM ns lv) l a hi->a<=hi:=by
   intro l
   induction l with
   | nil=>intro a h;exact pN h
   | cons y l ih=>
    intro a h;obtain⟨rfl,m,h2,b⟩:=h;have:=ih m b;have:=eM.lt h2;omega
  have:=this _ _ h2;omega
end
end Go.Proofs.YtjnooaljcgkfpaaGreatDoor
