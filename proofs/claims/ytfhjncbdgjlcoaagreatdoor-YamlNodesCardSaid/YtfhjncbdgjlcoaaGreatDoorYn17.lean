import Derived.Test.YtfhjncbdgjlcoaaGreatDoorYn15
import Derived.Test.YtfhjncbdgjlcoaaGreatDoorYn16
set_option linter.unusedVariables false
set_option linter.unusedSimpArgs false
set_option maxRecDepth 100000
set_option maxHeartbeats 1000000
namespace Go.Proofs.YtfhjncbdgjlcoaaGreatDoor
open Tryz
section
open Go.RowKit
open Go.Lib hiding intOf
def gR:aC->Nat->Nat->List (Nat×Nat)
 | [],k,pos=> [(k,pos)]
 | c::t,k,pos=>if c=10 then(k,pos+1)::gR t (pos+1) (pos+1) else gR t k (pos+1)
def pY (s:ByteArray):List (Nat×Nat):=gR s.data.toList 0 0
theorem tT: ∀(l:aC) (k pos:Nat),(gR l k pos).length<=l.length+1/\1<=(gR l k pos).length
 | [],k,pos=>by simp[gR]
 | c::t,k,pos=>by
  unfold gR;have h1:=tT t (pos+1) (pos+1);have h2:=tT t k (pos+1);split<;>simp<;>omega
theorem Zf (s:ByteArray):(pY s).length<=s.size+1/\1<=(pY s).length:=tT s.data.toList 0 0
def kX (xs:List (Nat×Nat)):List Value:=xs.flatMap λp=> [p.1,p.2]
theorem Zg (xs:List (Nat×Nat)) (a b:Nat):kX (xs++ [(a,b)])=kX xs++ [.int .i64 a, .int .i64 b]:=by simp[kX]
def jB (B:Nat) (w:World) (v:Value) (xs:List (Nat×Nat)):Prop:=w.ownsRow B 42 2 v xs.length (kX xs)
theorem jB.snoc {B:Nat}{w:World}{v:Value}{xs:List (Nat×Nat)}{a b:Nat} (h:w.ownsRow B 42 2 v (xs.length+1) (kX xs++(#[Value.int .i64 a,Value.int .i64 b]:Array Value).toList)):jB B w v (xs++ [(a,b)]):=by
 unfold jB;rw[Zg,aZ];exact h
theorem infoSpanN:(prog.info? 42).map (λi=>(i.zero,i.size,i.bytes))=some (some (.agg #[(0:Int),(0:Int)]),2,16):=d'
theorem Ms (s:ByteArray) (i:Nat) (h:i<s.size):s.data.toList.drop i=(s[i]'h)::s.data.toList.drop (i+1):=by
 rw[gB s'];rfl
def jX (s:ByteArray) (xs:List (Nat×Nat)) (k i:Nat):Prop:=xs++gR (s.data.toList.drop i) k i=pY s/\k<=i
theorem jX.zero (s:ByteArray):jX s [] 0 0:=⟨rfl,aF _⟩
theorem jX.len {s:ByteArray}{xs:List (Nat×Nat)}{k i:Nat} (h:jX s xs k i):xs.length<=s.size:=by
 have b:=congrArg List.length h.1;have h2:=tT (s.data.toList.drop i) k i;have h3:=Zf s;rw[aZ] at b;omega
theorem jX.hit {s:ByteArray}{xs:List (Nat×Nat)}{k i:Nat} (h:jX s xs k i) (hi:i<s.size) (hc:s[i]'hi=10):jX s (xs++ [(k,i+1)]) (i+1) (i+1):=by
 have b:=h.1;rw[Ms s i hi,gR,if_pos hc] at b;exact⟨by rw[<-b];simp,aF _⟩
theorem jX.miss {s:ByteArray}{xs:List (Nat×Nat)}{k i:Nat} (h:jX s xs k i) (hi:i<s.size) (hc: ¬s[i]'hi=10):jX s xs k (i+1):=by
 have b:=h.1;rw[Ms s i hi,gR,if_neg hc] at b;exact⟨b,by have:=h.2;omega⟩
theorem jX.fin {s:ByteArray}{xs:List (Nat×Nat)}{k i:Nat} (h:jX s xs k i) (hi:i=s.size):xs++ [(k,s.size)]=pY s:=by
 have b:=h.1;subst hi;rw[List.drop_eq_nil_of_le A',gR] at b;exact b
theorem Zh (s:ByteArray) (w:World) (hs:s.size<=4294967000):
  Calls prog 19 #[s] w λe w'=> ∃v,e= .returned v/\jB w.heap.size w' v (pY s)/\aA w w':=by
 obtain⟨i0,y,q,r,t⟩:=info_parts infoSpanN;go_in;go_wp2;go_loopw [3,4,5] (λv f i wr=> ∃(b k:Nat) (xs:List (Nat×Nat)),b<=s.size/\k<=b/\xs.length<=s.size/\i= .int .i64 b/\f= .int .i64 k/\Hid (jB w.heap.size wr v xs)/\Hid (aA w wr)/\Hid (jX s xs k b)) (λ_ _ i _=>s.size-(RowKit.intOf i).toNat)
 case atStart=>exact⟨0,0,[],a_,a_,e_,rfl,rfl,World.ownsRow_nil _ _ _ _,aD _ _,jX.zero s⟩
 case round=>
  obtain⟨b,k,xs,hp,J,E,rfl,rfl,m,o,C⟩:=hrel;have g:=o.out.size;by_cases hlt:b<s.size
  .have hcb:(s[b]'hlt).toNat<256:=(s[b]'hlt).toNat_lt;by_cases hc:s[b]'hlt=10
   .have l:=hid (C.out.hit hlt hc);have H:(((s[b]'hlt).toNat:Int)==10)=true:=by rw[hc];rfl
    clear hc;go_wp2_with (at_builtin;go_must (refine sN rfl _ _ 55 rfl w.heap.size 42 i0 _ 2 16 underlying55 y q r t rfl b_ wr u3 xs.length (kX xs) rfl m.out #[k, .int .i64 ((b:Int)+1)] rfl rfl B_ a_ b_ g ?_);intro v1 w1 d u c n x);have F:xs.length+1<=s.size:=by have:=l.out.len;simpa using this
    go_roundw
    case rel=>exact⟨b+1,b+1,xs++ [(k,b+1)],a_,a_,by simpa using F,t_,t_,jB.snoc d,o.out.trans c,l.out⟩
    case measure=>simp[RowKit.intOf];omega
   .have l:=hid (C.out.miss hlt hc);have H:(((s[b]'hlt).toNat:Int)==10)=false:=by
     rw[aI];intro h;apply hc;apply UInt8.toNat_inj.1;rw[show (10:UInt8).toNat=10 from rfl];omega
    clear hc;go_wp2;go_roundw
    case rel=>exact⟨b+1,k,xs,a_,a_,a_,t_,rfl,m.out,o.out,l.out⟩
    case measure=>simp[RowKit.intOf];omega
  .have l:=hid (C.out.fin a_);go_wp2_with (at_builtin;go_must (refine sN rfl _ _ 55 rfl w.heap.size 42 i0 _ 2 16 underlying55 y q r t rfl b_ wr u3 xs.length (kX xs) rfl m.out #[k,s.size] rfl rfl B_ a_ b_ g ?_);intro v1 w1 d u c n x);exact F3
theorem Mt: ∀(l:aC) (k pos:Nat),Lib.indexByte l 10<0->gR l k pos= [(k,pos+l.length)]
 | [],k,pos,_=>rfl
 | c ::t,k,pos,h=>by
  unfold Lib.indexByte at h;have hge:=Lib.indexByte_ge t 10;by_cases hc:c=10
  .subst hc;simp at h
  .rw[if_neg F_] at h;have d:Lib.indexByte t 10<0:=by
    split at h
    .rename_i b;have h2:Lib.indexByte t 10= -1:=JW;omega
    .omega
   rw[gR,if_neg hc,Mt t k (pos+1) d,bM,show pos+1+t.length=pos+(t.length+1) by omega]
theorem Mu: ∀(l:aC) (k pos j:Nat),Lib.indexByte l 10=(j:Int)->j<l.length/\gR l k pos=(k,pos+j+1)::gR (l.drop (j+1)) (pos+j+1) (pos+j+1)
 | [],k,pos,j,h=>by simp[Lib.indexByte] at h<;>omega
 | c::t,k,pos,j,h=>by
  unfold Lib.indexByte at h;have hge:=Lib.indexByte_ge t 10;by_cases hc:c=10
  .subst hc;obtain rfl:j=0:=by simp at h;omega
   simp[gR]
  .rw[if_neg F_] at h;by_cases h1:(Lib.indexByte t 10== -1)=true
   .rw[if_pos h1] at h;omega
   .rw[if_neg h1] at h;have hn:Lib.indexByte t 10≠ -1:=(by simpa using h1);obtain⟨m,rfl⟩: ∃m,j=m+1:=⟨j-1,a_⟩;obtain⟨h2,b⟩:=Mu t k (pos+1) m a_;refine⟨by simp;omega,?_⟩;rw[gR,if_neg hc,b,show pos+1+m+1=pos+(m+1)+1 by omega];rfl
theorem jX.last {s:ByteArray}{xs:List (Nat×Nat)}{k:Nat} (h:jX s xs k k) (hk:k<=s.size) (hi:Lib.indexByte (s.data.toList.drop k) 10<0):xs++ [(k,s.size)]=pY s:=by
 have b:=h.1;rw[Mt _ _ _ hi,bC,show k+(s.data.toList.length-k)=s.size by have:s.data.toList.length=s.size:=rfl;omega] at b;exact b
theorem jX.line {s:ByteArray}{xs:List (Nat×Nat)}{k j:Nat} (h:jX s xs k k) (hi:Lib.indexByte (s.data.toList.drop k) 10=(j:Int)):k+j+1<=s.size/\jX s (xs++ [(k,k+j+1)]) (k+j+1) (k+j+1):=by
 obtain⟨c,d⟩:=Mu _ k k j hi;have hl:s.data.toList.length=s.size:=rfl;rw[bC] at c;have b:=h.1;rw[d,jO] at b;refine⟨a_,?_,aF _⟩;rw[<-b,nX];rfl
theorem Zi (s:ByteArray) (k:Nat) (w:World):
  Calls prog 41 #[(s.extract k s.size), .int .u8 10] w λe w'=>e= .returned (.int .i64 (Lib.indexByte (s.data.toList.drop k) 10))/\w=w':=by
 have h:=strings_IndexByte (s.extract k s.size) 10 w;rw[show (s.extract k s.size).data.toList=s.data.toList.drop k from Lib.extract_to_end s k] at h;exact au
theorem Zj (s:ByteArray) (w:World) (hs:s.size<=4294967000):
  Calls prog 24 #[s] w λe w'=> ∃v,e= .returned v/\jB w.heap.size w' v (pY s)/\aA w w':=by
 obtain⟨i0,y,q,r,t⟩:=info_parts infoSpanN;go_in;go_wp2;go_loopw [3,4] (λv f wr=> ∃(k:Nat) (xs:List (Nat×Nat)),k<=s.size/\xs.length<=s.size/\f= .int .i64 k/\Hid (jB w.heap.size wr v xs)/\Hid (aA w wr)/\Hid (jX s xs k k)) (λ_ f _=>s.size-(RowKit.intOf f).toNat)
 case atStart=>exact⟨0,[],a_,e_,rfl,World.ownsRow_nil _ _ _ _,aD _ _,jX.zero s⟩
 case round=>
  obtain⟨k,xs,J,E,rfl,m,o,C⟩:=hrel;have g:=o.out.size;have p:=Zi s k;by_cases hneg:Lib.indexByte (s.data.toList.drop k) 10<0
  .have l:=hid (C.out.last J hneg);generalize Lib.indexByte (s.data.toList.drop k) 10=I at *;have A:=hid p;clear p;go_wp2_with (first | (go_at_call 41;refine(A.out _).mono ?_;rintro e w' ⟨rfl,rfl⟩) | (at_builtin;go_must (refine sN rfl _ _ 55 rfl w.heap.size 42 i0 _ 2 16 underlying55 y q r t rfl b_ wr u3 xs.length (kX xs) rfl m.out #[k,s.size] rfl rfl B_ a_ b_ g ?_);intro v1 w1 d u c n x));exact F3
  .obtain⟨j,G⟩:=Int.eq_ofNat_of_zero_le (Int.not_lt.1 hneg);obtain⟨hkj,D⟩:=C.out.line G;have l:=hid D;clear D;rw[G] at p;have A:=hid p;clear p G hneg;go_wp2_with (first | (go_at_call 41;refine(A.out _).mono ?_;rintro e w' ⟨rfl,rfl⟩) | (at_builtin;go_must (refine sN rfl _ _ 55 rfl w.heap.size 42 i0 _ 2 16 underlying55 y q r t rfl b_ wr u3 xs.length (kX xs) rfl m.out #[k, .int .i64 ((k:Int)+j+1)] rfl rfl B_ a_ b_ g ?_);intro v1 w1 d u c n x));have F:xs.length+1<=s.size:=by have:=l.out.len;simpa using this
   go_roundw
   case rel=>exact⟨k+j+1,xs++ [(k,k+j+1)],a_,by simpa using F,t_,jB.snoc d,o.out.trans c,l.out⟩
   case measure=>simp[RowKit.intOf];omega
end
section
open Go.Lib
def tU:List (Nat×Nat)->List (Nat×Nat)
 | []=> []
 | [x]=> [x]
 | x::y::r=>(x.1,x.2-1)::tU (y::r)
theorem Bm: ∀l,(tU l).length=l.length
 | []=>rfl
 | [_]=>rfl
 | x::y::r=>by rw[tU,bM,Bm (y::r)];rfl
structure aV where
 kind:Nat
 ind:Int
 fr:Nat
 til:Nat
 kf:Int
 kt:Int
 rf:Int
 rt:Int
 kids:List Nat
structure YS where
 lines:List aS
 nodes:List aV
 total:Nat
def kY (x:aS):Bool:=decide (3<=x.kind)&&decide (x.kind<=5)
inductive NX where
 | ok (k:Nat) (lines:List aS)
 | bad (a:Int) (er:Int)
def mX (s:aB):List (Nat×Nat)->Nat->List aS->NX
 | [],k,lines=> .ok k lines
 | x::r,k,lines=>match lines[k]? with
  | some l=>if kY l then .ok k lines else mX s r (k+1) lines
  | none=>if(fN s x.1 x.2).2.2≠0 then .bad (fN s x.1 x.2).2.1 (fN s x.1 x.2).2.2 else
   if kY (fN s x.1 x.2).1 then .ok k (lines++ [(fN s x.1 x.2).1]) else mX s r (k+1) (lines++ [(fN s x.1 x.2).1])
def eX (s:aB) (sp:List (Nat×Nat)) (k:Nat) (lines:List aS):NX:=mX s (sp.drop k) k lines
def dL (s:aB) (x:Nat×Nat):aB:=(s.drop x.1).take (x.2-x.1)
def dQ (s:aB) (a b:Int):aB:=(s.drop a.toNat).take (b.toNat-a.toNat)
def aU (ls:List aS) (k:Nat):aS:=ls[k]?.getD bG
def lY (sp:List (Nat×Nat)) (k:Nat):Nat×Nat:=sp[k]?.getD (0,0)
def wL (sp:List (Nat×Nat)) (st:YS) (k:Nat):Int:=((lY sp k).1:Int)+(aU st.lines k).ind
inductive YR where
 | ok (n:Nat) (st:YS)
 | bad (a:Int) (er:Int)
def gC (x:aV) (lv:Nat) (a:Int) (st:YS):YR:=
 if lv=0 then .bad a 5 else if 4096<=st.total then .bad a 6 else .ok st.nodes.length ⟨st.lines,st.nodes++ [x],st.total+1⟩
def iB (s:aB) (lv:Nat) (k:Nat) (kf kt:Int) (st:YS):YR:=
 match gC ⟨1,(aU st.lines k).ind,k,k+1,kf,kt,(aU st.lines k).rf,(aU st.lines k).rt,[]⟩ lv (aU st.lines k).rf st with
 | .bad a e=> .bad a e
 | .ok n s1=>
  let v:=gQ (dQ s (aU st.lines k).rf (aU st.lines k).rt)
  if v.2≠0 then .bad (aU st.lines k).rf v.2 else
  if lv<v.1.depth then .bad (aU st.lines k).rf 5 else
  if 4096<s1.total+v.1.size-1 then .bad (aU st.lines k).rf 6 else .ok n ⟨s1.lines,s1.nodes,s1.total+v.1.size-1⟩
def jL (s:aB) (ind:Int):List (Nat×Nat)->Nat->Nat->Nat->Nat
 | [],_,til,_=>til
 | x::r,i,til,first=>
  if bB (dL s x)=(dL s x).length then jL s ind r (i+1) til first else
  if(bB (dL s x):Int)<=ind\/bB (dL s x)<first then til else jL s ind r (i+1) (i+1) (if first=0 then bB (dL s x) else first)
def oH (s:aB) (sp:List (Nat×Nat)) (ind:Int) (k:Nat):Nat:=jL s ind (sp.drop (k+1)) (k+1) (k+1) 0
def yH (d:Nat×Nat):Bool:=(d.1==65533&&d.2==1)||!(d.1==9||(decide (32<=d.1)&&d.1 !=127))
def pF (s:aB) (e:Nat):Nat->Nat->Nat
 | 0,i=>i
 | f+1,i=>if e<=i then i else if yH (decodeL (s.drop i)) then i else pF s e f (i+(decodeL (s.drop i)).2)
def nN (s:aB) (x:Nat×Nat):Nat:=pF s x.2 (x.2-x.1) x.1
def jC (s:aB) (x:Nat×Nat):aS:=⟨6,x.1,x.2,bB (dL s x),0,0,0,0,0,0⟩
def lZ (s:aB):List (Nat×Nat)->List aS->List aS ⊕ Int
 | [],ls=> .inl ls
 | x::r,ls=>if nN s x<x.2 then .inr (nN s x:Int) else lZ s r (ls++ [jC s x])
def lK (s:aB) (sp:List (Nat×Nat)) (lv:Nat) (k:Nat) (kf kt:Int) (st:YS):YR:=
 match gC ⟨4,(aU st.lines k).ind,k,oH s sp (aU st.lines k).ind k,kf,kt,(aU st.lines k).rf,(aU st.lines k).rt,[]⟩ lv (aU st.lines k).rf st with
 | .bad a e=> .bad a e
 | .ok n s1=>match lZ s ((sp.drop (k+1)).take (oH s sp (aU st.lines k).ind k-(k+1))) s1.lines with
  | .inr a=> .bad a 2
  | .inl ls=> .ok n ⟨ls,s1.nodes,s1.total⟩
abbrev YB:=Nat->Int->Int->YS->YR
def mY (s:aB) (sp:List (Nat×Nat)) (B:YB) (lv:Nat):YB:=λk kf kt st=>
 let t:=dQ s (aU st.lines k).rf (aU st.lines k).rt
 if t= [124]\/t= [124,45] then lK s sp lv k kf kt st else
 if t= [] then
  match eX s sp (k+1) st.lines with
  | .bad a e=> .bad a e
  | .ok nx ls=>if nx<sp.length/\(aU st.lines k).ind<(aU ls nx).ind then B nx kf kt ⟨ls,st.nodes,st.total⟩ else iB s lv k kf kt ⟨ls,st.nodes,st.total⟩
 else iB s lv k kf kt st
def rY (f:aV->aV):Nat->List aV->List aV
 | _,[]=> []
 | 0,x::l=>f x::l
 | n+1,x::l=>x::rY f n l
def fF (ns:List aV) (k:Nat):Nat:=match ns[k]? with
 | some x=>x.til
 | none=>0
def iC (n kid:Nat) (ns:List aV):List aV:=rY (λx=> { x with kids:=x.kids++ [kid],til:=fF ns kid }) n ns
def eM (s:aB) (V:YB) (map:Bool) (had:List aB) (k:Nat) (st:YS):YR×List aB:=
 if map then
  let kr:=jW (dQ s (aU st.lines k).kf (aU st.lines k).kt)
  if kr.2≠0 then(.bad (aU st.lines k).kf kr.2,had) else
  if kr.1∈had then(.bad (aU st.lines k).kf 7,had) else(V k (aU st.lines k).kf (aU st.lines k).kt st,kr.1::had)
 else(V k 0 0 st,had)
inductive OR where
 | ok (nx:Nat) (st:YS) (had:List aB)
 | bad (a:Int) (er:Int)
def fW (s:aB) (sp:List (Nat×Nat)) (V:YB) (map:Bool) (n:Nat) (ind:Int) (had:List aB) (k:Nat) (st:YS):OR:=
 match eM s V map had k st with
 | (.bad a e,_)=> .bad a e
 | (.ok kid s2,had')=>
  match eX s sp (fF s2.nodes kid) s2.lines with
  | .bad a e=> .bad a e
  | .ok nx ls=>if nx<sp.length/\ind<(aU ls nx).ind then .bad (((lY sp nx).1:Int)+(aU ls nx).ind) 2 else .ok nx ⟨ls,iC n kid s2.nodes,s2.total⟩ had'
def jM (s:aB) (sp:List (Nat×Nat)) (V:YB) (map:Bool) (n:Nat) (ind kind:Int):Nat->List aB->Nat->YS->YR
 | 0,_,_,st=> .ok n st
 | f+1,had,k,st=>
  if k<sp.length/\(aU st.lines k).ind=ind/\(aU st.lines k).kind=kind then
   match fW s sp V map n ind had k st with
   | .bad a e=> .bad a e
   | .ok nx s2 had'=>jM s sp V map n ind kind f had' nx s2
  else .ok n st
def kZ (s:aB) (sp:List (Nat×Nat)) (V:YB) (lv:Nat):YB:=λk kf kt st=>
 let x:=aU st.lines k
 if x.kind=5 then iB s lv k kf kt st else
 match gC ⟨if x.kind=4 then 3 else 2,x.ind,k,0,kf,kt,0,0,[]⟩ lv (wL sp st k) st with
 | .bad a e=> .bad a e
 | .ok n s1=>jM s sp V (decide (x.kind=4)) n x.ind x.kind (sp.length-k) [] k s1
def oI (s:aB) (sp:List (Nat×Nat)):Nat->YB
 | 0=>kZ s sp (λ_ _ _ _=> .bad 0 0) 0
 | lv+1=>kZ s sp (mY s sp (oI s sp lv) lv) (lv+1)
structure dU where
 lines:List aS
 nodes:List aV
def lL (s:aB) (sp:List (Nat×Nat)):dU×Int×Int:=
 match eX s sp 0 [] with
 | .bad a e=>(⟨[],[]⟩,a,e)
 | .ok k ls=>
  if ¬k<sp.length then(⟨ls,[⟨1,0,0,0,0,0,(s.length:Int),(s.length:Int),[]⟩]⟩,(s.length:Int),0) else
  match oI s sp 32 k 0 0 ⟨ls,[],0⟩ with
  | .bad a e=>(⟨[],[]⟩,a,e)
  | .ok _ st=>
   match eX s sp (fF st.nodes 0) st.lines with
   | .bad a e=>(⟨[],[]⟩,a,e)
   | .ok k2 ls2=>if k2<sp.length then(⟨[],[]⟩,((lY sp k2).1:Int)+(aU ls2 k2).ind,2) else(⟨ls2,st.nodes⟩,(s.length:Int),0)
def eY (s:aB):List (Nat×Nat):=tU (gR s 0 0)
def mA (s:aB):dU×Int×Int:=if 65536<s.length then(⟨[],[]⟩,0,3) else lL s (eY s)
end
section
open Go.RowKit
open Go.Lib hiding intOf
theorem qT {α:Type} (f:α->List Value) (m:Nat) (hf: ∀x,(f x).length=m): ∀(z:List α) (j:Nat) (y:α),z[j]?=some y-> ∀i,i<m->(z.flatMap f)[j*m+i]?=(f y)[i]?
 | [],j,y,h,i,hi=>by simp at h
 | x::z,0,y,h,i,hi=>by
  obtain rfl:x=y:=s'
  rw[List.flatMap_cons,Nat.zero_mul,Nat.zero_add,oV (by rw[hf];exact hi)]
 | x::z,j+1,y,h,i,hi=>by
  rw[bY] at h;have:=qT f m hf z j y h i hi;rw[List.flatMap_cons,lR (by rw[hf,Nat.succ_mul];omega),<-this];congr 1;rw[hf,Nat.succ_mul];omega
theorem yI {α:Type} (f:α->List Value) (m:Nat) (hf: ∀x,(f x).length=m): ∀(z:List α) (j:Nat) (y y':α),z[j]?=some y-> ∀i u,i<m->(f y).set i u=f y'->(z.flatMap f).set (j*m+i) u=(z.set j y').flatMap f
 | [],j,y,y',h,i,u,hi,hu=>by simp at h
 | x::z,0,y,y',h,i,u,hi,hu=>by
  obtain rfl:x=y:=s'
  rw[List.flatMap_cons,Nat.zero_mul,Nat.zero_add,List.set_append_left _ _ (by rw[hf];exact hi),hu];rfl
 | x::z,j+1,y,y',h,i,u,hi,hu=>by
  rw[bY] at h;have:=yI f m hf z j y y' h i u hi hu;rw[List.flatMap_cons,List.set_append_right _ _ (by rw[hf,Nat.succ_mul];omega),cQ,List.flatMap_cons,<-this];congr 2;rw[hf,Nat.succ_mul];omega
def rZ (r:aS):List Value:= [r.kind,r.sf,r.st,r.ind,r.kf,r.kt,r.rf,r.rt,r.nf,r.nt]
def gY (l:List aS):List Value:=l.flatMap rZ
abbrev YN:=aV×Value
def iK (y:YN):List Value:= [y.1.kind,y.1.ind,y.1.fr,y.1.til,y.1.kf,y.1.kt,y.1.rf,y.1.rt,y.2]
def iT (z:List YN):List Value:=z.flatMap iK
theorem Fm (r:aS):(rZ r).length=10:=rfl
theorem Bn (y:YN):(iK y).length=9:=rfl
def vD (z:List YN):Prop:= ∀(i j:Nat) (yi yj:YN),i≠j->z[i]?=some yi->z[j]?=some yj->yi.2.ownBlock=none\/yi.2.ownBlock≠yj.2.ownBlock
theorem vD.push {z:List YN}{y:YN} (h:vD z) (hy:y.2.ownBlock=none):vD (z++ [y]):=wa
theorem vD.set {z:List YN}{n:Nat}{y y':YN} (h:vD z) (hn:z[n]?=some y) (hb:y'.2.ownBlock=y.2.ownBlock\/ ∀(j:Nat) (yj:YN),z[j]?=some yj->yj.2.ownBlock≠y'.2.ownBlock):vD (z.set n y'):=IT
structure fX (B:Nat) (z:List YN) (nv:Value) (w:World):Prop where
 row:w.ownsRow B 45 9 nv z.length (iT z)
 kids: ∀y∈z,w.ownsRow B 3 1 y.2 y.1.kids.length (dH y.1.kids)
 ak:vD z
theorem fX.nil (B:Nat) (w:World):fX B [] (.slice none 0 0) w:=
 ⟨⟨rfl, .inl ⟨rfl,rfl⟩⟩,λy b=>(by cases b),λi j yi yj _ h=>(by simp at h)⟩
section
variable {B:Nat}{z:List YN}{nv:Value}{w w' w1:World}
theorem fX.keep (h:fX B z nv w) (hb:aA w w'):fX B z nv w':=
 ⟨iP h.row hb,λy b=>iP (h.kids y b) hb,h.ak⟩
theorem fX.other (h:fX B z nv w) {X:Nat}{cs:Array Value}{t:TypeId}{fz:Nat×Nat} (hX:w.heap[X]?=some (.cells cs t fz)) (h1:45≠t) (h2:3≠t) (hg:w.grownBy w' (some X)):fX B z nv w':=
 ⟨h.row.kept hg (dG h.row hX h1),λy b=>(h.kids y b).kept hg (dG (h.kids y b) hX h2),h.ak⟩
theorem fX.grow (h:fX B z nv w) {B2 s n:Nat}{e:TypeId}{v:Value}{xs:List Value} (hr:w.ownsRow B2 e s v n xs) (h1:45≠e) (h2:3≠e) (hg:w.grownBy w' v.ownBlock):fX B z nv w':=
 ⟨h.row.kept hg (gW h.row hr h1),λy b=>(h.kids y b).kept hg (gW (h.kids y b) hr h2),h.ak⟩
theorem fX.push (h:fX B z nv w) {nv':Value}{x:aV} (hk:x.kids= []) (hr:w'.ownsRow B 45 9 nv' (z.length+1) (iT z++iK (x, .slice none 0 0))) (hg:w.grownBy w' nv.ownBlock):
  fX B (z++ [(x, .slice none 0 0)]) nv' w':=by
 refine⟨?_,λy b=>?_,h.ak.push rfl⟩
 .have e:iT (z++ [(x, .slice none 0 0)])=iT z++iK (x, .slice none 0 0):=by unfold iT;simp
  rw[e,aZ];exact hr
 .exact FD
theorem fX.form (h:fX B z nv w) (hz:z≠ []): ∃g cap cur,nv= .slice (some ⟨g,0,none⟩) z.length cap/\z.length<=cap/\B<=g/\w.heap[g]?=some (.cells cur 45 (0,0)):=km
theorem fX.at_ {g cap:Nat} (h:fX B z (.slice (some ⟨g,0,none⟩) z.length cap) w) {n:Nat}{y:YN} (hy:z[n]?=some y) (i:Nat) (hi:i<9) {u:Value} (hu:(iK y)[i]?=some u):
  w.cell? (g,n*9+i)=some u/\w.frozen? ⟨g,n*9+i,none⟩=false:=by
 have hn:=(aW.1 hy).1;refine⟨?_,World.ownsRow.frozenAt h.row _⟩;rw[World.ownsRow.cellAt h.row _ a_,iT,qT _ 9 Bn z n y hy i hi,hu]
theorem fX.field {g cap:Nat} (h:fX B z (.slice (some ⟨g,0,none⟩) z.length cap) w) {n:Nat}{y y':YN} (hy:z[n]?=some y) (i:Nat) (hi:i<9) (u:Value) (hu:(iK y).set i u=iK y') (hk:y'.1.kids=y.1.kids) (h1:y'.2=y.2):
  fX B (z.set n y') (.slice (some ⟨g,0,none⟩) (z.set n y').length cap) (w.setCell ⟨g,n*9+i,none⟩ u):=I7
theorem fX.kid {g cap:Nat} (h:fX B z (.slice (some ⟨g,0,none⟩) z.length cap) w) {n k:Nat}{y:YN} (hy:z[n]?=some y) {kv:Value}{H:Nat} (hH:w.heap.size<=H)
  (hr:w1.ownsRow B 3 1 kv (y.1.kids.length+1) (dH y.1.kids++ [.int .i64 (k:Int)])) (hg:w.grownBy w1 y.2.ownBlock) (hat:kv.ownBlock=y.2.ownBlock\/kv.ownBlock=some H):
  fX B (z.set n ({ y.1 with kids:=y.1.kids++ [k] },kv)) (.slice (some ⟨g,0,none⟩) (z.set n ({ y.1 with kids:=y.1.kids++ [k] },kv)).length cap) (w1.setCell ⟨g,n*9+8,none⟩ kv):=by
 have MI:=trivial;exact IG
end
abbrev aO:=Nat->Option Obj
def aO.put (Pr:aO) (X:Nat) (o:Obj):aO:=λk=>if k=X then some o else Pr k
theorem aO.put_eq (Pr:aO) (X:Nat) (o:Obj):Pr.put X o X=some o:=if_pos rfl
theorem aO.put_ne (Pr:aO) {X k:Nat} (o:Obj) (h:k≠X):Pr.put X o k=Pr k:=if_neg h
structure YK (T:TypeId) (Pr:aO) (w0:World) (P:Nat) (txt:aB) (sp:List (Nat×Nat)) (lines:List aS) (z:List YN) (tot:Nat) (a er:Int) (sv lv nv:Value) (w:World):Prop where
 box:w.heap[P]?=some (.cells #[bs txt,sv,lv,nv,tot,a,er] T (0,0))
 spr:w.ownsRow w0.heap.size 42 2 sv sp.length (kX sp)
 lnr:w.ownsRow w0.heap.size 68 10 lv lines.length (gY lines)
 nod:fX w0.heap.size z nv w
 hB:w0.heap.size<=P
 ty:T≠42/\T≠68/\T≠45/\T≠3
 bel:Below w0.heap.size w0 w
 fr: ∀k o,Pr k=some o->w.heap[k]?=some o/\k≠P/\lv.ownBlock≠some k/\nv.ownBlock≠some k/\ ∀y∈z,y.2.ownBlock≠some k
section
variable {T:TypeId}{Pr:aO}{w0 w w' w1:World}{P:Nat}{txt:aB}{sp:List (Nat×Nat)}{lines:List aS}{z:List YN}{tot:Nat}{a er:Int}{sv lv nv:Value}
theorem YK.keep (h:YK T Pr w0 P txt sp lines z tot a er sv lv nv w) (hb:aA w w'):YK T Pr w0 P txt sp lines z tot a er sv lv nv w':=
 ⟨(hb.block P (aG h.box)).trans h.box,iP h.spr hb,iP h.lnr hb,h.nod.keep hb,h.hB,h.ty,h.bel.trans (hb.mono h.bel.size),λk o c=>by obtain⟨b,d⟩:=h.fr k o c;exact⟨(hb.block k (aG b)).trans b,d⟩⟩
theorem YK.lt (h:YK T Pr w0 P txt sp lines z tot a er sv lv nv w):P<w.heap.size:=aG h.box
theorem YK.cells (h:YK T Pr w0 P txt sp lines z tot a er sv lv nv w):(w.cell? (P,0)=some (.string (bs txt))/\w.cell? (P,1)=some sv/\w.cell? (P,2)=some lv/\w.cell? (P,3)=some nv/\w.cell? (P,4)=some (.int .i64 (tot:Int))/\w.cell? (P,5)=some (.int .i64 a)/\w.cell? (P,6)=some (.int .i64 er))/\
  w.frozen? ⟨P,2,none⟩=false/\w.frozen? ⟨P,3,none⟩=false/\w.frozen? ⟨P,4,none⟩=false/\w.frozen? ⟨P,5,none⟩=false/\w.frozen? ⟨P,6,none⟩=false:=by
 have b:=h.box;refine⟨⟨?_,?_,?_,?_,?_,?_,?_⟩,?_,?_,?_,?_,?_⟩<;>simp[World.cell?,World.frozen?,b]
theorem YK.put (h:YK T Pr w0 P txt sp lines z tot a er sv lv nv w) (hb:aA w w') {X:Nat}{o:Obj} (hX:w.heap.size<=X) (ho:w'.heap[X]?=some o):YK T (Pr.put X o) w0 P txt sp lines z tot a er sv lv nv w':=by
 have SR:=trivial;exact QD
theorem YK.frLt (h:YK T Pr w0 P txt sp lines z tot a er sv lv nv w) {k:Nat}{o:Obj} (hk:Pr k=some o):k<w.heap.size:=aG (h.fr k o hk).1
theorem YK.less {Pr':aO} (h:YK T Pr w0 P txt sp lines z tot a er sv lv nv w) (hp: ∀k o,Pr' k=some o->Pr k=some o):YK T Pr' w0 P txt sp lines z tot a er sv lv nv w:=
 ⟨h.box,h.spr,h.lnr,h.nod,h.hB,h.ty,h.bel,λk o b=>h.fr k o (hp k o b)⟩
theorem aO.put_less {N X:Nat}{o:Obj} (hp: ∀k o',Pr k=some o'->k<N) (hX:N<=X): ∀k o',Pr k=some o'->Pr.put X o k=some o':=λk o' b=>by
 have:=hp k o' b;rw[aO.put_ne _ _ a_];exact b
theorem YK.boxed (h:YK T Pr w0 P txt sp lines z tot a er sv lv nv w) (i:Nat) (u:Value) {tot':Nat}{a' er':Int} (hu:([bs txt,sv,lv,nv,tot,a,er]:List Value).set i u= [.string (bs txt),sv,lv,nv, .int .i64 (tot':Int), .int .i64 a', .int .i64 er']):
  YK T Pr w0 P txt sp lines z tot' a' er' sv lv nv (w.setCell ⟨P,i,none⟩ u):=by
 have c:=h.box;have f:=dP w P i u;have b: ∀ {e:TypeId}{s n:Nat}{v:Value}{xs:List Value},w.ownsRow w0.heap.size e s v n xs->e≠T->(w.setCell ⟨P,i,none⟩ u).ownsRow w0.heap.size e s v n xs:=λd j=>d.kept f (dG d c j);obtain⟨t1,t2,t3,t4⟩:=h.ty;refine⟨?_,b h.spr (Ne.symm t1),b h.lnr (Ne.symm t2),h.nod.other c (Ne.symm t3) (Ne.symm t4) f,h.hB,h.ty,h.bel.setCell (p:=⟨P,i,none⟩) h.hB u,λk o g=>?_⟩
 .simp[World.setCell,Array.getElem?_modify,c,hu]
 .obtain⟨f1,f2,f3⟩:=h.fr k o g;exact⟨by rw[eW w ⟨P,i,none⟩ u k f2];exact f1,f2,f3⟩
theorem YK.fail (h:YK T Pr w0 P txt sp lines z tot a er sv lv nv w) (a2 e2:Int):YK T Pr w0 P txt sp lines z tot a2 e2 sv lv nv ((w.setCell ⟨P,5,none⟩ (.int .i64 a2)).setCell ⟨P,6,none⟩ (.int .i64 e2)):=
 (h.boxed 5 (.int .i64 a2) (tot':=tot) (a':=a2) (er':=er) rfl).boxed 6 (.int .i64 e2) rfl
theorem YK.count (h:YK T Pr w0 P txt sp lines z tot a er sv lv nv w) (t2:Nat):YK T Pr w0 P txt sp lines z t2 a er sv lv nv (w.setCell ⟨P,4,none⟩ (.int .i64 (t2:Int))):=
 h.boxed 4 (.int .i64 (t2:Int)) rfl
theorem YK.box_grown (h:YK T Pr w0 P txt sp lines z tot a er sv lv nv w) {B2 s n:Nat}{e:TypeId}{v:Value}{xs:List Value} (hr:w.ownsRow B2 e s v n xs) (he:e≠T) (hg:w.grownBy w1 v.ownBlock):w1.heap[P]?=some (.cells #[bs txt,sv,lv,nv,tot,a,er] T (0,0)):=by
 rw[hg.block P h.lt (λe2=>by
  rcases dG hr h.box he with b | b
  .rw[b] at e2;cases e2
  .exact b e2.symm)]
 exact h.box
theorem Fo {v v':Value}{H N k:Nat} (hat:v'.ownBlock=v.ownBlock\/v'.ownBlock=some H) (hH:N<=H) (hk:k<N) (hv:v.ownBlock≠some k):v'.ownBlock≠some k:=by
 rcases hat with e | e
 .rw[e];exact hv
 .rw[e];intro e2;have:=bA e2;omega
theorem qU {k:Nat}{o:Obj}{r:Option Nat} (hg:w.grownBy w1 r) (hk:w.heap[k]?=some o) (hr:r≠some k):w1.heap[k]?=some o:=by
 rw[hg.block k (aG hk) (λe=>hr e.symm)];exact hk
theorem YK.line (h:YK T Pr w0 P txt sp lines z tot a er sv lv nv w) {lv':Value}{r:aS}{H:Nat} (hH:w.heap.size<=H) (hr:w1.ownsRow w0.heap.size 68 10 lv' (lines.length+1) (gY lines++rZ r)) (hg:w.grownBy w1 lv.ownBlock) (hat:lv'.ownBlock=lv.ownBlock\/lv'.ownBlock=some H):
  YK T Pr w0 P txt sp (lines++ [r]) z tot a er sv lv' nv (w1.setCell ⟨P,2,none⟩ lv'):=by
 have S5:=trivial;exact QM
theorem YK.node (h:YK T Pr w0 P txt sp lines z tot a er sv lv nv w) {nv':Value}{x:aV} (hx:x.kids= []) {H:Nat} (hH:w.heap.size<=H) (hr:w1.ownsRow w0.heap.size 45 9 nv' (z.length+1) (iT z++iK (x, .slice none 0 0))) (hg:w.grownBy w1 nv.ownBlock) (hat:nv'.ownBlock=nv.ownBlock\/nv'.ownBlock=some H):
  YK T Pr w0 P txt sp lines (z++ [(x, .slice none 0 0)]) tot a er sv lv nv' (w1.setCell ⟨P,3,none⟩ nv'):=QM
theorem YK.kid {g cap:Nat} (h:YK T Pr w0 P txt sp lines z tot a er sv lv (.slice (some ⟨g,0,none⟩) z.length cap) w) {n k:Nat}{y:YN} (hy:z[n]?=some y) {kv:Value}{H:Nat} (hH:w.heap.size<=H)
  (hr:w1.ownsRow w0.heap.size 3 1 kv (y.1.kids.length+1) (dH y.1.kids++ [.int .i64 (k:Int)])) (hg:w.grownBy w1 y.2.ownBlock) (hat:kv.ownBlock=y.2.ownBlock\/kv.ownBlock=some H):
  YK T Pr w0 P txt sp lines (z.set n ({ y.1 with kids:=y.1.kids++ [k] },kv)) tot a er sv lv (.slice (some ⟨g,0,none⟩) (z.set n ({ y.1 with kids:=y.1.kids++ [k] },kv)).length cap) (w1.setCell ⟨g,n*9+8,none⟩ kv):=by
 have SZ:=trivial;exact QI
theorem YK.til {g cap:Nat} (h:YK T Pr w0 P txt sp lines z tot a er sv lv (.slice (some ⟨g,0,none⟩) z.length cap) w) {n:Nat}{y:YN} (hy:z[n]?=some y) (e:Nat):
  YK T Pr w0 P txt sp lines (z.set n ({ y.1 with til:=e },y.2)) tot a er sv lv (.slice (some ⟨g,0,none⟩) (z.set n ({ y.1 with til:=e },y.2)).length cap) (w.setCell ⟨g,n*9+3,none⟩ (.int .i64 (e:Int))):=by
 have S2:=trivial;exact QI
theorem YK.lineAt (h:YK T Pr w0 P txt sp lines z tot a er sv lv nv w) {k:Nat}{r:aS} (hr:lines[k]?=some r): ∃g cap,lv= .slice (some ⟨g,0,none⟩) lines.length cap/\lines.length<=cap/\ ∀i u,i<10->(rZ r)[i]?=some u->w.cell? ⟨g,k*10+i,none⟩=some u:=by
 have hl:=(aW.1 hr).1;rcases h.lnr.2 with⟨_,c⟩ | ⟨g,cap,cur,c,h2,h3,d,_⟩
 .omega
 .refine⟨g,cap,c,d,λi u f e=>?_⟩;have b:=h.lnr;rw[c] at b;rw[World.ownsRow.cellAt b _ a_,gY,qT _ 10 Fm lines k r hr i f,e]
theorem YK.lnSlice (h:YK T Pr w0 P txt sp lines z tot a er sv lv nv w): ∃p cap,lv= .slice p lines.length cap:=by
 rcases h.lnr.2 with⟨h0,h1⟩ | ⟨g,cap,ec,h1,h2,h3,h4,_⟩
 .exact bi
 .exact bn
theorem wM (p:Nat×Nat):([p.1,p.2]:List Value).length=2:=rfl
theorem YK.spanAt (h:YK T Pr w0 P txt sp lines z tot a er sv lv nv w) {k:Nat}{r:Nat×Nat} (hr:sp[k]?=some r): ∃g cap,sv= .slice (some ⟨g,0,none⟩) sp.length cap/\sp.length<=cap/\w.cell? ⟨g,k*2,none⟩=some (.int .i64 (r.1:Int))/\w.cell? ⟨g,k*2+1,none⟩=some (.int .i64 (r.2:Int)):=by
 have hl:=(aW.1 hr).1;rcases h.spr.2 with⟨_,d⟩ | ⟨g,cap,cur,d,h2,h3,e,_⟩
 .omega
 .have b:=h.spr;rw[d] at b;have c:=qT (λp:Nat×Nat=>([p.1,p.2]:List Value)) 2 wM sp k r hr;refine⟨g,cap,d,e,?_,?_⟩
  .have:=c 0 a_;rw[Nat.add_zero] at this;rw[World.ownsRow.cellAt b _ a_];exact this
  .rw[World.ownsRow.cellAt b _ a_];exact c 1 a_
theorem YK.spSlice (h:YK T Pr w0 P txt sp lines z tot a er sv lv nv w): ∃p cap,sv= .slice p sp.length cap:=by
 rcases h.spr.2 with⟨h0,h1⟩ | ⟨g,cap,ec,h1,h2,h3,h4,_⟩
 .exact bi
 .exact bn
end
end
end Go.Proofs.YtfhjncbdgjlcoaaGreatDoor
