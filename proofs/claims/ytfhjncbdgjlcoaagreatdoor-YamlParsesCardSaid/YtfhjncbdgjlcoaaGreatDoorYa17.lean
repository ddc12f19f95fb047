import Derived.Test.YtfhjncbdgjlcoaaGreatDoorYa15
import Derived.Test.YtfhjncbdgjlcoaaGreatDoorYa16
set_option maxRecDepth 100000
set_option maxHeartbeats 1000000
set_option linter.unusedVariables false
set_option linter.unusedSimpArgs false
namespace Go.Proofs.YtfhjncbdgjlcoaaGreatDoor
section
open Go.RowKit
open Go.Lib hiding intOf
def gC:List UInt8->Nat->Nat->List (Nat×Nat)
 | [],k,pos=> [(k,pos)]
 | c::t,k,pos=>if c=10 then(k,pos+1)::gC t (pos+1) (pos+1) else gC t k (pos+1)
def pC (s:ByteArray):List (Nat×Nat):=gC s.data.toList 0 0
theorem uL: ∀(l:List UInt8) (k pos:Nat),(gC l k pos).length<=l.length+1/\1<=(gC l k pos).length
 | [],k,pos=>by simp[gC]
 | c::t,k,pos=>by
  unfold gC;have h1:=uL t (pos+1) (pos+1);have h2:=uL t k (pos+1);split<;>simp<;>omega
theorem Xk (s:ByteArray):(pC s).length<=s.size+1/\1<=(pC s).length:=uL s.data.toList 0 0
def kE (xs:List (Nat×Nat)):List Value:=xs.flatMap λp=> [p.1,p.2]
theorem Xl (xs:List (Nat×Nat)) (a b:Nat):kE (xs++ [(a,b)])=kE xs++ [.int .i64 a, .int .i64 b]:=by simp[kE]
def iK (B:Nat) (w:World) (v:Value) (xs:List (Nat×Nat)):Prop:=w.ownsRow B 42 2 v xs.length (kE xs)
theorem iK.snoc {B:Nat}{w:World}{v:Value}{xs:List (Nat×Nat)}{a b:Nat} (h:w.ownsRow B 42 2 v (xs.length+1) (kE xs++(#[Value.int .i64 a,Value.int .i64 b]:Array Value).toList)):iK B w v (xs++ [(a,b)]):=by
 unfold iK;rw[Xl,aT];exact h
theorem Tryz.infoSpanN:(Tryz.prog.info? 42).map (λi=>(i.zero,i.size,i.bytes))=some (some (.agg #[(0:Int),(0:Int)]),2,16):=d'
theorem Ls (s:ByteArray) (i:Nat) (h:i<s.size):s.data.toList.drop i=(s[i]'h)::s.data.toList.drop (i+1):=by
 rw[fL r_];rfl
def jD (s:ByteArray) (xs:List (Nat×Nat)) (k i:Nat):Prop:=xs++gC (s.data.toList.drop i) k i=pC s/\k<=i
theorem jD.zero (s:ByteArray):jD s [] 0 0:=⟨rfl,aD _⟩
theorem jD.len {s:ByteArray}{xs:List (Nat×Nat)}{k i:Nat} (h:jD s xs k i):xs.length<=s.size:=by
 have b:=congrArg List.length h.1;have h2:=uL (s.data.toList.drop i) k i;have h3:=Xk s;rw[aT] at b;omega
theorem jD.hit {s:ByteArray}{xs:List (Nat×Nat)}{k i:Nat} (h:jD s xs k i) (hi:i<s.size) (hc:s[i]'hi=10):jD s (xs++ [(k,i+1)]) (i+1) (i+1):=by
 have b:=h.1;rw[Ls s i hi,gC,if_pos hc] at b;exact⟨by rw[<-b];simp,aD _⟩
theorem jD.miss {s:ByteArray}{xs:List (Nat×Nat)}{k i:Nat} (h:jD s xs k i) (hi:i<s.size) (hc: ¬s[i]'hi=10):jD s xs k (i+1):=by
 have b:=h.1;rw[Ls s i hi,gC,if_neg hc] at b;exact⟨b,by have:=h.2;omega⟩
theorem jD.fin {s:ByteArray}{xs:List (Nat×Nat)}{k i:Nat} (h:jD s xs k i) (hi:i=s.size):xs++ [(k,s.size)]=pC s:=by
 have b:=h.1;subst hi;rw[List.drop_eq_nil_of_le z_,gC] at b;exact b
theorem Xm (s:ByteArray) (w:World) (hs:s.size<=4294967000):
  Calls Tryz.prog 19 #[s] w λe w'=> ∃v,e= .returned v/\iK w.heap.size w' v (pC s)/\Below w.heap.size w w':=by
 obtain⟨i0,p,y,q,r⟩:=info_parts Tryz.infoSpanN;go_enter Tryz.func19,Tryz.ntmps19;go_wp2;go_loopw [3,4,5] (λv f i wr=> ∃(b k:Nat) (xs:List (Nat×Nat)),b<=s.size/\k<=b/\xs.length<=s.size/\i= .int .i64 b/\f= .int .i64 k/\Hid (iK w.heap.size wr v xs)/\Hid (Below w.heap.size w wr)/\Hid (jD s xs k b)) (λ_ _ i _=>s.size-(RowKit.intOf i).toNat)
 case atStart=>exact⟨0,0,[],a_,a_,e_,rfl,rfl,World.ownsRow_nil _ _ _ _,aB _ _,jD.zero s⟩
 case round=>
  obtain⟨b,k,xs,hp,J,G,rfl,rfl,m,o,C⟩:=hrel;have g:=o.out.size;by_cases hlt:b<s.size
  ·have hcb:(s[b]'hlt).toNat<256:=(s[b]'hlt).toNat_lt;by_cases hc:s[b]'hlt=10
   ·have l:=hid (C.out.hit hlt hc);have F:(((s[b]'hlt).toNat:Int)==10)=true:=by rw[hc];rfl
    clear hc;go_wp2_with (at_builtin;go_must (refine rM rfl _ _ 55 rfl w.heap.size 42 i0 _ 2 16 Tryz.underlying55 p y q r rfl b_ wr u3 xs.length (kE xs) rfl m.out #[k, .int .i64 ((b:Int)+1)] rfl rfl A_ a_ b_ g ?_);intro v1 w1 d u c n x);have H:xs.length+1<=s.size:=by have:=l.out.len;simpa using this
    go_roundw
    case rel=>exact⟨b+1,b+1,xs++ [(k,b+1)],a_,a_,by simpa using H,q_,q_,iK.snoc d,o.out.trans c,l.out⟩
    case measure=>simp[RowKit.intOf];omega
   ·have l:=hid (C.out.miss hlt hc);have F:(((s[b]'hlt).toNat:Int)==10)=false:=by
     rw[aE];intro h;apply hc;apply UInt8.toNat_inj.1;rw[show (10:UInt8).toNat=10 from rfl];omega
    clear hc;go_wp2;go_roundw
    case rel=>exact⟨b+1,k,xs,a_,a_,a_,q_,rfl,m.out,o.out,l.out⟩
    case measure=>simp[RowKit.intOf];omega
  ·have l:=hid (C.out.fin a_);go_wp2_with (at_builtin;go_must (refine rM rfl _ _ 55 rfl w.heap.size 42 i0 _ 2 16 Tryz.underlying55 p y q r rfl b_ wr u3 xs.length (kE xs) rfl m.out #[k,s.size] rfl rfl A_ a_ b_ g ?_);intro v1 w1 d u c n x);exact mw
theorem Lt: ∀(l:List UInt8) (k pos:Nat),Lib.indexByte l 10<0->gC l k pos= [(k,pos+l.length)]
 | [],k,pos,_=>rfl
 | c ::t,k,pos,h=>by
  unfold Lib.indexByte at h;have hge:=Lib.indexByte_ge t 10;by_cases hc:c=10
  ·subst hc;simp at h
  ·rw[if_neg EC] at h;have d:Lib.indexByte t 10<0:=by
    split at h
    ·rename_i b;have h2:Lib.indexByte t 10= -1:=(by simpa using b);omega
    ·omega
   rw[gC,if_neg hc,Lt t k (pos+1) d,bH,show pos+1+t.length=pos+(t.length+1) by omega]
theorem Lu: ∀(l:List UInt8) (k pos j:Nat),Lib.indexByte l 10=(j:Int)->j<l.length/\gC l k pos=(k,pos+j+1)::gC (l.drop (j+1)) (pos+j+1) (pos+j+1)
 | [],k,pos,j,h=>by simp[Lib.indexByte] at h<;>omega
 | c::t,k,pos,j,h=>by
  unfold Lib.indexByte at h;have hge:=Lib.indexByte_ge t 10;by_cases hc:c=10
  ·subst hc;obtain rfl:j=0:=by simp at h;omega
   simp[gC]
  ·rw[if_neg EC] at h;by_cases h1:(Lib.indexByte t 10== -1)=true
   ·rw[if_pos h1] at h;omega
   ·rw[if_neg h1] at h;have hn:Lib.indexByte t 10≠ -1:=(by simpa using h1);obtain⟨m,rfl⟩: ∃m,j=m+1:=⟨j-1,a_⟩;obtain⟨h2,b⟩:=Lu t k (pos+1) m a_;refine⟨by simp;omega,?_⟩;rw[gC,if_neg hc,b,show pos+1+m+1=pos+(m+1)+1 by omega];rfl
theorem jD.last {s:ByteArray}{xs:List (Nat×Nat)}{k:Nat} (h:jD s xs k k) (hk:k<=s.size) (hi:Lib.indexByte (s.data.toList.drop k) 10<0):xs++ [(k,s.size)]=pC s:=by
 have b:=h.1;rw[Lt _ _ _ hi,aU,show k+(s.data.toList.length-k)=s.size by have:s.data.toList.length=s.size:=rfl;omega] at b;exact b
theorem jD.line {s:ByteArray}{xs:List (Nat×Nat)}{k j:Nat} (h:jD s xs k k) (hi:Lib.indexByte (s.data.toList.drop k) 10=(j:Int)):k+j+1<=s.size/\jD s (xs++ [(k,k+j+1)]) (k+j+1) (k+j+1):=by
 obtain⟨c,d⟩:=Lu _ k k j hi;have hl:s.data.toList.length=s.size:=rfl;rw[aU] at c;have b:=h.1;rw[d,jJ] at b;refine⟨a_,?_,aD _⟩;rw[<-b,mU];rfl
theorem Xn (s:ByteArray) (k:Nat) (w:World):
  Calls Tryz.prog 41 #[(s.extract k s.size), .int .u8 10] w λe w'=>e= .returned (.int .i64 (Lib.indexByte (s.data.toList.drop k) 10))/\w=w':=by
 have h:=Tryz.strings_IndexByte (s.extract k s.size) 10 w;rw[show (s.extract k s.size).data.toList=s.data.toList.drop k from Lib.extract_to_end s k] at h;exact av
theorem Xo (s:ByteArray) (w:World) (hs:s.size<=4294967000):
  Calls Tryz.prog 24 #[s] w λe w'=> ∃v,e= .returned v/\iK w.heap.size w' v (pC s)/\Below w.heap.size w w':=by
 obtain⟨i0,p,y,q,r⟩:=info_parts Tryz.infoSpanN;go_enter Tryz.func24,Tryz.ntmps24;go_wp2_with fail;go_loopw [3,4] (λv f wr=> ∃(k:Nat) (xs:List (Nat×Nat)),k<=s.size/\xs.length<=s.size/\f= .int .i64 k/\Hid (iK w.heap.size wr v xs)/\Hid (Below w.heap.size w wr)/\Hid (jD s xs k k)) (λ_ f _=>s.size-(RowKit.intOf f).toNat)
 case atStart=>exact⟨0,[],a_,e_,rfl,World.ownsRow_nil _ _ _ _,aB _ _,jD.zero s⟩
 case round=>
  obtain⟨k,xs,J,G,rfl,m,o,C⟩:=hrel;have g:=o.out.size;have t:=Xn s k;by_cases hneg:Lib.indexByte (s.data.toList.drop k) 10<0
  ·have l:=hid (C.out.last J hneg);generalize Lib.indexByte (s.data.toList.drop k) 10=I at *;have A:=hid t;clear t;go_wp2_with (first | (go_at_call 41;refine(A.out _).mono ?_;rintro e w' ⟨rfl,rfl⟩) | (at_builtin;go_must (refine rM rfl _ _ 55 rfl w.heap.size 42 i0 _ 2 16 Tryz.underlying55 p y q r rfl b_ wr u3 xs.length (kE xs) rfl m.out #[k,s.size] rfl rfl A_ a_ b_ g ?_);intro v1 w1 d u c n x));exact mw
  ·obtain⟨j,E⟩:=Int.eq_ofNat_of_zero_le (Int.not_lt.1 hneg);obtain⟨hkj,D⟩:=C.out.line E;have l:=hid D;clear D;rw[E] at t;have A:=hid t;clear t E hneg;go_wp2_with (first | (go_at_call 41;refine(A.out _).mono ?_;rintro e w' ⟨rfl,rfl⟩) | (at_builtin;go_must (refine rM rfl _ _ 55 rfl w.heap.size 42 i0 _ 2 16 Tryz.underlying55 p y q r rfl b_ wr u3 xs.length (kE xs) rfl m.out #[k, .int .i64 ((k:Int)+j+1)] rfl rfl A_ a_ b_ g ?_);intro v1 w1 d u c n x));have H:xs.length+1<=s.size:=by have:=l.out.len;simpa using this
   go_roundw
   case rel=>exact⟨k+j+1,xs++ [(k,k+j+1)],a_,by simpa using H,q_,iK.snoc d,o.out.trans c,l.out⟩
   case measure=>simp[RowKit.intOf];omega
end
section
open Go.Lib
def sZ:List (Nat×Nat)->List (Nat×Nat)
 | []=> []
 | [x]=> [x]
 | x::y::r=>(x.1,x.2-1)::sZ (y::r)
theorem Em: ∀l,(sZ l).length=l.length
 | []=>rfl
 | [_]=>rfl
 | x::y::r=>by rw[sZ,bH,Em (y::r)];rfl
structure bA where
 kind:Nat
 ind:Int
 fr:Nat
 til:Nat
 kf:Int
 kt:Int
 rf:Int
 rt:Int
 kids:List Nat
structure YS where
 lines:List aP
 nodes:List bA
 total:Nat
def kF (x:aP):Bool:=decide (3<=x.kind)&&decide (x.kind<=5)
inductive NX where
 | ok (k:Nat) (lines:List aP)
 | bad (a:Int) (er:Int)
def lW (s:aA):List (Nat×Nat)->Nat->List aP->NX
 | [],k,lines=> .ok k lines
 | x::r,k,lines=>match lines[k]? with
  | some l=>if kF l then .ok k lines else lW s r (k+1) lines
  | none=>if(eZ s x.1 x.2).2.2≠0 then .bad (eZ s x.1 x.2).2.1 (eZ s x.1 x.2).2.2 else
   if kF (eZ s x.1 x.2).1 then .ok k (lines++ [(eZ s x.1 x.2).1]) else lW s r (k+1) (lines++ [(eZ s x.1 x.2).1])
def fR (s:aA) (sp:List (Nat×Nat)) (k:Nat) (lines:List aP):NX:=lW s (sp.drop k) k lines
def eJ (s:aA) (x:Nat×Nat):aA:=(s.drop x.1).take (x.2-x.1)
def eQ (s:aA) (a b:Int):aA:=(s.drop a.toNat).take (b.toNat-a.toNat)
def aS (ls:List aP) (k:Nat):aP:=ls[k]?.getD aW
def lA (sp:List (Nat×Nat)) (k:Nat):Nat×Nat:=sp[k]?.getD (0,0)
def wB (sp:List (Nat×Nat)) (st:YS) (k:Nat):Int:=((lA sp k).1:Int)+(aS st.lines k).ind
inductive YR where
 | ok (n:Nat) (st:YS)
 | bad (a:Int) (er:Int)
def fM (x:bA) (lv:Nat) (a:Int) (st:YS):YR:=
 if lv=0 then .bad a 5 else if 4096<=st.total then .bad a 6 else .ok st.nodes.length ⟨st.lines,st.nodes++ [x],st.total+1⟩
def jW (s:aA) (lv:Nat) (k:Nat) (kf kt:Int) (st:YS):YR:=
 match fM ⟨1,(aS st.lines k).ind,k,k+1,kf,kt,(aS st.lines k).rf,(aS st.lines k).rt,[]⟩ lv (aS st.lines k).rf st with
 | .bad a e=> .bad a e
 | .ok n s1=>
  let v:=iB (eQ s (aS st.lines k).rf (aS st.lines k).rt)
  if v.2≠0 then .bad (aS st.lines k).rf v.2 else
  if lv<v.1.depth then .bad (aS st.lines k).rf 5 else
  if 4096<s1.total+v.1.size-1 then .bad (aS st.lines k).rf 6 else .ok n ⟨s1.lines,s1.nodes,s1.total+v.1.size-1⟩
def lB (s:aA) (ind:Int):List (Nat×Nat)->Nat->Nat->Nat->Nat
 | [],_,til,_=>til
 | x::r,i,til,first=>
  if aX (eJ s x)=(eJ s x).length then lB s ind r (i+1) til first else
  if(aX (eJ s x):Int)<=ind\/aX (eJ s x)<first then til else lB s ind r (i+1) (i+1) (if first=0 then aX (eJ s x) else first)
def oC (s:aA) (sp:List (Nat×Nat)) (ind:Int) (k:Nat):Nat:=lB s ind (sp.drop (k+1)) (k+1) (k+1) 0
def xS (d:Nat×Nat):Bool:=(d.1==65533&&d.2==1)||!(d.1==9||(decide (32<=d.1)&&d.1 !=127))
def oD (s:aA) (e:Nat):Nat->Nat->Nat
 | 0,i=>i
 | f+1,i=>if e<=i then i else if xS (decodeL (s.drop i)) then i else oD s e f (i+(decodeL (s.drop i)).2)
def mM (s:aA) (x:Nat×Nat):Nat:=oD s x.2 (x.2-x.1) x.1
def pD (s:aA) (x:Nat×Nat):aP:=⟨6,x.1,x.2,aX (eJ s x),0,0,0,0,0,0⟩
def nF (s:aA):List (Nat×Nat)->List aP->List aP ⊕ Int
 | [],ls=> .inl ls
 | x::r,ls=>if mM s x<x.2 then .inr (mM s x:Int) else nF s r (ls++ [pD s x])
def pE (s:aA) (sp:List (Nat×Nat)) (lv:Nat) (k:Nat) (kf kt:Int) (st:YS):YR:=
 match fM ⟨4,(aS st.lines k).ind,k,oC s sp (aS st.lines k).ind k,kf,kt,(aS st.lines k).rf,(aS st.lines k).rt,[]⟩ lv (aS st.lines k).rf st with
 | .bad a e=> .bad a e
 | .ok n s1=>match nF s ((sp.drop (k+1)).take (oC s sp (aS st.lines k).ind k-(k+1))) s1.lines with
  | .inr a=> .bad a 2
  | .inl ls=> .ok n ⟨ls,s1.nodes,s1.total⟩
abbrev YB:=Nat->Int->Int->YS->YR
def qZ (s:aA) (sp:List (Nat×Nat)) (B:YB) (lv:Nat):YB:=λk kf kt st=>
 let t:=eQ s (aS st.lines k).rf (aS st.lines k).rt
 if t= [124]\/t= [124,45] then pE s sp lv k kf kt st else
 if t= [] then
  match fR s sp (k+1) st.lines with
  | .bad a e=> .bad a e
  | .ok nx ls=>if nx<sp.length/\(aS st.lines k).ind<(aS ls nx).ind then B nx kf kt ⟨ls,st.nodes,st.total⟩ else jW s lv k kf kt ⟨ls,st.nodes,st.total⟩
 else jW s lv k kf kt st
def uM (f:bA->bA):Nat->List bA->List bA
 | _,[]=> []
 | 0,x::l=>f x::l
 | n+1,x::l=>x::uM f n l
def iL (ns:List bA) (k:Nat):Nat:=match ns[k]? with
 | some x=>x.til
 | none=>0
def iU (n kid:Nat) (ns:List bA):List bA:=uM (λx=> { x with kids:=x.kids++ [kid],til:=iL ns kid }) n ns
def fN (s:aA) (V:YB) (map:Bool) (had:List aA) (k:Nat) (st:YS):YR×List aA:=
 if map then
  let kr:=jM (eQ s (aS st.lines k).kf (aS st.lines k).kt)
  if kr.2≠0 then(.bad (aS st.lines k).kf kr.2,had) else
  if kr.1∈had then(.bad (aS st.lines k).kf 7,had) else(V k (aS st.lines k).kf (aS st.lines k).kt st,kr.1::had)
 else(V k 0 0 st,had)
inductive OR where
 | ok (nx:Nat) (st:YS) (had:List aA)
 | bad (a:Int) (er:Int)
def iM (s:aA) (sp:List (Nat×Nat)) (V:YB) (map:Bool) (n:Nat) (ind:Int) (had:List aA) (k:Nat) (st:YS):OR:=
 match fN s V map had k st with
 | (.bad a e,_)=> .bad a e
 | (.ok kid s2,had')=>
  match fR s sp (iL s2.nodes kid) s2.lines with
  | .bad a e=> .bad a e
  | .ok nx ls=>if nx<sp.length/\ind<(aS ls nx).ind then .bad (((lA sp nx).1:Int)+(aS ls nx).ind) 2 else .ok nx ⟨ls,iU n kid s2.nodes,s2.total⟩ had'
def nG (s:aA) (sp:List (Nat×Nat)) (V:YB) (map:Bool) (n:Nat) (ind kind:Int):Nat->List aA->Nat->YS->YR
 | 0,_,_,st=> .ok n st
 | f+1,had,k,st=>
  if k<sp.length/\(aS st.lines k).ind=ind/\(aS st.lines k).kind=kind then
   match iM s sp V map n ind had k st with
   | .bad a e=> .bad a e
   | .ok nx s2 had'=>nG s sp V map n ind kind f had' nx s2
  else .ok n st
def oE (s:aA) (sp:List (Nat×Nat)) (V:YB) (lv:Nat):YB:=λk kf kt st=>
 let x:=aS st.lines k
 if x.kind=5 then jW s lv k kf kt st else
 match fM ⟨if x.kind=4 then 3 else 2,x.ind,k,0,kf,kt,0,0,[]⟩ lv (wB sp st k) st with
 | .bad a e=> .bad a e
 | .ok n s1=>nG s sp V (decide (x.kind=4)) n x.ind x.kind (sp.length-k) [] k s1
def tA (s:aA) (sp:List (Nat×Nat)):Nat->YB
 | 0=>oE s sp (λ_ _ _ _=> .bad 0 0) 0
 | lv+1=>oE s sp (qZ s sp (tA s sp lv) lv) (lv+1)
structure gD where
 lines:List aP
 nodes:List bA
def pV (s:aA) (sp:List (Nat×Nat)):gD×Int×Int:=
 match fR s sp 0 [] with
 | .bad a e=>(⟨[],[]⟩,a,e)
 | .ok k ls=>
  if ¬k<sp.length then(⟨ls,[⟨1,0,0,0,0,0,(s.length:Int),(s.length:Int),[]⟩]⟩,(s.length:Int),0) else
  match tA s sp 32 k 0 0 ⟨ls,[],0⟩ with
  | .bad a e=>(⟨[],[]⟩,a,e)
  | .ok _ st=>
   match fR s sp (iL st.nodes 0) st.lines with
   | .bad a e=>(⟨[],[]⟩,a,e)
   | .ok k2 ls2=>if k2<sp.length then(⟨[],[]⟩,((lA sp k2).1:Int)+(aS ls2 k2).ind,2) else(⟨ls2,st.nodes⟩,(s.length:Int),0)
def oF (s:aA):List (Nat×Nat):=sZ (gC s 0 0)
def pF (s:aA):gD×Int×Int:=if 65536<s.length then(⟨[],[]⟩,0,3) else pV s (oF s)
end
section
open Go.RowKit
open Go.Lib hiding intOf
theorem pG {α:Type} (f:α->List Value) (m:Nat) (hf: ∀x,(f x).length=m): ∀(z:List α) (j:Nat) (y:α),z[j]?=some y-> ∀i,i<m->(z.flatMap f)[j*m+i]?=(f y)[i]?
 | [],j,y,h,i,hi=>by simp at h
 | x::z,0,y,h,i,hi=>by
  obtain rfl:x=y:=r_
  rw[List.flatMap_cons,Nat.zero_mul,Nat.zero_add,qO (by rw[hf];exact hi)]
 | x::z,j+1,y,h,i,hi=>by
  rw[bZ] at h;have:=pG f m hf z j y h i hi;rw[List.flatMap_cons,kT (by rw[hf,Nat.succ_mul];omega),<-this];congr 1;rw[hf,Nat.succ_mul];omega
theorem xT {α:Type} (f:α->List Value) (m:Nat) (hf: ∀x,(f x).length=m): ∀(z:List α) (j:Nat) (y y':α),z[j]?=some y-> ∀i u,i<m->(f y).set i u=f y'->(z.flatMap f).set (j*m+i) u=(z.set j y').flatMap f
 | [],j,y,y',h,i,u,hi,hu=>by simp at h
 | x::z,0,y,y',h,i,u,hi,hu=>by
  obtain rfl:x=y:=r_
  rw[List.flatMap_cons,Nat.zero_mul,Nat.zero_add,List.set_append_left _ _ (by rw[hf];exact hi),hu];rfl
 | x::z,j+1,y,y',h,i,u,hi,hu=>by
  rw[bZ] at h;have:=xT f m hf z j y y' h i u hi hu;rw[List.flatMap_cons,List.set_append_right _ _ (by rw[hf,Nat.succ_mul];omega),cP,List.flatMap_cons,<-this];congr 2;rw[hf,Nat.succ_mul];omega
def rA (r:aP):List Value:= [r.kind,r.sf,r.st,r.ind,r.kf,r.kt,r.rf,r.rt,r.nf,r.nt]
def gK (l:List aP):List Value:=l.flatMap rA
abbrev YN:=bA×Value
def jX (y:YN):List Value:= [y.1.kind,y.1.ind,y.1.fr,y.1.til,y.1.kf,y.1.kt,y.1.rf,y.1.rt,y.2]
def iC (z:List YN):List Value:=z.flatMap jX
theorem En (r:aP):(rA r).length=10:=rfl
theorem xU (y:YN):(jX y).length=9:=rfl
def uN (z:List YN):Prop:= ∀(i j:Nat) (yi yj:YN),i≠j->z[i]?=some yi->z[j]?=some yj->yi.2.ownBlock=none\/yi.2.ownBlock≠yj.2.ownBlock
theorem uN.push {z:List YN}{y:YN} (h:uN z) (hy:y.2.ownBlock=none):uN (z++ [y]):=vj
theorem uN.set {z:List YN}{n:Nat}{y y':YN} (h:uN z) (hn:z[n]?=some y) (hb:y'.2.ownBlock=y.2.ownBlock\/ ∀(j:Nat) (yj:YN),z[j]?=some yj->yj.2.ownBlock≠y'.2.ownBlock):uN (z.set n y'):=sg
structure fH (B:Nat) (z:List YN) (nv:Value) (w:World):Prop where
 row:w.ownsRow B 45 9 nv z.length (iC z)
 kids: ∀y∈z,w.ownsRow B 3 1 y.2 y.1.kids.length (dJ y.1.kids)
 ak:uN z
theorem fH.nil (B:Nat) (w:World):fH B [] (.slice none 0 0) w:=
 ⟨⟨rfl, .inl ⟨rfl,rfl⟩⟩,λy b=>(by cases b),λi j yi yj _ h=>(by simp at h)⟩
section
variable {B:Nat}{z:List YN}{nv:Value}{w w' w1:World}
theorem fH.keep (h:fH B z nv w) (hb:Below w.heap.size w w'):fH B z nv w':=
 ⟨gH h.row hb,λy b=>gH (h.kids y b) hb,h.ak⟩
theorem fH.other (h:fH B z nv w) {X:Nat}{cs:Array Value}{t:TypeId}{fz:Nat×Nat} (hX:w.heap[X]?=some (.cells cs t fz)) (h1:45≠t) (h2:3≠t) (hg:w.grownBy w' (some X)):fH B z nv w':=
 ⟨h.row.kept hg (cQ h.row hX h1),λy b=>(h.kids y b).kept hg (cQ (h.kids y b) hX h2),h.ak⟩
theorem fH.grow (h:fH B z nv w) {B2 s n:Nat}{e:TypeId}{v:Value}{xs:List Value} (hr:w.ownsRow B2 e s v n xs) (h1:45≠e) (h2:3≠e) (hg:w.grownBy w' v.ownBlock):fH B z nv w':=
 ⟨h.row.kept hg (gI h.row hr h1),λy b=>(h.kids y b).kept hg (gI (h.kids y b) hr h2),h.ak⟩
theorem fH.push (h:fH B z nv w) {nv':Value}{x:bA} (hk:x.kids= []) (hr:w'.ownsRow B 45 9 nv' (z.length+1) (iC z++jX (x, .slice none 0 0))) (hg:w.grownBy w' nv.ownBlock):
  fH B (z++ [(x, .slice none 0 0)]) nv' w':=by
 refine⟨?_,λy b=>?_,h.ak.push rfl⟩
 ·have e:iC (z++ [(x, .slice none 0 0)])=iC z++jX (x, .slice none 0 0):=by unfold iC;simp
  rw[e,aT];exact hr
 ·exact jv
theorem fH.form (h:fH B z nv w) (hz:z≠ []): ∃g cap cur,nv= .slice (some ⟨g,0,none⟩) z.length cap/\z.length<=cap/\B<=g/\w.heap[g]?=some (.cells cur 45 (0,0)):=jz
theorem fH.at_ {g cap:Nat} (h:fH B z (.slice (some ⟨g,0,none⟩) z.length cap) w) {n:Nat}{y:YN} (hy:z[n]?=some y) (i:Nat) (hi:i<9) {u:Value} (hu:(jX y)[i]?=some u):
  w.cell? ⟨g,n*9+i,none⟩=some u/\w.frozen? ⟨g,n*9+i,none⟩=false:=by
 have hn:=(aR.1 hy).1;refine⟨?_,World.ownsRow.frozenAt h.row _⟩;rw[World.ownsRow.cellAt h.row _ a_,iC,pG _ 9 xU z n y hy i hi,hu]
theorem fH.field {g cap:Nat} (h:fH B z (.slice (some ⟨g,0,none⟩) z.length cap) w) {n:Nat}{y y':YN} (hy:z[n]?=some y) (i:Nat) (hi:i<9) (u:Value) (hu:(jX y).set i u=jX y') (hk:y'.1.kids=y.1.kids) (h1:y'.2=y.2):
  fH B (z.set n y') (.slice (some ⟨g,0,none⟩) (z.set n y').length cap) (w.setCell ⟨g,n*9+i,none⟩ u):=tu
theorem fH.kid {g cap:Nat} (h:fH B z (.slice (some ⟨g,0,none⟩) z.length cap) w) {n k:Nat}{y:YN} (hy:z[n]?=some y) {kv:Value}{H:Nat} (hH:w.heap.size<=H)
  (hr:w1.ownsRow B 3 1 kv (y.1.kids.length+1) (dJ y.1.kids++ [.int .i64 (k:Int)])) (hg:w.grownBy w1 y.2.ownBlock) (hat:kv.ownBlock=y.2.ownBlock\/kv.ownBlock=some H):
  fH B (z.set n ({ y.1 with kids:=y.1.kids++ [k] },kv)) (.slice (some ⟨g,0,none⟩) (z.set n ({ y.1 with kids:=y.1.kids++ [k] },kv)).length cap) (w1.setCell ⟨g,n*9+8,none⟩ kv):=by
 have zp:=trivial;exact rp
end
abbrev aJ:=Nat->Option Obj
def aJ.put (Pr:aJ) (X:Nat) (o:Obj):aJ:=λk=>if k=X then some o else Pr k
theorem aJ.put_eq (Pr:aJ) (X:Nat) (o:Obj):Pr.put X o X=some o:=if_pos rfl
theorem aJ.put_ne (Pr:aJ) {X k:Nat} (o:Obj) (h:k≠X):Pr.put X o k=Pr k:=if_neg h
structure YK (T:TypeId) (Pr:aJ) (w0:World) (P:Nat) (txt:aA) (sp:List (Nat×Nat)) (lines:List aP) (z:List YN) (tot:Nat) (a er:Int) (sv lv nv:Value) (w:World):Prop where
 box:w.heap[P]?=some (.cells #[bs txt,sv,lv,nv,tot,a,er] T (0,0))
 spr:w.ownsRow w0.heap.size 42 2 sv sp.length (kE sp)
 lnr:w.ownsRow w0.heap.size 68 10 lv lines.length (gK lines)
 nod:fH w0.heap.size z nv w
 hB:w0.heap.size<=P
 ty:T≠42/\T≠68/\T≠45/\T≠3
 bel:Below w0.heap.size w0 w
 fr: ∀k o,Pr k=some o->w.heap[k]?=some o/\k≠P/\lv.ownBlock≠some k/\nv.ownBlock≠some k/\ ∀y∈z,y.2.ownBlock≠some k
section
variable {T:TypeId}{Pr:aJ}{w0 w w' w1:World}{P:Nat}{txt:aA}{sp:List (Nat×Nat)}{lines:List aP}{z:List YN}{tot:Nat}{a er:Int}{sv lv nv:Value}
theorem YK.keep (h:YK T Pr w0 P txt sp lines z tot a er sv lv nv w) (hb:Below w.heap.size w w'):YK T Pr w0 P txt sp lines z tot a er sv lv nv w':=
 ⟨(hb.block P (aF h.box)).trans h.box,gH h.spr hb,gH h.lnr hb,h.nod.keep hb,h.hB,h.ty,h.bel.trans (hb.mono h.bel.size),λk o c=>by obtain⟨b,d⟩:=h.fr k o c;exact⟨(hb.block k (aF b)).trans b,d⟩⟩
theorem YK.lt (h:YK T Pr w0 P txt sp lines z tot a er sv lv nv w):P<w.heap.size:=aF h.box
theorem YK.cells (h:YK T Pr w0 P txt sp lines z tot a er sv lv nv w):(w.cell? ⟨P,0,none⟩=some (.string (bs txt))/\w.cell? ⟨P,1,none⟩=some sv/\w.cell? ⟨P,2,none⟩=some lv/\w.cell? ⟨P,3,none⟩=some nv/\w.cell? ⟨P,4,none⟩=some (.int .i64 (tot:Int))/\w.cell? ⟨P,5,none⟩=some (.int .i64 a)/\w.cell? ⟨P,6,none⟩=some (.int .i64 er))/\
  w.frozen? ⟨P,2,none⟩=false/\w.frozen? ⟨P,3,none⟩=false/\w.frozen? ⟨P,4,none⟩=false/\w.frozen? ⟨P,5,none⟩=false/\w.frozen? ⟨P,6,none⟩=false:=by
 have b:=h.box;refine⟨⟨?_,?_,?_,?_,?_,?_,?_⟩,?_,?_,?_,?_,?_⟩<;>simp[World.cell?,World.frozen?,b]
theorem YK.put (h:YK T Pr w0 P txt sp lines z tot a er sv lv nv w) (hb:Below w.heap.size w w') {X:Nat}{o:Obj} (hX:w.heap.size<=X) (ho:w'.heap[X]?=some o):YK T (Pr.put X o) w0 P txt sp lines z tot a er sv lv nv w':=by
 have BQ:=trivial;exact uq
theorem YK.frLt (h:YK T Pr w0 P txt sp lines z tot a er sv lv nv w) {k:Nat}{o:Obj} (hk:Pr k=some o):k<w.heap.size:=aF (h.fr k o hk).1
theorem YK.less {Pr':aJ} (h:YK T Pr w0 P txt sp lines z tot a er sv lv nv w) (hp: ∀k o,Pr' k=some o->Pr k=some o):YK T Pr' w0 P txt sp lines z tot a er sv lv nv w:=
 ⟨h.box,h.spr,h.lnr,h.nod,h.hB,h.ty,h.bel,λk o b=>h.fr k o (hp k o b)⟩
theorem aJ.put_less {N X:Nat}{o:Obj} (hp: ∀k o',Pr k=some o'->k<N) (hX:N<=X): ∀k o',Pr k=some o'->Pr.put X o k=some o':=λk o' b=>by
 have:=hp k o' b;rw[aJ.put_ne _ _ a_];exact b
theorem YK.boxed (h:YK T Pr w0 P txt sp lines z tot a er sv lv nv w) (i:Nat) (u:Value) {tot':Nat}{a' er':Int} (hu:([bs txt,sv,lv,nv,tot,a,er]:List Value).set i u= [.string (bs txt),sv,lv,nv, .int .i64 (tot':Int), .int .i64 a', .int .i64 er']):
  YK T Pr w0 P txt sp lines z tot' a' er' sv lv nv (w.setCell ⟨P,i,none⟩ u):=by
 have c:=h.box;have d:=cT w P i u;have b: ∀ {e:TypeId}{s n:Nat}{v:Value}{xs:List Value},w.ownsRow w0.heap.size e s v n xs->e≠T->(w.setCell ⟨P,i,none⟩ u).ownsRow w0.heap.size e s v n xs:=λf g=>f.kept d (cQ f c g);obtain⟨t1,t2,t3,t4⟩:=h.ty;refine⟨?_,b h.spr (Ne.symm t1),b h.lnr (Ne.symm t2),h.nod.other c (Ne.symm t3) (Ne.symm t4) d,h.hB,h.ty,h.bel.setCell (p:=⟨P,i,none⟩) h.hB u,λk o j=>?_⟩
 ·simp[World.setCell,Array.getElem?_modify,c,hu]
 ·obtain⟨f1,f2,f3⟩:=h.fr k o j;exact⟨by rw[eC w ⟨P,i,none⟩ u k f2];exact f1,f2,f3⟩
theorem YK.fail (h:YK T Pr w0 P txt sp lines z tot a er sv lv nv w) (a2 e2:Int):YK T Pr w0 P txt sp lines z tot a2 e2 sv lv nv ((w.setCell ⟨P,5,none⟩ (.int .i64 a2)).setCell ⟨P,6,none⟩ (.int .i64 e2)):=
 (h.boxed 5 (.int .i64 a2) (tot':=tot) (a':=a2) (er':=er) rfl).boxed 6 (.int .i64 e2) rfl
theorem YK.count (h:YK T Pr w0 P txt sp lines z tot a er sv lv nv w) (t2:Nat):YK T Pr w0 P txt sp lines z t2 a er sv lv nv (w.setCell ⟨P,4,none⟩ (.int .i64 (t2:Int))):=
 h.boxed 4 (.int .i64 (t2:Int)) rfl
theorem YK.box_grown (h:YK T Pr w0 P txt sp lines z tot a er sv lv nv w) {B2 s n:Nat}{e:TypeId}{v:Value}{xs:List Value} (hr:w.ownsRow B2 e s v n xs) (he:e≠T) (hg:w.grownBy w1 v.ownBlock):w1.heap[P]?=some (.cells #[bs txt,sv,lv,nv,tot,a,er] T (0,0)):=by
 rw[hg.block P h.lt (λe2=>by
  rcases cQ hr h.box he with b | b
  ·rw[b] at e2;cases e2
  ·exact b e2.symm)]
 exact h.box
theorem Eo {v v':Value}{H N k:Nat} (hat:v'.ownBlock=v.ownBlock\/v'.ownBlock=some H) (hH:N<=H) (hk:k<N) (hv:v.ownBlock≠some k):v'.ownBlock≠some k:=by
 rcases hat with e | e
 ·rw[e];exact hv
 ·rw[e];intro e2;have:=aV e2;omega
theorem pW {k:Nat}{o:Obj}{r:Option Nat} (hg:w.grownBy w1 r) (hk:w.heap[k]?=some o) (hr:r≠some k):w1.heap[k]?=some o:=by
 rw[hg.block k (aF hk) (λe=>hr e.symm)];exact hk
theorem YK.line (h:YK T Pr w0 P txt sp lines z tot a er sv lv nv w) {lv':Value}{r:aP}{H:Nat} (hH:w.heap.size<=H) (hr:w1.ownsRow w0.heap.size 68 10 lv' (lines.length+1) (gK lines++rA r)) (hg:w.grownBy w1 lv.ownBlock) (hat:lv'.ownBlock=lv.ownBlock\/lv'.ownBlock=some H):
  YK T Pr w0 P txt sp (lines++ [r]) z tot a er sv lv' nv (w1.setCell ⟨P,2,none⟩ lv'):=by
 have DJ:=trivial;exact vg
theorem YK.node (h:YK T Pr w0 P txt sp lines z tot a er sv lv nv w) {nv':Value}{x:bA} (hx:x.kids= []) {H:Nat} (hH:w.heap.size<=H) (hr:w1.ownsRow w0.heap.size 45 9 nv' (z.length+1) (iC z++jX (x, .slice none 0 0))) (hg:w.grownBy w1 nv.ownBlock) (hat:nv'.ownBlock=nv.ownBlock\/nv'.ownBlock=some H):
  YK T Pr w0 P txt sp lines (z++ [(x, .slice none 0 0)]) tot a er sv lv nv' (w1.setCell ⟨P,3,none⟩ nv'):=vg
theorem YK.kid {g cap:Nat} (h:YK T Pr w0 P txt sp lines z tot a er sv lv (.slice (some ⟨g,0,none⟩) z.length cap) w) {n k:Nat}{y:YN} (hy:z[n]?=some y) {kv:Value}{H:Nat} (hH:w.heap.size<=H)
  (hr:w1.ownsRow w0.heap.size 3 1 kv (y.1.kids.length+1) (dJ y.1.kids++ [.int .i64 (k:Int)])) (hg:w.grownBy w1 y.2.ownBlock) (hat:kv.ownBlock=y.2.ownBlock\/kv.ownBlock=some H):
  YK T Pr w0 P txt sp lines (z.set n ({ y.1 with kids:=y.1.kids++ [k] },kv)) tot a er sv lv (.slice (some ⟨g,0,none⟩) (z.set n ({ y.1 with kids:=y.1.kids++ [k] },kv)).length cap) (w1.setCell ⟨g,n*9+8,none⟩ kv):=by
 have DE:=trivial;exact vb
theorem YK.til {g cap:Nat} (h:YK T Pr w0 P txt sp lines z tot a er sv lv (.slice (some ⟨g,0,none⟩) z.length cap) w) {n:Nat}{y:YN} (hy:z[n]?=some y) (e:Nat):
  YK T Pr w0 P txt sp lines (z.set n ({ y.1 with til:=e },y.2)) tot a er sv lv (.slice (some ⟨g,0,none⟩) (z.set n ({ y.1 with til:=e },y.2)).length cap) (w.setCell ⟨g,n*9+3,none⟩ (.int .i64 (e:Int))):=by
 have DF:=trivial;exact vb
theorem YK.lineAt (h:YK T Pr w0 P txt sp lines z tot a er sv lv nv w) {k:Nat}{r:aP} (hr:lines[k]?=some r): ∃g cap,lv= .slice (some ⟨g,0,none⟩) lines.length cap/\lines.length<=cap/\ ∀i u,i<10->(rA r)[i]?=some u->w.cell? ⟨g,k*10+i,none⟩=some u:=by
 have hl:=(aR.1 hr).1;rcases h.lnr.2 with⟨_,c⟩ | ⟨g,cap,cur,c,h2,h3,f,_⟩
 ·omega
 ·refine⟨g,cap,c,f,λi u d e=>?_⟩;have b:=h.lnr;rw[c] at b;rw[World.ownsRow.cellAt b _ a_,gK,pG _ 10 En lines k r hr i d,e]
theorem YK.lnSlice (h:YK T Pr w0 P txt sp lines z tot a er sv lv nv w): ∃p cap,lv= .slice p lines.length cap:=by
 rcases h.lnr.2 with⟨h0,h1⟩ | ⟨g,cap,dL,h1,h2,h3,h4,_⟩
 ·exact ax
 ·exact ay
theorem wC (p:Nat×Nat):([p.1,p.2]:List Value).length=2:=rfl
theorem YK.spanAt (h:YK T Pr w0 P txt sp lines z tot a er sv lv nv w) {k:Nat}{r:Nat×Nat} (hr:sp[k]?=some r): ∃g cap,sv= .slice (some ⟨g,0,none⟩) sp.length cap/\sp.length<=cap/\w.cell? ⟨g,k*2,none⟩=some (.int .i64 (r.1:Int))/\w.cell? ⟨g,k*2+1,none⟩=some (.int .i64 (r.2:Int)):=by
 have hl:=(aR.1 hr).1;rcases h.spr.2 with⟨_,d⟩ | ⟨g,cap,cur,d,h2,h3,e,_⟩
 ·omega
 ·have b:=h.spr;rw[d] at b;have c:=pG (λp:Nat×Nat=>([p.1,p.2]:List Value)) 2 wC sp k r hr;refine⟨g,cap,d,e,?_,?_⟩
  ·have:=c 0 a_;rw[Nat.add_zero] at this;rw[World.ownsRow.cellAt b _ a_];exact this
  ·rw[World.ownsRow.cellAt b _ a_];exact c 1 a_
theorem YK.spSlice (h:YK T Pr w0 P txt sp lines z tot a er sv lv nv w): ∃p cap,sv= .slice p sp.length cap:=by
 rcases h.spr.2 with⟨h0,h1⟩ | ⟨g,cap,dL,h1,h2,h3,h4,_⟩
 ·exact ax
 ·exact ay
end
end
end Go.Proofs.YtfhjncbdgjlcoaaGreatDoor
