import Derived.Test.YtaifnmjjpddikaaGreatDoorRl3
import Derived.Test.YtaifnmjjpddikaaGreatDoorRl1
import Derived.Deep.DeepCutAuto
import Derived.Test.YtaifnmjjpddikaaGreatDoorProg
import Derived.Lib.AppendStr
import Derived.Lib.UnsafeStr
import Derived.Deep.AppendLies
import Derived.Laws.IdiomStrings
import Derived.Laws.BytesArg
import Derived.Laws.BitsAllLaws
namespace Go.Proofs.YtaifnmjjpddikaaGreatDoor
set_option linter.unusedVariables false
set_option linter.unusedSimpArgs false
section
abbrev aA:=List UInt8
inductive VT where
 | mk (kind:Int) (text:aA) (keys:List aA) (items:List VT)
def VT.kind:VT->Int | .mk k _ _ _=>k
def VT.text:VT->aA | .mk _ s _ _=>s
def VT.keys:VT->List aA | .mk _ _ ks _=>ks
def VT.items:VT->List VT | .mk _ _ _ l=>l
theorem VT.eta (t:VT):VT.mk t.kind t.text t.keys t.items=t:=by cases t;rfl
theorem VT.ind {P:VT->Prop} (h: ∀k s ks l,(∀x∈l,P x)->P (.mk k s ks l)) (t:VT):P t:=by
 match t with
 | .mk k s ks l=>exact h k s ks l (λx hx=>VT.ind h x)
termination_by SizeOf.sizeOf t
decreasing_by
 have:=List.sizeOf_lt_of_mem hx;simp;omega
def gE (l:List aA):Nat:=(l.map List.length).sum
theorem yC (y:aA) (l:List aA):gE (y::l)=y.length+gE l:=rfl
theorem Hr {l:List aA}{x:aA} (h:x∈l):x.length<=gE l:=by
 induction l with
 | nil=>cases h
 | cons y l ih=>
  rw[yC];rcases dC.1 h with rfl | h
  ·omega
  ·have:=ih h;omega
mutual
def VT.size:VT->Nat
 | .mk _ _ _ l=>dR l+1
def dR:List VT->Nat
 | []=>0
 | x::l=>x.size+dR l
end
mutual
def VT.depth:VT->Nat
 | .mk _ _ _ l=>dN l+1
def dN:List VT->Nat
 | []=>0
 | x::l=>max x.depth (dN l)
end
mutual
def VT.bulk:VT->Nat
 | .mk _ s ks l=>s.length+(gE ks+ks.length)+dS l+1
def dS:List VT->Nat
 | []=>0
 | x::l=>x.bulk+dS l
end
mutual
def cB (p:VT->Bool):VT->Bool
 | .mk k s ks l=>p (.mk k s ks l)&&jY p l
def jY (p:VT->Bool):List VT->Bool
 | []=>true
 | x::l=>cB p x&&jY p l
end
theorem Si (l:List VT):dR l=(l.map VT.size).sum:=by
 induction l with
 | nil=>rfl
 | cons x l ih=>rw[dR,ih];rfl
theorem Hs (p:VT->Bool) (l:List VT):jY p l=l.all (cB p):=by
 induction l with
 | nil=>rfl
 | cons x l ih=>rw[jY,ih];rfl
theorem Ht (a b:List VT):dR (a++b)=dR a+dR b:=by simp[Si]
theorem Hu (a b:List VT):dN (a++b)=max (dN a) (dN b):=by
 induction a with
 | nil=>simp[dN]
 | cons x a ih=>rw[jW,dN,dN,ih];omega
theorem vS (t:VT):0<t.size:=by cases t;rw[VT.size];omega
theorem vT (t:VT):t.size<=t.bulk:=by
 induction t using VT.ind with
 | h k s ks l ih=>
  rw[VT.size,VT.bulk];have:dR l<=dS l:=by
   clear k s ks
   induction l with
   | nil=>exact aE _
   | cons x l ihl=>
    rw[dR,dS];have h1:=ih x gS;have h2:=ihl (λy b=>ih y (List.mem_cons_of_mem _ b));omega
  omega
theorem Sj (l:List VT):dR l<=dS l:=by
 induction l with
 | nil=>exact aE _
 | cons x l ih=>rw[dR,dS];have:=vT x;omega
theorem Ba (t:VT):t.depth<=t.size:=by
 induction t using VT.ind with
 | h k s ks l ih=>
  rw[VT.size,VT.depth];have:dN l<=dR l:=by
   clear k s ks
   induction l with
   | nil=>exact aE _
   | cons x l ihl=>
    rw[dR,dN];have h1:=ih x gS;have h2:=ihl (λy b=>ih y (List.mem_cons_of_mem _ b));omega
  omega
theorem Bb (l:List VT):dN l<=dS l:=by
 induction l with
 | nil=>exact aE _
 | cons x l ih=>rw[dN,dS];have:=Ba x;have:=vT x;omega
theorem rE (l:List VT):l.length<=dS l:=by
 induction l with
 | nil=>exact aE _
 | cons x l ih=>rw[dS,aV];have:=vS x;have:=vT x;omega
theorem uB {l:List VT}{x:VT} (h:x∈l):x.bulk<=dS l:=by
 induction l with
 | nil=>cases h
 | cons y l ih=>
  rw[dS];rcases dC.1 h with rfl | h
  ·omega
  ·have:=ih h;omega
theorem Sk {l:List VT}{x:VT} (h:x∈l):x.size<=dR l:=by
 induction l with
 | nil=>cases h
 | cons y l ih=>
  rw[dR];rcases dC.1 h with rfl | h
  ·omega
  ·have:=ih h;omega
theorem Hv {l:List VT}{x:VT} (h:x∈l):x.depth<=dN l:=by
 induction l with
 | nil=>cases h
 | cons y l ih=>
  rw[dN];rcases dC.1 h with rfl | h
  ·omega
  ·have:=ih h;omega
end
section
open Go.RowKit
def nP (w:World) (p:Option Addr) (l:List aA):Prop:=l= []\/ ∃g o,p=some ⟨g,o,none⟩/\g<w.heap.size/\ ∀(j:Nat) (x:aA),l[j]?=some x->w.cell? ⟨g,o+j,none⟩=some (.string (bs x))
theorem nP.keep {w w':World}{p:Option Addr}{l:List aA} (h:nP w p l) (hb:Below w.heap.size w w'):nP w' p l:=by
 rcases h with h | ⟨g,o,e,b,c⟩
 ·exact .inl h
 ·exact .inr ⟨g,o,e,fV b hb.size,λj x d=>by rw[hb.cell (p:=⟨g,o+j,none⟩) b];exact c j x d⟩
theorem nP.at_ {w:World}{p:Option Addr}{l:List aA} (h:nP w p l) {j:Nat}{x:aA} (hx:l[j]?=some x): ∃g o,p=some ⟨g,o,none⟩/\w.cell? ⟨g,o+j,none⟩=some (.string (bs x)):=by
 rcases h with h | ⟨g,o,c,h3,b⟩
 ·rw[h] at hx;simp at hx
 ·exact⟨g,o,c,b j x hx⟩
def SV (w:World) (v:Value) (l:List aA):Prop:= ∃p c,v= .slice p l.length c/\l.length<=c/\nP w p l
theorem SV.keep {w w':World}{v:Value}{l:List aA} (h:SV w v l) (hb:Below w.heap.size w w'):SV w' v l:=by
 obtain⟨p,c,b,d,e⟩:=h;exact⟨p,c,b,d,e.keep hb⟩
def VD (w:World):Nat->VT->Value->Value->Prop
 | 0,_,_,_=>False
 | n+1,t,kv,iv=>SV w kv t.keys/\ ∃p c,iv= .slice p t.items.length c/\t.items.length<=c/\(t.items= []\/ ∃g o,p=some ⟨g,o,none⟩/\g<w.heap.size/\ ∀(j:Nat) (x:VT),t.items[j]?=some x-> ∃kv' iv',w.cell? ⟨g,o+j*4,none⟩=some (.int .i64 x.kind)/\w.cell? ⟨g,o+j*4+1,none⟩=some (.string (bs x.text))/\w.cell? ⟨g,o+j*4+2,none⟩=some kv'/\w.cell? ⟨g,o+j*4+3,none⟩=some iv'/\VD w n x kv' iv')
def vv (t:VT) (kv iv:Value):Value:= .agg #[.int .i64 t.kind, .string (bs t.text),kv,iv]
theorem VD.keep {w w':World} (hb:Below w.heap.size w w'): ∀ {n:Nat}{t:VT}{kv iv:Value},VD w n t kv iv->VD w' n t kv iv
 | 0,_,_,_,h=>h
 | n+1,t,kv,iv,h=>by
  obtain⟨h1,p,c,h2,h3,h4⟩:=h;refine⟨h1.keep hb,p,c,h2,h3,?_⟩;rcases h4 with h4 | ⟨g,o,h4,b,e⟩
  ·exact .inl h4
  ·refine .inr ⟨g,o,h4,fV b hb.size,λj x d=>?_⟩;obtain⟨kv',iv',e0,e1,e2,e3,e4⟩:=e j x d;exact⟨kv',iv',by rw[hb.cell (p:=⟨g,_,none⟩) b];exact e0,by rw[hb.cell (p:=⟨g,_,none⟩) b];exact e1,by rw[hb.cell (p:=⟨g,_,none⟩) b];exact e2,by rw[hb.cell (p:=⟨g,_,none⟩) b];exact e3,VD.keep hb e4⟩
def uC (w:World) (m:Nat) (p:Option Addr) (l:List VT):Prop:= ∀(j:Nat) (x:VT),l[j]?=some x-> ∃g o kv' iv',p=some ⟨g,o,none⟩/\g<w.heap.size/\w.cell? ⟨g,o+j*4,none⟩=some (.int .i64 x.kind)/\w.cell? ⟨g,o+j*4+1,none⟩=some (.string (bs x.text))/\w.cell? ⟨g,o+j*4+2,none⟩=some kv'/\w.cell? ⟨g,o+j*4+3,none⟩=some iv'/\VD w m x kv' iv'
theorem uC.keep {w w':World}{m:Nat}{p:Option Addr}{l:List VT} (h:uC w m p l) (hb:Below w.heap.size w w'):uC w' m p l:=by
 intro j x b;obtain⟨g,o,kv,iv,e0,e1,e2,e3,e4,e5,e6⟩:=h j x b;exact⟨g,o,kv,iv,e0,fV e1 hb.size,by rw[hb.cell (p:=⟨g,_,none⟩) e1];exact e2,by rw[hb.cell (p:=⟨g,_,none⟩) e1];exact e3,by rw[hb.cell (p:=⟨g,_,none⟩) e1];exact e4,by rw[hb.cell (p:=⟨g,_,none⟩) e1];exact e5,e6.keep hb⟩
theorem VD.parts {w:World}{n:Nat}{t:VT}{kv iv:Value} (h:VD w n t kv iv): ∃m,n=m+1/\SV w kv t.keys/\ ∃p c,iv= .slice p t.items.length c/\t.items.length<=c/\uC w m p t.items:=by
 cases n with
 | zero=>exact h.elim
 | succ m=>
  obtain⟨i,p,c,q,f,b⟩:=h;refine⟨m,rfl,i,p,c,q,f,λj x d=>?_⟩;rcases b with b | ⟨g,o,b,k,r⟩
  ·rw[b] at d;simp at d
  ·obtain⟨kv',iv',e⟩:=r j x d;exact⟨g,o,kv',iv',b,k,e⟩
theorem VD.form {w:World}{n:Nat}{t:VT}{kv iv:Value} (h:VD w n t kv iv): ∃pk ck p c,kv= .slice pk t.keys.length ck/\iv= .slice p t.items.length c:=by
 obtain⟨_,_,⟨pk,ck,b,_,_⟩,p,c,d,_,_⟩:=h.parts;exact⟨pk,ck,p,c,b,d⟩
def cV (w:World) (b:Nat) (t:VT) (kv iv:Value):Prop:=w.heap[b]?=some (.cells #[.int .i64 t.kind, .string (bs t.text),kv,iv] 26)
theorem cV.new (w:World) (t:VT) (kv iv:Value):cV (w.alloc (.cells #[.int .i64 t.kind, .string (bs t.text),kv,iv] 26)) w.heap.size t kv iv:=heap_alloc_new w _
theorem cV.keep {w w':World}{b:Nat}{t:VT}{kv iv:Value} (h:cV w b t kv iv) (hb:Below w.heap.size w w'):cV w' b t kv iv:=by
 unfold cV at h;exact(hb.block _ (aF h)).trans h
theorem cV.cells {w:World}{b:Nat}{t:VT}{kv iv:Value} (h:cV w b t kv iv):w.cell? ⟨b,0,none⟩=some (.int .i64 t.kind)/\w.cell? ⟨b,1,none⟩=some (.string (bs t.text))/\w.cell? ⟨b,2,none⟩=some kv/\w.cell? ⟨b,3,none⟩=some iv:=by
 unfold cV at h;refine⟨?_,?_,?_,?_⟩<;>simp[World.cell?,h]
theorem vU {α:Type}{l:List α}{k:Nat}{x:α} (h:l[k]?=some x):l.take (k+1)=l.take k++ [x]:=by
 rw[List.take_add_one,h];rfl
theorem Hw: ∀(n:Nat) (t:VT) (kv iv:Value) (w:World),VD w n t kv iv->t.bulk<=1099511627776->
  Calls Tryz.prog 78 #[vv t kv iv] w λe w'=>e= .returned (.int .i64 (t.size:Int))/\Below w.heap.size w w':=by
 intro n
 induction n with
 | zero=>intro t kv iv w h;exact h.elim
 | succ m ih=>
  intro t kv iv w h A;obtain⟨m',Q,E,p,c,rfl,M,b⟩:=h.parts;obtain rfl:m=m':=by omega
  obtain⟨k,s,ks,l⟩:=t;obtain⟨R,C⟩:=exQ<|(VT.mk k s ks l).size;rw[C];rw[VT.size] at C;simp only[VT.items] at M b;have f:dS l<=1099511627776:=by rw[VT.bulk] at A;omega
  have hll:l.length<=1099511627776:=aY (rE l) f;have O:=hid C;have D:=hid b;have J:=hid ih;clear C b ih h E Q A;unfold vv;simp only[VT.kind,VT.text,VT.items];go_enter Tryz.func78,Tryz.ntmps78;go_wp2_with fail;go_loopw [3,9] (λs3 s9 wr=> ∃(i:Nat),s3= .int .i64 ((dR (l.take i)+1:Nat):Int)/\s9= .int .i64 (i:Int)/\i<=l.length/\Hid (Below w.heap.size w wr)) (λ_ s9 _=>l.length-(RowKit.intOf s9).toNat)
  case atStart=>exact⟨0,rfl,rfl,bM _,hid (aI w _)⟩
  case round=>
   obtain⟨i,rfl,rfl,hi,q⟩:=hrel;by_cases hil:i<l.length
   ·obtain⟨x,u⟩: ∃x,l[i]?=some x:=⟨_,bE hil⟩;obtain⟨g,o,kv',iv',rfl,hg,n0,n1,n2,n3,d⟩:=D.out.keep q.out i x u;obtain⟨pk,ck,px,cx,rfl,rfl⟩:=d.form;have K:=aY (uB (aX u)) f;have G:(i:Int)<(l.length:Int):=(by omega);have dk:decide ((i:Int)<(l.length:Int))=true:=aM G;have r:dR (l.take i)+1+x.size=dR (l.take (i+1))+1:=by rw[vU u,Ht,dR,dR];omega
    have j:dR (l.take (i+1))<=dS l:=by
     have S:dR (l.take (i+1))<=dR l:=by
      have:=Ht (l.take (i+1)) (l.drop (i+1));rw[oR] at this;omega
     exact aY S (Sj l)
    have HX:=hid u;have F:=hid d;have L:=hid r;have H:=hid j;clear u d r j;go_upto_region 5 with fail;have v:=hid (aI wr (.cells #[.int .i64 x.kind, .string (bs x.text), .slice pk x.keys.length ck, .slice px x.items.length cx] 26));have N:=hid (J.out x _ _ (wr.alloc (.cells #[.int .i64 x.kind, .string (bs x.text), .slice pk x.keys.length ck, .slice px x.items.length cx] 26)) (F.out.keep v.out) K);unfold vv at N;go_wp2_with fail;refine N.out.mono ?_;rintro e w2 ⟨rfl,y⟩;have I:=hid (aC q.out (aC v.out y));have j:=H.out;have r:=L.out;have hszz:((dR (l.take i)+1:Nat):Int)+(x.size:Int)=((dR (l.take (i+1))+1:Nat):Int):=(by omega);clear y;go_wp2_with fail;go_roundw
    ·exact⟨i+1,by congr 1<;>omega,rfl,hil,I⟩
    ·simp only[RowKit.intOf];omega
   ·have dk:decide ((i:Int)<(l.length:Int))=false:=aH (by omega);obtain rfl:i=l.length:=(by omega);rw[List.take_length];have hdl:dN l<=1099511627776:=aY (Bb l) f;go_wp2_with fail;go_ret;exact⟨by rw[<-O.out];first | rfl | simp,q.out⟩
theorem Hx: ∀(n:Nat) (t:VT) (kv iv:Value) (w:World),VD w n t kv iv->t.bulk<=1099511627776->
  Calls Tryz.prog 79 #[vv t kv iv] w λe w'=>e= .returned (.int .i64 (t.depth:Int))/\Below w.heap.size w w':=by
 intro n
 induction n with
 | zero=>intro t kv iv w h;exact h.elim
 | succ m ih=>
  intro t kv iv w h A;obtain⟨m',Q,E,p,c,rfl,M,b⟩:=h.parts;obtain rfl:m=m':=by omega
  obtain⟨k,s,ks,l⟩:=t;obtain⟨R,C⟩:=exQ<|(VT.mk k s ks l).depth;rw[C];rw[VT.depth] at C;simp only[VT.items] at M b;have f:dS l<=1099511627776:=by rw[VT.bulk] at A;omega
  have hll:l.length<=1099511627776:=aY (rE l) f;have O:=hid C;have D:=hid b;have J:=hid ih;clear C b ih h E Q A;unfold vv;simp only[VT.kind,VT.text,VT.items];go_enter Tryz.func79,Tryz.ntmps79;go_wp2_with fail;go_loopw [3,9] (λs3 s9 wr=> ∃(i:Nat),s3= .int .i64 ((dN (l.take i):Nat):Int)/\s9= .int .i64 (i:Int)/\i<=l.length/\Hid (Below w.heap.size w wr)) (λ_ s9 _=>l.length-(RowKit.intOf s9).toNat)
  case atStart=>exact⟨0,rfl,rfl,bM _,hid (aI w _)⟩
  case round=>
   obtain⟨i,rfl,rfl,hi,q⟩:=hrel;by_cases hil:i<l.length
   ·obtain⟨x,u⟩: ∃x,l[i]?=some x:=⟨_,bE hil⟩;obtain⟨g,o,kv',iv',rfl,hg,n0,n1,n2,n3,d⟩:=D.out.keep q.out i x u;obtain⟨pk,ck,px,cx,rfl,rfl⟩:=d.form;have K:=aY (uB (aX u)) f;have G:(i:Int)<(l.length:Int):=(by omega);have dk:decide ((i:Int)<(l.length:Int))=true:=aM G;have r:max (dN (l.take i)) x.depth=dN (l.take (i+1)):=by rw[vU u,Hu,dN,dN];omega
    have j:dN (l.take (i+1))<=dS l:=by
     have S:dN (l.take (i+1))<=dN l:=by
      have:=Hu (l.take (i+1)) (l.drop (i+1));rw[oR] at this;omega
     exact aY S (Bb l)
    have HX:=hid u;have F:=hid d;have L:=hid r;have H:=hid j;clear u d r j;go_upto_region 5 with fail;have v:=hid (aI wr (.cells #[.int .i64 x.kind, .string (bs x.text), .slice pk x.keys.length ck, .slice px x.items.length cx] 26));have N:=hid (J.out x _ _ (wr.alloc (.cells #[.int .i64 x.kind, .string (bs x.text), .slice pk x.keys.length ck, .slice px x.items.length cx] 26)) (F.out.keep v.out) K);unfold vv at N;go_wp2_with fail;refine N.out.mono ?_;rintro e w2 ⟨rfl,y⟩;have I:=hid (aC q.out (aC v.out y));have j:=H.out;have r:=L.out;have hszz:max ((dN (l.take i):Nat):Int) (x.depth:Int)=((dN (l.take (i+1)):Nat):Int):=(by omega);clear y;go_wp2_with fail;go_roundw
    ·exact⟨i+1,by congr 1<;>omega,rfl,hil,I⟩
    ·simp only[RowKit.intOf];omega
   ·have dk:decide ((i:Int)<(l.length:Int))=false:=aH (by omega);obtain rfl:i=l.length:=(by omega);rw[List.take_length];have hdl:dN l<=1099511627776:=aY (Bb l) f;go_wp2_with fail;go_ret;exact⟨by rw[<-O.out];first | rfl | simp,q.out⟩
end
section
open Go.Lib
def cZ (txt:List UInt8) (s:Sp):aA:=if s.2<s.1\/txt.length<s.2 then [] else(txt.take s.2).drop s.1
def mD (k:Nat) (s:aA):aA:=if k=2 then s else if k=3 then eX (cL s).1 else if k=4 then(dM s).1 else []
def cE (txt:List UInt8) (ns:List aD) (k:Nat):aA:=match ns[k]? with
 | some x=>(dM (cZ txt x.key)).1
 | none=> []
def bN (txt:List UInt8) (ns:List aD):Nat->Nat->VT
 | 0,_=> .mk 0 [] [] []
 | f+1,k=>match ns[k]? with
  | none=> .mk 0 [] [] []
  | some x=> .mk (x.kind:Int) (mD x.kind (cZ txt (x.sf,x.st))) (if x.kind=6 then x.kids.map (cE txt ns) else []) (x.kids.map (bN txt ns f))
def cO (P:Nat->Nat->Prop):List Nat->Nat->Nat->Prop
 | [],a,hi=>a=hi
 | kid::l,a,hi=>kid=a/\ ∃m,P kid m/\cO P l m hi
theorem cO.snoc {P:Nat->Nat->Prop}{hi:Nat}: ∀ {l:List Nat}{a k:Nat},cO P l a k->P k hi->cO P (l++ [k]) a hi
 | [],a,k,h,hp=>by
  have e:a=k:=h;exact⟨e.symm,hi,hp,rfl⟩
 | x::l,a,k,h,hp=>by
  obtain⟨b,m,d,c⟩:=h;exact⟨b,m,d,c.snoc hp⟩
def dT (ns:List aD):Nat->Nat->Nat->Prop
 | 0,_,_=>False
 | lv+1,k,hi=> ∃x,ns[k]?=some x/\cO (dT ns lv) x.kids (k+1) hi
theorem cO.imp {P Q:Nat->Nat->Prop} (hi:Nat) (hlt: ∀k m,P k m->k<m): ∀ {l:List Nat}{a:Nat},cO P l a hi->(∀k m,a<=k->m<=hi->P k m->Q k m)->cO Q l a hi
 | [],a,h,_=>h
 | x::l,a,h,hq=>by
  obtain⟨rfl,m,h2,h3⟩:=h;have b: ∀ {l:List Nat}{a:Nat},cO P l a hi->a<=hi:=by
   intro l
   induction l with
   | nil=>intro a h;exact nQ h
   | cons y l ih=>
    intro a h;obtain⟨rfl,m,h2,h3⟩:=h;have:=ih h3;have:=hlt _ _ h2;omega
  have h4:=hlt _ _ h2;exact⟨rfl,m,hq _ _ (aE _) (b h3) h2,h3.imp hi hlt (λk m' h5 d c=>hq k m' (by omega) d c)⟩
theorem dT.lt {ns:List aD}: ∀ {lv k hi:Nat},dT ns lv k hi->k<hi
 | lv+1,k,hi,h=>by
  obtain⟨x,hx,h2⟩:=h;have: ∀(l:List Nat) (a:Nat),cO (dT ns lv) l a hi->a<=hi:=by
   intro l
   induction l with
   | nil=>intro a h;exact nQ h
   | cons y l ih=>
    intro a h;obtain⟨rfl,m,h2,b⟩:=h;have:=ih m b;have:=dT.lt h2;omega
  have:=this _ _ h2;omega
theorem dT.mono {ns ns':List aD}: ∀ {lv k hi:Nat},dT ns lv k hi->(∀j y,k<=j->j<hi->ns[j]?=some y-> ∃y',ns'[j]?=some y'/\y'.kids=y.kids)->dT ns' lv k hi
 | lv+1,k,hi,h,hs=>by
  have hlt:=h.lt;obtain⟨x,d,e⟩:=h;obtain⟨x',b,c⟩:=hs k x (aE _) hlt d;refine⟨x',b,?_⟩;rw[c];exact e.imp hi (λ_ _=>dT.lt) (λa m h3 h4 f=>f.mono (λj y h6 h7=>hs j y (by omega) (by omega)))
def yD (lv:Nat) (V:VF):Prop:= ∀rest last nodes key r l ns,V rest last nodes key= .ok r l ns->dT ns lv nodes.length ns.length
theorem Sl {txt:List UInt8}{V:VF}{lv:Nat} (hV:yD lv V) {obj:Bool}{had had':List (List UInt8)}{rest r:List aQ}{last l:Sp}{nodes ns:List aD} (h:gZ txt V obj had rest last nodes=(.ok r l ns,had')):dT ns lv nodes.length ns.length:=by
 unfold gZ at h;split at h
 ·injection h with h _;exact hV _ _ _ _ _ _ _ h
 ·split at h
  ·injection h with h _;cases h
  ·split at h
   ·injection h with h _;cases h
   ·split at h
    ·injection h with h _;cases h
    ·split at h
     ·injection h with h _;cases h
     ·split at h
      ·injection h with h _;cases h
      ·injection h with h _;exact hV _ _ _ _ _ _ _ h
theorem Bc {txt:List UInt8}{V:VF}{lv:Nat} (hV:yD lv V) (hE:oT V) {closing:Nat}{obj:Bool}{pre:List aD}: ∀(f:Nat) {had:List (List UInt8)}{rest:List aQ}{last:Sp}{nodes:List aD}{r:List aQ}{l:Sp}{ns:List aD}{x:aD}{post:List aD},
  eH pre x post nodes->cO (dT nodes lv) x.kids (pre.length+1) nodes.length->iP txt V closing obj pre.length f had rest last nodes= .ok r l ns-> ∃x' post',eH pre x' post' ns/\cO (dT ns lv) x'.kids (pre.length+1) ns.length
 | 0,_,_,_,_,_,_,_,_,_,_,_,h=>by cases h
 | f +1,had,rest,last,nodes,r,l,ns,x,post,hm,hK,h=>by
  unfold iP at h;split at h
  ·cases h
  ·rename_i r1 l1 ns1 had1 hk;have ht:=Sl hV hk;obtain⟨more,rfl,q,h3,⟨kk,h4⟩,o⟩:=vP hE hk;split at h
   ·cases h
   ·rename_i t r';have e:=hm.add o q nodes.length (last.2,t.sf);have d: ∀j y,pre.length+1<=j->(nodes++more)[j]?=some y-> ∃y',(eA pre.length nodes.length (last.2,t.sf) (nodes++more))[j]?=some y'/\y'.kids=y.kids:=by
     intro j y hj n;unfold eA;rw[rD,if_neg (by omega)];exact⟨y,n,rfl⟩
    have hml:=Sd hm;have c:cO (dT (eA pre.length nodes.length (last.2,t.sf) (nodes++more)) lv) (x.kids++ [nodes.length]) (pre.length+1) (eA pre.length nodes.length (last.2,t.sf) (nodes++more)).length:=by
     have g:(eA pre.length nodes.length (last.2,t.sf) (nodes++more)).length=(nodes++more).length:=oS _ _ _;rw[g];refine cO.snoc (hK.imp _ (λ_ _=>dT.lt) (λk m h6 h7 p=>p.mono (λj y s i b=>?_))) (ht.mono (λj y s i b=>d j y (by omega) b));exact d j y (by omega) (by rw[kP (by omega)];exact b)
    split at h
    ·injection h with e1 e2 e3;subst e3;exact⟨_,_,e,c⟩
    ·split at h
     ·exact Bc hV hE f e c h
     ·cases h
theorem Hy {txt:List UInt8}{V:VF}{lv:Nat} (hV:yD lv V) (hE:oT V) {closing:Nat}{obj:Bool}{pre:List aD}{rest:List aQ}{last:Sp}{nodes:List aD}{r:List aQ}{l:Sp}{ns:List aD}{x:aD}{post:List aD}
  (hm:eH pre x post nodes) (hK:cO (dT nodes lv) x.kids (pre.length+1) nodes.length) (h:iI txt V closing obj pre.length rest last nodes= .ok r l ns): ∃x' post',eH pre x' post' ns/\cO (dT ns lv) x'.kids (pre.length+1) ns.length:=by
 unfold iI at h;split at h
 ·exact Bc hV hE _ hm hK h
 ·split at h
  ·injection h with h1 h2 b;subst b;exact⟨x,post,hm,hK⟩
  ·exact Bc hV hE _ hm hK h
theorem Hz (txt:List UInt8): ∀lv,yD lv (bS txt lv)
 | 0=>λrest last nodes key r l ns h=>by
  unfold bS at h;split at h<;>cases h
 | lv +1=>λrest last nodes key r l ns h=>by
  have ih:=Hz txt lv;have ie:=nO txt lv;cases rest with
  | nil=>
   unfold bS at h;rw[if_pos (show cU (eV [])=0 from rfl)] at h;cases h
  | cons t q=>
   unfold bS at h;split at h
   ·cases h
   ·split at h
    ·cases h
    ·simp only[] at h;obtain⟨ns',d,rfl⟩:=Hc h;have c:eH nodes ⟨cU t.kind,t.sf,t.st,key,[],[]⟩ [] (nodes++ [⟨cU t.kind,t.sf,t.st,key,[],[]⟩]):=⟨rfl,aE _,aE _,λy n=>by cases n⟩;have b:cO (dT (nodes++ [(⟨cU t.kind,t.sf,t.st,key,[],[]⟩:aD)]) lv) ([]:List Nat) (nodes.length+1) (nodes++ [(⟨cU t.kind,t.sf,t.st,key,[],[]⟩:aD)]).length:=by
      show nodes.length+1=_;rw[aW,dU]
     have fin: ∀ {x':aD}{post':List aD},eH nodes x' post' ns'->cO (dT ns' lv) x'.kids (nodes.length+1) ns'.length->dT (iO nodes.length l.2 ns') (lv+1) nodes.length (iO nodes.length l.2 ns').length:=by
      intro x' post' o p;have e:(iO nodes.length l.2 ns').length=ns'.length:=oS _ _ _;have g:=Hg o;refine⟨{ x' with st:=l.2 },?_,?_⟩
      ·unfold iO;rw[rD,if_pos rfl,g];rfl
      ·rw[e];refine p.imp _ (λ_ _=>dT.lt) (λk m h6 h7 s=>s.mono (λj y h9 h10 f=>?_));refine⟨y,?_,rfl⟩;unfold iO;rw[rD,if_neg (by omega)];exact f
     split at d
     ·obtain⟨x',post',i1,i2⟩:=Hy ih ie c b d;exact fin i1 i2
     ·split at d
      ·obtain⟨x',post',i1,i2⟩:=Hy ih ie c b d;exact fin i1 i2
      ·injection d with h2 h3 i;subst i;exact fin c b
theorem vV {s:List UInt8}{ns:List aD}{n:Int} (h:fN s=(ns,n,0)):dT ns 32 0 ns.length:=by
 obtain⟨hs,T,l,ns',hT,c,b⟩:=Av (s:=s) (by rw[h]);rw[h] at b;injection b with e1 e2;subst e1;exact Hz s 32 _ _ _ _ _ _ _ c
theorem cO.mem {P:Nat->Nat->Prop}{hi:Nat}: ∀ {l:List Nat}{a:Nat},cO P l a hi-> ∀k∈l,∃m,P k m
 | [],_,_,k,hk=>by cases hk
 | x::l,a,h,k,hk=>by
  obtain⟨rfl,m,h2,h3⟩:=h;rcases dC.1 hk with rfl | hk
  ·exact⟨m,h2⟩
  ·exact h3.mem k hk
theorem dT.kid {ns:List aD}{lv k hi:Nat} (h:dT ns (lv+1) k hi) {x:aD} (hx:ns[k]?=some x) {q:Nat} (hq:q∈x.kids):(∃m,dT ns lv q m)/\q<ns.length:=by
 obtain⟨x',b,f⟩:=h;rw[hx] at b;injection b with e;subst e;obtain⟨m,c⟩:=f.mem q hq;refine⟨⟨m,c⟩,?_⟩;cases lv with
 | zero=>exact c.elim
 | succ lv=>
  obtain⟨y,d,_⟩:=c;exact(aR.1 d).1
theorem Ia {txt:List UInt8}{ns:List aD}: ∀ {lv k hi:Nat},dT ns lv k hi->(bN txt ns lv k).size=hi-k/\(bN txt ns lv k).depth<=lv
 | lv+1,k,hi,h=>by
  have hlt:=h.lt;obtain⟨x,g,d⟩:=h;rw[bN,g];simp only[];rw[VT.size,VT.depth];have: ∀(l:List Nat) (a:Nat),cO (dT ns lv) l a hi->dR (l.map (bN txt ns lv))=hi-a/\a<=hi/\dN (l.map (bN txt ns lv))<=lv:=by
   intro l
   induction l with
   | nil=>intro a h;have e:a=hi:=h;subst e;simp[dR,dN]
   | cons y l ih=>
    intro a h;obtain⟨rfl,m',d,f⟩:=h;obtain⟨i1,i2⟩:=Ia (txt:=txt) d;have i3:=d.lt;obtain⟨j1,j2,j3⟩:=ih _ f;rw[fU,dR,dN,i1,j1];omega
  obtain⟨a,b,c⟩:=this _ _ d;omega
end
section
open Go.RowKit
open Go.Lib hiding intOf
def sJ (w:World):Prop:=w.cell? ⟨7,15,none⟩=some (.int .u8 4)
theorem sJ.keep {w w':World} (h:sJ w) (hb:Below w.heap.size w w'):sJ w':=by
 unfold sJ at h ⊢;rw[hb.cell (p:=⟨_,_,none⟩) (rA h),h]
theorem Sm {A B:World} (h:Below A.heap.size A B):A.grownBy B none:=⟨h.os,h.tape,h.output,h.size,λi b _=>h.block i b⟩
theorem jZ {B size:Nat}{e:TypeId}{A W:World}{v:Value}{n:Nat}{xs:List Value} (h:A.ownsRow B e size v n xs) (hb:Below A.heap.size A W):W.ownsRow B e size v n xs:=
 h.kept (Sm hb) (by cases h:v.ownBlock with
  | none=>exact .inl rfl
  | some k=>exact .inr (by simp))
theorem iJ {w:World}{B1 B2:Nat}{e1 e2:TypeId}{s1 s2:Nat}{v1 v2:Value}{n1 n2:Nat}{x1 x2:List Value} (h1:w.ownsRow B1 e1 s1 v1 n1 x1) (h2:w.ownsRow B2 e2 s2 v2 n2 x2) (he:e1≠e2):v1.ownBlock=none\/v1.ownBlock≠v2.ownBlock:=by
 rcases h1.2 with⟨rfl,_⟩ | ⟨g,cap,cur,rfl,_,d,_⟩
 ·exact .inl rfl
 ·right;rcases h2.2 with⟨rfl,_⟩ | ⟨g2,cap2,cur2,rfl,_,b,_⟩
  ·intro h;cases h
  ·intro h;have c:g=g2:=bD h;subst c;rw[d] at b;injection b with b;injection b with _ b;exact he b
theorem dK {w:World}{B:Nat}{e t:TypeId}{s:Nat}{v:Value}{n:Nat}{xs:List Value}{X:Nat}{cs:Array Value}{fz:Nat×Nat} (h:w.ownsRow B e s v n xs) (hX:w.heap[X]?=some (.cells cs t fz)) (he:e≠t):v.ownBlock=none\/v.ownBlock≠some X:=by
 rcases h.2 with⟨rfl,_⟩ | ⟨g,cap,cur,rfl,_,d,_⟩
 ·exact .inl rfl
 ·refine .inr λc=>?_;have b:g=X:=bD c;subst b;rw[d] at hX;injection hX with hX;injection hX with _ hX;exact he hX
def cK (w:World) (P:Nat) (txt:List UInt8) (rv:Value) (l:Sp) (nv:Value) (a:Nat) (er:Int):Prop:=
 w.heap[P]?=some (.cells #[.string (bs txt),rv, .int .i64 l.1, .int .i64 l.2,nv, .int .i64 a, .int .i64 er] 75 (0,0))
abbrev Sn (w:World) (P:Nat) (txt:List UInt8) (rv:Value) (l:Sp) (nv:Value) (a:Nat) (er:Int):Prop:=
 w.cell? ⟨P,0,none⟩=some (.string (bs txt))/\w.cell? ⟨P,1,none⟩=some rv/\w.cell? ⟨P,2,none⟩=some (.int .i64 l.1)/\w.cell? ⟨P,3,none⟩=some (.int .i64 l.2)/\w.cell? ⟨P,4,none⟩=some nv/\
 w.cell? ⟨P,5,none⟩=some (.int .i64 a)/\w.cell? ⟨P,6,none⟩=some (.int .i64 er)/\
 w.frozen? ⟨P,1,none⟩=false/\w.frozen? ⟨P,2,none⟩=false/\w.frozen? ⟨P,3,none⟩=false/\w.frozen? ⟨P,4,none⟩=false/\w.frozen? ⟨P,5,none⟩=false/\w.frozen? ⟨P,6,none⟩=false
section
variable {w w':World}{P:Nat}{txt:List UInt8}{rv nv:Value}{l:Sp}{a:Nat}{er:Int}
theorem cK.cells (h:cK w P txt rv l nv a er):Sn w P txt rv l nv a er:=by
 unfold cK at h;refine⟨?_,?_,?_,?_,?_,?_,?_,?_,?_,?_,?_,?_,?_⟩<;>simp[World.cell?,World.frozen?,h]
theorem cK.lt (h:cK w P txt rv l nv a er):P<w.heap.size:=aF h
theorem cK.keep (h:cK w P txt rv l nv a er) (hb:Below w.heap.size w w'):cK w' P txt rv l nv a er:=(hb.block P h.lt).trans h
end
def TV (w:World) (v:Value) (ts:List aQ):Prop:= ∃p c,v= .slice p ts.length c/\ts.length<=c/\(ts= []\/ ∃g o cur,p=some ⟨g,o,none⟩/\w.heap[g]?=some (.cells cur 77 (0,0))/\
 ∀(j:Nat) (t:aQ),ts[j]?=some t->w.cell? ⟨g,o+j*3,none⟩=some (.int .i64 t.kind)/\w.cell? ⟨g,o+j*3+1,none⟩=some (.int .i64 t.sf)/\w.cell? ⟨g,o+j*3+2,none⟩=some (.int .i64 t.st))
theorem eY {w w':World}{g:Nat} (h:w'.heap[g]?=w.heap[g]?) (o:Nat):w'.cell? ⟨g,o,none⟩=w.cell? ⟨g,o,none⟩:=by
 unfold World.cell?;simp only[h]
theorem TV.same {w w':World}{v:Value}{ts:List aQ} (h:TV w v ts) (hs: ∀(g:Nat) (cur:Array Value),w.heap[g]?=some (.cells cur 77 (0,0))->w'.heap[g]?=w.heap[g]?):TV w' v ts:=by
 obtain⟨p,c,f,m,b⟩:=h;refine⟨p,c,f,m,?_⟩;rcases b with b | ⟨g,o,cur,b,d,k⟩
 ·exact .inl b
 ·have e:=hs g cur d;refine .inr ⟨g,o,cur,b,e.trans d,λj t i=>?_⟩;rw[eY e,eY e,eY e];exact k j t i
theorem TV.keep {w w':World}{v:Value}{ts:List aQ} (h:TV w v ts) (hb:Below w.heap.size w w'):TV w' v ts:=h.same (λg cur b=>hb.block g (aF b))
theorem TV.head {w:World}{v:Value}{t:aQ}{r:List aQ} (h:TV w v (t::r)): ∃g o c,v= .slice (some ⟨g,o,none⟩) (r.length+1) c/\r.length+1<=c/\w.cell? ⟨g,o,none⟩=some (.int .i64 t.kind)/\w.cell? ⟨g,o+1,none⟩=some (.int .i64 t.sf)/\w.cell? ⟨g,o+2,none⟩=some (.int .i64 t.st)/\
  TV w (.slice (if c=1 then some ⟨g,o,none⟩ else some ⟨g,o+3,none⟩) r.length (c-1)) r:=by
 obtain⟨p,c,f,e,d⟩:=h;rcases d with d | ⟨g,o,cur,rfl,k,i⟩
 ·cases d
 ·simp only[aV] at f e;have b:=i 0 t rfl;rw[Nat.zero_mul,Nat.add_zero] at b;refine⟨g,o,c,f,e,b.1,b.2.1,b.2.2,_,_,rfl,by omega,?_⟩;cases r with
  | nil=>exact .inl rfl
  | cons u r=>
   refine .inr ⟨g,o+3,cur,if_neg (by simp only[aV] at e;omega),k,λj t m=>?_⟩;have:=i (j+1) t (by simpa using m);rw[show o+(j+1)*3=o+3+j*3 by omega] at this;exact this
theorem TV.empty {w:World}{v:Value} (h:TV w v []): ∃p c,v= .slice p 0 c:=by
 obtain⟨p,c,b,_⟩:=h;exact⟨p,c,b⟩
abbrev ND:=aD×Value×Value
def eI (l:List Nat):List Value:=l.map fun(k:Nat)=>Value.int .i64 (k:Int)
def mE (l:List Sp):List Value:=l.flatMap λs=> [.int .i64 (s.1:Int), .int .i64 (s.2:Int)]
def fW (y:ND):List Value:= [.int .i64 (y.1.kind:Int), .int .i64 (y.1.sf:Int), .int .i64 (y.1.st:Int), .int .i64 (y.1.key.1:Int), .int .i64 (y.1.key.2:Int),y.2.1,y.2.2]
def iX (z:List ND):List Value:=z.flatMap fW
theorem vW (y:ND) (z:List ND):iX (y::z)=fW y++iX z:=rfl
theorem vX: ∀(z:List ND) (j:Nat) (y:ND),z[j]?=some y-> ∀i,i<7->(iX z)[j*7+i]?=(fW y)[i]?
 | [],j,y,h,i,hi=>by simp at h
 | x::z,0,y,h,i,hi=>by
  obtain rfl:x=y:=by simpa using h
  rw[vW,Nat.zero_mul,Nat.zero_add,kP (by simpa [fW] using hi)]
 | x::z,j+1,y,h,i,hi=>by
  rw[cH] at h;have:=vX z j y h i hi;rw[vW,mC (by simp[fW];omega),<-this];congr 1;simp[fW];omega
theorem yE: ∀(z:List ND) (j:Nat) (y y':ND),z[j]?=some y-> ∀i u,i<7->(fW y).set i u=fW y'->(iX z).set (j*7+i) u=iX (z.set j y')
 | [],j,y,y',h,i,u,hi,hu=>by simp at h
 | x::z,0,y,y',h,i,u,hi,hu=>by
  obtain rfl:x=y:=by simpa using h
  rw[vW,Nat.zero_mul,Nat.zero_add,List.set_append_left _ _ (by simpa [fW] using hi),hu];rfl
 | x::z,j+1,y,y',h,i,u,hi,hu=>by
  rw[cH] at h;have:=yE z j y y' h i u hi hu;rw[vW,List.set_append_right _ _ (by simp[fW];omega),dO,vW,<-this];congr 2;simp[fW];omega
def rF (f:ND->Value) (z:List ND):Prop:= ∀(i j:Nat) (yi yj:ND),i≠j->z[i]?=some yi->z[j]?=some yj->(f yi).ownBlock=none\/(f yi).ownBlock≠(f yj).ownBlock
theorem rF.push {f:ND->Value}{z:List ND}{y:ND} (h:rF f z) (hy:(f y).ownBlock=none):rF f (z++ [y]):=by
 have key: ∀(j:Nat) (yj:ND),(z++ [y])[j]?=some yj->z[j]?=some yj\/(j=z.length/\yj=y):=by
  intro j yj b;by_cases h2:j<z.length
  ·rw[kP h2] at b;exact .inl b
  ·have e:=(aR.1 b).1;rw[aW,dU] at e;rw[mC (by omega),show j-z.length=0 by omega] at b;simp only[dV,cN] at b;exact .inr ⟨by omega,b.symm⟩
 intro i j yi yj d c b;rcases key i yi c with c | ⟨c,rfl⟩
 ·rcases key j yj b with b | ⟨b,rfl⟩
  ·exact h i j yi yj d c b
  ·by_cases hn:(f yi).ownBlock=none
   ·exact .inl hn
   ·exact .inr (by rw[hy];exact hn)
 ·exact .inl hy
theorem rF.set {f:ND->Value}{z:List ND}{n:Nat}{y y':ND} (h:rF f z) (hn:z[n]?=some y) (hb:(f y').ownBlock=(f y).ownBlock\/ ∀(j:Nat) (yj:ND),z[j]?=some yj->(f yj).ownBlock≠(f y').ownBlock):rF f (z.set n y'):=by
 intro i j yi yj b d c;rw[List.getElem?_set] at d c;by_cases h1:n=i
 ·subst h1;rw[if_pos rfl,if_pos (aR.1 hn).1] at d;obtain rfl:=bD d;rw[if_neg b] at c;rcases hb with hb | hb
  ·rw[hb];exact h n j y yj b hn c
  ·exact .inr (Ne.symm (hb j yj c))
 ·rw[if_neg h1] at d;by_cases h2:n=j
  ·subst h2;rw[if_pos rfl,if_pos (aR.1 hn).1] at c;obtain rfl:=bD c;rcases hb with hb | hb
   ·rw[hb];exact h i n yi y b d hn
   ·exact .inr (hb i yi d)
  ·rw[if_neg h2] at c;exact h i j yi yj b d c
structure cI (B:Nat) (z:List ND) (nv:Value) (w:World):Prop where
 row:w.ownsRow B 81 7 nv z.length (iX z)
 kids: ∀y∈z,w.ownsRow B 3 1 y.2.1 y.1.kids.length (eI y.1.kids)
 pcs: ∀y∈z,w.ownsRow B 59 2 y.2.2 y.1.pcs.length (mE y.1.pcs)
 ak:rF (λy=>y.2.1) z
 ap:rF (λy=>y.2.2) z
section
variable {B:Nat}{z:List ND}{nv:Value}{w w' w1:World}
theorem cI.keep (h:cI B z nv w) (hb:Below w.heap.size w w'):cI B z nv w':=
 ⟨jZ h.row hb,λy b=>jZ (h.kids y b) hb,λy b=>jZ (h.pcs y b) hb,h.ak,h.ap⟩
theorem cI.other (h:cI B z nv w) {X:Nat}{cs:Array Value}{t:TypeId}{fz:Nat×Nat} (hX:w.heap[X]?=some (.cells cs t fz)) (h1:81≠t) (h2:3≠t) (h3:59≠t) (hg:w.grownBy w' (some X)):cI B z nv w':=
 ⟨h.row.kept hg (dK h.row hX h1),λy b=>(h.kids y b).kept hg (dK (h.kids y b) hX h2),λy b=>(h.pcs y b).kept hg (dK (h.pcs y b) hX h3),h.ak,h.ap⟩
theorem cI.nil (B:Nat) (w:World):cI B [] (.slice none 0 0) w:=
 ⟨⟨rfl, .inl ⟨rfl,rfl⟩⟩,λy b=>(by cases b),λy b=>(by cases b),λi j yi yj _ h=>(by simp at h),λi j yi yj _ h=>(by simp at h)⟩
theorem cI.push (h:cI B z nv w) {nv':Value}{x:aD} (hk:x.kids= []) (hp:x.pcs= []) (hr:w'.ownsRow B 81 7 nv' (z.length+1) (iX z++fW (x, .slice none 0 0, .slice none 0 0))) (hg:w.grownBy w' nv.ownBlock):
  cI B (z++ [(x, .slice none 0 0, .slice none 0 0)]) nv' w':=by
 refine⟨?_,λy b=>?_,λy b=>?_,h.ak.push rfl,h.ap.push rfl⟩
 ·have e:iX (z++ [(x, .slice none 0 0, .slice none 0 0)])=iX z++fW (x, .slice none 0 0, .slice none 0 0):=by unfold iX;simp
  rw[e,aW];exact hr
 ·rcases nN.1 b with b | b
  ·exact(h.kids y b).kept hg (iJ (h.kids y b) h.row (by decide))
  ·rw[iQ.1 b];simp only[];rw[hk];exact⟨rfl, .inl ⟨rfl,rfl⟩⟩
 ·rcases nN.1 b with b | b
  ·exact(h.pcs y b).kept hg (iJ (h.pcs y b) h.row (by decide))
  ·rw[iQ.1 b];simp only[];rw[hp];exact⟨rfl, .inl ⟨rfl,rfl⟩⟩
theorem cI.form (h:cI B z nv w) (hz:z≠ []): ∃g cap cur,nv= .slice (some ⟨g,0,none⟩) z.length cap/\z.length<=cap/\B<=g/\w.heap[g]?=some (.cells cur 81 (0,0)):=by
 rcases h.row.2 with⟨_,b⟩ | ⟨g,cap,cur,b,e,d,c,_⟩
 ·exact absurd (List.length_eq_zero_iff.1 b) hz
 ·exact⟨g,cap,cur,b,c,e,d⟩
theorem cI.slice (h:cI B z nv w): ∃p cap,nv= .slice p z.length cap:=by
 rcases h.row.2 with⟨c,b⟩ | ⟨g,cap,cur,b,h2,h3,h4,_⟩
 ·exact⟨none,0,by rw[c,b]⟩
 ·exact⟨_,cap,b⟩
theorem cI.at_ {g cap:Nat} (h:cI B z (.slice (some ⟨g,0,none⟩) z.length cap) w) {n:Nat}{y:ND} (hy:z[n]?=some y) (i:Nat) (hi:i<7) {u:Value} (hu:(fW y)[i]?=some u):
  w.cell? ⟨g,n*7+i,none⟩=some u/\w.frozen? ⟨g,n*7+i,none⟩=false:=by
 have hn:=(aR.1 hy).1;refine⟨?_,World.ownsRow.frozenAt h.row _⟩;rw[World.ownsRow.cellAt h.row _ (by omega),vX z n y hy i hi,hu]
theorem cI.field {g cap:Nat} (h:cI B z (.slice (some ⟨g,0,none⟩) z.length cap) w) {n:Nat}{y y':ND} (hy:z[n]?=some y) (i:Nat) (hi:i<7) (u:Value) (hu:(fW y).set i u=fW y') (hk:y'.1.kids=y.1.kids) (hp:y'.1.pcs=y.1.pcs) (h1:y'.2=y.2):
  cI B (z.set n y') (.slice (some ⟨g,0,none⟩) (z.set n y').length cap) (w.setCell ⟨g,n*7+i,none⟩ u):=by
 obtain⟨m,j⟩:=World.ownsRow.stored h.row (n*7+i) u;obtain⟨g',cap',cur,e,_,_,b⟩:=h.form (λe=>by rw[e] at hy;simp at hy);have k:g=g':=by injection e with e;injection e with e;injection e
 subst k;rw[yE z n y y' hy i u hi hu] at m;have d: ∀x∈z.set n y',x=y'\/x∈z:=λx c=>(List.mem_or_eq_of_mem_set c).symm;refine⟨by rw[List.length_set];exact m,λx c=>?_,λx c=>?_,?_,?_⟩
 ·rcases d x c with rfl | c
  ·rw[hk,h1];have f:=h.kids y (aX hy);exact f.kept j (dK f b (by decide))
  ·exact(h.kids x c).kept j (dK (h.kids x c) b (by decide))
 ·rcases d x c with rfl | c
  ·rw[hp,h1];have f:=h.pcs y (aX hy);exact f.kept j (dK f b (by decide))
  ·exact(h.pcs x c).kept j (dK (h.pcs x c) b (by decide))
 ·exact h.ak.set hy (.inl (by rw[h1]))
 ·exact h.ap.set hy (.inl (by rw[h1]))
theorem cI.kid {g cap:Nat} (h:cI B z (.slice (some ⟨g,0,none⟩) z.length cap) w) {n k:Nat}{y:ND} (hy:z[n]?=some y) {kv:Value}{H:Nat} (hH:w.heap.size<=H)
  (hr:w1.ownsRow B 3 1 kv (y.1.kids.length+1) (eI y.1.kids++ [.int .i64 (k:Int)])) (hg:w.grownBy w1 y.2.1.ownBlock) (hat:kv.ownBlock=y.2.1.ownBlock\/kv.ownBlock=some H):
  cI B (z.set n ({ y.1 with kids:=y.1.kids++ [k] },kv,y.2.2)) (.slice (some ⟨g,0,none⟩) (z.set n ({ y.1 with kids:=y.1.kids++ [k] },kv,y.2.2)).length cap) (w1.setCell ⟨g,n*7+5,none⟩ kv):=by
 have o:=h.kids y (aX hy);have p:=h.row.kept hg (iJ h.row o (by decide));obtain⟨r,i⟩:=World.ownsRow.stored p (n*7+5) kv;obtain⟨g',cap',cur,e,_,_,b⟩:=h.form (λe=>by rw[e] at hy;simp at hy);have s:g=g':=by injection e with e;injection e with e;injection e
 subst s;have c:w1.heap[g]?=some (.cells cur 81 (0,0)):=by
  rw[hg.block g (aF b) (λe=>by
   rcases dK o b (by decide) with d | d
   ·rw[d] at e;cases e
   ·exact d e.symm)]
  exact b
 rw[yE z n y ({ y.1 with kids:=y.1.kids++ [k] },kv,y.2.2) hy 5 kv (by omega) rfl] at r;refine⟨by rw[List.length_set];exact r,λx m=>?_,λx m=>?_,?_,?_⟩
 ·obtain⟨j,f⟩:=List.getElem?_of_mem m;rw[List.getElem?_set] at f;by_cases hnj:n=j
  ·subst hnj;rw[if_pos rfl,if_pos (aR.1 hy).1] at f;obtain rfl:=bD f;have e:eI (y.1.kids++ [k])=eI y.1.kids++ [.int .i64 (k:Int)]:=by unfold eI;simp
   simp only[e,aW,dU];exact hr.kept i (dK hr c (by decide))
  ·rw[if_neg hnj] at f;have q:=h.kids x (aX f);have d:=q.kept hg (h.ak j n x y (Ne.symm hnj) f hy);exact d.kept i (dK d c (by decide))
 ·have key: ∀x∈z,(w1.setCell ⟨g,n*7+5,none⟩ kv).ownsRow B 59 2 x.2.2 x.1.pcs.length (mE x.1.pcs):=λx m=>by
   have q:=h.pcs x m;have d:=q.kept hg (iJ q o (by decide));exact d.kept i (dK d c (by decide))
  rcases List.mem_or_eq_of_mem_set m with m | rfl
  ·exact key x m
  ·exact key y (aX hy)
 ·refine h.ak.set hy ?_;rcases hat with hat | hat
  ·exact .inl hat
  ·refine .inr (λj yj f e=>?_);have q:=h.kids yj (aX f);simp only[] at e;rw[hat] at e;have:=(World.ownsRow.lt q H e).2;omega
 ·exact h.ap.set hy (.inl rfl)
theorem cI.pc {g cap:Nat} (h:cI B z (.slice (some ⟨g,0,none⟩) z.length cap) w) {n:Nat}{k:Sp}{y:ND} (hy:z[n]?=some y) {kv:Value}{H:Nat} (hH:w.heap.size<=H)
  (hr:w1.ownsRow B 59 2 kv (y.1.pcs.length+1) (mE y.1.pcs++ [.int .i64 (k.1:Int), .int .i64 (k.2:Int)])) (hg:w.grownBy w1 y.2.2.ownBlock) (hat:kv.ownBlock=y.2.2.ownBlock\/kv.ownBlock=some H):
  cI B (z.set n ({ y.1 with pcs:=y.1.pcs++ [k] },y.2.1,kv)) (.slice (some ⟨g,0,none⟩) (z.set n ({ y.1 with pcs:=y.1.pcs++ [k] },y.2.1,kv)).length cap) (w1.setCell ⟨g,n*7+6,none⟩ kv):=by
 have o:=h.pcs y (aX hy);have p:=h.row.kept hg (iJ h.row o (by decide));obtain⟨r,i⟩:=World.ownsRow.stored p (n*7+6) kv;obtain⟨g',cap',cur,e,_,_,b⟩:=h.form (λe=>by rw[e] at hy;simp at hy);have s:g=g':=by injection e with e;injection e with e;injection e
 subst s;have c:w1.heap[g]?=some (.cells cur 81 (0,0)):=by
  rw[hg.block g (aF b) (λe=>by
   rcases dK o b (by decide) with d | d
   ·rw[d] at e;cases e
   ·exact d e.symm)]
  exact b
 rw[yE z n y ({ y.1 with pcs:=y.1.pcs++ [k] },y.2.1,kv) hy 6 kv (by omega) rfl] at r;refine⟨by rw[List.length_set];exact r,λx m=>?_,λx m=>?_,?_,?_⟩
 ·have key: ∀x∈z,(w1.setCell ⟨g,n*7+6,none⟩ kv).ownsRow B 3 1 x.2.1 x.1.kids.length (eI x.1.kids):=λx m=>by
   have q:=h.kids x m;have d:=q.kept hg (iJ q o (by decide));exact d.kept i (dK d c (by decide))
  rcases List.mem_or_eq_of_mem_set m with m | rfl
  ·exact key x m
  ·exact key y (aX hy)
 ·obtain⟨j,f⟩:=List.getElem?_of_mem m;rw[List.getElem?_set] at f;by_cases hnj:n=j
  ·subst hnj;rw[if_pos rfl,if_pos (aR.1 hy).1] at f;obtain rfl:=bD f;have e:mE (y.1.pcs++ [k])=mE y.1.pcs++ [.int .i64 (k.1:Int), .int .i64 (k.2:Int)]:=by unfold mE;simp
   simp only[e,aW,dU];exact hr.kept i (dK hr c (by decide))
  ·rw[if_neg hnj] at f;have q:=h.pcs x (aX f);have d:=q.kept hg (h.ap j n x y (Ne.symm hnj) f hy);exact d.kept i (dK d c (by decide))
 ·exact h.ak.set hy (.inl rfl)
 ·refine h.ap.set hy ?_;rcases hat with hat | hat
  ·exact .inl hat
  ·refine .inr (λj yj f e=>?_);have q:=h.pcs yj (aX f);simp only[] at e;rw[hat] at e;have:=(World.ownsRow.lt q H e).2;omega
end
def Be (t:TypeId):Bool:=t==81||t==3||t==59
def yF (o:Obj):Prop:=match o with
 | .cells _ t _=>Be t=false
 | _=>True
structure Fr (B P:Nat) (w w':World):Prop where
 bel:Below B w w'
 sz:w.heap.size<=w'.heap.size
 blk: ∀(k:Nat) (o:Obj),w.heap[k]?=some o->k≠P->yF o->w'.heap[k]?=some o
theorem Fr.trans {B P:Nat}{w w1 w2:World} (h1:Fr B P w w1) (h2:Fr B P w1 w2):Fr B P w w2:=
 ⟨h1.bel.trans h2.bel,aY h1.sz h2.sz,λk o c hP b=>h2.blk k o (h1.blk k o c hP b) hP b⟩
theorem Fr.refl (B P:Nat) (w:World):Fr B P w w:=⟨aB _ _,aE _,λ_ _ h _ _=>h⟩
theorem Fr.of_below {B P:Nat}{w w':World} (h:Below w.heap.size w w') (hB:B<=w.heap.size):Fr B P w w':=
 ⟨h.mono hB,h.size,λk o b _ _=>by rw[h.block k (aF b)];exact b⟩
theorem Fr.setP {B P i:Nat}{w:World}{u:Value} (hP:B<=P):Fr B P w (w.setCell ⟨P,i,none⟩ u):=
 ⟨(aB B w).setCell (p:=⟨P,i,none⟩) hP u,by simp[World.setCell],λk o c b _=>by rw[cP _ _ _ k b];exact c⟩
theorem Fr.setM {B P X i:Nat}{w:World}{u:Value}{cs:Array Value}{t:TypeId}{fz:Nat×Nat} (hX:w.heap[X]?=some (.cells cs t fz)) (ht:Be t=true) (hB:B<=X):Fr B P w (w.setCell ⟨X,i,none⟩ u):=
 ⟨(aB B w).setCell (p:=⟨X,i,none⟩) hB u,by simp[World.setCell],λk o c hne b=>by rw[cP _ _ _ k (λe=>by subst e;rw[c] at hX;obtain rfl:=bD hX;unfold yF at b;simp only[] at b;rw[ht] at b;cases b)];exact c⟩
theorem Fr.grown {B P:Nat}{w w':World}{e:TypeId}{s:Nat}{v:Value}{n:Nat}{xs:List Value} (hr:w.ownsRow B e s v n xs) (ht:Be e=true) (hg:w.grownBy w' v.ownBlock) (hB:B<=w.heap.size):Fr B P w w':=
 ⟨(aB B w).grown hg hB (λk b=>(World.ownsRow.lt hr k b).1),hg.size,λk o b hne d=>by
  rw[hg.block k (aF b) (λe=>by
   rcases hr.2 with⟨rfl,_⟩ | ⟨g,cap,cur,rfl,_,c,_⟩
   ·cases e
   ·obtain rfl:k=g:=bD e;rw[b] at c;obtain rfl:=bD c;unfold yF at d;simp only[] at d;rw[ht] at d;cases d)]
  exact b⟩
end
end Go.Proofs.YtaifnmjjpddikaaGreatDoor
