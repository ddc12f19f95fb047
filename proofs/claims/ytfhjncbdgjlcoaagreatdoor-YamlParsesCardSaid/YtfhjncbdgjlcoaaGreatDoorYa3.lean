import Derived.Test.YtfhjncbdgjlcoaaGreatDoorYa2
set_option linter.unusedVariables false
set_option linter.unusedSimpArgs false
namespace Go.Proofs.YtfhjncbdgjlcoaaGreatDoor
section
open Go.Lib
theorem Rj (x:Int) (h0:0<=x) (h1:x<256):x.toNat.toUInt8.toNat=x.toNat:=by
 rw[show x.toNat.toUInt8=UInt8.ofNat x.toNat from rfl,UInt8.toNat_ofNat'];exact Nat.mod_eq_of_lt a_
def wX (r:Int):Prop:=0<=r/\r<=1114111/\(r<55296\/57343<r)
theorem Rk (r:Int) (h:wX r) (hr:128<=r): ∀c∈encodeRune r,128<=c.toNat:=by
 obtain⟨h0,i,h2⟩:=h;have d: ∀l:List Int,(∀x∈l,128<=x/\x<256)-> ∀c∈l.map (λx=>x.toNat.toUInt8),128<=c.toNat:=by
  intro l g c f;obtain⟨x,e,rfl⟩:=rQ.1 f;have:=g x e;rw[Rj x a_ a_];omega
 refine d _ ?_;by_cases g2:r<=2047
 ·rw[encodeRuneZ_two a_ g2];exact gi
 by_cases g3:r<=65535
 ·rw[encodeRuneZ_three a_];exact gi
 ·rw[encodeRuneZ_four a_ i];exact gi
theorem Hp (l:List UInt8):wX ((decodeL l).1:Int):=by
 rw[decodeL_N];have k0:=(l.getD 0 0).toNat_lt;rcases decodeN_shape l.length (l.getD 0 0).toNat (l.getD 1 0).toNat (l.getD 2 0).toNat (l.getD 3 0).toNat with⟨c,e⟩ | ⟨c1,c2,c3,cv,e⟩ | ⟨c1,c2,c3,c4,cv,cs,e⟩ | ⟨c1,c2,c3,c4,c5,cv,cw,e⟩ | e
 all_goals
  rw[e];unfold wX;dsimp only;omega
theorem Rl (r:Int):encodeRune r≠ []:=by
 intro h;have:=(encodeRuneZ_length r).1;unfold encodeRune at h;rw[List.map_eq_nil_iff] at h;rw[h] at this;simp at this
theorem Rm (c:UInt8) (h:c.toNat<128):encodeRune (c.toNat:Int)= [c]:=by
 unfold encodeRune;rw[encodeRuneZ_one a_ a_];simp
theorem Rn (l:List UInt8) (hne:l≠ []) (h:validD l=true): ∃r t,wX r/\l=encodeRune r++t/\validD t=true/\decodeL l=(r.toNat,(encodeRune r).length):=by
 rw[validD_step l hne] at h;by_cases hb:(decodeL l).1=65533/\(decodeL l).2=1
 ·rw[if_pos hb] at h;cases h
 ·rw[if_neg hb] at h;have d:=encode_decode l hne hb;have c:=decodeL_le l hne;refine⟨((decodeL l).1:Int),l.drop (decodeL l).2,Hp l,by rw[d,rR],h,?_⟩;rw[d,bT,fV,Nat.min_eq_left c]
theorem Ch (n b0 b1 b2 b3:Nat) (h:128<=b0) (h0:b0<256):128<=(decodeN n b0 b1 b2 b3).1:=by
 unfold decodeN
 repeat' split
 all_goals simp at *
 all_goals omega
theorem Ci (l:List UInt8) (c:UInt8):(decodeL (c::l)).1<32↔c.toNat<32:=by
 by_cases h:c.toNat<128
 ·rw[decodeL_ascii c l h]
 ·rw[decodeL_N];have:=Ch (c::l).length ((c::l).getD 0 0).toNat ((c::l).getD 1 0).toNat ((c::l).getD 2 0).toNat ((c::l).getD 3 0).toNat h_ (UInt8.toNat_lt _);omega
theorem vI (f:Nat) (c:UInt8) (r:List UInt8) (i:Nat) (acc:List UInt8):dQ (f+1) (c::r) i acc=if c=34 then(acc,(i:Int)+1,0) else if(eX (c::r)).2=0 then([],(i:Int),2) else
  dQ f ((c::r).drop (eX (c::r)).2.toNat) (i+(eX (c::r)).2.toNat) (acc++Lib.encodeRune (eX (c::r)).1):=rfl
theorem Hq: ∀(f:Nat) (l:List UInt8) (i:Nat) (acc:List UInt8),(dQ f l i acc).2.2=0->(i:Int)<(dQ f l i acc).2.1/\(dQ f l i acc).2.1<=i+l.length
 | 0,_,_,_,h=>by simp[dQ] at h
 | _+1,[],_,_,h=>by simp[dQ] at h
 | f+1,c::r,i,acc,h=>by
  rw[vI] at h ⊢;split
  ·exact⟨by simp only[];omega,by simp only[bH];omega⟩
  ·rename_i h34;rw[if_neg h34] at h;split
   ·rename_i h0;rw[if_pos h0] at h;exact absurd h e_
   ·rename_i h0;rw[if_neg h0] at h;have hp:=rP (c::r) (List.cons_ne_nil _ _);obtain⟨P,hP⟩:=exQ<|eX (c::r);rw[hP] at h hp h0 ⊢;have:=Hq f _ _ _ h;rw[aU] at this;omega
theorem Hr: ∀(f:Nat) (l:List UInt8) (i k:Nat) (acc:List UInt8),dQ f l (i+k) acc=((dQ f l i acc).1,(dQ f l i acc).2.1+k,(dQ f l i acc).2.2)
 | 0,_,i,k,_=>by simp[dQ]
 | _+1,[],i,k,_=>by simp[dQ]
 | f+1,c::r,i,k,acc=>by
  rw[vI,vI];split
  ·simp only[Prod.mk.injEq,true_and,and_true];omega
  ·split
   ·simp only[Prod.mk.injEq,true_and,and_true];omega
   ·rw[show i+k+(eX (c::r)).2.toNat=(i+(eX (c::r)).2.toNat)+k by omega];exact Hr f _ _ _ _
theorem Hs: ∀(f g:Nat) (l:List UInt8) (i:Nat) (acc:List UInt8),l.length<f->l.length<g->dQ f l i acc=dQ g l i acc
 | 0,_,l,_,_,h,_=>by omega
 | _,0,l,_,_,_,h=>by omega
 | _+1,_+1,[],_,_,_,_=>rfl
 | f+1,g+1,c::r,i,acc,hf,hg=>by
  rw[vI,vI];split
  ·rfl
  ·split
   ·rfl
   ·have hp:=rP (c::r) (List.cons_ne_nil _ _);exact Hs f g _ _ _ y_ y_
theorem Ro (s:List UInt8) (a:Nat) (ha:a<=s.length):bV s a=((bV (s.drop a) 0).1,(bV (s.drop a) 0).2.1+a,(bV (s.drop a) 0).2.2):=by
 unfold bV;rw[fV,Int.toNat_zero,kR,Nat.add_zero];by_cases h:s[a]?=some 34
 ·rw[if_pos ⟨a_,h⟩,if_pos ⟨a_,h⟩,jJ,show a+(0+1)=a+1 by omega];have hl:=(aR.1 h).1;rw[Hs (s.length+1) ((s.drop a).length+1) _ _ _ y_ (by rw[aU,aU];omega)];have:=Hr ((s.drop a).length+1) (s.drop (a+1)) (0+1) a [];rw[show 0+1+a=a+1 by omega] at this;exact this
 ·rw[if_neg (λg=>h g.2),if_neg (λg=>h g.2)];simp
theorem Rp (l:List UInt8) (h:(bV l 0).2.2=0):0<(bV l 0).2.1/\(bV l 0).2.1<=l.length:=by
 unfold bV at h ⊢;by_cases h1:0<=(0:Int)/\l[(0:Int).toNat]?=some 34
 ·rw[if_pos h1] at h ⊢;have:=Hq _ _ _ _ h;exact fs
 ·rw[if_neg h1] at h;exact absurd h e_
def cO (p:UInt8->Bool) (l:List UInt8):Nat:=(l.takeWhile p).length
def jQ (c:UInt8):Bool:=c==32||c==9||c==10||c==13
def gX (c:UInt8):Bool:=dM c||c==45||c==43||c==46||c==101||c==69
def gE (c:UInt8):Bool:=decide (97<=c.toNat/\c.toNat<=122)
def kM (c:UInt8):Option Nat:=if c=123 then some 0 else if c=125 then some 1 else if c=91 then some 2 else if c=93 then some 3 else if c=44 then some 4 else if c=58 then some 5 else none
def mC (l:List UInt8):Nat:=if l= [116,114,117,101] then 10 else if l= [102,97,108,115,101] then 11 else if l= [110,117,108,108] then 12 else 0
def bK (l:List UInt8):Nat×Nat×Int:=
 match l with
 | []=>(0,0,2)
 | c::_=>match kM c with
  | some k=>(2+k,1,0)
  | none=>if jQ c then(1,cO jQ l,0) else if c=34 then(if(bV l 0).2.2=0 then(8,(bV l 0).2.1.toNat,0) else(0,(bV l 0).2.1.toNat,(bV l 0).2.2)) else
   if c=45\/dM c=true then(if(dP (l.take (cO gX l))).2=0 then(9,cO gX l,0) else(0,0,(dP (l.take (cO gX l))).2)) else
   if mC (l.take (cO gE l))=0 then(0,0,2) else(mC (l.take (cO gE l)),cO gE l,0)
theorem qJ (p:UInt8->Bool) (l:List UInt8):cO p l<=l.length:=(List.takeWhile_sublist _).length_le
theorem wY (p:UInt8->Bool) (c:UInt8) (l:List UInt8):cO p (c::l)=if p c then cO p l+1 else 0:=by
 unfold cO;rw[List.takeWhile_cons];split<;>rfl
theorem Ht (c:UInt8) (k:Nat) (h:kM c=some k):k<=5:=by
 unfold kM at h
 repeat' split at h
 all_goals first | (injection h with h;omega) | cases h
theorem Hu (l:List UInt8):mC l=0\/(10<=mC l/\mC l<=12/\0<l.length):=by
 unfold mC;split
 ·rename_i h;right;rw[h];simp
 ·split
  ·rename_i h;right;rw[h];simp
  ·split
   ·rename_i h;right;rw[h];simp
   ·left;rfl
theorem Cj (l:List UInt8):0<=(bV l 0).2.1/\(bV l 0).2.1<=l.length:=by
 have e: ∀(f:Nat) (l:List UInt8) (i:Nat) (d:List UInt8),(i:Int)<=(dQ f l i d).2.1/\(dQ f l i d).2.1<=i+l.length:=by
  intro f
  induction f with
  | zero=>intro l i d;simp[dQ];omega
  | succ f ih=>
   intro l i d;cases l with
   | nil=>simp[dQ]
   | cons c r=>
    rw[vI];split
    ·simp only[bH];omega
    ·split
     ·simp only[bH];omega
     ·have hp:=rP (c::r) (List.cons_ne_nil _ _);have:=ih ((c::r).drop (eX (c::r)).2.toNat) (i+(eX (c::r)).2.toNat) (d++encodeRune (eX (c::r)).1);rw[aU] at this;omega
 unfold bV;by_cases h1:0<=(0:Int)/\l[(0:Int).toNat]?=some 34
 ·rw[if_pos h1];have:=e (l.length+1) (l.drop ((0:Int).toNat+1)) ((0:Int).toNat+1) [];exact fs
 ·rw[if_neg h1];simp
theorem vJ (l:List UInt8) (hne:l≠ []):(bK l).2.1<=l.length/\((bK l).2.2=0->1<=(bK l).1/\(bK l).1<=12/\0<(bK l).2.1):=by
 cases l with
 | nil=>exact absurd rfl hne
 | cons c r=>
  unfold bK;simp only[];cases hs:kM c with
  | some k=>
   have:=Ht c k hs;simp only[];exact⟨e_,λ_=>⟨a_,a_,a_⟩⟩
  | none=>
   simp only[];split
   ·rename_i i;have:=qJ jQ (c::r);refine⟨this,λ_=>⟨e_,e_,?_⟩⟩;rw[wY,if_pos i];simp
   ·split
    ·have hr:=Cj (c::r);split
     ·rename_i d;have:=Rp (c::r) d;exact⟨by simp only[];omega,λ_=>⟨e_,e_,by simp only[];omega⟩⟩
     ·rename_i d;exact⟨by simp only[];omega,λh=>absurd h d⟩
    ·split
     ·rename_i f;have g:gX c=true:=by
       unfold gX;rcases f with rfl | f
       ·decide
       ·rw[f];rfl
      split
      ·refine⟨qJ _ _,λ_=>⟨e_,e_,?_⟩⟩;simp only[];rw[wY,if_pos g];simp
      ·rename_i d;exact⟨e_,λh=>absurd h d⟩
     ·have e:=Hu ((c::r).take (cO gE (c::r)));split
      ·exact⟨e_,λh=>absurd h e_⟩
      ·rename_i d;rcases e with e | e
       ·exact absurd e d
       ·refine⟨qJ _ _,λ_=>⟨by simp only[];omega,by simp only[];omega,?_⟩⟩;have:=e.2.2;rw[bT] at this;simp only[];omega
structure aN where
 kind:Nat
 sf:Nat
 st:Nat
deriving DecidableEq
def eG:Nat->List UInt8->Nat->List aN×Option (Nat×Int)
 | 0,_,_=>([],none)
 | _+1,[],_=>([],none)
 | f+1,c::r,i=>if(bK (c::r)).2.2=0 then(⟨(bK (c::r)).1,i,i+(bK (c::r)).2.1⟩::(eG f ((c::r).drop (bK (c::r)).2.1) (i+(bK (c::r)).2.1)).1,(eG f ((c::r).drop (bK (c::r)).2.1) (i+(bK (c::r)).2.1)).2) else([],some (i+(bK (c::r)).2.1,(bK (c::r)).2.2))
def dH (s:List UInt8):List aN×Int×Int:=
 if 65536<s.length then([],0,3) else match (eG s.length s 0).2 with
 | none=>((eG s.length s 0).1,(s.length:Int),0)
 | some (p,e)=>([],(p:Int),e)
theorem tM (f:Nat) (c:UInt8) (r:List UInt8) (i:Nat):eG (f+1) (c::r) i=if(bK (c::r)).2.2=0 then(⟨(bK (c::r)).1,i,i+(bK (c::r)).2.1⟩::(eG f ((c::r).drop (bK (c::r)).2.1) (i+(bK (c::r)).2.1)).1,(eG f ((c::r).drop (bK (c::r)).2.1) (i+(bK (c::r)).2.1)).2) else([],some (i+(bK (c::r)).2.1,(bK (c::r)).2.2)):=rfl
theorem tN (f i:Nat):eG f [] i=([],none):=by cases f<;>rfl
theorem yU: ∀(f:Nat) (l:List UInt8) (i p:Nat) (e:Int),l.length<=f->(eG f l i).2=some (p,e)->i<=p/\p<=i+l.length/\e≠0
 | f,[],i,_,_,_,h=>by rw[tN] at h;cases h
 | 0,_::_,_,_,_,h,_=>by simp at h
 | f+1,c::r,i,p,e,hf,h=>by
  rw[tM] at h;have hle:=(vJ (c::r) (List.cons_ne_nil _ _)).1;by_cases h0:(bK (c::r)).2.2=0
  ·rw[if_pos h0] at h;have hok:=(vJ (c::r) (List.cons_ne_nil _ _)).2 h0;have hlc:(c::r).length=r.length+1:=rfl;have:=yU f _ _ p e y_ h;rw[aU] at this;omega
  ·rw[if_neg h0] at h;simp only[cG,Prod.mk.injEq] at h;obtain⟨rfl,rfl⟩:=h;exact⟨a_,a_,h0⟩
theorem Ck: ∀(f:Nat) (l:List UInt8) (i:Nat) (acc:List UInt8),
  ((i:Int)<=(dQ f l i acc).2.1/\(dQ f l i acc).2.1<=i+l.length)/\((dQ f l i acc).2.2=0\/((dQ f l i acc).2.2=2/\(dQ f l i acc).1= []))
 | 0,_,_,_=>⟨by simp[dQ];omega, .inr ⟨rfl,rfl⟩⟩
 | _+1,[],_,_=>⟨by simp[dQ], .inr ⟨rfl,rfl⟩⟩
 | f+1,c::r,i,acc=>by
  unfold dQ;split
  ·exact⟨by simp;omega, .inl rfl⟩
  ·split
   ·exact⟨by simp;omega, .inr ⟨rfl,rfl⟩⟩
   ·rename_i h2;have hp:=rP (c::r) (List.cons_ne_nil _ _);obtain⟨P,hP⟩:=exQ<|eX (c::r);rw[hP] at hp h2 ⊢;have:=Ck f ((c::r).drop P.2.toNat) (i+P.2.toNat) (acc++encodeRune P.1);rw[aU] at this;refine⟨?_,this.2⟩;have d:=this.1;simp only[bH] at d hp ⊢;omega
abbrev Sp:=Nat×Nat
structure aH where
 kind:Nat
 sf:Nat
 st:Nat
 key:Sp
 kids:List Nat
 pcs:List Sp
deriving DecidableEq
inductive JR where
 | ok (rest:List aN) (last:Sp) (nodes:List aH)
 | bad (at':Nat) (er:Int)
def dI:List aN->Nat
 | []=>0
 | t::_=>t.kind
def cA (n:Nat):List aN->Nat
 | []=>n
 | t::_=>t.sf
def dO (k:Nat):Nat:=if k=12 then 1 else if k=10\/k=11 then 2 else if k=9 then 3 else if k=8 then 4 else if k=4 then 5 else if k=2 then 6 else 0
def lK (f:aH->aH):Nat->List aH->List aH
 | _,[]=> []
 | 0,x::l=>f x::l
 | n+1,x::l=>x::lK f n l
def eM (n kid:Nat) (pc:Sp) (l:List aH):List aH:=lK (λx=> { x with kids:=x.kids++ [kid],pcs:=x.pcs++ [pc] }) n l
def lL (n e:Nat) (l:List aH):List aH:=lK (λx=> { x with st:=e }) n l
abbrev VF:=List aN->Sp->List aH->Sp->JR
def gF (txt:List UInt8) (V:VF) (obj:Bool) (had:List (List UInt8)) (rest:List aN) (last:Sp) (nodes:List aH):JR×List (List UInt8):=
 if obj=false then(V rest last nodes (0,0),had) else match rest with
  | []=>(.bad txt.length 2,had)
  | t::r=>
   if t.kind≠8 then(.bad t.sf 2,had) else
   if(dR ((txt.drop t.sf).take (t.st-t.sf))).1∈had then(.bad t.sf 7,had) else
   match r with
   | []=>(.bad txt.length 2,(dR ((txt.drop t.sf).take (t.st-t.sf))).1::had)
   | c::r2=>if c.kind≠7 then(.bad c.sf 2,(dR ((txt.drop t.sf).take (t.st-t.sf))).1::had) else
    (V r2 (c.sf,c.st) nodes (t.sf,t.st),(dR ((txt.drop t.sf).take (t.st-t.sf))).1::had)
def iP (txt:List UInt8) (V:VF) (closing:Nat) (obj:Bool) (n:Nat):Nat->List (List UInt8)->List aN->Sp->List aH->JR
 | 0,_,_,_,_=> .bad 0 0
 | f+1,had,rest,last,nodes=>match gF txt V obj had rest last nodes with
  | (.bad a e,_)=> .bad a e
  | (.ok r l ns,had')=>match r with
   | []=> .bad txt.length 2
   | t::r'=>if t.kind=closing then .ok r' (t.sf,t.st) (eM n nodes.length (last.2,t.sf) ns) else
    if t.kind=6 then iP txt V closing obj n f had' r' (t.sf,t.st) (eM n nodes.length (last.2,t.sf) ns) else .bad t.sf 2
def gG (txt:List UInt8) (V:VF) (closing:Nat) (obj:Bool) (n:Nat) (rest:List aN) (last:Sp) (nodes:List aH):JR:=
 match rest with
 | []=>iP txt V closing obj n 1 [] rest last nodes
 | t::r=>if t.kind=closing then .ok r (t.sf,t.st) nodes else iP txt V closing obj n (rest.length+1) [] rest last nodes
def tO (n:Nat):JR->JR
 | .ok r l ns=> .ok r l (lL n l.2 ns)
 | .bad a e=> .bad a e
def bI (txt:List UInt8):Nat->VF
 | 0,rest,last,nodes,key=>if dO (dI rest)=0 then .bad (cA txt.length rest) 2 else .bad (cA txt.length rest) 5
 | lv+1,rest,last,nodes,key=>if dO (dI rest)=0 then .bad (cA txt.length rest) 2 else
  if nodes.length=4096 then .bad (cA txt.length rest) 6 else match rest with
  | []=> .bad 0 0
  | t::r=>tO nodes.length (
   if t.kind=4 then gG txt (bI txt lv) 5 false nodes.length r (t.sf,t.st) (nodes++ [⟨dO t.kind,t.sf,t.st,key,[],[]⟩]) else
   if t.kind=2 then gG txt (bI txt lv) 3 true nodes.length r (t.sf,t.st) (nodes++ [⟨dO t.kind,t.sf,t.st,key,[],[]⟩]) else
   .ok r (t.sf,t.st) (nodes++ [⟨dO t.kind,t.sf,t.st,key,[],[]⟩]))
def fP (s:List UInt8):List aH×Int×Int:=
 if(dH s).2.2≠0 then([],(dH s).2.1,(dH s).2.2) else
  match bI s 32 ((dH s).1.filter (λt=>t.kind !=1)) (0,0) [] (0,0) with
  | .bad a e=>([],(a:Int),e)
  | .ok [] _ ns=>(ns,(s.length:Int),0)
  | .ok (t::_) _ _=>([],(t.sf:Int),2)
theorem lM (f:aH->aH): ∀(n:Nat) (l:List aH),(lK f n l).length=l.length
 | _,[]=>by simp[lK]
 | 0,x::l=>rfl
 | n+1,x::l=>by rw[lK,bH,lM f n l,bH]
theorem yV (f:aH->aH): ∀(n:Nat) (l:List aH) (j:Nat),(lK f n l)[j]?=if j=n then(l[j]?).map f else l[j]?
 | n,[],j=>by cases n<;>simp[lK]
 | 0,x::l,0=>rfl
 | 0,x::l,j+1=>by simp[lK]
 | n+1,x::l,0=>by simp[lK]
 | n+1,x::l,j+1=>by
  rw[lK,bZ,bZ,yV f n l j];simp
theorem Cm (f:aH->aH): ∀(pre:List aH) (x:aH) (post:List aH),lK f pre.length (pre++x::post)=pre++f x::post
 | [],x,post=>rfl
 | y::pre,x,post=>by
  show y::lK f pre.length (pre++x::post)=_;rw[Cm f pre x post];rfl
def wZ (n:Nat) (l:List aH):Prop:= ∀y∈l,y.kids.length<=n/\y.pcs.length<=n
def rS (V:VF):Prop:= ∀rest last nodes key r l ns,V rest last nodes key= .ok r l ns-> ∃more,ns=nodes++more/\1<=more.length/\more.length+r.length<=rest.length/\(∃k,r=rest.drop k)/\wZ more.length more
theorem yW {txt:List UInt8}{V:VF} (hV:rS V) {obj:Bool}{had:List (List UInt8)}{rest:List aN}{last:Sp}{nodes:List aH}{r:List aN}{l:Sp}{ns:List aH}{had':List (List UInt8)}
  (h:gF txt V obj had rest last nodes=(.ok r l ns,had')): ∃more,ns=nodes++more/\1<=more.length/\more.length+r.length<=rest.length/\(∃k,r=rest.drop k)/\wZ more.length more:=by
 unfold gF at h;split at h
 ·exact gu
 ·split at h
  ·exact ae
  ·rename_i t q;split at h
   ·exact ae
   ·split at h
    ·exact ae
    ·split at h
     ·exact ae
     ·rename_i c r2;split at h
      ·exact ae
      ·injection h with h _;obtain⟨more,j,f,h3,⟨k,i⟩,e⟩:=hV _ _ _ _ _ _ _ h;exact⟨more,j,f,by simp only[bH];omega,⟨k+2,by rw[i];rfl⟩,e⟩
def fW (pre:List aH) (x:aH) (post:List aH) (nodes:List aH):Prop:=nodes=pre++x::post/\x.kids.length<=post.length/\x.pcs.length<=post.length/\wZ post.length post
theorem fW.add {pre:List aH}{x:aH}{post nodes more:List aH} (h:fW pre x post nodes) (hm:wZ more.length more) (h1:1<=more.length) (k:Nat) (pc:Sp):
  fW pre { x with kids:=x.kids++ [k],pcs:=x.pcs++ [pc] } (post++more) (eM pre.length k pc (nodes++more)):=by
 obtain⟨rfl,h2,h3,d⟩:=h;refine⟨?_,?_,?_,?_⟩
 ·unfold eM;rw[mU,qK,Cm]
 ·simp only[aT,bH,kS];omega
 ·simp only[aT,bH,kS];omega
 ·intro y c;rw[aT];rcases rT.1 c with c | c
  ·have:=d y c;omega
  ·have:=hm y c;omega
theorem Cn {txt:List UInt8}{V:VF} (hV:rS V) {closing:Nat}{obj:Bool}{pre:List aH}: ∀(f:Nat) {had:List (List UInt8)}{rest:List aN}{last:Sp}{nodes:List aH}{r:List aN}{l:Sp}{ns:List aH}{x:aH}{post:List aH},
  fW pre x post nodes->iP txt V closing obj pre.length f had rest last nodes= .ok r l ns-> ∃x' post',fW pre x' post' ns/\x'.kind=x.kind/\x'.sf=x.sf/\x'.key=x.key/\post.length<post'.length/\post'.length+r.length<post.length+rest.length/\ ∃k,r=rest.drop k
 | 0,_,_,_,_,_,_,_,_,_,_,h=>by cases h
 | f +1,had,rest,last,nodes,r,l,ns,x,post,hm,h=>by
  unfold iP at h;split at h
  ·cases h
  ·rename_i r1 l1 ns1 had1 hk;obtain⟨more,rfl,h2,h3,⟨k,h4⟩,h5⟩:=yW hV hk;split at h
   ·cases h
   ·rename_i t r';simp only[bH] at h3;have c:r'=rest.drop (k+1):=by rw[<-jJ,<-h4];rfl
    have d:=hm.add h5 h2 nodes.length (last.2,t.sf);split at h
    ·injection h with e1 e2 e3;subst e1;subst e3;exact⟨_,_,d,rfl,rfl,rfl,by rw[aT];omega,by rw[aT];omega,_,c⟩
    ·split at h
     ·obtain⟨x',post',i1,i2,i3,i4,i5,i6,k2,i7⟩:=Cn hV f d h;rw[aT] at i5 i6;exact⟨x',post',i1,i2,i3,i4,a_,a_,k+1+k2,by rw[i7,c,jJ]⟩
     ·cases h
theorem xA {txt:List UInt8}{V:VF} (hV:rS V) {closing:Nat}{obj:Bool}{pre:List aH}{rest:List aN}{last:Sp}{nodes:List aH}{r:List aN}{l:Sp}{ns:List aH}{x:aH}{post:List aH}
  (hm:fW pre x post nodes) (h:gG txt V closing obj pre.length rest last nodes= .ok r l ns): ∃x' post',fW pre x' post' ns/\x'.kind=x.kind/\x'.sf=x.sf/\x'.key=x.key/\post.length<=post'.length/\post'.length+r.length<=post.length+rest.length/\ ∃k,r=rest.drop k:=by
 unfold gG at h;split at h
 ·exact lc
 ·rename_i t q;split at h
  ·injection h with d h2 c;subst d c;exact⟨x,post,hm,rfl,rfl,rfl,aD _,by simp only[bH];omega,1,rfl⟩
  ·exact lc
theorem Rq {pre:List aH}{x:aH}{post nodes:List aH} (h:fW pre x post nodes) (e:Nat):fW pre { x with st:=e } post (lL pre.length e nodes):=by
 obtain⟨rfl,d,f,c⟩:=h;exact⟨by unfold lL;rw[Cm],d,f,c⟩
theorem mV (txt:List UInt8): ∀lv,rS (bI txt lv)
 | 0=>λrest last nodes key r l ns h=>by
  unfold bI at h;split at h<;>cases h
 | lv +1=>λrest last nodes key r l ns h=>by
  have ih:=mV txt lv;cases rest with
  | nil=>
   unfold bI at h;rw[if_pos (show dO (dI [])=0 from rfl)] at h;cases h
  | cons t q=>
   unfold bI at h;split at h
   ·cases h
   ·split at h
    ·cases h
    ·simp only[] at h;have i: ∀x:JR,tO nodes.length x= .ok r l ns-> ∃ns',x= .ok r l ns'/\ns=lL nodes.length l.2 ns':=by
      intro x hx;exact kx
     obtain⟨ns',f,rfl⟩:=i _ h;have g:fW nodes ⟨dO t.kind,t.sf,t.st,key,[],[]⟩ [] (nodes++ [⟨dO t.kind,t.sf,t.st,key,[],[]⟩]):=⟨rfl,aD _,aD _,λy j=>by cases j⟩;have d: ∀ {x':aH}{c:List aH},fW nodes x' c ns'->c.length+r.length<=q.length->(∃k,r=q.drop k)-> ∃more,lL nodes.length l.2 ns'=nodes++more/\1<=more.length/\more.length+r.length<=(t::q).length/\(∃k,r=(t::q).drop k)/\wZ more.length more:=by
      intro x' c u hl ⟨k,hk⟩;obtain⟨e1,e2,e3,e4⟩:=Rq u l.2;refine⟨_,e1,e_,by simp only[bH];omega,⟨k+1,by rw[hk];rfl⟩,λy j=>?_⟩;simp only[bH];rcases fY.1 j with rfl | j
      ·exact⟨a_,a_⟩
      ·have:=e4 y j;omega
     split at f
     ·obtain⟨x',c,i1,_,_,_,_,i6,i7⟩:=xA ih g f;exact d i1 (by simpa using i6) i7
     ·split at f
      ·obtain⟨x',c,i1,_,_,_,_,i6,i7⟩:=xA ih g f;exact d i1 (by simpa using i6) i7
      ·injection f with o p s;subst o s;exact d g e_ ⟨0,rfl⟩
section
variable {α β:Type}{R:α->β->Prop}
end
section
variable {txt txt':List UInt8}{a b m n:Nat}{deep:Prop}{V V':VF}
end
theorem Hv {k:Nat}{x:JR}{r:List aN}{l:Sp}{ns:List aH} (hx:tO k x= .ok r l ns): ∃ns',x= .ok r l ns'/\ns=lL k l.2 ns':=kx
def yX (ts:List aN):List aN:=ts.filter (λt=>t.kind !=1)
def vK (n:Nat):JR->List aH×Int×Int
 | .bad a e=>([],(a:Int),e)
 | .ok [] _ ns=>(ns,(n:Int),0)
 | .ok (t::_) _ _=>([],(t.sf:Int),2)
def Bd (V:VF):Prop:= ∀rest last nodes key a e,V rest last nodes key= .bad a e->e≠0
theorem Rr {txt:List UInt8}{V:VF} (hV:Bd V) {obj:Bool}{had had':List (List UInt8)}{rest:List aN}{last:Sp}{nodes:List aH}{a:Nat}{e:Int} (h:gF txt V obj had rest last nodes=(.bad a e,had')):e≠0:=by
 unfold gF at h;split at h
 ·injection h with h _;exact hV _ _ _ _ _ _ h
 ·split at h
  ·exact bx
  ·split at h
   ·exact bx
   ·split at h
    ·exact bx
    ·split at h
     ·exact bx
     ·split at h
      ·exact bx
      ·injection h with h _;exact hV _ _ _ _ _ _ h
theorem Co {txt:List UInt8}{V:VF} (hV:Bd V) (hE:rS V) {closing:Nat}{obj:Bool}{n:Nat}: ∀(f:Nat) {had:List (List UInt8)}{rest:List aN}{last:Sp}{nodes:List aH}{a:Nat}{e:Int},rest.length<f->iP txt V closing obj n f had rest last nodes= .bad a e->e≠0
 | 0,_,_,_,_,_,_,hf,_=>by omega
 | f +1,had,rest,last,nodes,a,e,hf,h=>by
  unfold iP at h;split at h
  ·rename_i hk;injection h with h1 h2;subst h1 h2;exact Rr hV hk
  ·rename_i r1 l1 ns1 had1 hk;obtain⟨more,_,h2,h3,_⟩:=yW hE hk;split at h
   ·injection h with _ h;rw[<-h];decide
   ·simp only[bH] at h3;split at h
    ·cases h
    ·split at h
     ·exact Co hV hE f a_ h
     ·injection h with _ h;rw[<-h];decide
theorem Hw {txt:List UInt8}{V:VF} (hV:Bd V) (hE:rS V) {closing:Nat}{obj:Bool}{n:Nat}{rest:List aN}{last:Sp}{nodes:List aH}{a:Nat}{e:Int} (h:gG txt V closing obj n rest last nodes= .bad a e):e≠0:=by
 unfold gG at h;split at h
 ·exact Co hV hE 1 e_ h
 ·split at h
  ·cases h
  ·exact Co hV hE _ e_ h
theorem Rs {k:Nat}{x:JR}{a:Nat}{e:Int} (hx:tO k x= .bad a e):x= .bad a e:=by
 cases x with
 | bad a' e'=>exact hx
 | ok r' l' ns'=>cases hx
theorem Hx (txt:List UInt8): ∀lv,Bd (bI txt lv)
 | 0=>λrest last nodes key a e h=>by
  unfold bI at h;split at h
  ·injection h with _ h;rw[<-h];decide
  ·injection h with _ h;rw[<-h];decide
 | lv +1=>λrest last nodes key a e h=>by
  have ih:=Hx txt lv;have d:=mV txt lv;unfold bI at h;split at h
  ·injection h with _ h;rw[<-h];decide
  ·rename_i f;split at h
   ·injection h with _ h;rw[<-h];decide
   ·cases rest with
    | nil=>exact absurd rfl f
    | cons t r=>
     simp only[] at h;have c:=Rs h;split at c
     ·exact Hw ih d c
     ·split at c
      ·exact Hw ih d c
      ·cases c
theorem Hy (s:List UInt8):fP s=if(dH s).2.2≠0 then([],(dH s).2.1,(dH s).2.2) else vK s.length (bI s 32 (yX (dH s).1) (0,0) [] (0,0)):=by
 unfold fP yX vK;rfl
theorem Rt {s:List UInt8} (h:(dH s).2.2=0):s.length<=65536/\eG s.length s 0=((dH s).1,none):=by
 unfold dH at h ⊢;by_cases hb:65536<s.length
 ·rw[if_pos hb] at h;exact absurd h e_
 ·rw[if_neg hb] at h ⊢;cases hG:(eG s.length s 0).2 with
  | none=>exact⟨a_,Prod.ext rfl hG⟩
  | some x=>
   obtain⟨p,e⟩:=x;rw[hG] at h;exact absurd h (yU s.length s 0 p e (aD _) hG).2.2
theorem Ru {s:List UInt8} (h:(fP s).2.2=0):s.length<=65536/\ ∃T l ns,eG s.length s 0=(T,none)/\bI s 32 (yX T) (0,0) [] (0,0)= .ok [] l ns/\fP s=(ns,(s.length:Int),0):=by
 rw[Hy] at h ⊢;by_cases h0:(dH s).2.2=0
 ·rw[if_neg E4] at h ⊢;obtain⟨c,d⟩:=Rt h0;refine⟨c,(dH s).1,?_⟩;cases hv:bI s 32 (yX (dH s).1) (0,0) [] (0,0) with
  | bad a e=>rw[hv] at h;exact absurd h (Hx s 32 _ _ _ _ _ _ hv)
  | ok r l ns=>
   cases r with
   | cons t r=>rw[hv] at h;exact absurd h (by simp[vK])
   | nil=>exact⟨l,ns,d,rfl,rfl⟩
 ·rw[if_pos h0] at h;exact absurd h h0
theorem Rv {pre:List aH}{x:aH}{post nodes:List aH} (h:fW pre x post nodes):nodes[pre.length]?=some x:=by
 rw[h.1,kT (aD _),Nat.sub_self];rfl
theorem Rw {pre:List aH}{x:aH}{post nodes:List aH} (h:fW pre x post nodes):nodes.length=pre.length+1+post.length:=by
 rw[h.1,aT,bH];omega
end
section
open Go.Lib
end
section
open Go.Lib (compareBytes)
open Go.Lib (compareBytes compareInt)
open Go.Lib (compareBytes compareInt itoa decDigits nDigits)
theorem Hz (p:UInt8->Bool): ∀l:List UInt8,(∀c∈l,p c=true)->l.dropWhile p= []
 | [],_=>rfl
 | c::t,h=>by rw[List.dropWhile_cons,if_pos (h c lN)];exact Hz p t λx hx=>h x (List.mem_cons_of_mem _ hx)
theorem Rx (p:UInt8->Bool) (l:List UInt8) (h: ∀c∈l,p c=false):cI p l=(l,[],false):=by
 unfold cI;rw[Hz _ l λc d=>by simp[h c d]]
theorem Ia (p:UInt8->Bool): ∀(a:List UInt8) (b:UInt8) (t:List UInt8),(∀c∈a,p c=false)->p b=true->cI p (a++b::t)=(a,t,true)
 | [],b,t,_,hb=>by simp[cI,hb]
 | c::a,b,t,h,hb=>by
  have ih:=Ia p a b t (λx e=>h x (List.mem_cons_of_mem _ e)) hb;have d:=h c (lN);unfold cI at ih ⊢;rw[qK,List.dropWhile_cons,List.takeWhile_cons,d];simp only[Bool.not_false,if_true];cases hd:(a++b::t).dropWhile (λc=>!p c) with
  | nil=>rw[hd] at ih;simp at ih
  | cons y r=>rw[hd] at ih;simp at ih ⊢;exact ih
theorem Cp (u:Nat): ∀k,u<10 ^ k->1<=k->(decDigits u).length<=k:=by
 induction u using Nat.strongRecOn with
 | _ u ih=>
  intro k d e;by_cases h:u<10
  ·rw[decDigits,dif_pos h];exact e
  ·rw[decDigits,dif_neg h,aT];obtain⟨m,rfl⟩: ∃m,k=m+1:=⟨k-1,a_⟩;rw[Nat.pow_succ] at d;rcases Nat.eq_zero_or_pos m with c | c
   ·subst c;simp at d;omega
   ·have:=ih (u / 10) a_ m a_ c;simp;omega
theorem vL (l:List UInt8):l=cN l++List.replicate (l.length-(cN l).length) 48:=by
 unfold cN;have h:=List.takeWhile_append_dropWhile (p:=λx:UInt8=>x==48) (l:=l.reverse);have f:(l.reverse.takeWhile (· ==48))=List.replicate (l.reverse.takeWhile (· ==48)).length 48:=by
  rw[List.eq_replicate_iff];refine⟨rfl,λb e=>?_⟩;have:=gW.1 (List.all_takeWhile (p:=λx:UInt8=>x==48) (l:=l.reverse)) b e;simpa using this
 have c:l=(l.reverse.dropWhile (· ==48)).reverse++(l.reverse.takeWhile (· ==48)).reverse:=by
  rw[<-List.reverse_append,h,List.reverse_reverse]
 have d:l.length-(l.reverse.dropWhile (· ==48)).reverse.length=(l.reverse.takeWhile (· ==48)).length:=by
  have:=congrArg List.length c;rw[aT,(show (l.reverse.takeWhile (· ==48)).reverse.length=(l.reverse.takeWhile (· ==48)).length from List.length_reverse)] at this;omega
 rw[d,<-List.reverse_replicate,<-f];exact c
theorem Ib (l:List UInt8):(cN l).getLast?≠some 48:=by
 unfold cN;rw[List.getLast?_reverse];intro h;have:=List.head?_dropWhile_not (p:=λx:UInt8=>x==48) (l:=l.reverse);rw[h] at this;simp at this
def qL (i:Int):dU:=(dP (itoa i)).1
open Go.Lib (compareBytes compareInt itoa decDigits nDigits)
def kB (n:dU):List UInt8:=
 if jO n=false then [] else if n.dig= [] then [48] else
 (if n.neg then [45] else [])++(n.dig++(if n.exp≠0 then 101::itoa n.exp else []))
theorem Cq {p:UInt8->Bool}{l a b:List UInt8} (h:cI p l=(a,b,false)):a=l/\b= []:=by
 unfold cI at h;split at h
 ·injection h with d c;injection c with e _;exact⟨d.symm,e.symm⟩
 ·injection h with d c;injection c with e f;cases f
theorem nR {l:List UInt8} (h:cV l=true):l≠ []/\l.all dM=true:=by
 unfold cV at h;rw[fK] at h;exact⟨by intro e;rw[e] at h;simp at h,h.2⟩
theorem Ic {l:List UInt8} (h:l≠ []) (h2:l.all dM=true):cV l=true:=by
 unfold cV;rw[h2,Bool.and_true];cases l with
 | nil=>exact absurd rfl h
 | cons _ _=>rfl
theorem Id {l:List UInt8} (h:l.head?≠some 48) (hne:l≠ []):cN l≠ []/\(cN l).head?≠some 48:=by
 have c:=vL l;have d:cN l≠ []:=by
  intro e;rw[e,qM] at c;cases hc:l with
  | nil=>exact hne hc
  | cons x t=>
   rw[hc] at c h;simp only[bH,kS,Nat.sub_zero,List.replicate_succ] at c;injection c with f _;apply h;rw[f];rfl
 refine⟨d,?_⟩;rw[c] at h;cases hc:cN l with
 | nil=>exact absurd hc d
 | cons x t=>rw[hc] at h;exact h
theorem Cr (l:List UInt8):(cJ l).head?≠some 48:=by
 unfold cJ;intro h;have:=List.head?_dropWhile_not (p:=λx:UInt8=>x==48) (l:=l);rw[h] at this;simp at this
theorem yY {l:List UInt8} (h:l.all dM=true):(cJ l).all dM=true:=by
 rw[gW] at h ⊢;intro x c;exact h x ((List.dropWhile_sublist _).subset c)
theorem Ie {l:List UInt8} (h:l.all dM=true):(cN l).all dM=true:=by
 rw[vL l,List.all_append,fK] at h;exact h.1
theorem If {l:List UInt8}{x:vF} (h:kJ l=some x):cV x.whole=true/\x.rest.all dM=true/\x.exp.all dM=true:=by
 unfold kJ at h;simp only[] at h;have d:(cI eV (fJ l)).2.2=false->(if(cI eV (fJ l)).2.2=true then eW (cI eV (fJ l)).2.1 else [])= []:=λe=>by rw[e];rfl
 generalize (if(cI eV (fJ l)).2.2=true then eW (cI eV (fJ l)).2.1 else [])=xx at h d;split at h
 ·rename_i c;injection h with h;subst h;unfold pM at c;simp only[fK,Bool.or_eq_true,Bool.not_eq_true'] at c;obtain⟨⟨g,i,f⟩,_⟩:=c;refine⟨i,?_,?_⟩
  ·rcases f with f | f
   ·have:=(Cq (p:=gV) (l:=(cI eV (fJ l)).1) (a:=(cI gV (cI eV (fJ l)).1).1) (b:=(cI gV (cI eV (fJ l)).1).2.1) (by rw[<-f])).2;rw[this];rfl
   ·exact(nR f).2
  ·rcases g with g | g
   ·rw[d g];rfl
   ·exact(nR g).2
 ·cases h
theorem Ry {x:vF}{n:dU} (h1:cV x.whole=true) (h2:x.rest.all dM=true) (h:nN x=(n,0)):jO n=true:=by
 unfold nN at h;split at h
 ·injection h with _ h;cases h
 rename_i hlen;split at h
 ·injection h with _ h;cases h
 simp only[] at h;generalize (if x.low=true then-eL x.exp else eL x.exp)=ee at h;split at h
 ·injection h with h _;subst h;rfl
 rename_i g;split at h
 ·injection h with _ h;cases h
 rename_i hk;injection h with h _;subst h;have d:(cJ (x.whole++x.rest)).all dM=true:=yY EI;have f:=Id (Cr _) g;have hl1:(cJ (x.whole++x.rest)).length<=x.whole.length+x.rest.length:=by
  have:=(List.dropWhile_sublist (p:=λc:UInt8=>c==48) (l:=x.whole++x.rest)).length_le;rw[aT] at this;exact this
 have e:=congrArg List.length (vL (cJ (x.whole++x.rest)));rw[aT] at e;refine aO (.inr ⟨Ic f.1 (Ie d),?_,f.2,Ib _,?_,?_⟩)
 ·show (cN (cJ (x.whole++x.rest))).length<=1000;omega
 ·exact al
 ·exact al
theorem Ig {l:List UInt8}{n:dU} (h:dP l=(n,0)):jO n=true:=by
 unfold dP at h;cases hl:kJ l with
 | none=>rw[hl] at h;injection h with _ h;cases h
 | some x=>
  rw[hl] at h;obtain⟨c,d,_⟩:=If hl;exact Ry c d h
abbrev aA:=List UInt8
inductive VT where
 | mk (kind:Int) (text:aA) (keys:List aA) (items:List VT)
def VT.kind:VT->Int | .mk k _ _ _=>k
def VT.text:VT->aA | .mk _ s _ _=>s
def VT.keys:VT->List aA | .mk _ _ ks _=>ks
def VT.items:VT->List VT | .mk _ _ _ l=>l
theorem VT.ind {P:VT->Prop} (h: ∀k s ks l,(∀x∈l,P x)->P (.mk k s ks l)) (t:VT):P t:=by
 match t with
 | .mk k s ks l=>exact h k s ks l (λx hx=>VT.ind h x)
termination_by SizeOf.sizeOf t
decreasing_by
 have:=List.sizeOf_lt_of_mem hx;simp;omega
def nS (l:List aA):Nat:=(l.map List.length).sum
theorem Rz (y:aA) (l:List aA):nS (y::l)=y.length+nS l:=rfl
mutual
def VT.size:VT->Nat
 | .mk _ _ _ l=>fE l+1
def fE:List VT->Nat
 | []=>0
 | x::l=>x.size+fE l
end
mutual
def VT.depth:VT->Nat
 | .mk _ _ _ l=>eY l+1
def eY:List VT->Nat
 | []=>0
 | x::l=>max x.depth (eY l)
end
mutual
def VT.bulk:VT->Nat
 | .mk _ s ks l=>s.length+(nS ks+ks.length)+iG l+1
def iG:List VT->Nat
 | []=>0
 | x::l=>x.bulk+iG l
end
theorem Sa (l:List VT):fE l=(l.map VT.size).sum:=by
 induction l with
 | nil=>rfl
 | cons x l ih=>rw[fE,ih];rfl
theorem yZ (a b:List VT):fE (a++b)=fE a+fE b:=by simp[Sa]
theorem Cs (a b:List VT):eY (a++b)=max (eY a) (eY b):=by
 induction a with
 | nil=>simp[eY]
 | cons x a ih=>rw[qK,eY,eY,ih];omega
theorem zA (t:VT):0<t.size:=by cases t;rw[VT.size];omega
theorem xB (t:VT):t.size<=t.bulk:=by
 induction t using VT.ind with
 | h k s ks l ih=>
  rw[VT.size,VT.bulk];have:fE l<=iG l:=by
   clear k s ks
   induction l with
   | nil=>exact aD _
   | cons x l ihl=>
    rw[fE,iG];exact na
  omega
theorem Ih (l:List VT):fE l<=iG l:=by
 induction l with
 | nil=>exact aD _
 | cons x l ih=>rw[fE,iG];have:=xB x;omega
theorem Ct (t:VT):t.depth<=t.size:=by
 induction t using VT.ind with
 | h k s ks l ih=>
  rw[VT.size,VT.depth];have:eY l<=fE l:=by
   clear k s ks
   induction l with
   | nil=>exact aD _
   | cons x l ihl=>
    rw[fE,eY];exact na
  omega
theorem zB (l:List VT):eY l<=iG l:=by
 induction l with
 | nil=>exact aD _
 | cons x l ih=>rw[eY,iG];have:=Ct x;have:=xB x;omega
theorem zC (l:List VT):l.length<=iG l:=by
 induction l with
 | nil=>exact aD _
 | cons x l ih=>rw[iG,bH];have:=zA x;have:=xB x;omega
theorem zD {l:List VT}{x:VT} (h:x∈l):x.bulk<=iG l:=by
 induction l with
 | nil=>cases h
 | cons y l ih=>
  rw[iG];rcases fY.1 h with rfl | h
  ·omega
  ·have:=ih h;omega
theorem Sb {l:List VT}{x:VT} (h:x∈l):x.depth<=eY l:=by
 induction l with
 | nil=>cases h
 | cons y l ih=>
  rw[eY];rcases fY.1 h with rfl | h
  ·omega
  ·have:=ih h;omega
end
section
open Go.RowKit
def vM (w:World) (p:Option Addr) (l:List aA):Prop:=l= []\/ ∃g o,p=some ⟨g,o,none⟩/\g<w.heap.size/\ ∀(j:Nat) (x:aA),l[j]?=some x->w.cell? ⟨g,o+j,none⟩=some (.string (bs x))
theorem vM.keep {w w':World}{p:Option Addr}{l:List aA} (h:vM w p l) (hb:Below w.heap.size w w'):vM w' p l:=by
 rcases h with h | ⟨g,o,d,c,e⟩
 ·exact .inl h
 ·exact .inr ⟨g,o,d,iX c hb.size,λj x f=>by rw[hb.cell (p:=⟨g,o+j,none⟩) c];exact e j x f⟩
theorem vM.at_ {w:World}{p:Option Addr}{l:List aA} (h:vM w p l) {j:Nat}{x:aA} (hx:l[j]?=some x): ∃g o,p=some ⟨g,o,none⟩/\w.cell? ⟨g,o+j,none⟩=some (.string (bs x)):=by
 rcases h with h | ⟨g,o,c,h3,d⟩
 ·rw[h] at hx;simp at hx
 ·exact⟨g,o,c,d j x hx⟩
def SV (w:World) (v:Value) (l:List aA):Prop:= ∃p c,v= .slice p l.length c/\l.length<=c/\vM w p l
theorem SV.keep {w w':World}{v:Value}{l:List aA} (h:SV w v l) (hb:Below w.heap.size w w'):SV w' v l:=by
 obtain⟨p,c,f,d,e⟩:=h;exact⟨p,c,f,d,e.keep hb⟩
def VD (w:World):Nat->VT->Value->Value->Prop
 | 0,_,_,_=>False
 | n+1,t,kv,iv=>SV w kv t.keys/\ ∃p c,iv= .slice p t.items.length c/\t.items.length<=c/\(t.items= []\/ ∃g o,p=some ⟨g,o,none⟩/\g<w.heap.size/\ ∀(j:Nat) (x:VT),t.items[j]?=some x-> ∃kv' iv',w.cell? ⟨g,o+j*4,none⟩=some (.int .i64 x.kind)/\w.cell? ⟨g,o+j*4+1,none⟩=some (.string (bs x.text))/\w.cell? ⟨g,o+j*4+2,none⟩=some kv'/\w.cell? ⟨g,o+j*4+3,none⟩=some iv'/\VD w n x kv' iv')
def vv (t:VT) (kv iv:Value):Value:= .agg #[t.kind,bs t.text,kv,iv]
theorem VD.keep {w w':World} (hb:Below w.heap.size w w'): ∀ {n:Nat}{t:VT}{kv iv:Value},VD w n t kv iv->VD w' n t kv iv
 | 0,_,_,_,h=>h
 | n+1,t,kv,iv,h=>by
  obtain⟨h1,p,c,h2,h3,h4⟩:=h;refine⟨h1.keep hb,p,c,h2,h3,?_⟩;rcases h4 with h4 | ⟨g,o,h4,d,i⟩
  ·exact .inl h4
  ·refine .inr ⟨g,o,h4,iX d hb.size,λj x k=>?_⟩;obtain⟨e,f,e0,e1,e2,e3,e4⟩:=i j x k;exact⟨e,f,by rw[hb.cell (p:=⟨g,_,none⟩) d];exact e0,by rw[hb.cell (p:=⟨g,_,none⟩) d];exact e1,by rw[hb.cell (p:=⟨g,_,none⟩) d];exact e2,by rw[hb.cell (p:=⟨g,_,none⟩) d];exact e3,VD.keep hb e4⟩
def zE (w:World) (m:Nat) (p:Option Addr) (l:List VT):Prop:= ∀(j:Nat) (x:VT),l[j]?=some x-> ∃g o kv' iv',p=some ⟨g,o,none⟩/\g<w.heap.size/\w.cell? ⟨g,o+j*4,none⟩=some (.int .i64 x.kind)/\w.cell? ⟨g,o+j*4+1,none⟩=some (.string (bs x.text))/\w.cell? ⟨g,o+j*4+2,none⟩=some kv'/\w.cell? ⟨g,o+j*4+3,none⟩=some iv'/\VD w m x kv' iv'
theorem zE.keep {w w':World}{m:Nat}{p:Option Addr}{l:List VT} (h:zE w m p l) (hb:Below w.heap.size w w'):zE w' m p l:=by
 intro j x c;obtain⟨g,o,kv,iv,e0,e1,e2,e3,e4,e5,e6⟩:=h j x c;exact⟨g,o,kv,iv,e0,iX e1 hb.size,by rw[hb.cell (p:=⟨g,_,none⟩) e1];exact e2,by rw[hb.cell (p:=⟨g,_,none⟩) e1];exact e3,by rw[hb.cell (p:=⟨g,_,none⟩) e1];exact e4,by rw[hb.cell (p:=⟨g,_,none⟩) e1];exact e5,e6.keep hb⟩
theorem VD.parts {w:World}{n:Nat}{t:VT}{kv iv:Value} (h:VD w n t kv iv): ∃m,n=m+1/\SV w kv t.keys/\ ∃p c,iv= .slice p t.items.length c/\t.items.length<=c/\zE w m p t.items:=by
 cases n with
 | zero=>exact h.elim
 | succ m=>
  obtain⟨u,p,c,q,r,d⟩:=h;refine⟨m,rfl,u,p,c,q,r,λj x k=>?_⟩;rcases d with d | ⟨g,o,d,l,s⟩
  ·rw[d] at k;simp at k
  ·obtain⟨i,f,e⟩:=s j x k;exact⟨g,o,i,f,d,l,e⟩
theorem VD.form {w:World}{n:Nat}{t:VT}{kv iv:Value} (h:VD w n t kv iv): ∃pk ck p c,kv= .slice pk t.keys.length ck/\iv= .slice p t.items.length c:=by
 obtain⟨_,_,⟨pk,ck,e,_,_⟩,p,c,d,_,_⟩:=h.parts;exact⟨pk,ck,p,c,e,d⟩
def jR (w:World) (b:Nat) (t:VT) (kv iv:Value):Prop:=w.heap[b]?=some (.cells #[t.kind,bs t.text,kv,iv] 36)
theorem jR.new (w:World) (t:VT) (kv iv:Value):jR (w.alloc (.cells #[t.kind,bs t.text,kv,iv] 36)) w.heap.size t kv iv:=heap_alloc_new w _
theorem jR.keep {w w':World}{b:Nat}{t:VT}{kv iv:Value} (h:jR w b t kv iv) (hb:Below w.heap.size w w'):jR w' b t kv iv:=by
 unfold jR at h;exact(hb.block _ (aF h)).trans h
theorem jR.cells {w:World}{b:Nat}{t:VT}{kv iv:Value} (h:jR w b t kv iv):w.cell? ⟨b,0,none⟩=some (.int .i64 t.kind)/\w.cell? ⟨b,1,none⟩=some (.string (bs t.text))/\w.cell? ⟨b,2,none⟩=some kv/\w.cell? ⟨b,3,none⟩=some iv:=by
 unfold jR at h;refine⟨?_,?_,?_,?_⟩<;>simp[World.cell?,h]
theorem vN {α:Type}{l:List α}{k:Nat}{x:α} (h:l[k]?=some x):l.take (k+1)=l.take k++ [x]:=by
 rw[List.take_add_one,h];rfl
theorem Sc: ∀(n:Nat) (t:VT) (kv iv:Value) (w:World),VD w n t kv iv->t.bulk<=1099511627776->
  Calls Tryz.prog 108 #[vv t kv iv] w λe w'=>e= .returned (.int .i64 (t.size:Int))/\Below w.heap.size w w':=by
 have yp:=trivial;exact qw
theorem Sd: ∀(n:Nat) (t:VT) (kv iv:Value) (w:World),VD w n t kv iv->t.bulk<=1099511627776->
  Calls Tryz.prog 109 #[vv t kv iv] w λe w'=>e= .returned (.int .i64 (t.depth:Int))/\Below w.heap.size w w':=qw
end
end Go.Proofs.YtfhjncbdgjlcoaaGreatDoor
