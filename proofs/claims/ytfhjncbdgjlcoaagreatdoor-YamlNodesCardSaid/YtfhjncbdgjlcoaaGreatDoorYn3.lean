import Derived.Test.YtfhjncbdgjlcoaaGreatDoorYn2
set_option linter.unusedVariables false
set_option linter.unusedSimpArgs false
namespace Go.Proofs.YtfhjncbdgjlcoaaGreatDoor
open Tryz
section
open Go.Lib
theorem Tf (x:Int) (h0:0<=x) (h1:x<256):x.toNat.toUInt8.toNat=x.toNat:=by
 rw[show x.toNat.toUInt8=UInt8.ofNat x.toNat from rfl,UInt8.toNat_ofNat'];exact Nat.mod_eq_of_lt a_
def xM (r:Int):Prop:=0<=r/\r<=1114111/\(r<55296\/57343<r)
theorem Tg (r:Int) (h:xM r) (hr:128<=r): ∀c∈encodeRune r,128<=c.toNat:=by
 obtain⟨h0,g,h2⟩:=h;have d: ∀l:List Int,(∀x∈l,128<=x/\x<256)-> ∀c∈l.map (λx=>x.toNat.toUInt8),128<=c.toNat:=by
  intro l f c i;obtain⟨x,e,rfl⟩:=qJ.1 i;have:=f x e;rw[Tf x a_ a_];omega
 refine d _ ?_;by_cases g2:r<=2047
 .rw[encodeRuneZ_two a_ g2];exact EM
 by_cases g3:r<=65535
 .rw[encodeRuneZ_three a_];exact EM
 .rw[encodeRuneZ_four a_ g];exact EM
theorem Ip (l:aC):xM ((decodeL l).1:Int):=by
 rw[decodeL_N];have k0:=(l.getD 0 0).toNat_lt;rcases decodeN_shape l.length (l.getD 0 0).toNat (l.getD 1 0).toNat (l.getD 2 0).toNat (l.getD 3 0).toNat with⟨c,e⟩ | ⟨c1,c2,c3,cv,e⟩ | ⟨c1,c2,c3,c4,cv,cs,e⟩ | ⟨c1,c2,c3,c4,c5,cv,cw,e⟩ | e
 all_goals
  rw[e];unfold xM;dsimp only;omega
theorem Th (r:Int):encodeRune r≠ []:=by
 intro h;have:=(encodeRuneZ_length r).1;unfold encodeRune at h;rw[List.map_eq_nil_iff] at h;rw[h] at this;simp at this
theorem Ti (c:UInt8) (h:c.toNat<128):encodeRune (c.toNat:Int)= [c]:=by
 unfold encodeRune;rw[encodeRuneZ_one a_ a_];simp
theorem Tj (l:aC) (hne:l≠ []) (h:validD l=true): ∃r t,xM r/\l=encodeRune r++t/\validD t=true/\decodeL l=(r.toNat,(encodeRune r).length):=by
 rw[validD_step l hne] at h;by_cases hb:(decodeL l).1=65533/\(decodeL l).2=1
 .rw[if_pos hb] at h;cases h
 .rw[if_neg hb] at h;have d:=encode_decode l hne hb;have c:=decodeL_le l hne;refine⟨((decodeL l).1:Int),l.drop (decodeL l).2,Ip l,by rw[d,sS],h,?_⟩;rw[d,bR,gA,Nat.min_eq_left c]
theorem Dg (n b0 b1 b2 b3:Nat) (h:128<=b0) (h0:b0<256):128<=(decodeN n b0 b1 b2 b3).1:=by
 unfold decodeN
 repeat' split
 all_goals simp at *
 all_goals omega
theorem Dh (l:aC) (c:UInt8):(decodeL (c::l)).1<32↔c.toNat<32:=by
 by_cases h:c.toNat<128
 .rw[decodeL_ascii c l h]
 .rw[decodeL_N];have:=Dg (c::l).length ((c::l).getD 0 0).toNat ((c::l).getD 1 0).toNat ((c::l).getD 2 0).toNat ((c::l).getD 3 0).toNat h_ (UInt8.toNat_lt _);omega
theorem vS (f:Nat) (c:UInt8) (r:aC) (i:Nat) (acc:aC):eG (f+1) (c::r) i acc=if c=34 then(acc,(i:Int)+1,0) else if(fK (c::r)).2=0 then([],(i:Int),2) else
  eG f ((c::r).drop (fK (c::r)).2.toNat) (i+(fK (c::r)).2.toNat) (acc++Lib.encodeRune (fK (c::r)).1):=rfl
theorem Iq: ∀(f:Nat) (l:aC) (i:Nat) (acc:aC),(eG f l i acc).2.2=0->(i:Int)<(eG f l i acc).2.1/\(eG f l i acc).2.1<=i+l.length
 | 0,_,_,_,h=>by simp[eG] at h
 | _+1,[],_,_,h=>by simp[eG] at h
 | f+1,c::r,i,acc,h=>by
  rw[vS] at h ⊢;split
  .exact⟨by simp only[];omega,by simp only[bM];omega⟩
  .rename_i h34;rw[if_neg h34] at h;split
   .rename_i h0;rw[if_pos h0] at h;exact absurd h e_
   .rename_i h0;rw[if_neg h0] at h;have hp:=sR (c::r) (List.cons_ne_nil _ _);obtain⟨P,hP⟩:=exQ<|fK (c::r);rw[hP] at h hp h0 ⊢;have:=Iq f _ _ _ h;rw[bC] at this;omega
theorem Ir: ∀(f:Nat) (l:aC) (i k:Nat) (acc:aC),eG f l (i+k) acc=((eG f l i acc).1,(eG f l i acc).2.1+k,(eG f l i acc).2.2)
 | 0,_,i,k,_=>by simp[eG]
 | _+1,[],i,k,_=>by simp[eG]
 | f+1,c::r,i,k,acc=>by
  rw[vS,vS];split
  .simp only[Prod.mk.injEq,true_and,and_true];omega
  .split
   .simp only[Prod.mk.injEq,true_and,and_true];omega
   .rw[show i+k+(fK (c::r)).2.toNat=(i+(fK (c::r)).2.toNat)+k by omega];exact Ir f _ _ _ _
theorem Is: ∀(f g:Nat) (l:aC) (i:Nat) (acc:aC),l.length<f->l.length<g->eG f l i acc=eG g l i acc
 | 0,_,l,_,_,h,_=>by omega
 | _,0,l,_,_,_,h=>by omega
 | _+1,_+1,[],_,_,_,_=>rfl
 | f+1,g+1,c::r,i,acc,hf,hg=>by
  rw[vS,vS];split
  .rfl
  .split
   .rfl
   .have hp:=sR (c::r) (List.cons_ne_nil _ _);exact Is f g _ _ _ DJ DJ
theorem Tk (s:aC) (a:Nat) (ha:a<=s.length):cD s a=((cD (s.drop a) 0).1,(cD (s.drop a) 0).2.1+a,(cD (s.drop a) 0).2.2):=by
 unfold cD;rw[gA,Int.toNat_zero,kG,Nat.add_zero];by_cases h:s[a]?=some 34
 .rw[if_pos ⟨a_,h⟩,if_pos ⟨a_,h⟩,jO,show a+(0+1)=a+1 by omega];have hl:=(aW.1 h).1;rw[Is (s.length+1) ((s.drop a).length+1) _ _ _ DJ (by rw[bC,bC];omega)];have:=Ir ((s.drop a).length+1) (s.drop (a+1)) (0+1) a [];rw[show 0+1+a=a+1 by omega] at this;exact this
 .rw[if_neg (λg=>h g.2),if_neg (λg=>h g.2)];simp
theorem Tl (l:aC) (h:(cD l 0).2.2=0):0<(cD l 0).2.1/\(cD l 0).2.1<=l.length:=by
 unfold cD at h ⊢;by_cases h1:0<=(0:Int)/\l[(0:Int).toNat]?=some 34
 .rw[if_pos h1] at h ⊢;have:=Iq _ _ _ _ h;exact EI
 .rw[if_neg h1] at h;exact absurd h e_
def cX (p:UInt8->Bool) (l:aC):Nat:=(l.takeWhile p).length
def kJ (c:UInt8):Bool:=c==32||c==9||c==10||c==13
def iO (c:UInt8):Bool:=eC c||c==45||c==43||c==46||c==101||c==69
def gT (c:UInt8):Bool:=decide (97<=c.toNat/\c.toNat<=122)
def lG (c:UInt8):Option Nat:=if c=123 then some 0 else if c=125 then some 1 else if c=91 then some 2 else if c=93 then some 3 else if c=44 then some 4 else if c=58 then some 5 else none
def nG (l:aC):Nat:=if l= [116,114,117,101] then 10 else if l= [102,97,108,115,101] then 11 else if l= [110,117,108,108] then 12 else 0
def bT (l:aC):Nat×Nat×Int:=
 match l with
 | []=>(0,0,2)
 | c::_=>match lG c with
  | some k=>(2+k,1,0)
  | none=>if kJ c then(1,cX kJ l,0) else if c=34 then(if(cD l 0).2.2=0 then(8,(cD l 0).2.1.toNat,0) else(0,(cD l 0).2.1.toNat,(cD l 0).2.2)) else
   if c=45\/eC c=true then(if(eF (l.take (cX iO l))).2=0 then(9,cX iO l,0) else(0,0,(eF (l.take (cX iO l))).2)) else
   if nG (l.take (cX gT l))=0 then(0,0,2) else(nG (l.take (cX gT l)),cX gT l,0)
theorem rH (p:UInt8->Bool) (l:aC):cX p l<=l.length:=(List.takeWhile_sublist _).length_le
theorem xN (p:UInt8->Bool) (c:UInt8) (l:aC):cX p (c::l)=if p c then cX p l+1 else 0:=by
 unfold cX;rw[List.takeWhile_cons];split<;>rfl
theorem It (c:UInt8) (k:Nat) (h:lG c=some k):k<=5:=by
 unfold lG at h
 repeat' split at h
 all_goals first | (injection h with h;omega) | cases h
theorem Iu (l:aC):nG l=0\/(10<=nG l/\nG l<=12/\0<l.length):=by
 unfold nG;split
 .rename_i h;right;rw[h];simp
 .split
  .rename_i h;right;rw[h];simp
  .split
   .rename_i h;right;rw[h];simp
   .left;rfl
theorem Di (l:aC):0<=(cD l 0).2.1/\(cD l 0).2.1<=l.length:=by
 have e: ∀(f:Nat) (l:aC) (i:Nat) (d:aC),(i:Int)<=(eG f l i d).2.1/\(eG f l i d).2.1<=i+l.length:=by
  intro f
  induction f with
  | zero=>intro l i d;simp[eG];omega
  | succ f ih=>
   intro l i d;cases l with
   | nil=>simp[eG]
   | cons c r=>
    rw[vS];split
    .simp only[bM];omega
    .split
     .simp only[bM];omega
     .have hp:=sR (c::r) (List.cons_ne_nil _ _);have:=ih ((c::r).drop (fK (c::r)).2.toNat) (i+(fK (c::r)).2.toNat) (d++encodeRune (fK (c::r)).1);rw[bC] at this;omega
 unfold cD;by_cases h1:0<=(0:Int)/\l[(0:Int).toNat]?=some 34
 .rw[if_pos h1];have:=e (l.length+1) (l.drop ((0:Int).toNat+1)) ((0:Int).toNat+1) [];exact EI
 .rw[if_neg h1];simp
theorem vT (l:aC) (hne:l≠ []):(bT l).2.1<=l.length/\((bT l).2.2=0->1<=(bT l).1/\(bT l).1<=12/\0<(bT l).2.1):=by
 cases l with
 | nil=>exact absurd rfl hne
 | cons c r=>
  unfold bT;simp only[];cases hs:lG c with
  | some k=>
   have:=It c k hs;simp only[];exact⟨e_,λ_=>⟨a_,a_,a_⟩⟩
  | none=>
   simp only[];split
   .rename_i i;have:=rH kJ (c::r);refine⟨this,λ_=>⟨e_,e_,?_⟩⟩;rw[xN,if_pos i];simp
   .split
    .have hr:=Di (c::r);split
     .rename_i d;have:=Tl (c::r) d;exact⟨by simp only[];omega,λ_=>⟨e_,e_,by simp only[];omega⟩⟩
     .rename_i d;exact⟨by simp only[];omega,λh=>absurd h d⟩
    .split
     .rename_i f;have g:iO c=true:=by
       unfold iO;rcases f with rfl | f
       .decide
       .rw[f];rfl
      split
      .refine⟨rH _ _,λ_=>⟨e_,e_,?_⟩⟩;simp only[];rw[xN,if_pos g];simp
      .rename_i d;exact⟨e_,λh=>absurd h d⟩
     .have e:=Iu ((c::r).take (cX gT (c::r)));split
      .exact⟨e_,λh=>absurd h e_⟩
      .rename_i d;rcases e with e | e
       .exact absurd e d
       .refine⟨rH _ _,λ_=>⟨by simp only[];omega,by simp only[];omega,?_⟩⟩;have:=e.2.2;rw[bR] at this;simp only[];omega
structure aR where
 kind:Nat
 sf:Nat
 st:Nat
deriving DecidableEq
def eR:Nat->aC->Nat->List aR×Option (Nat×Int)
 | 0,_,_=>([],none)
 | _+1,[],_=>([],none)
 | f+1,c::r,i=>if(bT (c::r)).2.2=0 then(⟨(bT (c::r)).1,i,i+(bT (c::r)).2.1⟩::(eR f ((c::r).drop (bT (c::r)).2.1) (i+(bT (c::r)).2.1)).1,(eR f ((c::r).drop (bT (c::r)).2.1) (i+(bT (c::r)).2.1)).2) else([],some (i+(bT (c::r)).2.1,(bT (c::r)).2.2))
def dX (s:aC):List aR×Int×Int:=
 if 65536<s.length then([],0,3) else match (eR s.length s 0).2 with
 | none=>((eR s.length s 0).1,(s.length:Int),0)
 | some (p,e)=>([],(p:Int),e)
theorem uG (f:Nat) (c:UInt8) (r:aC) (i:Nat):eR (f+1) (c::r) i=if(bT (c::r)).2.2=0 then(⟨(bT (c::r)).1,i,i+(bT (c::r)).2.1⟩::(eR f ((c::r).drop (bT (c::r)).2.1) (i+(bT (c::r)).2.1)).1,(eR f ((c::r).drop (bT (c::r)).2.1) (i+(bT (c::r)).2.1)).2) else([],some (i+(bT (c::r)).2.1,(bT (c::r)).2.2)):=rfl
theorem uH (f i:Nat):eR f [] i=([],none):=by cases f<;>rfl
theorem zN: ∀(f:Nat) (l:aC) (i p:Nat) (e:Int),l.length<=f->(eR f l i).2=some (p,e)->i<=p/\p<=i+l.length/\e≠0
 | f,[],i,_,_,_,h=>by rw[uH] at h;cases h
 | 0,_::_,_,_,_,h,_=>by simp at h
 | f+1,c::r,i,p,e,hf,h=>by
  rw[uG] at h;have hle:=(vT (c::r) (List.cons_ne_nil _ _)).1;by_cases h0:(bT (c::r)).2.2=0
  .rw[if_pos h0] at h;have hok:=(vT (c::r) (List.cons_ne_nil _ _)).2 h0;have hlc:(c::r).length=r.length+1:=rfl;have:=zN f _ _ p e DJ h;rw[bC] at this;omega
  .rw[if_neg h0] at h;simp only[cC,Prod.mk.injEq] at h;obtain⟨rfl,rfl⟩:=h;exact⟨a_,a_,h0⟩
theorem Dj: ∀(f:Nat) (l:aC) (i:Nat) (acc:aC),
  ((i:Int)<=(eG f l i acc).2.1/\(eG f l i acc).2.1<=i+l.length)/\((eG f l i acc).2.2=0\/((eG f l i acc).2.2=2/\(eG f l i acc).1= []))
 | 0,_,_,_=>⟨by simp[eG];omega, .inr ⟨rfl,rfl⟩⟩
 | _+1,[],_,_=>⟨by simp[eG], .inr ⟨rfl,rfl⟩⟩
 | f+1,c::r,i,acc=>by
  unfold eG;split
  .exact⟨by simp;omega, .inl rfl⟩
  .split
   .exact⟨by simp;omega, .inr ⟨rfl,rfl⟩⟩
   .rename_i h2;have hp:=sR (c::r) (List.cons_ne_nil _ _);obtain⟨P,hP⟩:=exQ<|fK (c::r);rw[hP] at hp h2 ⊢;have:=Dj f ((c::r).drop P.2.toNat) (i+P.2.toNat) (acc++encodeRune P.1);rw[bC] at this;refine⟨?_,this.2⟩;have d:=this.1;simp only[bM] at d hp ⊢;omega
abbrev Sp:=Nat×Nat
structure aM where
 kind:Nat
 sf:Nat
 st:Nat
 key:Sp
 kids:List Nat
 pcs:List Sp
deriving DecidableEq
inductive JR where
 | ok (rest:List aR) (last:Sp) (nodes:List aM)
 | bad (at':Nat) (er:Int)
def dY:List aR->Nat
 | []=>0
 | t::_=>t.kind
def cH (n:Nat):List aR->Nat
 | []=>n
 | t::_=>t.sf
def eD (k:Nat):Nat:=if k=12 then 1 else if k=10\/k=11 then 2 else if k=9 then 3 else if k=8 then 4 else if k=4 then 5 else if k=2 then 6 else 0
def mM (f:aM->aM):Nat->List aM->List aM
 | _,[]=> []
 | 0,x::l=>f x::l
 | n+1,x::l=>x::mM f n l
def fB (n kid:Nat) (pc:Sp) (l:List aM):List aM:=mM (λx=> { x with kids:=x.kids++ [kid],pcs:=x.pcs++ [pc] }) n l
def mN (n e:Nat) (l:List aM):List aM:=mM (λx=> { x with st:=e }) n l
abbrev VF:=List aR->Sp->List aM->Sp->JR
def gU (txt:aC) (V:VF) (obj:Bool) (had:List aC) (rest:List aR) (last:Sp) (nodes:List aM):JR×List aC:=
 if obj=false then(V rest last nodes (0,0),had) else match rest with
  | []=>(.bad txt.length 2,had)
  | t::r=>
   if t.kind≠8 then(.bad t.sf 2,had) else
   if(eH ((txt.drop t.sf).take (t.st-t.sf))).1∈had then(.bad t.sf 7,had) else
   match r with
   | []=>(.bad txt.length 2,(eH ((txt.drop t.sf).take (t.st-t.sf))).1::had)
   | c::r2=>if c.kind≠7 then(.bad c.sf 2,(eH ((txt.drop t.sf).take (t.st-t.sf))).1::had) else
    (V r2 (c.sf,c.st) nodes (t.sf,t.st),(eH ((txt.drop t.sf).take (t.st-t.sf))).1::had)
def jF (txt:aC) (V:VF) (closing:Nat) (obj:Bool) (n:Nat):Nat->List aC->List aR->Sp->List aM->JR
 | 0,_,_,_,_=> .bad 0 0
 | f+1,had,rest,last,nodes=>match gU txt V obj had rest last nodes with
  | (.bad a e,_)=> .bad a e
  | (.ok r l ns,had')=>match r with
   | []=> .bad txt.length 2
   | t::r'=>if t.kind=closing then .ok r' (t.sf,t.st) (fB n nodes.length (last.2,t.sf) ns) else
    if t.kind=6 then jF txt V closing obj n f had' r' (t.sf,t.st) (fB n nodes.length (last.2,t.sf) ns) else .bad t.sf 2
def gV (txt:aC) (V:VF) (closing:Nat) (obj:Bool) (n:Nat) (rest:List aR) (last:Sp) (nodes:List aM):JR:=
 match rest with
 | []=>jF txt V closing obj n 1 [] rest last nodes
 | t::r=>if t.kind=closing then .ok r (t.sf,t.st) nodes else jF txt V closing obj n (rest.length+1) [] rest last nodes
def uI (n:Nat):JR->JR
 | .ok r l ns=> .ok r l (mN n l.2 ns)
 | .bad a e=> .bad a e
def bS (txt:aC):Nat->VF
 | 0,rest,last,nodes,key=>if eD (dY rest)=0 then .bad (cH txt.length rest) 2 else .bad (cH txt.length rest) 5
 | lv+1,rest,last,nodes,key=>if eD (dY rest)=0 then .bad (cH txt.length rest) 2 else
  if nodes.length=4096 then .bad (cH txt.length rest) 6 else match rest with
  | []=> .bad 0 0
  | t::r=>uI nodes.length (
   if t.kind=4 then gV txt (bS txt lv) 5 false nodes.length r (t.sf,t.st) (nodes++ [⟨eD t.kind,t.sf,t.st,key,[],[]⟩]) else
   if t.kind=2 then gV txt (bS txt lv) 3 true nodes.length r (t.sf,t.st) (nodes++ [⟨eD t.kind,t.sf,t.st,key,[],[]⟩]) else
   .ok r (t.sf,t.st) (nodes++ [⟨eD t.kind,t.sf,t.st,key,[],[]⟩]))
def gE (s:aC):List aM×Int×Int:=
 if(dX s).2.2≠0 then([],(dX s).2.1,(dX s).2.2) else
  match bS s 32 ((dX s).1.filter (λt=>t.kind !=1)) (0,0) [] (0,0) with
  | .bad a e=>([],(a:Int),e)
  | .ok [] _ ns=>(ns,(s.length:Int),0)
  | .ok (t::_) _ _=>([],(t.sf:Int),2)
theorem mO (f:aM->aM): ∀(n:Nat) (l:List aM),(mM f n l).length=l.length
 | _,[]=>by simp[mM]
 | 0,x::l=>rfl
 | n+1,x::l=>by rw[mM,bM,mO f n l,bM]
theorem zO (f:aM->aM): ∀(n:Nat) (l:List aM) (j:Nat),(mM f n l)[j]?=if j=n then(l[j]?).map f else l[j]?
 | n,[],j=>by cases n<;>simp[mM]
 | 0,x::l,0=>rfl
 | 0,x::l,j+1=>by simp[mM]
 | n+1,x::l,0=>by simp[mM]
 | n+1,x::l,j+1=>by
  rw[mM,bY,bY,zO f n l j];simp
theorem Dk (f:aM->aM): ∀(pre:List aM) (x:aM) (post:List aM),mM f pre.length (pre++x::post)=pre++f x::post
 | [],x,post=>rfl
 | y::pre,x,post=>by
  show y::mM f pre.length (pre++x::post)=_;rw[Dk f pre x post];rfl
def xO (n:Nat) (l:List aM):Prop:= ∀y∈l,y.kids.length<=n/\y.pcs.length<=n
def sV (V:VF):Prop:= ∀rest last nodes key r l ns,V rest last nodes key= .ok r l ns-> ∃more,ns=nodes++more/\1<=more.length/\more.length+r.length<=rest.length/\(∃k,r=rest.drop k)/\xO more.length more
theorem zP {txt:aC}{V:VF} (hV:sV V) {obj:Bool}{had:List aC}{rest:List aR}{last:Sp}{nodes:List aM}{r:List aR}{l:Sp}{ns:List aM}{had':List aC}
  (h:gU txt V obj had rest last nodes=(.ok r l ns,had')): ∃more,ns=nodes++more/\1<=more.length/\more.length+r.length<=rest.length/\(∃k,r=rest.drop k)/\xO more.length more:=by
 unfold gU at h;split at h
 .exact ii
 .split at h
  .exact ae
  .rename_i t q;split at h
   .exact ae
   .split at h
    .exact ae
    .split at h
     .exact ae
     .rename_i c r2;split at h
      .exact ae
      .injection h with h _;obtain⟨more,i,e,h3,⟨k,f⟩,j⟩:=hV _ _ _ _ _ _ _ h;exact⟨more,i,e,by simp only[bM];omega,⟨k+2,by rw[f];rfl⟩,j⟩
def gK (pre:List aM) (x:aM) (post:List aM) (nodes:List aM):Prop:=nodes=pre++x::post/\x.kids.length<=post.length/\x.pcs.length<=post.length/\xO post.length post
theorem gK.add {pre:List aM}{x:aM}{post nodes more:List aM} (h:gK pre x post nodes) (hm:xO more.length more) (h1:1<=more.length) (k:Nat) (pc:Sp):
  gK pre { x with kids:=x.kids++ [k],pcs:=x.pcs++ [pc] } (post++more) (fB pre.length k pc (nodes++more)):=by
 obtain⟨rfl,h2,h3,d⟩:=h;refine⟨?_,?_,?_,?_⟩
 .unfold fB;rw[nX,qK,Dk]
 .simp only[aZ,bM,lQ];omega
 .simp only[aZ,bM,lQ];omega
 .intro y c;rw[aZ];rcases pO.1 c with c | c
  .have:=d y c;omega
  .have:=hm y c;omega
theorem Dl {txt:aC}{V:VF} (hV:sV V) {closing:Nat}{obj:Bool}{pre:List aM}: ∀(f:Nat) {had:List aC}{rest:List aR}{last:Sp}{nodes:List aM}{r:List aR}{l:Sp}{ns:List aM}{x:aM}{post:List aM},
  gK pre x post nodes->jF txt V closing obj pre.length f had rest last nodes= .ok r l ns-> ∃x' post',gK pre x' post' ns/\x'.kind=x.kind/\x'.sf=x.sf/\x'.key=x.key/\post.length<post'.length/\post'.length+r.length<post.length+rest.length/\ ∃k,r=rest.drop k
 | 0,_,_,_,_,_,_,_,_,_,_,h=>by cases h
 | f +1,had,rest,last,nodes,r,l,ns,x,post,hm,h=>by
  unfold jF at h;split at h
  .cases h
  .rename_i r1 l1 ns1 had1 hk;obtain⟨more,rfl,h2,h3,⟨k,h4⟩,h5⟩:=zP hV hk;split at h
   .cases h
   .rename_i t r';simp only[bM] at h3;have c:r'=rest.drop (k+1):=by rw[<-jO,<-h4];rfl
    have d:=hm.add h5 h2 nodes.length (last.2,t.sf);split at h
    .injection h with e1 e2 e3;subst e1;subst e3;exact⟨_,_,d,rfl,rfl,rfl,by rw[aZ];omega,by rw[aZ];omega,_,c⟩
    .split at h
     .obtain⟨x',post',i1,i2,i3,i4,i5,i6,k2,i7⟩:=Dl hV f d h;rw[aZ] at i5 i6;exact⟨x',post',i1,i2,i3,i4,a_,a_,k+1+k2,by rw[i7,c,jO]⟩
     .cases h
theorem xP {txt:aC}{V:VF} (hV:sV V) {closing:Nat}{obj:Bool}{pre:List aM}{rest:List aR}{last:Sp}{nodes:List aM}{r:List aR}{l:Sp}{ns:List aM}{x:aM}{post:List aM}
  (hm:gK pre x post nodes) (h:gV txt V closing obj pre.length rest last nodes= .ok r l ns): ∃x' post',gK pre x' post' ns/\x'.kind=x.kind/\x'.sf=x.sf/\x'.key=x.key/\post.length<=post'.length/\post'.length+r.length<=post.length+rest.length/\ ∃k,r=rest.drop k:=by
 unfold gV at h;split at h
 .exact FQ
 .rename_i t q;split at h
  .injection h with c h2 d;subst c d;exact⟨x,post,hm,rfl,rfl,rfl,aF _,by simp only[bM];omega,1,rfl⟩
  .exact FQ
theorem Tm {pre:List aM}{x:aM}{post nodes:List aM} (h:gK pre x post nodes) (e:Nat):gK pre { x with st:=e } post (mN pre.length e nodes):=by
 obtain⟨rfl,c,f,d⟩:=h;exact⟨by unfold mN;rw[Dk],c,f,d⟩
theorem nY (txt:aC): ∀lv,sV (bS txt lv)
 | 0=>λrest last nodes key r l ns h=>by
  unfold bS at h;split at h<;>cases h
 | lv +1=>λrest last nodes key r l ns h=>by
  have ih:=nY txt lv;cases rest with
  | nil=>
   unfold bS at h;rw[if_pos (show eD (dY [])=0 from rfl)] at h;cases h
  | cons t q=>
   unfold bS at h;split at h
   .cases h
   .split at h
    .cases h
    .simp only[] at h;have j: ∀x:JR,uI nodes.length x= .ok r l ns-> ∃ns',x= .ok r l ns'/\ns=mN nodes.length l.2 ns':=by
      intro x hx;exact lp
     obtain⟨ns',f,rfl⟩:=j _ h;have g:gK nodes ⟨eD t.kind,t.sf,t.st,key,[],[]⟩ [] (nodes++ [⟨eD t.kind,t.sf,t.st,key,[],[]⟩]):=⟨rfl,aF _,aF _,λy i=>by cases i⟩;have d: ∀ {x':aM}{c:List aM},gK nodes x' c ns'->c.length+r.length<=q.length->(∃k,r=q.drop k)-> ∃more,mN nodes.length l.2 ns'=nodes++more/\1<=more.length/\more.length+r.length<=(t::q).length/\(∃k,r=(t::q).drop k)/\xO more.length more:=by
      intro x' c s hl ⟨k,hk⟩;obtain⟨e1,e2,e3,e4⟩:=Tm s l.2;refine⟨_,e1,e_,by simp only[bM];omega,⟨k+1,by rw[hk];rfl⟩,λy i=>?_⟩;simp only[bM];rcases fT.1 i with rfl | i
      .exact⟨a_,a_⟩
      .have:=e4 y i;omega
     split at f
     .obtain⟨x',c,i1,_,_,_,_,i6,i7⟩:=xP ih g f;exact d i1 (by simpa using i6) i7
     .split at f
      .obtain⟨x',c,i1,_,_,_,_,i6,i7⟩:=xP ih g f;exact d i1 (by simpa using i6) i7
      .injection f with o p u;subst o u;exact d g e_ ⟨0,rfl⟩
section
variable {α β:Type}{R:α->β->Prop}
end
section
variable {txt txt':aC}{a b m n:Nat}{deep:Prop}{V V':VF}
end
theorem Iv {k:Nat}{x:JR}{r:List aR}{l:Sp}{ns:List aM} (hx:uI k x= .ok r l ns): ∃ns',x= .ok r l ns'/\ns=mN k l.2 ns':=lp
def zQ (ts:List aR):List aR:=ts.filter (λt=>t.kind !=1)
def vU (n:Nat):JR->List aM×Int×Int
 | .bad a e=>([],(a:Int),e)
 | .ok [] _ ns=>(ns,(n:Int),0)
 | .ok (t::_) _ _=>([],(t.sf:Int),2)
def Bd (V:VF):Prop:= ∀rest last nodes key a e,V rest last nodes key= .bad a e->e≠0
theorem Tn {txt:aC}{V:VF} (hV:Bd V) {obj:Bool}{had had':List aC}{rest:List aR}{last:Sp}{nodes:List aM}{a:Nat}{e:Int} (h:gU txt V obj had rest last nodes=(.bad a e,had')):e≠0:=by
 unfold gU at h;split at h
 .injection h with h _;exact hV _ _ _ _ _ _ h
 .split at h
  .exact cg
  .split at h
   .exact cg
   .split at h
    .exact cg
    .split at h
     .exact cg
     .split at h
      .exact cg
      .injection h with h _;exact hV _ _ _ _ _ _ h
theorem Dm {txt:aC}{V:VF} (hV:Bd V) (hE:sV V) {closing:Nat}{obj:Bool}{n:Nat}: ∀(f:Nat) {had:List aC}{rest:List aR}{last:Sp}{nodes:List aM}{a:Nat}{e:Int},rest.length<f->jF txt V closing obj n f had rest last nodes= .bad a e->e≠0
 | 0,_,_,_,_,_,_,hf,_=>by omega
 | f +1,had,rest,last,nodes,a,e,hf,h=>by
  unfold jF at h;split at h
  .rename_i hk;injection h with h1 h2;subst h1 h2;exact Tn hV hk
  .rename_i r1 l1 ns1 had1 hk;obtain⟨more,_,h2,h3,_⟩:=zP hE hk;split at h
   .injection h with _ h;rw[<-h];decide
   .simp only[bM] at h3;split at h
    .cases h
    .split at h
     .exact Dm hV hE f a_ h
     .injection h with _ h;rw[<-h];decide
theorem Iw {txt:aC}{V:VF} (hV:Bd V) (hE:sV V) {closing:Nat}{obj:Bool}{n:Nat}{rest:List aR}{last:Sp}{nodes:List aM}{a:Nat}{e:Int} (h:gV txt V closing obj n rest last nodes= .bad a e):e≠0:=by
 unfold gV at h;split at h
 .exact Dm hV hE 1 e_ h
 .split at h
  .cases h
  .exact Dm hV hE _ e_ h
theorem To {k:Nat}{x:JR}{a:Nat}{e:Int} (hx:uI k x= .bad a e):x= .bad a e:=by
 cases x with
 | bad a' e'=>exact hx
 | ok r' l' ns'=>cases hx
theorem Ix (txt:aC): ∀lv,Bd (bS txt lv)
 | 0=>λrest last nodes key a e h=>by
  unfold bS at h;split at h
  .injection h with _ h;rw[<-h];decide
  .injection h with _ h;rw[<-h];decide
 | lv +1=>λrest last nodes key a e h=>by
  have ih:=Ix txt lv;have d:=nY txt lv;unfold bS at h;split at h
  .injection h with _ h;rw[<-h];decide
  .rename_i f;split at h
   .injection h with _ h;rw[<-h];decide
   .cases rest with
    | nil=>exact absurd rfl f
    | cons t r=>
     simp only[] at h;have c:=To h;split at c
     .exact Iw ih d c
     .split at c
      .exact Iw ih d c
      .cases c
theorem Iy (s:aC):gE s=if(dX s).2.2≠0 then([],(dX s).2.1,(dX s).2.2) else vU s.length (bS s 32 (zQ (dX s).1) (0,0) [] (0,0)):=by
 unfold gE zQ vU;rfl
theorem Tp {s:aC} (h:(dX s).2.2=0):s.length<=65536/\eR s.length s 0=((dX s).1,none):=by
 unfold dX at h ⊢;by_cases hb:65536<s.length
 .rw[if_pos hb] at h;exact absurd h e_
 .rw[if_neg hb] at h ⊢;cases hG:(eR s.length s 0).2 with
  | none=>exact⟨a_,Prod.ext rfl hG⟩
  | some x=>
   obtain⟨p,e⟩:=x;rw[hG] at h;exact absurd h (zN s.length s 0 p e (aF _) hG).2.2
theorem Iz {s:aC} (h:(gE s).2.2=0):s.length<=65536/\ ∃T l ns,eR s.length s 0=(T,none)/\bS s 32 (zQ T) (0,0) [] (0,0)= .ok [] l ns/\gE s=(ns,(s.length:Int),0):=by
 rw[Iy] at h ⊢;by_cases h0:(dX s).2.2=0
 .rw[if_neg JH] at h ⊢;obtain⟨c,d⟩:=Tp h0;refine⟨c,(dX s).1,?_⟩;cases hv:bS s 32 (zQ (dX s).1) (0,0) [] (0,0) with
  | bad a e=>rw[hv] at h;exact absurd h (Ix s 32 _ _ _ _ _ _ hv)
  | ok r l ns=>
   cases r with
   | cons t r=>rw[hv] at h;exact absurd h (by simp[vU])
   | nil=>exact⟨l,ns,d,rfl,rfl⟩
 .rw[if_pos h0] at h;exact absurd h h0
theorem Tq {pre:List aM}{x:aM}{post nodes:List aM} (h:gK pre x post nodes):nodes[pre.length]?=some x:=by
 rw[h.1,lR (aF _),Nat.sub_self];rfl
theorem Tr {pre:List aM}{x:aM}{post nodes:List aM} (h:gK pre x post nodes):nodes.length=pre.length+1+post.length:=by
 rw[h.1,aZ,bM];omega
end
section
open Go.Lib
end
section
open Go.Lib (compareBytes)
open Go.Lib (compareBytes compareInt)
open Go.Lib (compareBytes compareInt itoa decDigits nDigits)
theorem Ja (p:UInt8->Bool): ∀l:aC,(∀c∈l,p c=true)->l.dropWhile p= []
 | [],_=>rfl
 | c::t,h=>by rw[List.dropWhile_cons,if_pos (h c kR)];exact Ja p t λx hx=>h x (List.mem_cons_of_mem _ hx)
theorem Ts (p:UInt8->Bool) (l:aC) (h: ∀c∈l,p c=false):cO p l=(l,[],false):=by
 unfold cO;rw[Ja _ l λc d=>by simp[h c d]]
theorem Jb (p:UInt8->Bool): ∀(a:aC) (b:UInt8) (t:aC),(∀c∈a,p c=false)->p b=true->cO p (a++b::t)=(a,t,true)
 | [],b,t,_,hb=>by simp[cO,hb]
 | c::a,b,t,h,hb=>by
  have ih:=Jb p a b t (λx e=>h x (List.mem_cons_of_mem _ e)) hb;have d:=h c (kR);unfold cO at ih ⊢;rw[qK,List.dropWhile_cons,List.takeWhile_cons,d];simp only[Bool.not_false,if_true];cases hd:(a++b::t).dropWhile (λc=>!p c) with
  | nil=>rw[hd] at ih;simp at ih
  | cons y r=>rw[hd] at ih;simp at ih ⊢;exact ih
theorem Dn (u:Nat): ∀k,u<10 ^ k->1<=k->(decDigits u).length<=k:=by
 induction u using Nat.strongRecOn with
 | _ u ih=>
  intro k d e;by_cases h:u<10
  .rw[decDigits,dif_pos h];exact e
  .rw[decDigits,dif_neg h,aZ];obtain⟨m,rfl⟩: ∃m,k=m+1:=⟨k-1,a_⟩;rw[Nat.pow_succ] at d;rcases Nat.eq_zero_or_pos m with c | c
   .subst c;simp at d;omega
   .have:=ih (u / 10) a_ m a_ c;simp;omega
theorem vV (l:aC):l=cW l++List.replicate (l.length-(cW l).length) 48:=by
 unfold cW;have h:=List.takeWhile_append_dropWhile (p:=λx:UInt8=>x==48) (l:=l.reverse);have d:(l.reverse.takeWhile (· ==48))=List.replicate (l.reverse.takeWhile (· ==48)).length 48:=by
  rw[List.eq_replicate_iff];refine⟨rfl,λb f=>?_⟩;have:=iN.1 (List.all_takeWhile (p:=λx:UInt8=>x==48) (l:=l.reverse)) b f;simpa using this
 have c:l=(l.reverse.dropWhile (· ==48)).reverse++(l.reverse.takeWhile (· ==48)).reverse:=by
  rw[<-List.reverse_append,h,List.reverse_reverse]
 have e:l.length-(l.reverse.dropWhile (· ==48)).reverse.length=(l.reverse.takeWhile (· ==48)).length:=by
  have:=congrArg List.length c;rw[aZ,(show (l.reverse.takeWhile (· ==48)).reverse.length=(l.reverse.takeWhile (· ==48)).length from List.length_reverse)] at this;omega
 rw[e,<-List.reverse_replicate,<-d];exact c
theorem Jc (l:aC):(cW l).getLast?≠some 48:=by
 unfold cW;rw[List.getLast?_reverse];intro h;have:=List.head?_dropWhile_not (p:=λx:UInt8=>x==48) (l:=l.reverse);rw[h] at this;simp at this
def rI (i:Int):eJ:=(eF (itoa i)).1
open Go.Lib (compareBytes compareInt itoa decDigits nDigits)
def kS (n:eJ):aC:=
 if kH n=false then [] else if n.dig= [] then [48] else
 (if n.neg then [45] else [])++(n.dig++(if n.exp≠0 then 101::itoa n.exp else []))
theorem Do {p:UInt8->Bool}{l a b:aC} (h:cO p l=(a,b,false)):a=l/\b= []:=by
 unfold cO at h;split at h
 .injection h with d c;injection c with e _;exact⟨d.symm,e.symm⟩
 .injection h with d c;injection c with e f;cases f
theorem oT {l:aC} (h:dC l=true):l≠ []/\l.all eC=true:=by
 unfold dC at h;rw[fQ] at h;exact⟨by intro e;rw[e] at h;simp at h,h.2⟩
theorem Jd {l:aC} (h:l≠ []) (h2:l.all eC=true):dC l=true:=by
 unfold dC;rw[h2,Bool.and_true];cases l with
 | nil=>exact absurd rfl h
 | cons _ _=>rfl
theorem Je {l:aC} (h:l.head?≠some 48) (hne:l≠ []):cW l≠ []/\(cW l).head?≠some 48:=by
 have c:=vV l;have d:cW l≠ []:=by
  intro e;rw[e,rJ] at c;cases hc:l with
  | nil=>exact hne hc
  | cons x t=>
   rw[hc] at c h;simp only[bM,lQ,Nat.sub_zero,List.replicate_succ] at c;injection c with f _;apply h;rw[f];rfl
 refine⟨d,?_⟩;rw[c] at h;cases hc:cW l with
 | nil=>exact absurd hc d
 | cons x t=>rw[hc] at h;exact h
theorem Dp (l:aC):(cS l).head?≠some 48:=by
 unfold cS;intro h;have:=List.head?_dropWhile_not (p:=λx:UInt8=>x==48) (l:=l);rw[h] at this;simp at this
theorem zR {l:aC} (h:l.all eC=true):(cS l).all eC=true:=by
 rw[iN] at h ⊢;intro x c;exact h x ((List.dropWhile_sublist _).subset c)
theorem Jf {l:aC} (h:l.all eC=true):(cW l).all eC=true:=by
 rw[vV l,List.all_append,fQ] at h;exact h.1
theorem Jg {l:aC}{x:sQ} (h:lE l=some x):dC x.whole=true/\x.rest.all eC=true/\x.exp.all eC=true:=by
 unfold lE at h;simp only[] at h;have d:(cO fI (fZ l)).2.2=false->(if(cO fI (fZ l)).2.2=true then fJ (cO fI (fZ l)).2.1 else [])= []:=λe=>by rw[e];rfl
 generalize (if(cO fI (fZ l)).2.2=true then fJ (cO fI (fZ l)).2.1 else [])=xx at h d;split at h
 .rename_i c;injection h with h;subst h;unfold qI at c;simp only[fQ,Bool.or_eq_true,Bool.not_eq_true'] at c;obtain⟨⟨f,i,g⟩,_⟩:=c;refine⟨i,?_,?_⟩
  .rcases g with g | g
   .have:=(Do (p:=iM) (l:=(cO fI (fZ l)).1) (a:=(cO iM (cO fI (fZ l)).1).1) (b:=(cO iM (cO fI (fZ l)).1).2.1) (by rw[<-g])).2;rw[this];rfl
   .exact(oT g).2
  .rcases f with f | f
   .rw[d f];rfl
   .exact(oT f).2
 .cases h
theorem Tt {x:sQ}{n:eJ} (h1:dC x.whole=true) (h2:x.rest.all eC=true) (h:oO x=(n,0)):kH n=true:=by
 unfold oO at h;split at h
 .injection h with _ h;cases h
 rename_i hlen;split at h
 .injection h with _ h;cases h
 simp only[] at h;generalize (if x.low=true then-fA x.exp else fA x.exp)=ee at h;split at h
 .injection h with h _;subst h;rfl
 rename_i g;split at h
 .injection h with _ h;cases h
 rename_i hk;injection h with h _;subst h;have d:(cS (x.whole++x.rest)).all eC=true:=zR GT;have f:=Je (Dp _) g;have hl1:(cS (x.whole++x.rest)).length<=x.whole.length+x.rest.length:=by
  have:=(List.dropWhile_sublist (p:=λc:UInt8=>c==48) (l:=x.whole++x.rest)).length_le;rw[aZ] at this;exact this
 have e:=congrArg List.length (vV (cS (x.whole++x.rest)));rw[aZ] at e;refine aQ (.inr ⟨Jd f.1 (Jf d),?_,f.2,Jc _,?_,?_⟩)
 .show (cW (cS (x.whole++x.rest))).length<=1000;omega
 .exact am
 .exact am
theorem Jh {l:aC}{n:eJ} (h:eF l=(n,0)):kH n=true:=by
 unfold eF at h;cases hl:lE l with
 | none=>rw[hl] at h;injection h with _ h;cases h
 | some x=>
  rw[hl] at h;obtain⟨c,d,_⟩:=Jg hl;exact Tt c d h
abbrev aB:=List UInt8
inductive VT where
 | mk (kind:Int) (text:aB) (keys:List aB) (items:List VT)
def VT.kind:VT->Int | .mk k _ _ _=>k
def VT.text:VT->aB | .mk _ s _ _=>s
def VT.keys:VT->List aB | .mk _ _ ks _=>ks
def VT.items:VT->List VT | .mk _ _ _ l=>l
theorem VT.ind {P:VT->Prop} (h: ∀k s ks l,(∀x∈l,P x)->P (.mk k s ks l)) (t:VT):P t:=by
 match t with
 | .mk k s ks l=>exact h k s ks l (λx hx=>VT.ind h x)
termination_by SizeOf.sizeOf t
decreasing_by
 have:=List.sizeOf_lt_of_mem hx;simp;omega
def oU (l:List aB):Nat:=(l.map List.length).sum
theorem Tu (y:aB) (l:List aB):oU (y::l)=y.length+oU l:=rfl
mutual
def VT.size:VT->Nat
 | .mk _ _ _ l=>fU l+1
def fU:List VT->Nat
 | []=>0
 | x::l=>x.size+fU l
end
mutual
def VT.depth:VT->Nat
 | .mk _ _ _ l=>fL l+1
def fL:List VT->Nat
 | []=>0
 | x::l=>max x.depth (fL l)
end
mutual
def VT.bulk:VT->Nat
 | .mk _ s ks l=>s.length+(oU ks+ks.length)+iZ l+1
def iZ:List VT->Nat
 | []=>0
 | x::l=>x.bulk+iZ l
end
theorem Tv (l:List VT):fU l=(l.map VT.size).sum:=by
 induction l with
 | nil=>rfl
 | cons x l ih=>rw[fU,ih];rfl
theorem zS (a b:List VT):fU (a++b)=fU a+fU b:=by simp[Tv]
theorem Dq (a b:List VT):fL (a++b)=max (fL a) (fL b):=by
 induction a with
 | nil=>simp[fL]
 | cons x a ih=>rw[qK,fL,fL,ih];omega
theorem zT (t:VT):0<t.size:=by cases t;rw[VT.size];omega
theorem xQ (t:VT):t.size<=t.bulk:=by
 induction t using VT.ind with
 | h k s ks l ih=>
  rw[VT.size,VT.bulk];have:fU l<=iZ l:=by
   clear k s ks
   induction l with
   | nil=>exact aF _
   | cons x l ihl=>
    rw[fU,iZ];exact F4
  omega
theorem Ji (l:List VT):fU l<=iZ l:=by
 induction l with
 | nil=>exact aF _
 | cons x l ih=>rw[fU,iZ];have:=xQ x;omega
theorem Dr (t:VT):t.depth<=t.size:=by
 induction t using VT.ind with
 | h k s ks l ih=>
  rw[VT.size,VT.depth];have:fL l<=fU l:=by
   clear k s ks
   induction l with
   | nil=>exact aF _
   | cons x l ihl=>
    rw[fU,fL];exact F4
  omega
theorem zU (l:List VT):fL l<=iZ l:=by
 induction l with
 | nil=>exact aF _
 | cons x l ih=>rw[fL,iZ];have:=Dr x;have:=xQ x;omega
theorem zV (l:List VT):l.length<=iZ l:=by
 induction l with
 | nil=>exact aF _
 | cons x l ih=>rw[iZ,bM];have:=zT x;have:=xQ x;omega
theorem zW {l:List VT}{x:VT} (h:x∈l):x.bulk<=iZ l:=by
 induction l with
 | nil=>cases h
 | cons y l ih=>
  rw[iZ];rcases fT.1 h with rfl | h
  .omega
  .have:=ih h;omega
theorem Tw {l:List VT}{x:VT} (h:x∈l):x.depth<=fL l:=by
 induction l with
 | nil=>cases h
 | cons y l ih=>
  rw[fL];rcases fT.1 h with rfl | h
  .omega
  .have:=ih h;omega
end
section
open Go.RowKit
def vW (w:World) (p:Option Addr) (l:List aB):Prop:=l= []\/ ∃g o,p=some ⟨g,o,none⟩/\g<w.heap.size/\ ∀(j:Nat) (x:aB),l[j]?=some x->w.cell? ⟨g,o+j,none⟩=some (.string (bs x))
theorem vW.keep {w w':World}{p:Option Addr}{l:List aB} (h:vW w p l) (hb:aA w w'):vW w' p l:=by
 rcases h with h | ⟨g,o,d,c,e⟩
 .exact .inl h
 .exact .inr ⟨g,o,d,iG c hb.size,λj x f=>by rw[hb.cell (p:=⟨g,o+j,none⟩) c];exact e j x f⟩
theorem vW.at_ {w:World}{p:Option Addr}{l:List aB} (h:vW w p l) {j:Nat}{x:aB} (hx:l[j]?=some x): ∃g o,p=some ⟨g,o,none⟩/\w.cell? ⟨g,o+j,none⟩=some (.string (bs x)):=by
 rcases h with h | ⟨g,o,c,h3,d⟩
 .rw[h] at hx;simp at hx
 .exact⟨g,o,c,d j x hx⟩
def SV (w:World) (v:Value) (l:List aB):Prop:= ∃p c,v= .slice p l.length c/\l.length<=c/\vW w p l
theorem SV.keep {w w':World}{v:Value}{l:List aB} (h:SV w v l) (hb:aA w w'):SV w' v l:=by
 obtain⟨p,c,d,f,e⟩:=h;exact⟨p,c,d,f,e.keep hb⟩
def VD (w:World):Nat->VT->Value->Value->Prop
 | 0,_,_,_=>False
 | n+1,t,kv,iv=>SV w kv t.keys/\ ∃p c,iv= .slice p t.items.length c/\t.items.length<=c/\(t.items= []\/ ∃g o,p=some ⟨g,o,none⟩/\g<w.heap.size/\ ∀(j:Nat) (x:VT),t.items[j]?=some x-> ∃kv' iv',w.cell? ⟨g,o+j*4,none⟩=some (.int .i64 x.kind)/\w.cell? ⟨g,o+j*4+1,none⟩=some (.string (bs x.text))/\w.cell? ⟨g,o+j*4+2,none⟩=some kv'/\w.cell? ⟨g,o+j*4+3,none⟩=some iv'/\VD w n x kv' iv')
def vv (t:VT) (kv iv:Value):Value:= .agg #[t.kind,bs t.text,kv,iv]
theorem VD.keep {w w':World} (hb:aA w w'): ∀ {n:Nat}{t:VT}{kv iv:Value},VD w n t kv iv->VD w' n t kv iv
 | 0,_,_,_,h=>h
 | n+1,t,kv,iv,h=>by
  obtain⟨h1,p,c,h2,h3,h4⟩:=h;refine⟨h1.keep hb,p,c,h2,h3,?_⟩;rcases h4 with h4 | ⟨g,o,h4,d,i⟩
  .exact .inl h4
  .refine .inr ⟨g,o,h4,iG d hb.size,λj x k=>?_⟩;obtain⟨e,f,e0,e1,e2,e3,e4⟩:=i j x k;exact⟨e,f,by rw[hb.cell (p:=⟨g,_,none⟩) d];exact e0,by rw[hb.cell (p:=⟨g,_,none⟩) d];exact e1,by rw[hb.cell (p:=⟨g,_,none⟩) d];exact e2,by rw[hb.cell (p:=⟨g,_,none⟩) d];exact e3,VD.keep hb e4⟩
def zX (w:World) (m:Nat) (p:Option Addr) (l:List VT):Prop:= ∀(j:Nat) (x:VT),l[j]?=some x-> ∃g o kv' iv',p=some ⟨g,o,none⟩/\g<w.heap.size/\w.cell? ⟨g,o+j*4,none⟩=some (.int .i64 x.kind)/\w.cell? ⟨g,o+j*4+1,none⟩=some (.string (bs x.text))/\w.cell? ⟨g,o+j*4+2,none⟩=some kv'/\w.cell? ⟨g,o+j*4+3,none⟩=some iv'/\VD w m x kv' iv'
theorem zX.keep {w w':World}{m:Nat}{p:Option Addr}{l:List VT} (h:zX w m p l) (hb:aA w w'):zX w' m p l:=by
 intro j x c;obtain⟨g,o,kv,iv,e0,e1,e2,e3,e4,e5,e6⟩:=h j x c;exact⟨g,o,kv,iv,e0,iG e1 hb.size,by rw[hb.cell (p:=⟨g,_,none⟩) e1];exact e2,by rw[hb.cell (p:=⟨g,_,none⟩) e1];exact e3,by rw[hb.cell (p:=⟨g,_,none⟩) e1];exact e4,by rw[hb.cell (p:=⟨g,_,none⟩) e1];exact e5,e6.keep hb⟩
theorem VD.parts {w:World}{n:Nat}{t:VT}{kv iv:Value} (h:VD w n t kv iv): ∃m,n=m+1/\SV w kv t.keys/\ ∃p c,iv= .slice p t.items.length c/\t.items.length<=c/\zX w m p t.items:=by
 cases n with
 | zero=>exact h.elim
 | succ m=>
  obtain⟨s,p,c,l,q,d⟩:=h;refine⟨m,rfl,s,p,c,l,q,λj x i=>?_⟩;rcases d with d | ⟨g,o,d,u,r⟩
  .rw[d] at i;simp at i
  .obtain⟨f,k,e⟩:=r j x i;exact⟨g,o,f,k,d,u,e⟩
theorem VD.form {w:World}{n:Nat}{t:VT}{kv iv:Value} (h:VD w n t kv iv): ∃pk ck p c,kv= .slice pk t.keys.length ck/\iv= .slice p t.items.length c:=by
 obtain⟨_,_,⟨pk,ck,e,_,_⟩,p,c,d,_,_⟩:=h.parts;exact⟨pk,ck,p,c,e,d⟩
def kK (w:World) (b:Nat) (t:VT) (kv iv:Value):Prop:=w.heap[b]?=some (.cells #[t.kind,bs t.text,kv,iv] 36)
theorem kK.new (w:World) (t:VT) (kv iv:Value):kK (w.alloc (.cells #[t.kind,bs t.text,kv,iv] 36)) w.heap.size t kv iv:=heap_alloc_new w _
theorem kK.keep {w w':World}{b:Nat}{t:VT}{kv iv:Value} (h:kK w b t kv iv) (hb:aA w w'):kK w' b t kv iv:=by
 unfold kK at h;exact(hb.block _ (aG h)).trans h
theorem kK.cells {w:World}{b:Nat}{t:VT}{kv iv:Value} (h:kK w b t kv iv):w.cell? (b,0)=some (.int .i64 t.kind)/\w.cell? (b,1)=some (.string (bs t.text))/\w.cell? (b,2)=some kv/\w.cell? (b,3)=some iv:=by
 unfold kK at h;refine⟨?_,?_,?_,?_⟩<;>simp[World.cell?,h]
theorem sW {α:Type}{l:List α}{k:Nat}{x:α} (h:l[k]?=some x):l.take (k+1)=l.take k++ [x]:=by
 rw[List.take_add_one,h];rfl
theorem Tx: ∀(n:Nat) (t:VT) (kv iv:Value) (w:World),VD w n t kv iv->t.bulk<=1099511627776->
  Calls prog 108 #[vv t kv iv] w (aT w (.int .i64 (t.size:Int))):=by
 have RZ:=trivial;exact PV
theorem Ty: ∀(n:Nat) (t:VT) (kv iv:Value) (w:World),VD w n t kv iv->t.bulk<=1099511627776->
  Calls prog 109 #[vv t kv iv] w (aT w (.int .i64 (t.depth:Int))):=PV
end
end Go.Proofs.YtfhjncbdgjlcoaaGreatDoor
