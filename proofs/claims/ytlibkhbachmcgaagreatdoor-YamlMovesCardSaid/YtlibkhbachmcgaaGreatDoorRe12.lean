import Derived.Test.YtlibkhbachmcgaaGreatDoorRe2
import Derived.Test.YtlibkhbachmcgaaGreatDoorRe3
import Derived.Test.YtlibkhbachmcgaaGreatDoorRe1
import Derived.Lib.ReplaceLaws
import Derived.Lib.SplitLaws
set_option maxRecDepth 100000
set_option maxHeartbeats 4000000
namespace Go.Proofs.YtlibkhbachmcgaaGreatDoor
set_option linter.unusedSimpArgs false
set_option linter.unusedVariables false
open Go.Lib
def sqGo:Nat→List UInt8→Nat→List UInt8→List UInt8×Int×Int
 | 0,_,i,_=>([],(i:Int),2)
 | _+1,[],i,_=>([],(i:Int),2)
 | f+1,c::r,i,acc=>if c=39 then(if r.head?=some 39 then sqGo f (r.drop 1) (i+2) (acc++ [39]) else(acc,(i:Int)+1,0)) else if plainB (decodeL (c::r)) then([],(i:Int),2) else
  sqGo f ((c::r).drop (decodeL (c::r)).2) (i+(decodeL (c::r)).2) (acc++(c::r).take (decodeL (c::r)).2)
theorem sqGo_cons (f:Nat) (c:UInt8) (r:List UInt8) (i:Nat) (acc:List UInt8):sqGo (f+1) (c::r) i acc=if c=39 then(if r.head?=some 39 then sqGo f (r.drop 1) (i+2) (acc++ [39]) else(acc,(i:Int)+1,0)) else if plainB (decodeL (c::r)) then([],(i:Int),2) else
  sqGo f ((c::r).drop (decodeL (c::r)).2) (i+(decodeL (c::r)).2) (acc++(c::r).take (decodeL (c::r)).2):=rfl
def sqL (l:List UInt8) (a:Int):List UInt8×Int×Int:=
 if a<0∨(l.length:Int)<a then([],0,2) else if l[a.toNat]?=some 39 then sqGo (l.length+1) (l.drop (a.toNat+1)) (a.toNat+1) [] else([],a,2)
def wrGo (del:Bool):Nat→List UInt8→Nat→Nat
 | 0,_,i=>i
 | _+1,[],i=>i
 | f+1,c::r,i=>if plainB (decodeL (c::r))||(del&&c==127) then i else wrGo del f ((c::r).drop (decodeL (c::r)).2) (i+(decodeL (c::r)).2)
theorem wrGo_cons (del:Bool) (f:Nat) (c:UInt8) (r:List UInt8) (i:Nat):wrGo del (f+1) (c::r) i=if plainB (decodeL (c::r))||(del&&c==127) then i else wrGo del f ((c::r).drop (decodeL (c::r)).2) (i+(decodeL (c::r)).2):=rfl
def wrL (del:Bool) (l:List UInt8):Nat:=wrGo del l.length l 0
theorem wrGo_bd (del:Bool): ∀(f:Nat) (l:List UInt8) (i:Nat),i≤wrGo del f l i∧wrGo del f l i≤i+l.length
 | 0,l,i=>⟨Nat.le_refl _,Nat.le_add_right _ _⟩
 | _+1,[],i=>⟨Nat.le_refl _,Nat.le_refl _⟩
 | f+1,c::r,i=>by
  unfold wrGo
  split
  ·exact⟨Nat.le_refl _,Nat.le_add_right _ _⟩
  ·have h:=wrGo_bd del f ((c::r).drop (decodeL (c::r)).2) (i+(decodeL (c::r)).2)
   have hl:=decodeL_le (c::r) (List.cons_ne_nil _ _)
   rw[List.length_drop] at h
   omega
theorem wrGo_off (del:Bool): ∀(f:Nat) (l:List UInt8) (i k:Nat),wrGo del f l (i+k)=wrGo del f l i+k
 | 0,l,i,k=>rfl
 | _+1,[],i,k=>rfl
 | f+1,c::r,i,k=>by
  unfold wrGo
  split
  ·rfl
  ·rw[show i+k+(decodeL (c::r)).2=(i+(decodeL (c::r)).2)+k by omega]
   exact wrGo_off del f _ _ k
theorem enc39:encodeRune 39= [39]:=by decide
def spL (l:List UInt8):Nat:=(l.takeWhile (· ==32)).length
def trL (l:List UInt8):Nat:=l.length-spL l.reverse
theorem spL_le (l:List UInt8):spL l≤l.length:=(List.takeWhile_sublist _).length_le
theorem spL_cons (c:UInt8) (l:List UInt8):spL (c::l)=if c=32 then spL l+1 else 0:=by
 unfold spL
 rw[List.takeWhile_cons]
 by_cases h:c=32
 ·rw[if_pos (by simp[h]),if_pos h];rfl
 ·rw[if_neg (by simp[h]),if_neg h];rfl
theorem spL_at: ∀(l:List UInt8) (i:Nat),i<spL l→l[i]?=some 32
 | [],i,h=>by simp[spL] at h
 | c::l,i,h=>by
  rw[spL_cons] at h
  by_cases hc:c=32
  ·rw[if_pos hc] at h
   cases i with
   | zero=>rw[hc];rfl
   | succ i=>rw[List.getElem?_cons_succ];exact spL_at l i (by omega)
  ·rw[if_neg hc] at h;omega
theorem spL_end: ∀(l:List UInt8),l[spL l]?≠some 32
 | []=>by simp
 | c::l=>by
  rw[spL_cons]
  by_cases hc:c=32
  ·rw[if_pos hc,List.getElem?_cons_succ];exact spL_end l
  ·rw[if_neg hc];simpa using hc
theorem trL_le (l:List UInt8):trL l≤l.length:=Nat.sub_le _ _
theorem trL_at (l:List UInt8) (i:Nat) (h:trL l≤i) (hi:i<l.length):l[i]?=some 32:=by
 have h1:=spL_le l.reverse
 rw[List.length_reverse] at h1
 unfold trL at h
 have h2:=spL_at l.reverse (l.length-1-i) (by omega)
 rw[List.getElem?_reverse (by omega)] at h2
 rw[show l.length-1-(l.length-1-i)=i by omega] at h2
 exact h2
theorem trL_end (l:List UInt8) (h:0<trL l):l[trL l-1]?≠some 32:=by
 have h1:=spL_le l.reverse
 rw[List.length_reverse] at h1
 have h2:=spL_end l.reverse
 unfold trL at h ⊢
 rw[List.getElem?_reverse (by omega)] at h2
 rw[show l.length-spL l.reverse-1=l.length-1-spL l.reverse by omega]
 exact h2
def noteGo (t:List UInt8):Nat→Nat→Nat
 | 0,_=>t.length
 | f+1,i=>if t.length≤i then t.length else if t[i]?=some 35∧t[i-1]?=some 32 then i else noteGo t f (i+1)
def noteL (t:List UInt8) (a:Nat):Nat:=noteGo t (t.length+1) (max a 1)
theorem noteGo_spec (t:List UInt8): ∀(f i:Nat),t.length<i+f→noteGo t f i≤t.length∧(noteGo t f i<t.length→i≤noteGo t f i∧t[noteGo t f i]?=some 35∧t[noteGo t f i-1]?=some 32)∧(∀j,i≤j→j<noteGo t f i→ ¬(t[j]?=some 35∧t[j-1]?=some 32))
 | 0,i,h=>⟨Nat.le_refl _,fun h=>absurd h (Nat.lt_irrefl _),fun j h1 h2=>by simp[noteGo] at h2;omega⟩
 | f+1,i,h=>by
  unfold noteGo
  by_cases h1:t.length≤i
  ·rw[if_pos h1]
   exact⟨Nat.le_refl _,fun h=>absurd h (Nat.lt_irrefl _),fun j h2 h3=>by omega⟩
  ·rw[if_neg h1]
   by_cases h2:t[i]?=some 35∧t[i-1]?=some 32
   ·rw[if_pos h2]
    exact⟨by omega,fun _=>⟨Nat.le_refl _,h2⟩,fun j h3 h4=>by omega⟩
   ·rw[if_neg h2]
    obtain⟨g1,g2,g3⟩:=noteGo_spec t f (i+1) (by omega)
    refine⟨g1,fun h=>⟨by have:=(g2 h).1;omega,(g2 h).2⟩,fun j h3 h4=>?_⟩
    by_cases hj:j=i
    ·rw[hj];exact h2
    ·exact g3 j (by omega) h4
theorem noteL_spec (t:List UInt8) (a:Nat):noteL t a≤t.length∧(noteL t a<t.length→max a 1≤noteL t a∧t[noteL t a]?=some 35∧t[noteL t a-1]?=some 32)∧(∀j,max a 1≤j→j<noteL t a→ ¬(t[j]?=some 35∧t[j-1]?=some 32)):=
 noteGo_spec t (t.length+1) (max a 1) (by omega)
theorem noteL_unique (t:List UInt8) (a k:Nat) (h1:k≤t.length) (h2:k<t.length→max a 1≤k∧t[k]?=some 35∧t[k-1]?=some 32) (h3: ∀j,max a 1≤j→j<k→ ¬(t[j]?=some 35∧t[j-1]?=some 32)):noteL t a=k:=by
 obtain⟨g1,g2,g3⟩:=noteL_spec t a
 rcases Nat.lt_trichotomy (noteL t a) k with h | h | h
 ·have:=g2 (by omega)
  exact absurd this.2 (h3 _ this.1 h)
 ·exact h
 ·have:=h2 (by omega)
  exact absurd this.2 (g3 _ this.1 h)
theorem rep_far (n i:Nat) (u:List UInt8):(List.replicate n (32:UInt8)++u)[n+i]?=u[i]?:=by
 rw[List.getElem?_append_right (by rw[List.length_replicate];omega),List.length_replicate]
 congr 1;omega
theorem noteL_shift (n a:Nat) (u:List UInt8) (h0:u.head?≠some 35):noteL (List.replicate n 32++u) (n+a)=n+noteL u a:=by
 obtain⟨g1,g2,g3⟩:=noteL_spec u a
 have hlen:(List.replicate n (32:UInt8)++u).length=n+u.length:=by rw[List.length_append,List.length_replicate]
 refine noteL_unique _ _ _ (by rw[hlen];omega) (fun h=>?_) (fun j h1 h2=>?_)
 ·rw[hlen] at h
  obtain⟨k1,k2,k3⟩:=g2 (by omega)
  refine⟨by omega,by rw[rep_far];exact k2,?_⟩
  rw[show n+noteL u a-1=n+(noteL u a-1) by omega,rep_far];exact k3
 ·obtain⟨i,rfl⟩: ∃i,j=n+i:=⟨j-n,by omega⟩
  rw[rep_far]
  rintro⟨e1,e2⟩
  cases i with
  | zero=>rw[List.head?_eq_getElem?] at h0;exact h0 e1
  | succ i=>
   rw[show n+(i+1)-1=n+i by omega,rep_far] at e2
   exact g3 (i+1) (by omega) (by omega) ⟨e1,e2⟩
def signL (t:List UInt8) (k:Nat) (c:UInt8):Bool:=t[k]?==some c&&(t[k+1]?==none||t[k+1]?==some 32)
def qdL (t:List UInt8):Nat:=
 if t.head?=some 34 then(if(endL t 0).2=0 then(endL t 0).1.toNat else 0) else if t.head?=some 39 then(if(sqL t 0).2.2=0 then(sqL t 0).2.1.toNat else 0) else 0
def colGo (t:List UInt8) (c:Nat):Nat→Nat→Nat×Nat
 | 0,_=>(5,0)
 | f+1,k=>if c≤k then(5,0) else if signL t k 58 then(4,k) else colGo t c f (k+1)
def headL (t:List UInt8):Nat×Nat:=
 if signL t 0 45 then(3,0) else if t.head?=some 34∨t.head?=some 39 then(if signL t (qdL t) 58 then(4,qdL t) else(5,0)) else if t.head?=some 91∨t.head?=some 123 then(5,0) else colGo t (noteL t 0) t.length 1
structure Core where
 kind:Nat
 key:Nat
 rf:Nat
 rt:Nat
 nf:Option Nat
def fromL (h:Nat×Nat):Nat:=if h.1=3 then 1 else if h.1=4 then h.2+1 else 0
def restL (u:List UInt8) (h:Nat×Nat) (f2:Nat) (tw:Nat):Core:=⟨h.1,h.2,f2,f2+trL ((u.take tw).drop f2),if tw<u.length then some tw else none⟩
def behindL (u:List UInt8) (f:Nat):Nat:=f+spL (u.drop f)
def coreL (u:List UInt8):Option Core:=
 if u= [] then some ⟨1,0,0,0,none⟩ else if u.head?=some 35 then some ⟨2,0,0,0,some 0⟩ else if(u.head?=some 34∨u.head?=some 39)∧qdL u=0 then none else
  some (restL u (headL u) (behindL u (fromL (headL u))) (noteL u (behindL u (fromL (headL u))+qdL (u.drop (behindL u (fromL (headL u)))))))
theorem signL_at {t:List UInt8}{k:Nat}{c:UInt8} (h:signL t k c=true):t[k]?=some c∧k<t.length:=by
 unfold signL at h
 rw[Bool.and_eq_true,beq_iff_eq] at h
 exact⟨h.1,(List.getElem?_eq_some_iff.1 h.1).1⟩
theorem colGo_spec (t:List UInt8) (c:Nat): ∀(f k:Nat),colGo t c f k=(5,0)∨ ∃j,colGo t c f k=(4,j)∧k≤j∧j<c∧signL t j 58=true
 | 0,_=> .inl rfl
 | f+1,k=>by
  unfold colGo
  split
  ·exact .inl rfl
  ·split
   ·exact .inr ⟨k,rfl,Nat.le_refl _,by omega,by assumption⟩
   ·rcases colGo_spec t c f (k+1) with h | ⟨j,h1,h2,h3⟩
    ·exact .inl h
    ·exact .inr ⟨j,h1,by omega,h3⟩
theorem headL_spec (u:List UInt8) (hq: ¬((u.head?=some 34∨u.head?=some 39)∧qdL u=0)):
  (headL u=(3,0)∧u[0]?=some 45)∨headL u=(5,0)∨ ∃k,headL u=(4,k)∧1≤k∧k<u.length∧u[k]?=some 58:=by
 unfold headL
 split
 ·exact .inl ⟨rfl,(signL_at (by assumption)).1⟩
 ·split
  ·rename_i hh
   split
   ·rename_i hs
    have:=signL_at hs
    exact .inr (.inr ⟨_,rfl,by have:qdL u≠0:=fun h=>hq ⟨hh,h⟩;omega,this.2,this.1⟩)
   ·exact .inr (.inl rfl)
  ·split
   ·exact .inr (.inl rfl)
   ·rcases colGo_spec u (noteL u 0) u.length 1 with h | ⟨j,h1,h2,h3,h4⟩
    ·exact .inr (.inl h)
    ·have:=signL_at h4
     exact .inr (.inr ⟨j,h1,h2,this.2,this.1⟩)
structure Parts (u:List UInt8) (c:Core):Prop where
 kind:1≤c.kind∧c.kind≤5
 key:c.kind=4→1≤c.key∧c.key<u.length∧u[c.key]?=some 58
 item:c.kind=3→u[0]?=some 45
 ord:fromL (c.kind,c.key)≤c.rf∧c.rf≤c.rt∧c.rt≤u.length
 ahead: ∀i,fromL (c.kind,c.key)≤i→i<c.rf→u[i]?=some 32
 note: ∀k,c.nf=some k→c.rt≤k∧k<u.length∧u[k]?=some 35
 behind: ∀i,c.rt≤i→i<c.nf.getD u.length→u[i]?=some 32
 ends:c.rf=c.rt∨(u[c.rf]?≠some 32∧u[c.rt-1]?≠some 32)
theorem behindL_spec (u:List UInt8) (f:Nat) (hf:f≤u.length):f≤behindL u f∧behindL u f≤u.length∧(∀i,f≤i→i<behindL u f→u[i]?=some 32)∧u[behindL u f]?≠some 32:=by
 have h1:=spL_le (u.drop f)
 rw[List.length_drop] at h1
 unfold behindL
 refine⟨by omega,by omega,fun i h2 h3=>?_,?_⟩
 ·have:=spL_at (u.drop f) (i-f) (by omega)
  rw[List.getElem?_drop,show f+(i-f)=i by omega] at this
  exact this
 ·have:=spL_end (u.drop f)
  rw[List.getElem?_drop] at this
  exact this
theorem core_parts (u:List UInt8) (c:Core) (h:coreL u=some c):Parts u c:=by
 unfold coreL at h
 split at h
 ·rename_i hu
  subst hu
  injection h with h
  subst h
  exact⟨by simp,fun h=>(by cases h),fun h=>(by cases h),by simp[fromL],fun i h1 h2=>(by simp at h2),fun k hk=>(by cases hk),fun i h1 h2=>(by simp at h2), .inl rfl⟩
 ·rename_i hu
  split at h
  ·rename_i h35
   injection h with h
   subst h
   rw[List.head?_eq_getElem?] at h35
   have:=(List.getElem?_eq_some_iff.1 h35).1
   exact⟨by simp,fun h=>(by cases h),fun h=>(by cases h),by simp[fromL],fun i h1 h2=>(by simp at h2),fun k hk=>(by injection hk with hk;subst hk;exact⟨Nat.le_refl _,this,h35⟩),fun i h1 h2=>(by simp at h2), .inl rfl⟩
  ·rename_i h35
   split at h
   ·cases h
   ·rename_i hq
    injection h with h
    have hs:=headL_spec u hq
    obtain⟨H,hH⟩: ∃H,headL u=H:=⟨_,rfl⟩
    rw[hH] at h hs
    have hul:0<u.length:=List.length_pos_iff.2 hu
    have hf:fromL H≤u.length:=by
     unfold fromL
     rcases hs with⟨rfl,_⟩ | rfl | ⟨k,rfl,_,hk,_⟩
     ·simp;omega
     ·simp
     ·simp;omega
    obtain⟨b1,b2,b3,b4⟩:=behindL_spec u (fromL H) hf
    obtain⟨f2,hf2⟩: ∃f2,behindL u (fromL H)=f2:=⟨_,rfl⟩
    rw[hf2] at h b1 b2 b3 b4
    obtain⟨n1,n2,_⟩:=noteL_spec u (f2+qdL (u.drop f2))
    obtain⟨tw,hto⟩: ∃tw,noteL u (f2+qdL (u.drop f2))=tw:=⟨_,rfl⟩
    rw[hto] at h n1 n2
    have hft:f2≤tw:=by
     by_cases hl:tw<u.length
     ·have:=(n2 hl).1;omega
     ·omega
    subst h
    obtain⟨M,hM⟩: ∃M,(u.take tw).drop f2=M:=⟨_,rfl⟩
    have hMl:M.length=tw-f2:=by rw[←hM,List.length_drop,List.length_take,Nat.min_eq_left n1]
    have hMi: ∀i,i<tw-f2→M[i]?=u[f2+i]?:=fun i hi=>by
     rw[←hM,List.getElem?_drop,List.getElem?_take,if_pos (by omega)]
    have t1:=trL_le M
    unfold restL
    rw[hM]
    refine⟨?_,?_,?_,?_,b3,?_,?_,?_⟩
    ·rcases hs with⟨rfl,_⟩ | rfl | ⟨k,rfl,_,hk,_⟩<;>simp
    ·intro h4
     rcases hs with⟨rfl,_⟩ | rfl | ⟨k,rfl,hk1,hk,hk3⟩
     ·cases h4
     ·cases h4
     ·exact⟨hk1,hk,hk3⟩
    ·intro h3
     rcases hs with⟨rfl,h0⟩ | rfl | ⟨k,rfl,hk1,hk,hk3⟩
     ·exact h0
     ·cases h3
     ·cases h3
    ·exact⟨b1,by simp only[];omega,by simp only[];omega⟩
    ·intro k hk
     simp only[] at hk ⊢
     split at hk
     ·rename_i hl
      injection hk with hk
      subst hk
      exact⟨by omega,hl,(n2 hl).2.1⟩
     ·cases hk
    ·intro i h1 h2
     simp only[] at h1 h2
     have hto2:i<tw:=by
      split at h2
      ·simpa using h2
      ·simp at h2;omega
     have:=trL_at M (i-f2) (by omega) (by omega)
     rw[hMi _ (by omega),show f2+(i-f2)=i by omega] at this
     exact this
    ·by_cases ht:trL M=0
     ·left;simp only[];omega
     ·right
      simp only[]
      have:=trL_end M (by omega)
      rw[hMi _ (by omega)] at this
      exact⟨b4,by rw[show f2+trL M-1=f2+(trL M-1) by omega];exact this⟩
structure LineR where
 kind:Int
 sf:Int
 st:Int
 ind:Int
 kf:Int
 kt:Int
 rf:Int
 rt:Int
 nf:Int
 nt:Int
def noLine:LineR:=⟨0,0,0,0,0,0,0,0,0,0⟩
def lineOf (a b:Int) (n:Nat) (c:Core):LineR:=
 ⟨c.kind,a,b,n,if c.kind=4 then a+n else 0,if c.kind=4 then a+n+c.key else 0,a+n+c.rf,a+n+c.rt,match c.nf with | some k=>a+n+k | none=>0,match c.nf with | some _=>b | none=>0⟩
def lineL (s:List UInt8) (a b:Int):LineR×Int×Int:=
 if a<0∨b<a∨(s.length:Int)<b then(noLine,0,1) else
 let t:=(s.drop a.toNat).take (b-a).toNat
 if t.contains 10 then(noLine,0,1) else
 if wrL true t<t.length then(noLine,a+wrL true t,2) else
 match coreL (t.drop (spL t)) with
 | none=>(noLine,a+spL t,2)
 | some c=>(lineOf a b (spL t) c,b,0)
theorem spL_rep (n:Nat) (s:List UInt8):spL (List.replicate n 32++s)=n+spL s:=by
 induction n with
 | zero=>simp
 | succ n ih=>rw[List.replicate_succ,List.cons_append,spL_cons,if_pos rfl,ih];omega
theorem wrL_rep (del:Bool) (n:Nat) (s:List UInt8):wrL del (List.replicate n 32++s)=n+wrL del s:=by
 induction n with
 | zero=>simp
 | succ n ih=>
  rw[List.replicate_succ,List.cons_append]
  unfold wrL at ih ⊢
  rw[List.length_cons,wrGo_cons]
  have hd:decodeL (32::(List.replicate n 32++s))=(32,1):=decodeL_ascii 32 _ (by decide)
  rw[hd]
  have hpl:(plainB (32,1)||(del&&(32:UInt8)==127))=false:=by cases del<;>decide
  rw[hpl,if_neg (by simp)]
  have h1:=wrGo_off del (List.replicate n 32++s).length (List.replicate n 32++s) 0 1
  show wrGo del (List.replicate n 32++s).length (List.replicate n 32++s) (0+1)=_
  rw[h1,ih];omega
end Go.Proofs.YtlibkhbachmcgaaGreatDoor
namespace Go.Proofs.YtlibkhbachmcgaaGreatDoor
set_option linter.unusedSimpArgs false
set_option linter.unusedVariables false
open Go.RowKit
open Go.Lib hiding intOf
def badR (r:Int) (n:Nat):Bool:=decide (r<32)||(r==65533&&n==1)||r==127
theorem bad_iff (c:UInt8) (r:List UInt8):(plainB (decodeL (c::r))||c==127)=badR ((decodeL (c::r)).1:Int) (decodeL (c::r)).2:=by
 unfold badR plainB
 have h127:(c==127)=(((decodeL (c::r)).1:Int)==127):=by
  by_cases hc:c.toNat<128
  ·rw[decodeL_ascii c r hc]
   simp only[]
   rw[Bool.eq_iff_iff,beq_iff_eq,beq_iff_eq]
   constructor
   ·rintro rfl;rfl
   ·intro h;exact UInt8.toNat_inj.1 (by show c.toNat=127;omega)
  ·have hf:((decodeL (c::r)).1:Int)≠127:=by
    have:=decodeN_far (c::r).length ((c::r).getD 0 0).toNat ((c::r).getD 1 0).toNat ((c::r).getD 2 0).toNat ((c::r).getD 3 0).toNat (by simp;omega) (UInt8.toNat_lt _)
    rw[←decodeL_N] at this
    omega
   rw[beq_eq_false_iff_ne.2 hf,beq_eq_false_iff_ne.2 (by rintro rfl;exact hc (by decide))]
 rw[h127]
 congr 1
 rw[Bool.eq_iff_iff]
 simp only[Bool.or_eq_true,decide_eq_true_eq,Bool.and_eq_true,beq_iff_eq]
 omega
def Wr (del:Bool) (l:List UInt8) (p W:Nat):Prop:= ∃f,l.length≤p+f∧wrGo del f (l.drop p) p=W
theorem Wr.zero (del:Bool) (l:List UInt8):Wr del l 0 (wrL del l):=⟨l.length,by omega,by rw[List.drop_zero];rfl⟩
theorem Wr.fin {del:Bool}{l:List UInt8}{p W:Nat} (h:Wr del l p W) (hp:l.length≤p):W=p:=by
 obtain⟨f,_,h2⟩:=h
 rw[List.drop_of_length_le hp] at h2
 rw[←h2]
 cases f<;>rfl
theorem Wr.step {del:Bool}{l:List UInt8}{p W:Nat} (h:Wr del l p W) (hp:p<l.length):
  ((plainB (decodeL (l.drop p))||(del&&l[p]'hp==127))=true→W=p)∧((plainB (decodeL (l.drop p))||(del&&l[p]'hp==127))=false→Wr del l (p+(decodeL (l.drop p)).2) W):=by
 obtain⟨f,h1,h2⟩:=h
 obtain⟨g,rfl⟩: ∃g,f=g+1:=⟨f-1,by omega⟩
 have hd:=List.drop_eq_getElem_cons hp
 rw[hd] at h2 ⊢
 rw[wrGo_cons] at h2
 refine⟨fun hb=>?_,fun hb=>?_⟩
 ·rw[if_pos hb] at h2;exact h2.symm
 ·rw[if_neg (by rw[hb];simp)] at h2
  have hw:=decodeL_width (l[p]'hp::l.drop (p+1))
  refine⟨g,by omega,?_⟩
  rw[←hd,List.drop_drop,hd] at h2
  exact h2
def wrP (l:List UInt8):Int×Bool:=if wrL true l<l.length then((wrL true l:Int),true) else(0,false)
theorem wrP_yes {l:List UInt8}{p:Nat} (h:wrL true l=p) (hp:p<l.length):wrP l=((p:Int),true):=by unfold wrP;rw[h,if_pos hp]
theorem wrP_no {l:List UInt8} (h:wrL true l=l.length):wrP l=(0,false):=by unfold wrP;rw[h,if_neg (by omega)]
theorem dec_l (l:List UInt8) (i:Nat) (w:World) (hi:i<l.length) (hT:Tabs w):
  Calls Tryz.prog 85 #[.string ((bs l).extract i l.length)] w fun e w'=>e= .returned (.tuple #[.int .i32 (runeI (bs l) i), .int .i64 (widN (bs l) i)])∧Below w.heap.size w w':=by
 have h:=dec_at (bs l) i w (by rw[bs_size];exact hi) hT
 rw[bs_size] at h
 exact h
theorem wrP_ret {k:Int}{b:Bool}{R:Int×Bool} (h:R=(k,b)):Ending.returned (.tuple #[.int .i64 k, .bool b])= .returned (.tuple #[.int .i64 R.1, .bool R.2]):=by rw[h]
theorem Wr.rune {l:List UInt8}{p W:Nat} (h:Wr true l p W) (hp:p<l.length):
  (badR (runeI (bs l) p) (widN (bs l) p)=true→W=p)∧(badR (runeI (bs l) p) (widN (bs l) p)=false→Wr true l (p+widN (bs l) p) W):=by
 have hs:=h.step hp
 have hd:=decodeL_drop (bs l) p
 rw[bs_data] at hd
 have hb:=bad_iff (l[p]'hp) (l.drop (p+1))
 rw[←List.drop_eq_getElem_cons hp] at hb
 rw[Bool.true_and,hb,hd] at hs
 exact hs
theorem wrong_any (l:List UInt8) (w:World) (hs:l.length≤1073741824) (hT:Tabs w):
  Calls Tryz.prog 187 #[.string (bs l)] w fun e w'=>e= .returned (.tuple #[.int .i64 (wrP l).1, .bool (wrP l).2])∧Below w.heap.size w w':=by
 have sl:=bs_size l
 obtain⟨R,hR⟩: ∃R,wrP l=R:=⟨_,rfl⟩
 rw[hR]
 have HR:=hid hR;have HT:=hid hT;clear hR hT
 go_enter Tryz.func187,Tryz.ntmps187
 go_wp2_with fail
 go_loopw [4] (fun _ wr=> ∃p:Nat,p≤l.length∧Hid (Wr true l p (wrL true l))∧Hid (wr.heap[w.heap.size]?=some (.stringIter (bs l) p))∧Hid (Below w.heap.size w wr)) (fun _ wr=>l.length-wr.iterPos w.heap.size)
 case atStart=>exact⟨0,by omega,Wr.zero true l,World.iter_heap w (bs l) 0,(Below.refl _ _).alloc (Nat.le_refl _) _⟩
 case round=>
  obtain⟨p,hp,HB,HI,HW⟩:=hrel
  by_cases hlt:p<l.length
  ·have hlt':p<(bs l).size:=by omega
   have hw:=widN_bd (bs l) p hlt'
   have hrb:=runeI_bd (bs l) p
   have hnx: ∀ty,(Instr.next (.pointer (some ⟨w.heap.size,0,none⟩)) true ty).run Tryz.prog wr= .ok (.tuple #[.bool true, .int .i64 p, .int .i32 (runeI (bs l) p)]) (wr.iterAt w.heap.size (bs l) (p+widN (bs l) p)):=fun ty=>Lib.run_next_any_at wr _ (bs l) p ty HI.out hlt'
   have HI2:=hid (Lib.iterAt_heap wr w.heap.size (bs l) p (p+widN (bs l) p) HI.out)
   have HW2:=hid (Lib.below_iterAt HW.out (Nat.le_refl w.heap.size) (bs l) (p+widN (bs l) p))
   have hT2:=HT.out.keep HW2.out
   have HM:=hid (iterPos_of HI.out)
   have HM2:=hid (iterPos_of HI2.out)
   obtain⟨hyes,hno⟩:=HB.out.rune hlt
   have CD:=hid (dec_l l p _ hlt hT2)
   obtain⟨r,hr⟩: ∃r,runeI (bs l) p=r:=⟨_,rfl⟩
   obtain⟨n,hn⟩: ∃n,widN (bs l) p=n:=⟨_,rfl⟩
   rw[hr] at hnx hrb CD hyes hno
   rw[hn] at hnx hw HI2 HW2 HM2 CD hyes hno
   clear hT2 hr hn
   unfold badR at hyes hno
   by_cases hr1:r=65533
   ·by_cases h1:n=1
    ·have HG:=hid (hyes (by rw[hr1,h1];decide))
     have hrB:(r==65533)=true:=by rw[hr1];rfl
     have h1B:(((n:Nat):Int)==1)=true:=by rw[h1];rfl
     clear hr1 h1 hyes hno
     go_wp2_with fail
     with_reducible refine CD.out.mono ?_
     rintro e w1 ⟨rfl,hb⟩
     go_wp2_with fail
     go_ret2
     exact⟨wrP_ret (HR.out.symm.trans (wrP_yes HG.out hlt)),below_of_new HW2.out hb⟩
    ·have HG:=hid (hno (by rw[hr1,beq_eq_false_iff_ne.2 h1];decide))
     have hrB:(r==65533)=true:=by rw[hr1];rfl
     have h1B:(((n:Nat):Int)==1)=false:=beq_eq_false_iff_ne.2 (by omega)
     have h3:decide (r<32)=false:=decide_eq_false (by omega)
     have h4:(r==127)=false:=beq_eq_false_iff_ne.2 (by omega)
     clear hr1 h1 hyes hno
     go_wp2_with fail
     with_reducible refine CD.out.mono ?_
     rintro e w1 ⟨rfl,hb⟩
     go_wp2_with fail
     have HI3:=hid ((hb.block w.heap.size (cell_it HI2.out)).trans HI2.out)
     go_roundw
     case rel=>exact⟨p+n,by omega,HG.out,HI3.out,below_of_new HW2.out hb⟩
     case measure=>rw[iterPos_of HI3.out,HM.out];omega
   ·have hrB:(r==65533)=false:=beq_eq_false_iff_ne.2 hr1
    by_cases h3:r<32
    ·have HG:=hid (hyes (by rw[decide_eq_true h3];rfl))
     clear hr1 hyes hno
     go_wp2_with fail
     go_ret2
     exact⟨wrP_ret (HR.out.symm.trans (wrP_yes HG.out hlt)),HW2.out⟩
    ·have hd3:decide (r<32)=false:=decide_eq_false h3
     by_cases h4:r=127
     ·have HG:=hid (hyes (by rw[h4];simp))
      have h4B:(r==127)=true:=beq_iff_eq.2 h4
      clear hr1 h4 hyes hno
      go_wp2_with fail
      go_ret2
      exact⟨wrP_ret (HR.out.symm.trans (wrP_yes HG.out hlt)),HW2.out⟩
     ·have HG:=hid (hno (by rw[hd3,hrB,beq_eq_false_iff_ne.2 h4];rfl))
      have h4B:(r==127)=false:=beq_eq_false_iff_ne.2 h4
      clear hr1 h4 hyes hno
      go_wp2_with fail
      go_roundw
      case rel=>exact⟨p+n,by omega,HG.out,HI2.out,HW2.out⟩
      case measure=>rw[HM2.out,HM.out];omega
  ·have hnx: ∀ty,(Instr.next (.pointer (some ⟨w.heap.size,0,none⟩)) true ty).run Tryz.prog wr= .ok (.tuple #[.bool false]) wr:=fun ty=>Lib.run_next_end_at wr _ (bs l) p ty HI.out (by omega)
   have HG:=hid (HB.out.fin (by omega))
   go_wp2_with fail
   go_ret2
   exact⟨wrP_ret (HR.out.symm.trans (wrP_no (by rw[HG.out];omega))),HW.out⟩
theorem plain_parts (l:List UInt8) (i:Nat) (hi:i<l.length) (h:plainB (decodeL (l.drop i))=false):
  okRune (runeI (bs l) i)∧32≤runeI (bs l) i∧encodeRune (runeI (bs l) i)=(l.drop i).take (widN (bs l) i)∧(runeI (bs l) i=65533→ ¬((widN (bs l) i:Nat):Int)=1):=by
 have hne:l.drop i≠ []:=by rw[List.drop_eq_getElem_cons hi];exact List.cons_ne_nil _ _
 have hd:=decodeL_drop (bs l) i
 rw[bs_data] at hd
 have hp2:=h
 unfold plainB at hp2
 simp only[Bool.or_eq_false_iff,decide_eq_false_iff_not,Bool.and_eq_false_iff,beq_eq_false_iff_ne] at hp2
 have he:=encode_decode (l.drop i) hne (by omega)
 have hk:=decode_okRune (l.drop i)
 rw[hd] at he hk hp2
 exact⟨hk,by unfold runeI;omega,he,fun hr=>by unfold runeI at hr;unfold widN;omega⟩
theorem plain_bad (l:List UInt8) (i:Nat) (hi:i<l.length) (h:plainB (decodeL (l.drop i))=true):
  runeI (bs l) i<32∨(runeI (bs l) i=65533∧widN (bs l) i=1):=by
 have hd:=decodeL_drop (bs l) i
 rw[bs_data] at hd
 rw[hd] at h
 unfold plainB at h
 simp only[Bool.or_eq_true,decide_eq_true_eq,Bool.and_eq_true,beq_iff_eq] at h
 unfold runeI widN
 omega
theorem pre39 (l:List UInt8):Lib.hasPrefix l [39]=(l.head?==some 39):=by
 unfold Lib.hasPrefix
 cases l with
 | nil=>rfl
 | cons c r=>
  rw[Bool.eq_iff_iff]
  simp[List.isPrefixOf]
  exact eq_comm
theorem single_any (l:List UInt8) (a:Int) (w:World) (hs:l.length≤1073741824) (hT:Tabs w):
  Calls Tryz.prog 138 #[.string (bs l), .int .i64 a] w fun e w'=>e=ReadE (sqL l a)∧Below w.heap.size w w':=by
 have sl:=bs_size l
 obtain⟨R,hR⟩: ∃R,sqL l a=R:=⟨_,rfl⟩
 rw[hR]
 unfold sqL at hR
 have HT:=hid hT;clear hT
 by_cases hout:a<0∨(l.length:Int)<a
 ·rw[if_pos hout] at hR
  subst hR
  rcases hout with h | h
  ·go_enter Tryz.func138,Tryz.ntmps138
   go_wp2_with fail
   go_ret3
   exact⟨rfl,Below.refl _ _⟩
  ·have hn: ¬a<0:=by omega
   go_enter Tryz.func138,Tryz.ntmps138
   go_wp2_with fail
   go_ret3
   exact⟨rfl,Below.refl _ _⟩
 rw[if_neg hout] at hR
 obtain⟨k,rfl⟩: ∃k:Nat,a=k:=⟨a.toNat,by omega⟩
 rw[Int.toNat_natCast] at hR
 have hk0:decide ((k:Int)<0)=false:=decide_eq_false (by omega)
 have hk1:decide (l.length<k)=false:=decide_eq_false (by omega)
 have hk2:k≤l.length:=by omega
 clear hout
 by_cases h39:l[k]?=some 39
 ·rw [if_pos h39] at hR
  have hkl:k<l.length:=(List.getElem?_eq_some_iff.1 h39).1
  have hkl':k<(bs l).size:=by omega
  have t1:((((bs l)[k]'hkl').toNat:Int) !=39)=false:=by
   have:=at_bs l k hkl'
   rw[h39] at this
   have h2:(bs l)[k]'hkl'=39:=by simpa using this.symm
   rw[h2];rfl
  have t2:((k:Int)==(l.length:Int))=false:=beq_eq_false_iff_ne.2 (by omega)
  have HR:=hid hR;clear hR h39
  go_enter Tryz.func138,Tryz.ntmps138
  go_wp2_with fail
  go_loopw [1,8,9] (fun s1 _ _ wr=> ∃(i f:Nat) (acc:List UInt8),s1= .int .i64 i∧i≤l.length∧acc.length≤i∧l.length<i+f∧Hid (sqGo f (l.drop i) i acc=R)∧Hid (Bld w.heap.size w.heap.size acc wr)∧Hid (Below w.heap.size w wr)) (fun s1 _ _ _=>l.length-(RowKit.intOf s1).toNat)
  case atStart=>exact⟨k+1,l.length+1,[],by go_num,by omega,by simp,by omega,HR.out,Bld.new w,below_alloc1 w _⟩
  case round=>
   obtain⟨i,f,acc,rfl,hi,hacc,hf,HG,HBd,HW⟩:=hrel
   obtain⟨g,rfl⟩: ∃g,f=g+1:=⟨f-1,by omega⟩
   by_cases hlt:i<l.length
   ·have hlt':i<(bs l).size:=by omega
    have hdr:l.drop i=l[i]'hlt::l.drop (i+1):=List.drop_eq_getElem_cons hlt
    have hdd:=decodeL_drop (bs l) i
    rw[bs_data] at hdd
    have hg:=HG.out
    rw[hdr,sqGo_cons,←hdr] at hg
    have hwb:=widN_bd (bs l) i hlt'
    have hrb:=runeI_bd (bs l) i
    have CD:=hid (fun w hT=>dec_l l i w hlt hT)
    have hz:w.heap.size≤wr.heap.size:=HW.out.size
    have hpl:=plain_parts l i hlt
    have hpb:=plain_bad l i hlt
    have hw2:(decodeL (l.drop i)).2=widN (bs l) i:=by rw[hdd];rfl
    have h39r:l[i]'hlt=39→runeI (bs l) i=39∧widN (bs l) i=1:=fun h=>by
     have h1:=decodeL_ascii 39 (l.drop (i+1)) (by decide)
     rw[hdr,h] at hdd
     rw[h1] at hdd
     unfold runeI widN
     rw[←hdd];exact⟨rfl,rfl⟩
    have hr39:l[i]'hlt≠39→plainB (decodeL (l.drop i))=false→runeI (bs l) i≠39:=fun h hp e=>by
     obtain⟨q1,q2,q3,_⟩:=hpl hp
     rw[e,enc39] at q3
     have hwp:=hwb.1
     rw[hdr] at q3
     obtain⟨z,hz⟩: ∃z,widN (bs l) i=z+1:=⟨widN (bs l) i-1,by omega⟩
     rw[hz,List.take_succ_cons] at q3
     injection q3 with q3 _
     exact h q3.symm
    rw[hw2] at hg
    obtain⟨rn,hrn⟩: ∃rn,runeI (bs l) i=rn:=⟨_,rfl⟩
    obtain⟨wd,hwd⟩: ∃wd,widN (bs l) i=wd:=⟨_,rfl⟩
    rw[hrn] at CD hrb hpl hpb h39r hr39
    rw[hwd] at CD hwb hpl hpb h39r hg
    by_cases hc:l[i]'hlt=39
    ·rw[if_pos hc] at hg
     obtain⟨e1,e2⟩:=h39r hc
     subst e1 e2
     obtain⟨P,hP⟩: ∃P,Lib.hasPrefix (l.drop (i+1)) [39]=P:=⟨_,rfl⟩
     have CP:Hid (∀w,Calls Tryz.prog 88 #[.string ((bs l).extract (i+1) l.length), .string ⟨#[39]⟩] w fun e w'=>e= .returned (.bool P)∧w=w'):=hid (fun w=>by
      have:=Tryz.strings_HasPrefix ((bs l).extract (i+1) l.length) ⟨#[39]⟩ w
      rw[bs_from _ _ _ rfl,bs_data,show (⟨#[39]⟩:ByteArray).data.toList= [39] from rfl,hP] at this
      rw[bs_from _ _ _ rfl]
      exact this.mono fun _ _ ⟨a,b⟩=>⟨a,b.symm⟩)
     rw[pre39] at hP
     clear hdr hdd hpl hpb hw2 h39r hr39 hrn hwd hc
     have hi1:(i:Int)+1≤(l.length:Int):=by omega
     cases P with
     | false=>
      rw[if_neg (by simpa using hP)] at hg
      have HF:=hid hg
      clear hg hP
      go_wp2_with fail
      with_reducible refine(CD.out _ (HT.out.keep HW.out)).mono ?_
      rintro e w1 ⟨rfl,hb1⟩
      have HBd1:=hid (HBd.out.keep hb1)
      have HW1:=hid (below_of_new HW.out hb1)
      clear hb1
      go_wp2_with (go_at_call 88;refine(CP.out _).mono ?_;rintro e w' ⟨rfl,rfl⟩)
      refine(Tryz.Builder_String_any_k w.heap.size w.heap.size acc _ HBd1.out HW1.out.size).mono ?_
      rintro e W1 ⟨rfl,_,b1,_⟩
      go_wp2_with fail
      go_ret3
      exact⟨by rw[←HF.out];rfl,HW1.out.trans b1⟩
     | true=>
      have hP':=beq_iff_eq.1 hP
      rw[if_pos hP',List.drop_drop] at hg
      have hi2:i+1<l.length:=by
       rw[List.head?_drop] at hP'
       exact(List.getElem?_eq_some_iff.1 hP').1
      have HG2:=hid hg
      clear hg hP hP'
      go_wp2_with fail
      with_reducible refine(CD.out _ (HT.out.keep HW.out)).mono ?_
      rintro e w1 ⟨rfl,hb1⟩
      have HBd1:=hid (HBd.out.keep hb1)
      have HW1:=hid (below_of_new HW.out hb1)
      clear hb1
      go_wp2_with (go_at_call 88;refine(CP.out _).mono ?_;rintro e w' ⟨rfl,rfl⟩)
      refine(writeRune_any w.heap.size w.heap.size acc 39 _ HBd1.out ⟨by omega,by omega⟩ (by omega) HW1.out.size).mono ?_
      rintro e w2 ⟨rfl,h2,b2,_⟩
      rw[enc39] at h2
      have HBd2:=hid h2
      have HW2:=hid (HW1.out.trans b2)
      clear h2 b2
      go_wp2_with fail
      go_roundw
      case rel=>exact⟨i+2,g,acc++ [39],by go_num,by omega,by simp;omega,by omega,HG2.out,HBd2.out,HW2.out⟩
      case measure=>simp[RowKit.intOf];omega
    ·rw[if_neg hc] at hg
     cases hp:plainB (decodeL (l.drop i)) with
     | true=>
      rw[hp,if_pos rfl] at hg
      have HF:=hid hg
      have hb:=hpb hp
      clear hg hp hpb hpl hdr hdd hw2 h39r hr39 hrn hwd hc
      by_cases h32:rn<32
      ·clear hb
       go_wp2_with fail
       with_reducible refine(CD.out _ (HT.out.keep HW.out)).mono ?_
       rintro e w1 ⟨rfl,hb1⟩
       go_wp2_with fail
       go_ret3
       exact⟨by rw[←HF.out];rfl,below_of_new HW.out hb1⟩
      ·obtain⟨b1,b2⟩:=hb.resolve_left h32
       have d32:decide (rn<32)=false:=decide_eq_false h32
       have t3:(rn==65533)=true:=beq_iff_eq.2 b1
       have t4:(((wd:Nat):Int)==1)=true:=beq_iff_eq.2 (by omega)
       clear hb b1 b2
       go_wp2_with fail
       with_reducible refine(CD.out _ (HT.out.keep HW.out)).mono ?_
       rintro e w1 ⟨rfl,hb1⟩
       go_wp2_with fail
       go_ret3
       exact⟨by rw[←HF.out];rfl,below_of_new HW.out hb1⟩
     | false=>
      rw[hp,if_neg (by simp),List.drop_drop] at hg
      obtain⟨q1,q2,q3,q4⟩:=hpl hp
      have hn39:=hr39 hc hp
      rw[←q3] at hg
      have hel:(encodeRune rn).length≤wd:=by rw[q3,List.length_take];omega
      have HG2:=hid hg
      have q10:=q1.1
      have q11:=q1.2.1
      have d32:decide (rn<32)=false:=decide_eq_false (by omega)
      have t39:(rn==39)=false:=beq_eq_false_iff_ne.2 hn39
      have t5:(rn==65533&&((wd:Nat):Int)==1)=false:=by
       by_cases hx:rn=65533
       ·rw[beq_eq_false_iff_ne.2 (q4 hx),Bool.and_false]
       ·rw[beq_eq_false_iff_ne.2 hx];rfl
      clear hg hp hpb hpl hdr hdd hw2 h39r hr39 hrn hwd hc q1 q3 hn39
      by_cases hx:rn=65533
      ·have t3:(rn==65533)=true:=beq_iff_eq.2 hx
       have t4:(((wd:Nat):Int)==1)=false:=beq_eq_false_iff_ne.2 (q4 hx)
       clear q4 hx t5
       go_wp2_with fail
       with_reducible refine(CD.out _ (HT.out.keep HW.out)).mono ?_
       rintro e w1 ⟨rfl,hb1⟩
       have HBd1:=hid (HBd.out.keep hb1)
       have HW1:=hid (below_of_new HW.out hb1)
       clear hb1
       go_wp2_with fail
       refine(writeRune_any w.heap.size w.heap.size acc rn _ HBd1.out ⟨q10,q11⟩ (by omega) HW1.out.size).mono ?_
       rintro e w2 ⟨rfl,h2,b2,_⟩
       have HBd2:=hid h2
       have HW2:=hid (HW1.out.trans b2)
       clear h2 b2
       go_wp2_with fail
       go_roundw
       case rel=>exact⟨i+wd,g,acc++encodeRune rn,by go_num,by omega,by rw[List.length_append];omega,by omega,HG2.out,HBd2.out,HW2.out⟩
       case measure=>simp[RowKit.intOf];omega
      ·have t3:(rn==65533)=false:=beq_eq_false_iff_ne.2 hx
       clear q4 hx t5
       go_wp2_with fail
       with_reducible refine(CD.out _ (HT.out.keep HW.out)).mono ?_
       rintro e w1 ⟨rfl,hb1⟩
       have HBd1:=hid (HBd.out.keep hb1)
       have HW1:=hid (below_of_new HW.out hb1)
       clear hb1
       go_wp2_with fail
       refine(writeRune_any w.heap.size w.heap.size acc rn _ HBd1.out ⟨q10,q11⟩ (by omega) HW1.out.size).mono ?_
       rintro e w2 ⟨rfl,h2,b2,_⟩
       have HBd2:=hid h2
       have HW2:=hid (HW1.out.trans b2)
       clear h2 b2
       go_wp2_with fail
       go_roundw
       case rel=>exact⟨i+wd,g,acc++encodeRune rn,by go_num,by omega,by rw[List.length_append];omega,by omega,HG2.out,HBd2.out,HW2.out⟩
       case measure=>simp[RowKit.intOf];omega
   ·have hg:=HG.out
    rw[List.drop_of_length_le (by omega)] at hg
    have HF:=hid (show ([],(i:Int),2)=R from hg)
    obtain rfl:i=l.length:=by omega
    clear hg HG
    go_wp2_with fail
    go_ret3
    exact⟨by rw[←HF.out];rfl,HW.out⟩
 ·rw[if_neg h39] at hR
  subst hR
  by_cases hkl:k<l.length
  ·have hkl':k<(bs l).size:=by omega
   have t1:((((bs l)[k]'hkl').toNat:Int) !=39)=true:=by
    rw[bne_iff_ne]
    intro h
    apply h39
    rw[at_bs l k hkl']
    have:((bs l)[k]'hkl')=39:=UInt8.toNat_inj.1 (by show _=39;omega)
    rw[this]
   have t2:((k:Int)==(l.length:Int))=false:=beq_eq_false_iff_ne.2 (by omega)
   clear h39
   go_enter Tryz.func138,Tryz.ntmps138
   go_wp2_with fail
   go_ret3
   exact⟨rfl,Below.refl _ _⟩
  ·obtain rfl:k=l.length:=by omega
   clear h39 hkl
   go_enter Tryz.func138,Tryz.ntmps138
   go_wp2_with fail
   go_ret3
   exact⟨rfl,Below.refl _ _⟩
def MVar (w:World):Prop:= ∃m:Int,w.cell? ⟨2,0,none⟩=some (.int .i64 m)
theorem MVar.keep {w w':World} (h:MVar w) (hb:Below w.heap.size w w'):MVar w':=let ⟨m,hm⟩:=h;⟨m,by rw[hb.cell (p:=⟨_,_,none⟩) (cell_lt hm)];exact hm⟩
def QuotedE (r:List UInt8×Int):Ending:= .returned (.tuple #[.string (bs r.1), .int .i64 r.2])
end Go.Proofs.YtlibkhbachmcgaaGreatDoor
