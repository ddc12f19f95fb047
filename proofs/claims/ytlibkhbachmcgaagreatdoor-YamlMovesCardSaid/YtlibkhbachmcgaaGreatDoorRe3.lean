import Derived.Lib.MapLaws
import Derived.Lib.ValidLaws
import Derived.Lib.RuneBytes
import Derived.Lib.TrimAscii
import Derived.Test.YtlibkhbachmcgaaGreatDoorRe2
import Derived.Test.YtlibkhbachmcgaaGreatDoorRe1
import Derived.Deep.DeepCutAuto
import Derived.Test.YtlibkhbachmcgaaGreatDoorProg
namespace Go.Proofs.YtlibkhbachmcgaaGreatDoor
set_option linter.unusedSimpArgs false
set_option linter.unusedVariables false
open Go.Lib
theorem byte_toNat (x:Int) (h0:0≤x) (h1:x<256):x.toNat.toUInt8.toNat=x.toNat:=by
 rw[show x.toNat.toUInt8=UInt8.ofNat x.toNat from rfl,UInt8.toNat_ofNat']
 exact Nat.mod_eq_of_lt (by omega)
def okRune (r:Int):Prop:=0≤r∧r≤1114111∧(r<55296∨57343<r)
theorem decode_encode (r:Int) (h:okRune r) (t:List UInt8):decodeL (encodeRune r++t)=(r.toNat,(encodeRune r).length):=by
 obtain⟨h0,h1,h2⟩:=h
 rw[decodeL_N]
 unfold encodeRune
 by_cases g1:r≤127
 ·rw[encodeRuneZ_one h0 g1]
  simp only[List.map_cons,List.map_nil,List.length_cons,List.length_nil,List.cons_append,List.nil_append,List.getD_cons_zero]
  rw[byte_toNat r h0 (by omega)]
  unfold decodeN
  rw[if_pos (by omega)]
 by_cases g2:r≤2047
 ·rw[encodeRuneZ_two (by omega) g2]
  simp only[List.map_cons,List.map_nil,List.length_cons,List.length_nil,List.cons_append,List.nil_append,List.getD_cons_zero,List.getD_cons_succ]
  rw[byte_toNat _ (by omega) (by omega),byte_toNat (128+r % 64) (by omega) (by omega)]
  unfold decodeN
  rw[if_neg (by omega),if_pos ⟨by omega,by omega,by omega⟩,if_pos (by omega)]
  congr 1
  omega
 by_cases g3:r≤65535
 ·rw[encodeRuneZ_three (by omega)]
  simp only[List.map_cons,List.map_nil,List.length_cons,List.length_nil,List.cons_append,List.nil_append,List.getD_cons_zero,List.getD_cons_succ]
  rw[byte_toNat _ (by omega) (by omega),byte_toNat (128+r / 64 % 64) (by omega) (by omega),byte_toNat (128+r % 64) (by omega) (by omega)]
  unfold decodeN
  rw[if_neg (by omega),if_neg (by omega),if_pos ⟨by omega,⟨by omega,by omega⟩,by omega,by omega⟩,if_pos ⟨by omega,by omega⟩]
  congr 1
  omega
 ·rw[encodeRuneZ_four (by omega) h1]
  simp only[List.map_cons,List.map_nil,List.length_cons,List.length_nil,List.cons_append,List.nil_append,List.getD_cons_zero,List.getD_cons_succ]
  rw[byte_toNat _ (by omega) (by omega),byte_toNat (128+r / 4096 % 64) (by omega) (by omega),byte_toNat (128+r / 64 % 64) (by omega) (by omega),byte_toNat (128+r % 64) (by omega) (by omega)]
  unfold decodeN
  rw[if_neg (by omega),if_neg (by omega),if_neg (by omega),if_pos ⟨by omega,⟨by omega,by omega⟩,⟨by omega,by omega⟩,by omega,by omega⟩,if_pos ⟨by omega,by omega⟩]
  congr 1
  omega
theorem encode_high (r:Int) (h:okRune r) (hr:128≤r): ∀c∈encodeRune r,128≤c.toNat:=by
 obtain⟨h0,h1,h2⟩:=h
 have key: ∀l:List Int,(∀x∈l,128≤x∧x<256)→ ∀c∈l.map (fun x=>x.toNat.toUInt8),128≤c.toNat:=by
  intro l hl c hc
  obtain⟨x,hx,rfl⟩:=List.mem_map.1 hc
  have:=hl x hx
  rw[byte_toNat x (by omega) (by omega)]
  omega
 refine key _ ?_
 by_cases g2:r≤2047
 ·rw[encodeRuneZ_two (by omega) g2]
  intro x hx
  simp only[List.mem_cons,List.not_mem_nil,or_false] at hx
  omega
 by_cases g3:r≤65535
 ·rw[encodeRuneZ_three (by omega)]
  intro x hx
  simp only[List.mem_cons,List.not_mem_nil,or_false] at hx
  omega
 ·rw[encodeRuneZ_four (by omega) h1]
  intro x hx
  simp only[List.mem_cons,List.not_mem_nil,or_false] at hx
  omega
theorem decode_okRune (l:List UInt8):okRune ((decodeL l).1:Int):=by
 rw[decodeL_N]
 have k0:=(l.getD 0 0).toNat_lt
 rcases decodeN_shape l.length (l.getD 0 0).toNat (l.getD 1 0).toNat (l.getD 2 0).toNat (l.getD 3 0).toNat with⟨c,e⟩ | ⟨c1,c2,c3,cv,e⟩ | ⟨c1,c2,c3,c4,cv,cs,e⟩ | ⟨c1,c2,c3,c4,c5,cv,cw,e⟩ | e
 all_goals
  rw[e]
  unfold okRune
  dsimp only
  omega
theorem encode_one (c:UInt8) (h:c.toNat<128):encodeRune (c.toNat:Int)= [c]:=by
 unfold encodeRune
 rw[encodeRuneZ_one (by omega) (by omega)]
 simp
theorem decodeN_far (n b0 b1 b2 b3:Nat) (h:128≤b0) (h0:b0<256):128≤(decodeN n b0 b1 b2 b3).1:=by
 unfold decodeN
 repeat' split
 all_goals simp at *
 all_goals omega
theorem readGo_cons (f:Nat) (c:UInt8) (r:List UInt8) (i:Nat) (acc:List UInt8):readGo (f+1) (c::r) i acc=if c=34 then(acc,(i:Int)+1,0) else if(partL (c::r)).2=0 then([],(i:Int),2) else
  readGo f ((c::r).drop (partL (c::r)).2.toNat) (i+(partL (c::r)).2.toNat) (acc++Lib.encodeRune (partL (c::r)).1):=rfl
theorem readGo_ok: ∀(f:Nat) (l:List UInt8) (i:Nat) (acc:List UInt8),(readGo f l i acc).2.2=0→(i:Int)<(readGo f l i acc).2.1∧(readGo f l i acc).2.1≤i+l.length
 | 0,_,_,_,h=>by simp[readGo] at h
 | _+1,[],_,_,h=>by simp[readGo] at h
 | f+1,c::r,i,acc,h=>by
  rw[readGo_cons] at h ⊢
  split
  ·exact⟨by simp only[];omega,by simp only[List.length_cons];omega⟩
  ·rename_i h34
   rw[if_neg h34] at h
   split
   ·rename_i h0;rw[if_pos h0] at h;exact absurd h (by simp)
   ·rename_i h0
    rw[if_neg h0] at h
    have hp:=partL_bd (c::r) (List.cons_ne_nil _ _)
    obtain⟨P,hP⟩: ∃P,partL (c::r)=P:=⟨_,rfl⟩
    rw[hP] at h hp h0 ⊢
    have:=readGo_ok f _ _ _ h
    rw[List.length_drop] at this
    omega
theorem readGo_off: ∀(f:Nat) (l:List UInt8) (i k:Nat) (acc:List UInt8),readGo f l (i+k) acc=((readGo f l i acc).1,(readGo f l i acc).2.1+k,(readGo f l i acc).2.2)
 | 0,_,i,k,_=>by simp[readGo]
 | _+1,[],i,k,_=>by simp[readGo]
 | f+1,c::r,i,k,acc=>by
  rw[readGo_cons,readGo_cons]
  split
  ·simp only[Prod.mk.injEq,true_and,and_true];omega
  ·split
   ·simp only[Prod.mk.injEq,true_and,and_true];omega
   ·rw[show i+k+(partL (c::r)).2.toNat=(i+(partL (c::r)).2.toNat)+k by omega]
    exact readGo_off f _ _ _ _
theorem readGo_fuel: ∀(f g:Nat) (l:List UInt8) (i:Nat) (acc:List UInt8),l.length<f→l.length<g→readGo f l i acc=readGo g l i acc
 | 0,_,l,_,_,h,_=>by omega
 | _,0,l,_,_,_,h=>by omega
 | _+1,_+1,[],_,_,_,_=>rfl
 | f+1,g+1,c::r,i,acc,hf,hg=>by
  rw[readGo_cons,readGo_cons]
  split
  ·rfl
  ·split
   ·rfl
   ·have hp:=partL_bd (c::r) (List.cons_ne_nil _ _)
    exact readGo_fuel f g _ _ _ (by rw[List.length_drop];omega) (by rw[List.length_drop];omega)
theorem readL_drop (s:List UInt8) (a:Nat) (ha:a≤s.length):readL s a=((readL (s.drop a) 0).1,(readL (s.drop a) 0).2.1+a,(readL (s.drop a) 0).2.2):=by
 unfold readL
 rw[Int.toNat_natCast,Int.toNat_zero,List.getElem?_drop,Nat.add_zero]
 by_cases h:s[a]?=some 34
 ·rw[if_pos ⟨by omega,h⟩,if_pos ⟨by omega,h⟩,List.drop_drop,show a+(0+1)=a+1 by omega]
  have hl:=(List.getElem?_eq_some_iff.1 h).1
  rw[readGo_fuel (s.length+1) ((s.drop a).length+1) _ _ _ (by rw[List.length_drop];omega) (by rw[List.length_drop,List.length_drop];omega)]
  have:=readGo_off ((s.drop a).length+1) (s.drop (a+1)) (0+1) a []
  rw[show 0+1+a=a+1 by omega] at this
  exact this
 ·rw[if_neg (fun g=>h g.2),if_neg (fun g=>h g.2)]
  simp
theorem readL_ok (l:List UInt8) (h:(readL l 0).2.2=0):0<(readL l 0).2.1∧(readL l 0).2.1≤l.length:=by
 unfold readL at h ⊢
 by_cases h1:0≤(0:Int)∧l[(0:Int).toNat]?=some 34
 ·rw[if_pos h1] at h ⊢
  have:=readGo_ok _ _ _ _ h
  rw[List.length_drop] at this
  have hl:=(List.getElem?_eq_some_iff.1 h1.2).1
  simp only[Int.toNat_zero] at this hl ⊢
  omega
 ·rw[if_neg h1] at h;exact absurd h (by simp)
def runL (p:UInt8→Bool) (l:List UInt8):Nat:=(l.takeWhile p).length
def isBlank (c:UInt8):Bool:=c==32||c==9||c==10||c==13
def isNumB (c:UInt8):Bool:=isDig c||c==45||c==43||c==46||c==101||c==69
def isSmall (c:UInt8):Bool:=decide (97≤c.toNat∧c.toNat≤122)
def signI (c:UInt8):Option Nat:=if c=123 then some 0 else if c=125 then some 1 else if c=91 then some 2 else if c=93 then some 3 else if c=44 then some 4 else if c=58 then some 5 else none
def wordL (l:List UInt8):Nat:=if l= [116,114,117,101] then 10 else if l= [102,97,108,115,101] then 11 else if l= [110,117,108,108] then 12 else 0
def tokR (l:List UInt8):Nat×Nat×Int:=
 match l with
 | []=>(0,0,2)
 | c::_=>match signI c with
  | some k=>(2+k,1,0)
  | none=>if isBlank c then(1,runL isBlank l,0) else if c=34 then(if(readL l 0).2.2=0 then(8,(readL l 0).2.1.toNat,0) else(0,(readL l 0).2.1.toNat,(readL l 0).2.2)) else
   if c=45∨isDig c=true then(if(parseL (l.take (runL isNumB l))).2=0 then(9,runL isNumB l,0) else(0,0,(parseL (l.take (runL isNumB l))).2)) else
   if wordL (l.take (runL isSmall l))=0 then(0,0,2) else(wordL (l.take (runL isSmall l)),runL isSmall l,0)
theorem runL_le (p:UInt8→Bool) (l:List UInt8):runL p l≤l.length:=(List.takeWhile_sublist _).length_le
theorem runL_cons (p:UInt8→Bool) (c:UInt8) (l:List UInt8):runL p (c::l)=if p c then runL p l+1 else 0:=by
 unfold runL
 rw[List.takeWhile_cons]
 split<;>rfl
theorem signI_cases (c:UInt8) (k:Nat) (h:signI c=some k):k≤5:=by
 unfold signI at h
 repeat' split at h
 all_goals first | (injection h with h;omega) | cases h
theorem wordL_cases (l:List UInt8):wordL l=0∨(10≤wordL l∧wordL l≤12∧0<l.length):=by
 unfold wordL
 split
 ·rename_i h;right;rw[h];simp
 ·split
  ·rename_i h;right;rw[h];simp
  ·split
   ·rename_i h;right;rw[h];simp
   ·left;rfl
theorem readL_fail (l:List UInt8):0≤(readL l 0).2.1∧(readL l 0).2.1≤l.length:=by
 have hgo: ∀(f:Nat) (l:List UInt8) (i:Nat) (acc:List UInt8),(i:Int)≤(readGo f l i acc).2.1∧(readGo f l i acc).2.1≤i+l.length:=by
  intro f
  induction f with
  | zero=>intro l i acc;simp[readGo];omega
  | succ f ih=>
   intro l i acc
   cases l with
   | nil=>simp[readGo]
   | cons c r=>
    rw[readGo_cons]
    split
    ·simp only[List.length_cons];omega
    ·split
     ·simp only[List.length_cons];omega
     ·have hp:=partL_bd (c::r) (List.cons_ne_nil _ _)
      have:=ih ((c::r).drop (partL (c::r)).2.toNat) (i+(partL (c::r)).2.toNat) (acc++encodeRune (partL (c::r)).1)
      rw[List.length_drop] at this
      omega
 unfold readL
 by_cases h1:0≤(0:Int)∧l[(0:Int).toNat]?=some 34
 ·rw[if_pos h1]
  have:=hgo (l.length+1) (l.drop ((0:Int).toNat+1)) ((0:Int).toNat+1) []
  rw[List.length_drop] at this
  have hl:=(List.getElem?_eq_some_iff.1 h1.2).1
  simp only[Int.toNat_zero] at this hl ⊢
  omega
 ·rw[if_neg h1];simp
theorem tokR_ok (l:List UInt8) (hne:l≠ []):(tokR l).2.1≤l.length∧((tokR l).2.2=0→1≤(tokR l).1∧(tokR l).1≤12∧0<(tokR l).2.1):=by
 cases l with
 | nil=>exact absurd rfl hne
 | cons c r=>
  unfold tokR
  simp only[]
  cases hs:signI c with
  | some k=>
   have:=signI_cases c k hs
   simp only[]
   exact⟨by simp,fun _=>⟨by omega,by omega,by omega⟩⟩
  | none=>
   simp only[]
   split
   ·rename_i hb
    have:=runL_le isBlank (c::r)
    refine⟨this,fun _=>⟨by simp,by simp,?_⟩⟩
    rw[runL_cons,if_pos hb];simp
   ·split
    ·have hr:=readL_fail (c::r)
     split
     ·rename_i h0
      have:=readL_ok (c::r) h0
      exact⟨by simp only[];omega,fun _=>⟨by simp,by simp,by simp only[];omega⟩⟩
     ·rename_i h0
      exact⟨by simp only[];omega,fun h=>absurd h h0⟩
    ·split
     ·rename_i hd
      have hnb:isNumB c=true:=by
       unfold isNumB
       rcases hd with rfl | hd
       ·decide
       ·rw[hd];rfl
      split
      ·refine⟨runL_le _ _,fun _=>⟨by simp,by simp,?_⟩⟩
       simp only[]
       rw[runL_cons,if_pos hnb];simp
      ·rename_i h0
       exact⟨by simp,fun h=>absurd h h0⟩
     ·have hw:=wordL_cases ((c::r).take (runL isSmall (c::r)))
      split
      ·exact⟨by simp,fun h=>absurd h (by simp)⟩
      ·rename_i h0
       rcases hw with hw | hw
       ·exact absurd hw h0
       ·refine⟨runL_le _ _,fun _=>⟨by simp only[];omega,by simp only[];omega,?_⟩⟩
        have:=hw.2.2
        rw[List.length_take] at this
        simp only[]
        omega
structure Tok where
 kind:Nat
 sf:Nat
 st:Nat
deriving DecidableEq
def toksGo:Nat→List UInt8→Nat→List Tok×Option (Nat×Int)
 | 0,_,_=>([],none)
 | _+1,[],_=>([],none)
 | f+1,c::r,i=>if(tokR (c::r)).2.2=0 then(⟨(tokR (c::r)).1,i,i+(tokR (c::r)).2.1⟩::(toksGo f ((c::r).drop (tokR (c::r)).2.1) (i+(tokR (c::r)).2.1)).1,(toksGo f ((c::r).drop (tokR (c::r)).2.1) (i+(tokR (c::r)).2.1)).2) else([],some (i+(tokR (c::r)).2.1,(tokR (c::r)).2.2))
def toksL (s:List UInt8):List Tok×Int×Int:=
 if 65536<s.length then([],0,3) else match (toksGo s.length s 0).2 with
 | none=>((toksGo s.length s 0).1,(s.length:Int),0)
 | some (p,e)=>([],(p:Int),e)
theorem toksGo_cons (f:Nat) (c:UInt8) (r:List UInt8) (i:Nat):toksGo (f+1) (c::r) i=if(tokR (c::r)).2.2=0 then(⟨(tokR (c::r)).1,i,i+(tokR (c::r)).2.1⟩::(toksGo f ((c::r).drop (tokR (c::r)).2.1) (i+(tokR (c::r)).2.1)).1,(toksGo f ((c::r).drop (tokR (c::r)).2.1) (i+(tokR (c::r)).2.1)).2) else([],some (i+(tokR (c::r)).2.1,(tokR (c::r)).2.2)):=rfl
theorem toksGo_nil (f i:Nat):toksGo f [] i=([],none):=by cases f<;>rfl
theorem toks_err: ∀(f:Nat) (l:List UInt8) (i p:Nat) (e:Int),l.length≤f→(toksGo f l i).2=some (p,e)→i≤p∧p≤i+l.length∧e≠0
 | f,[],i,_,_,_,h=>by rw[toksGo_nil] at h;cases h
 | 0,_::_,_,_,_,h,_=>by simp at h
 | f+1,c::r,i,p,e,hf,h=>by
  rw[toksGo_cons] at h
  have hle:=(tokR_ok (c::r) (List.cons_ne_nil _ _)).1
  by_cases h0:(tokR (c::r)).2.2=0
  ·rw[if_pos h0] at h
   have hok:=(tokR_ok (c::r) (List.cons_ne_nil _ _)).2 h0
   have hlc:(c::r).length=r.length+1:=rfl
   have:=toks_err f _ _ p e (by rw[List.length_drop];omega) h
   rw[List.length_drop] at this
   omega
  ·rw[if_neg h0] at h
   simp only[Option.some.injEq,Prod.mk.injEq] at h
   obtain⟨rfl,rfl⟩:=h
   exact⟨by omega,by omega,h0⟩
theorem read_bd: ∀(f:Nat) (l:List UInt8) (i:Nat) (acc:List UInt8),
  ((i:Int)≤(readGo f l i acc).2.1∧(readGo f l i acc).2.1≤i+l.length)∧((readGo f l i acc).2.2=0∨((readGo f l i acc).2.2=2∧(readGo f l i acc).1= []))
 | 0,_,_,_=>⟨by simp[readGo];omega, .inr ⟨rfl,rfl⟩⟩
 | _+1,[],_,_=>⟨by simp[readGo], .inr ⟨rfl,rfl⟩⟩
 | f+1,c::r,i,acc=>by
  unfold readGo
  split
  ·exact⟨by simp;omega, .inl rfl⟩
  ·split
   ·exact⟨by simp;omega, .inr ⟨rfl,rfl⟩⟩
   ·rename_i h2
    have hp:=partL_bd (c::r) (List.cons_ne_nil _ _)
    obtain⟨P,hP⟩: ∃P,partL (c::r)=P:=⟨_,rfl⟩
    rw[hP] at hp h2 ⊢
    have:=read_bd f ((c::r).drop P.2.toNat) (i+P.2.toNat) (acc++encodeRune P.1)
    rw[List.length_drop] at this
    refine⟨?_,this.2⟩
    have h3:=this.1
    simp only[List.length_cons] at h3 hp ⊢
    omega
abbrev Sp:=Nat×Nat
structure NodeD where
 kind:Nat
 sf:Nat
 st:Nat
 key:Sp
 kids:List Nat
 pcs:List Sp
deriving DecidableEq
inductive JR where
 | ok (rest:List Tok) (last:Sp) (nodes:List NodeD)
 | bad (at':Nat) (er:Int)
def kindT:List Tok→Nat
 | []=>0
 | t::_=>t.kind
def hereT (n:Nat):List Tok→Nat
 | []=>n
 | t::_=>t.sf
def kindOfT (k:Nat):Nat:=if k=12 then 1 else if k=10∨k=11 then 2 else if k=9 then 3 else if k=8 then 4 else if k=4 then 5 else if k=2 then 6 else 0
def modN (f:NodeD→NodeD):Nat→List NodeD→List NodeD
 | _,[]=> []
 | 0,x::l=>f x::l
 | n+1,x::l=>x::modN f n l
def addKid (n kid:Nat) (pc:Sp) (l:List NodeD):List NodeD:=modN (fun x=> { x with kids:=x.kids++ [kid],pcs:=x.pcs++ [pc] }) n l
def setTo (n e:Nat) (l:List NodeD):List NodeD:=modN (fun x=> { x with st:=e }) n l
abbrev VF:=List Tok→Sp→List NodeD→Sp→JR
def kidM (txt:List UInt8) (V:VF) (obj:Bool) (had:List (List UInt8)) (rest:List Tok) (last:Sp) (nodes:List NodeD):JR×List (List UInt8):=
 if obj=false then(V rest last nodes (0,0),had) else match rest with
  | []=>(.bad txt.length 2,had)
  | t::r=>
   if t.kind≠8 then(.bad t.sf 2,had) else
   if(unqL ((txt.drop t.sf).take (t.st-t.sf))).1∈had then(.bad t.sf 7,had) else
   match r with
   | []=>(.bad txt.length 2,(unqL ((txt.drop t.sf).take (t.st-t.sf))).1::had)
   | c::r2=>if c.kind≠7 then(.bad c.sf 2,(unqL ((txt.drop t.sf).take (t.st-t.sf))).1::had) else
    (V r2 (c.sf,c.st) nodes (t.sf,t.st),(unqL ((txt.drop t.sf).take (t.st-t.sf))).1::had)
def loopM (txt:List UInt8) (V:VF) (closing:Nat) (obj:Bool) (n:Nat):Nat→List (List UInt8)→List Tok→Sp→List NodeD→JR
 | 0,_,_,_,_=> .bad 0 0
 | f+1,had,rest,last,nodes=>match kidM txt V obj had rest last nodes with
  | (.bad a e,_)=> .bad a e
  | (.ok r l ns,had')=>match r with
   | []=> .bad txt.length 2
   | t::r'=>if t.kind=closing then .ok r' (t.sf,t.st) (addKid n nodes.length (last.2,t.sf) ns) else
    if t.kind=6 then loopM txt V closing obj n f had' r' (t.sf,t.st) (addKid n nodes.length (last.2,t.sf) ns) else .bad t.sf 2
def kidsM (txt:List UInt8) (V:VF) (closing:Nat) (obj:Bool) (n:Nat) (rest:List Tok) (last:Sp) (nodes:List NodeD):JR:=
 match rest with
 | []=>loopM txt V closing obj n 1 [] rest last nodes
 | t::r=>if t.kind=closing then .ok r (t.sf,t.st) nodes else loopM txt V closing obj n (rest.length+1) [] rest last nodes
def endM (n:Nat):JR→JR
 | .ok r l ns=> .ok r l (setTo n l.2 ns)
 | .bad a e=> .bad a e
def valueM (txt:List UInt8):Nat→VF
 | 0,rest,last,nodes,key=>if kindOfT (kindT rest)=0 then .bad (hereT txt.length rest) 2 else .bad (hereT txt.length rest) 5
 | lv+1,rest,last,nodes,key=>if kindOfT (kindT rest)=0 then .bad (hereT txt.length rest) 2 else
  if nodes.length=4096 then .bad (hereT txt.length rest) 6 else match rest with
  | []=> .bad 0 0
  | t::r=>endM nodes.length (
   if t.kind=4 then kidsM txt (valueM txt lv) 5 false nodes.length r (t.sf,t.st) (nodes++ [⟨kindOfT t.kind,t.sf,t.st,key,[],[]⟩]) else
   if t.kind=2 then kidsM txt (valueM txt lv) 3 true nodes.length r (t.sf,t.st) (nodes++ [⟨kindOfT t.kind,t.sf,t.st,key,[],[]⟩]) else
   .ok r (t.sf,t.st) (nodes++ [⟨kindOfT t.kind,t.sf,t.st,key,[],[]⟩]))
def parseJ (s:List UInt8):List NodeD×Int×Int:=
 if(toksL s).2.2≠0 then([],(toksL s).2.1,(toksL s).2.2) else
  match valueM s 32 ((toksL s).1.filter (fun t=>t.kind !=1)) (0,0) [] (0,0) with
  | .bad a e=>([],(a:Int),e)
  | .ok [] _ ns=>(ns,(s.length:Int),0)
  | .ok (t::_) _ _=>([],(t.sf:Int),2)
theorem modN_len (f:NodeD→NodeD): ∀(n:Nat) (l:List NodeD),(modN f n l).length=l.length
 | _,[]=>by simp[modN]
 | 0,x::l=>rfl
 | n+1,x::l=>by rw[modN,List.length_cons,modN_len f n l,List.length_cons]
theorem modN_at (f:NodeD→NodeD): ∀(n:Nat) (l:List NodeD) (j:Nat),(modN f n l)[j]?=if j=n then(l[j]?).map f else l[j]?
 | n,[],j=>by cases n<;>simp[modN]
 | 0,x::l,0=>rfl
 | 0,x::l,j+1=>by simp[modN]
 | n+1,x::l,0=>by simp[modN]
 | n+1,x::l,j+1=>by
  rw[modN,List.getElem?_cons_succ,List.getElem?_cons_succ,modN_at f n l j]
  simp
theorem modN_mid (f:NodeD→NodeD): ∀(pre:List NodeD) (x:NodeD) (post:List NodeD),modN f pre.length (pre++x::post)=pre++f x::post
 | [],x,post=>rfl
 | y::pre,x,post=>by
  show y::modN f pre.length (pre++x::post)=_
  rw[modN_mid f pre x post];rfl
def Lim (n:Nat) (l:List NodeD):Prop:= ∀y∈l,y.kids.length≤n∧y.pcs.length≤n
def Ext (V:VF):Prop:= ∀rest last nodes key r l ns,V rest last nodes key= .ok r l ns→ ∃more,ns=nodes++more∧1≤more.length∧more.length+r.length≤rest.length∧(∃k,r=rest.drop k)∧Lim more.length more
theorem kid_ext {txt:List UInt8}{V:VF} (hV:Ext V) {obj:Bool}{had:List (List UInt8)}{rest:List Tok}{last:Sp}{nodes:List NodeD}{r:List Tok}{l:Sp}{ns:List NodeD}{had':List (List UInt8)}
  (h:kidM txt V obj had rest last nodes=(.ok r l ns,had')): ∃more,ns=nodes++more∧1≤more.length∧more.length+r.length≤rest.length∧(∃k,r=rest.drop k)∧Lim more.length more:=by
 unfold kidM at h
 split at h
 ·injection h with h _
  exact hV _ _ _ _ _ _ _ h
 ·split at h
  ·injection h with h _;cases h
  ·rename_i t q
   split at h
   ·injection h with h _;cases h
   ·split at h
    ·injection h with h _;cases h
    ·split at h
     ·injection h with h _;cases h
     ·rename_i c r2
      split at h
      ·injection h with h _;cases h
      ·injection h with h _
       obtain⟨more,h1,h2,h3,⟨k,h4⟩,h5⟩:=hV _ _ _ _ _ _ _ h
       exact⟨more,h1,h2,by simp only[List.length_cons];omega,⟨k+2,by rw[h4];rfl⟩,h5⟩
def Mid (pre:List NodeD) (x:NodeD) (post:List NodeD) (nodes:List NodeD):Prop:=nodes=pre++x::post∧x.kids.length≤post.length∧x.pcs.length≤post.length∧Lim post.length post
theorem Mid.add {pre:List NodeD}{x:NodeD}{post nodes more:List NodeD} (h:Mid pre x post nodes) (hm:Lim more.length more) (h1:1≤more.length) (k:Nat) (pc:Sp):
  Mid pre { x with kids:=x.kids++ [k],pcs:=x.pcs++ [pc] } (post++more) (addKid pre.length k pc (nodes++more)):=by
 obtain⟨rfl,h2,h3,h4⟩:=h
 refine⟨?_,?_,?_,?_⟩
 ·unfold addKid
  rw[List.append_assoc,List.cons_append,modN_mid]
 ·simp only[List.length_append,List.length_cons,List.length_nil];omega
 ·simp only[List.length_append,List.length_cons,List.length_nil];omega
 ·intro y hy
  rw[List.length_append]
  rcases List.mem_append.1 hy with hy | hy
  ·have:=h4 y hy;omega
  ·have:=hm y hy;omega
theorem loop_ext {txt:List UInt8}{V:VF} (hV:Ext V) {closing:Nat}{obj:Bool}{pre:List NodeD}: ∀(f:Nat) {had:List (List UInt8)}{rest:List Tok}{last:Sp}{nodes:List NodeD}{r:List Tok}{l:Sp}{ns:List NodeD}{x:NodeD}{post:List NodeD},
  Mid pre x post nodes→loopM txt V closing obj pre.length f had rest last nodes= .ok r l ns→ ∃x' post',Mid pre x' post' ns∧x'.kind=x.kind∧x'.sf=x.sf∧x'.key=x.key∧post.length<post'.length∧post'.length+r.length<post.length+rest.length∧ ∃k,r=rest.drop k
 | 0,_,_,_,_,_,_,_,_,_,_,h=>by cases h
 | f +1,had,rest,last,nodes,r,l,ns,x,post,hm,h=>by
  unfold loopM at h
  split at h
  ·cases h
  ·rename_i r1 l1 ns1 had1 hk
   obtain⟨more,rfl,h2,h3,⟨k,h4⟩,h5⟩:=kid_ext hV hk
   split at h
   ·cases h
   ·rename_i t r'
    simp only[List.length_cons] at h3
    have hr':r'=rest.drop (k+1):=by rw[←List.drop_drop,←h4];rfl
    have hm2:=hm.add h5 h2 nodes.length (last.2,t.sf)
    split at h
    ·injection h with e1 e2 e3
     subst e1
     subst e3
     exact⟨_,_,hm2,rfl,rfl,rfl,by rw[List.length_append];omega,by rw[List.length_append];omega,_,hr'⟩
    ·split at h
     ·obtain⟨x',post',i1,i2,i3,i4,i5,i6,k2,i7⟩:=loop_ext hV f hm2 h
      rw[List.length_append] at i5 i6
      exact⟨x',post',i1,i2,i3,i4,by omega,by omega,k+1+k2,by rw[i7,hr',List.drop_drop]⟩
     ·cases h
theorem kids_ext {txt:List UInt8}{V:VF} (hV:Ext V) {closing:Nat}{obj:Bool}{pre:List NodeD}{rest:List Tok}{last:Sp}{nodes:List NodeD}{r:List Tok}{l:Sp}{ns:List NodeD}{x:NodeD}{post:List NodeD}
  (hm:Mid pre x post nodes) (h:kidsM txt V closing obj pre.length rest last nodes= .ok r l ns): ∃x' post',Mid pre x' post' ns∧x'.kind=x.kind∧x'.sf=x.sf∧x'.key=x.key∧post.length≤post'.length∧post'.length+r.length≤post.length+rest.length∧ ∃k,r=rest.drop k:=by
 unfold kidsM at h
 split at h
 ·obtain⟨x',post',i1,i2,i3,i4,i5,i6,i7⟩:=loop_ext hV _ hm h
  exact⟨x',post',i1,i2,i3,i4,by omega,by omega,i7⟩
 ·rename_i t q
  split at h
  ·injection h with h1 h2 h3
   subst h1 h3
   exact⟨x,post,hm,rfl,rfl,rfl,Nat.le_refl _,by simp only[List.length_cons];omega,1,rfl⟩
  ·obtain⟨x',post',i1,i2,i3,i4,i5,i6,i7⟩:=loop_ext hV _ hm h
   exact⟨x',post',i1,i2,i3,i4,by omega,by omega,i7⟩
theorem setTo_mid {pre:List NodeD}{x:NodeD}{post nodes:List NodeD} (h:Mid pre x post nodes) (e:Nat):Mid pre { x with st:=e } post (setTo pre.length e nodes):=by
 obtain⟨rfl,h2,h3,h4⟩:=h
 exact⟨by unfold setTo;rw[modN_mid],h2,h3,h4⟩
theorem value_ext (txt:List UInt8): ∀lv,Ext (valueM txt lv)
 | 0=>fun rest last nodes key r l ns h=>by
  unfold valueM at h
  split at h<;>cases h
 | lv +1=>fun rest last nodes key r l ns h=>by
  have ih:=value_ext txt lv
  cases rest with
  | nil=>
   unfold valueM at h
   rw[if_pos (show kindOfT (kindT [])=0 from rfl)] at h
   cases h
  | cons t q=>
   unfold valueM at h
   split at h
   ·cases h
   ·split at h
    ·cases h
    ·simp only[] at h
     have key2: ∀x:JR,endM nodes.length x= .ok r l ns→ ∃ns',x= .ok r l ns'∧ns=setTo nodes.length l.2 ns':=by
      intro x hx
      cases x with
      | bad a e=>cases hx
      | ok r' l' ns'=>
       injection hx with h1 h2 h3
       subst h1 h2
       exact⟨ns',rfl,h3.symm⟩
     obtain⟨ns',h1,rfl⟩:=key2 _ h
     have hm0:Mid nodes ⟨kindOfT t.kind,t.sf,t.st,key,[],[]⟩ [] (nodes++ [⟨kindOfT t.kind,t.sf,t.st,key,[],[]⟩]):=⟨rfl,Nat.le_refl _,Nat.le_refl _,fun y hy=>by cases hy⟩
     have fin: ∀ {x':NodeD}{post':List NodeD},Mid nodes x' post' ns'→post'.length+r.length≤q.length→(∃k,r=q.drop k)→ ∃more,setTo nodes.length l.2 ns'=nodes++more∧1≤more.length∧more.length+r.length≤(t::q).length∧(∃k,r=(t::q).drop k)∧Lim more.length more:=by
      intro x' post' hm hl ⟨k,hk⟩
      obtain⟨e1,e2,e3,e4⟩:=setTo_mid hm l.2
      refine⟨_,e1,by simp,by simp only[List.length_cons];omega,⟨k+1,by rw[hk];rfl⟩,fun y hy=>?_⟩
      simp only[List.length_cons]
      rcases List.mem_cons.1 hy with rfl | hy
      ·exact⟨by omega,by omega⟩
      ·have:=e4 y hy;omega
     split at h1
     ·obtain⟨x',post',i1,_,_,_,_,i6,i7⟩:=kids_ext ih hm0 h1
      exact fin i1 (by simpa using i6) i7
     ·split at h1
      ·obtain⟨x',post',i1,_,_,_,_,i6,i7⟩:=kids_ext ih hm0 h1
       exact fin i1 (by simpa using i6) i7
      ·injection h1 with h2 h3 h4
       subst h2 h4
       exact fin hm0 (by simp) ⟨0,rfl⟩
section
variable {α β:Type}{R:α→β→Prop}
end
section
variable {txt txt':List UInt8}{a b m n:Nat}{deep:Prop}{V V':VF}
end
theorem endM_ok {k:Nat}{x:JR}{r:List Tok}{l:Sp}{ns:List NodeD} (hx:endM k x= .ok r l ns): ∃ns',x= .ok r l ns'∧ns=setTo k l.2 ns':=by
 cases x with
 | bad a e=>cases hx
 | ok r' l' ns'=>
  injection hx with h1 h2 h3
  subst h1 h2
  exact⟨ns',rfl,h3.symm⟩
def nblk (ts:List Tok):List Tok:=ts.filter (fun t=>t.kind !=1)
def finP (n:Nat):JR→List NodeD×Int×Int
 | .bad a e=>([],(a:Int),e)
 | .ok [] _ ns=>(ns,(n:Int),0)
 | .ok (t::_) _ _=>([],(t.sf:Int),2)
def Bd (V:VF):Prop:= ∀rest last nodes key a e,V rest last nodes key= .bad a e→e≠0
theorem kid_bad {txt:List UInt8}{V:VF} (hV:Bd V) {obj:Bool}{had had':List (List UInt8)}{rest:List Tok}{last:Sp}{nodes:List NodeD}{a:Nat}{e:Int} (h:kidM txt V obj had rest last nodes=(.bad a e,had')):e≠0:=by
 unfold kidM at h
 split at h
 ·injection h with h _;exact hV _ _ _ _ _ _ h
 ·split at h
  ·injection h with h _;injection h with _ h;rw[←h];decide
  ·split at h
   ·injection h with h _;injection h with _ h;rw[←h];decide
   ·split at h
    ·injection h with h _;injection h with _ h;rw[←h];decide
    ·split at h
     ·injection h with h _;injection h with _ h;rw[←h];decide
     ·split at h
      ·injection h with h _;injection h with _ h;rw[←h];decide
      ·injection h with h _;exact hV _ _ _ _ _ _ h
theorem loop_bad {txt:List UInt8}{V:VF} (hV:Bd V) (hE:Ext V) {closing:Nat}{obj:Bool}{n:Nat}: ∀(f:Nat) {had:List (List UInt8)}{rest:List Tok}{last:Sp}{nodes:List NodeD}{a:Nat}{e:Int},rest.length<f→loopM txt V closing obj n f had rest last nodes= .bad a e→e≠0
 | 0,_,_,_,_,_,_,hf,_=>by omega
 | f +1,had,rest,last,nodes,a,e,hf,h=>by
  unfold loopM at h
  split at h
  ·rename_i hk
   injection h with h1 h2
   subst h1 h2
   exact kid_bad hV hk
  ·rename_i r1 l1 ns1 had1 hk
   obtain⟨more,_,h2,h3,_⟩:=kid_ext hE hk
   split at h
   ·injection h with _ h;rw[←h];decide
   ·simp only[List.length_cons] at h3
    split at h
    ·cases h
    ·split at h
     ·exact loop_bad hV hE f (by omega) h
     ·injection h with _ h;rw[←h];decide
theorem kids_bad {txt:List UInt8}{V:VF} (hV:Bd V) (hE:Ext V) {closing:Nat}{obj:Bool}{n:Nat}{rest:List Tok}{last:Sp}{nodes:List NodeD}{a:Nat}{e:Int} (h:kidsM txt V closing obj n rest last nodes= .bad a e):e≠0:=by
 unfold kidsM at h
 split at h
 ·exact loop_bad hV hE 1 (by simp) h
 ·split at h
  ·cases h
  ·exact loop_bad hV hE _ (by simp) h
theorem endM_bad {k:Nat}{x:JR}{a:Nat}{e:Int} (hx:endM k x= .bad a e):x= .bad a e:=by
 cases x with
 | bad a' e'=>exact hx
 | ok r' l' ns'=>cases hx
theorem value_bad (txt:List UInt8): ∀lv,Bd (valueM txt lv)
 | 0=>fun rest last nodes key a e h=>by
  unfold valueM at h
  split at h
  ·injection h with _ h;rw[←h];decide
  ·injection h with _ h;rw[←h];decide
 | lv +1=>fun rest last nodes key a e h=>by
  have ih:=value_bad txt lv
  have hE:=value_ext txt lv
  unfold valueM at h
  split at h
  ·injection h with _ h;rw[←h];decide
  ·rename_i hk
   split at h
   ·injection h with _ h;rw[←h];decide
   ·cases rest with
    | nil=>exact absurd rfl hk
    | cons t r=>
     simp only[] at h
     have h1:=endM_bad h
     split at h1
     ·exact kids_bad ih hE h1
     ·split at h1
      ·exact kids_bad ih hE h1
      ·cases h1
theorem parse_eq (s:List UInt8):parseJ s=if(toksL s).2.2≠0 then([],(toksL s).2.1,(toksL s).2.2) else finP s.length (valueM s 32 (nblk (toksL s).1) (0,0) [] (0,0)):=by
 unfold parseJ nblk finP
 rfl
theorem toksL_none {s:List UInt8} (h:(toksL s).2.2=0):s.length≤65536∧toksGo s.length s 0=((toksL s).1,none):=by
 unfold toksL at h ⊢
 by_cases hb:65536<s.length
 ·rw[if_pos hb] at h;exact absurd h (by simp)
 ·rw[if_neg hb] at h ⊢
  cases hG:(toksGo s.length s 0).2 with
  | none=>exact⟨by omega,Prod.ext rfl hG⟩
  | some x=>
   obtain⟨p,e⟩:=x
   rw[hG] at h
   exact absurd h (toks_err s.length s 0 p e (Nat.le_refl _) hG).2.2
theorem parse_ok {s:List UInt8} (h:(parseJ s).2.2=0):s.length≤65536∧ ∃T l ns,toksGo s.length s 0=(T,none)∧valueM s 32 (nblk T) (0,0) [] (0,0)= .ok [] l ns∧parseJ s=(ns,(s.length:Int),0):=by
 rw[parse_eq] at h ⊢
 by_cases h0:(toksL s).2.2=0
 ·rw[if_neg (by simpa using h0)] at h ⊢
  obtain⟨h1,h2⟩:=toksL_none h0
  refine⟨h1,(toksL s).1,?_⟩
  cases hv:valueM s 32 (nblk (toksL s).1) (0,0) [] (0,0) with
  | bad a e=>rw[hv] at h;exact absurd h (value_bad s 32 _ _ _ _ _ _ hv)
  | ok r l ns=>
   cases r with
   | cons t r=>rw[hv] at h;exact absurd h (by simp[finP])
   | nil=>exact⟨l,ns,h2,rfl,rfl⟩
 ·rw[if_pos h0] at h;exact absurd h h0
theorem mid_at {pre:List NodeD}{x:NodeD}{post nodes:List NodeD} (h:Mid pre x post nodes):nodes[pre.length]?=some x:=by
 rw[h.1,List.getElem?_append_right (Nat.le_refl _),Nat.sub_self];rfl
theorem mid_len {pre:List NodeD}{x:NodeD}{post nodes:List NodeD} (h:Mid pre x post nodes):nodes.length=pre.length+1+post.length:=by
 rw[h.1,List.length_append,List.length_cons];omega
end Go.Proofs.YtlibkhbachmcgaaGreatDoor
namespace Go.Proofs.YtlibkhbachmcgaaGreatDoor
set_option linter.unusedSimpArgs false
set_option linter.unusedVariables false
set_option linter.unnecessarySimpa false
open Go.Lib
end Go.Proofs.YtlibkhbachmcgaaGreatDoor
namespace Go.Proofs.YtlibkhbachmcgaaGreatDoor
set_option linter.unusedSimpArgs false
set_option linter.unusedVariables false
open Go.Lib (compareBytes)
open Go.Lib (compareBytes compareInt)
open Go.Lib (compareBytes compareInt itoa decDigits nDigits)
theorem dropWhile_none (p:UInt8→Bool): ∀l:List UInt8,(∀c∈l,p c=true)→l.dropWhile p= []
 | [],_=>rfl
 | c::t,h=>by rw[List.dropWhile_cons,if_pos (h c List.mem_cons_self)];exact dropWhile_none p t fun x hx=>h x (List.mem_cons_of_mem _ hx)
theorem cutAt_none (p:UInt8→Bool) (l:List UInt8) (h: ∀c∈l,p c=false):cutAt p l=(l,[],false):=by
 unfold cutAt
 rw[dropWhile_none _ l fun c hc=>by simp[h c hc]]
theorem cutAt_some (p:UInt8→Bool): ∀(a:List UInt8) (b:UInt8) (t:List UInt8),(∀c∈a,p c=false)→p b=true→cutAt p (a++b::t)=(a,t,true)
 | [],b,t,_,hb=>by simp[cutAt,hb]
 | c::a,b,t,h,hb=>by
  have ih:=cutAt_some p a b t (fun x hx=>h x (List.mem_cons_of_mem _ hx)) hb
  have hc:=h c (List.mem_cons_self)
  unfold cutAt at ih ⊢
  rw[List.cons_append,List.dropWhile_cons,List.takeWhile_cons,hc]
  simp only[Bool.not_false,if_true]
  cases hd:(a++b::t).dropWhile (fun c=>!p c) with
  | nil=>rw[hd] at ih;simp at ih
  | cons y r=>rw[hd] at ih;simp at ih ⊢;exact ih
theorem decDigits_len (u:Nat): ∀k,u<10 ^ k→1≤k→(decDigits u).length≤k:=by
 induction u using Nat.strongRecOn with
 | _ u ih=>
  intro k hk h1
  by_cases h:u<10
  ·rw[decDigits,dif_pos h];exact h1
  ·rw[decDigits,dif_neg h,List.length_append]
   obtain⟨m,rfl⟩: ∃m,k=m+1:=⟨k-1,by omega⟩
   rw[Nat.pow_succ] at hk
   rcases Nat.eq_zero_or_pos m with h0 | h0
   ·subst h0;simp at hk;omega
   ·have:=ih (u / 10) (by omega) m (by omega) h0
    simp;omega
theorem noTail_split (l:List UInt8):l=noTail l++List.replicate (l.length-(noTail l).length) 48:=by
 unfold noTail
 have h:=List.takeWhile_append_dropWhile (p:=fun x:UInt8=>x==48) (l:=l.reverse)
 have h1:(l.reverse.takeWhile (· ==48))=List.replicate (l.reverse.takeWhile (· ==48)).length 48:=by
  rw[List.eq_replicate_iff]
  refine⟨rfl,fun b hb=>?_⟩
  have:=List.all_eq_true.1 (List.all_takeWhile (p:=fun x:UInt8=>x==48) (l:=l.reverse)) b hb
  simpa using this
 have h2:l=(l.reverse.dropWhile (· ==48)).reverse++(l.reverse.takeWhile (· ==48)).reverse:=by
  rw[←List.reverse_append,h,List.reverse_reverse]
 have h3:l.length-(l.reverse.dropWhile (· ==48)).reverse.length=(l.reverse.takeWhile (· ==48)).length:=by
  have:=congrArg List.length h2
  rw[List.length_append,(show (l.reverse.takeWhile (· ==48)).reverse.length=(l.reverse.takeWhile (· ==48)).length from List.length_reverse)] at this
  omega
 rw[h3,←List.reverse_replicate,←h1]
 exact h2
theorem noTail_last (l:List UInt8):(noTail l).getLast?≠some 48:=by
 unfold noTail
 rw[List.getLast?_reverse]
 intro h
 have:=List.head?_dropWhile_not (p:=fun x:UInt8=>x==48) (l:=l.reverse)
 rw[h] at this
 simp at this
def ofInt (i:Int):Num:=(parseL (itoa i)).1
open Go.Lib (compareBytes compareInt itoa decDigits nDigits)
def textL (n:Num):List UInt8:=
 if rightB n=false then [] else if n.dig= [] then [48] else
 (if n.neg then [45] else [])++(n.dig++(if n.exp≠0 then 101::itoa n.exp else []))
theorem cutAt_no {p:UInt8→Bool}{l a b:List UInt8} (h:cutAt p l=(a,b,false)):a=l∧b= []:=by
 unfold cutAt at h
 split at h
 ·injection h with h1 h2;injection h2 with h3 _;exact⟨h1.symm,h3.symm⟩
 ·injection h with h1 h2;injection h2 with h3 h4;cases h4
theorem allDig_ne {l:List UInt8} (h:allDig l=true):l≠ []∧l.all isDig=true:=by
 unfold allDig at h
 rw[Bool.and_eq_true] at h
 exact⟨by intro e;rw[e] at h;simp at h,h.2⟩
theorem allDig_mk {l:List UInt8} (h:l≠ []) (h2:l.all isDig=true):allDig l=true:=by
 unfold allDig
 rw[h2,Bool.and_true]
 cases l with
 | nil=>exact absurd rfl h
 | cons _ _=>rfl
theorem noTail_head {l:List UInt8} (h:l.head?≠some 48) (hne:l≠ []):noTail l≠ []∧(noTail l).head?≠some 48:=by
 have hsp:=noTail_split l
 have hn:noTail l≠ []:=by
  intro e
  rw[e,List.nil_append] at hsp
  cases hc:l with
  | nil=>exact hne hc
  | cons x t=>
   rw[hc] at hsp h
   simp only[List.length_cons,List.length_nil,Nat.sub_zero,List.replicate_succ] at hsp
   injection hsp with hx _
   apply h;rw[hx];rfl
 refine⟨hn,?_⟩
 rw[hsp] at h
 cases hc:noTail l with
 | nil=>exact absurd hc hn
 | cons x t=>rw[hc] at h;exact h
theorem noZeros_head (l:List UInt8):(noZeros l).head?≠some 48:=by
 unfold noZeros
 intro h
 have:=List.head?_dropWhile_not (p:=fun x:UInt8=>x==48) (l:=l)
 rw[h] at this
 simp at this
theorem noZeros_all {l:List UInt8} (h:l.all isDig=true):(noZeros l).all isDig=true:=by
 rw[List.all_eq_true] at h ⊢
 intro x hx
 exact h x ((List.dropWhile_sublist _).subset hx)
theorem noTail_all {l:List UInt8} (h:l.all isDig=true):(noTail l).all isDig=true:=by
 rw[noTail_split l,List.all_append,Bool.and_eq_true] at h
 exact h.1
theorem litOf_parts {l:List UInt8}{x:Lit} (h:litOf l=some x):allDig x.whole=true∧x.rest.all isDig=true∧x.exp.all isDig=true:=by
 unfold litOf at h
 simp only[] at h
 have hx0:(cutAt isE (unsign l)).2.2=false→(if(cutAt isE (unsign l)).2.2=true then unplus (cutAt isE (unsign l)).2.1 else [])= []:=fun e=>by rw[e];rfl
 generalize (if(cutAt isE (unsign l)).2.2=true then unplus (cutAt isE (unsign l)).2.1 else [])=xx at h hx0
 split at h
 ·rename_i hok
  injection h with h
  subst h
  unfold litOk at hok
  simp only[Bool.and_eq_true,Bool.or_eq_true,Bool.not_eq_true'] at hok
  obtain⟨⟨h1,h2,h3⟩,_⟩:=hok
  refine⟨h2,?_,?_⟩
  ·rcases h3 with h3 | h3
   ·have:=(cutAt_no (p:=isDot) (l:=(cutAt isE (unsign l)).1) (a:=(cutAt isDot (cutAt isE (unsign l)).1).1) (b:=(cutAt isDot (cutAt isE (unsign l)).1).2.1) (by rw[←h3])).2
    rw[this];rfl
   ·exact(allDig_ne h3).2
  ·rcases h1 with h1 | h1
   ·rw[hx0 h1];rfl
   ·exact(allDig_ne h1).2
 ·cases h
theorem parseLit_right {x:Lit}{n:Num} (h1:allDig x.whole=true) (h2:x.rest.all isDig=true) (h:parseLit x=(n,0)):rightB n=true:=by
 unfold parseLit at h
 split at h
 ·injection h with _ h;cases h
 rename_i hlen
 split at h
 ·injection h with _ h;cases h
 simp only[] at h
 generalize (if x.low=true then-decV x.exp else decV x.exp)=ee at h
 split at h
 ·injection h with h _;subst h;rfl
 rename_i hd
 split at h
 ·injection h with _ h;cases h
 rename_i hk
 injection h with h _
 subst h
 have hall:(noZeros (x.whole++x.rest)).all isDig=true:=noZeros_all (by rw[List.all_append,Bool.and_eq_true];exact⟨(allDig_ne h1).2,h2⟩)
 have hh:=noTail_head (noZeros_head _) hd
 have hl1:(noZeros (x.whole++x.rest)).length≤x.whole.length+x.rest.length:=by
  have:=(List.dropWhile_sublist (p:=fun c:UInt8=>c==48) (l:=x.whole++x.rest)).length_le
  rw[List.length_append] at this;exact this
 have hl2:=congrArg List.length (noTail_split (noZeros (x.whole++x.rest)))
 rw[List.length_append] at hl2
 refine decide_eq_true (.inr ⟨allDig_mk hh.1 (noTail_all hall),?_,hh.2,noTail_last _,?_,?_⟩)
 ·show (noTail (noZeros (x.whole++x.rest))).length≤1000;omega
 ·simp only[];omega
 ·simp only[];omega
theorem parseL_right {l:List UInt8}{n:Num} (h:parseL l=(n,0)):rightB n=true:=by
 unfold parseL at h
 cases hl:litOf l with
 | none=>rw[hl] at h;injection h with _ h;cases h
 | some x=>
  rw[hl] at h
  obtain⟨h1,h2,_⟩:=litOf_parts hl
  exact parseLit_right h1 h2 h
abbrev Stp:=List UInt8
inductive VT where
 | mk (kind:Int) (text:Stp) (keys:List Stp) (items:List VT)
def VT.kind:VT→Int | .mk k _ _ _=>k
def VT.text:VT→Stp | .mk _ s _ _=>s
def VT.keys:VT→List Stp | .mk _ _ ks _=>ks
def VT.items:VT→List VT | .mk _ _ _ l=>l
theorem VT.ind {P:VT→Prop} (h: ∀k s ks l,(∀x∈l,P x)→P (.mk k s ks l)) (t:VT):P t:=by
 match t with
 | .mk k s ks l=>exact h k s ks l (fun x hx=>VT.ind h x)
termination_by SizeOf.sizeOf t
decreasing_by
 have:=List.sizeOf_lt_of_mem hx
 simp
 omega
def totS (l:List Stp):Nat:=(l.map List.length).sum
theorem totS_cons (y:Stp) (l:List Stp):totS (y::l)=y.length+totS l:=rfl
mutual
def VT.size:VT→Nat
 | .mk _ _ _ l=>sizes l+1
def sizes:List VT→Nat
 | []=>0
 | x::l=>x.size+sizes l
end
mutual
def VT.depth:VT→Nat
 | .mk _ _ _ l=>depths l+1
def depths:List VT→Nat
 | []=>0
 | x::l=>max x.depth (depths l)
end
mutual
def VT.bulk:VT→Nat
 | .mk _ s ks l=>s.length+(totS ks+ks.length)+bulks l+1
def bulks:List VT→Nat
 | []=>0
 | x::l=>x.bulk+bulks l
end
theorem sizes_eq (l:List VT):sizes l=(l.map VT.size).sum:=by
 induction l with
 | nil=>rfl
 | cons x l ih=>rw[sizes,ih];rfl
theorem sizes_app (a b:List VT):sizes (a++b)=sizes a+sizes b:=by simp[sizes_eq]
theorem depths_app (a b:List VT):depths (a++b)=max (depths a) (depths b):=by
 induction a with
 | nil=>simp[depths]
 | cons x a ih=>rw[List.cons_append,depths,depths,ih];omega
theorem size_pos (t:VT):0<t.size:=by cases t;rw[VT.size];omega
theorem size_le_bulk (t:VT):t.size≤t.bulk:=by
 induction t using VT.ind with
 | h k s ks l ih=>
  rw[VT.size,VT.bulk]
  have:sizes l≤bulks l:=by
   clear k s ks
   induction l with
   | nil=>exact Nat.le_refl _
   | cons x l ihl=>
    rw[sizes,bulks]
    have h1:=ih x List.mem_cons_self
    have h2:=ihl (fun y hy=>ih y (List.mem_cons_of_mem _ hy))
    omega
  omega
theorem sizes_le_bulks (l:List VT):sizes l≤bulks l:=by
 induction l with
 | nil=>exact Nat.le_refl _
 | cons x l ih=>rw[sizes,bulks];have:=size_le_bulk x;omega
theorem depth_le_size (t:VT):t.depth≤t.size:=by
 induction t using VT.ind with
 | h k s ks l ih=>
  rw[VT.size,VT.depth]
  have:depths l≤sizes l:=by
   clear k s ks
   induction l with
   | nil=>exact Nat.le_refl _
   | cons x l ihl=>
    rw[sizes,depths]
    have h1:=ih x List.mem_cons_self
    have h2:=ihl (fun y hy=>ih y (List.mem_cons_of_mem _ hy))
    omega
  omega
theorem depths_le_bulks (l:List VT):depths l≤bulks l:=by
 induction l with
 | nil=>exact Nat.le_refl _
 | cons x l ih=>rw[depths,bulks];have:=depth_le_size x;have:=size_le_bulk x;omega
theorem len_le_bulks (l:List VT):l.length≤bulks l:=by
 induction l with
 | nil=>exact Nat.le_refl _
 | cons x l ih=>rw[bulks,List.length_cons];have:=size_pos x;have:=size_le_bulk x;omega
theorem bulk_mem {l:List VT}{x:VT} (h:x∈l):x.bulk≤bulks l:=by
 induction l with
 | nil=>cases h
 | cons y l ih=>
  rw[bulks]
  rcases List.mem_cons.1 h with rfl | h
  ·omega
  ·have:=ih h;omega
theorem depth_mem {l:List VT}{x:VT} (h:x∈l):x.depth≤depths l:=by
 induction l with
 | nil=>cases h
 | cons y l ih=>
  rw[depths]
  rcases List.mem_cons.1 h with rfl | h
  ·omega
  ·have:=ih h;omega
end Go.Proofs.YtlibkhbachmcgaaGreatDoor
namespace Go.Proofs.YtlibkhbachmcgaaGreatDoor
set_option linter.unusedSimpArgs false
set_option linter.unusedVariables false
open Go.RowKit
def SLies (w:World) (p:Option Addr) (l:List Stp):Prop:=l= []∨ ∃g o,p=some ⟨g,o,none⟩∧g<w.heap.size∧ ∀(j:Nat) (x:Stp),l[j]?=some x→w.cell? ⟨g,o+j,none⟩=some (.string (bs x))
theorem SLies.keep {w w':World}{p:Option Addr}{l:List Stp} (h:SLies w p l) (hb:Below w.heap.size w w'):SLies w' p l:=by
 rcases h with h | ⟨g,o,h2,h3,h4⟩
 ·exact .inl h
 ·exact .inr ⟨g,o,h2,Nat.lt_of_lt_of_le h3 hb.size,fun j x hx=>by rw[hb.cell (p:=⟨g,o+j,none⟩) h3];exact h4 j x hx⟩
theorem SLies.at_ {w:World}{p:Option Addr}{l:List Stp} (h:SLies w p l) {j:Nat}{x:Stp} (hx:l[j]?=some x): ∃g o,p=some ⟨g,o,none⟩∧w.cell? ⟨g,o+j,none⟩=some (.string (bs x)):=by
 rcases h with h | ⟨g,o,h2,h3,h4⟩
 ·rw[h] at hx;simp at hx
 ·exact⟨g,o,h2,h4 j x hx⟩
def SV (w:World) (v:Value) (l:List Stp):Prop:= ∃p c,v= .slice p l.length c∧l.length≤c∧SLies w p l
theorem SV.keep {w w':World}{v:Value}{l:List Stp} (h:SV w v l) (hb:Below w.heap.size w w'):SV w' v l:=by
 obtain⟨p,c,h1,h2,h3⟩:=h
 exact⟨p,c,h1,h2,h3.keep hb⟩
def VD (w:World):Nat→VT→Value→Value→Prop
 | 0,_,_,_=>False
 | n+1,t,kv,iv=>SV w kv t.keys∧ ∃p c,iv= .slice p t.items.length c∧t.items.length≤c∧(t.items= []∨ ∃g o,p=some ⟨g,o,none⟩∧g<w.heap.size∧ ∀(j:Nat) (x:VT),t.items[j]?=some x→ ∃kv' iv',w.cell? ⟨g,o+j*4,none⟩=some (.int .i64 x.kind)∧w.cell? ⟨g,o+j*4+1,none⟩=some (.string (bs x.text))∧w.cell? ⟨g,o+j*4+2,none⟩=some kv'∧w.cell? ⟨g,o+j*4+3,none⟩=some iv'∧VD w n x kv' iv')
def vv (t:VT) (kv iv:Value):Value:= .agg #[.int .i64 t.kind, .string (bs t.text),kv,iv]
theorem VD.keep {w w':World} (hb:Below w.heap.size w w'): ∀ {n:Nat}{t:VT}{kv iv:Value},VD w n t kv iv→VD w' n t kv iv
 | 0,_,_,_,h=>h
 | n+1,t,kv,iv,h=>by
  obtain⟨h1,p,c,h2,h3,h4⟩:=h
  refine⟨h1.keep hb,p,c,h2,h3,?_⟩
  rcases h4 with h4 | ⟨g,o,h4,h5,h6⟩
  ·exact .inl h4
  ·refine .inr ⟨g,o,h4,Nat.lt_of_lt_of_le h5 hb.size,fun j x hx=>?_⟩
   obtain⟨kv',iv',e0,e1,e2,e3,e4⟩:=h6 j x hx
   exact⟨kv',iv',by rw[hb.cell (p:=⟨g,_,none⟩) h5];exact e0,by rw[hb.cell (p:=⟨g,_,none⟩) h5];exact e1,by rw[hb.cell (p:=⟨g,_,none⟩) h5];exact e2,by rw[hb.cell (p:=⟨g,_,none⟩) h5];exact e3,VD.keep hb e4⟩
theorem VD.more {w:World}: ∀ {n:Nat}{t:VT}{kv iv:Value},VD w n t kv iv→ ∀m,VD w (n+m) t kv iv
 | 0,_,_,_,h,_=>h.elim
 | n+1,t,kv,iv,h,m=>by
  obtain⟨h1,p,c,h2,h3,h4⟩:=h
  rw[Nat.add_right_comm]
  refine⟨h1,p,c,h2,h3,?_⟩
  rcases h4 with h4 | ⟨g,o,h4,h5,h6⟩
  ·exact .inl h4
  ·refine .inr ⟨g,o,h4,h5,fun j x hx=>?_⟩
   obtain⟨kv',iv',e0,e1,e2,e3,e4⟩:=h6 j x hx
   exact⟨kv',iv',e0,e1,e2,e3,VD.more e4 m⟩
def Items (w:World) (m:Nat) (p:Option Addr) (l:List VT):Prop:= ∀(j:Nat) (x:VT),l[j]?=some x→ ∃g o kv' iv',p=some ⟨g,o,none⟩∧g<w.heap.size∧w.cell? ⟨g,o+j*4,none⟩=some (.int .i64 x.kind)∧w.cell? ⟨g,o+j*4+1,none⟩=some (.string (bs x.text))∧w.cell? ⟨g,o+j*4+2,none⟩=some kv'∧w.cell? ⟨g,o+j*4+3,none⟩=some iv'∧VD w m x kv' iv'
theorem Items.keep {w w':World}{m:Nat}{p:Option Addr}{l:List VT} (h:Items w m p l) (hb:Below w.heap.size w w'):Items w' m p l:=by
 intro j x hx
 obtain⟨g,o,kv,iv,e0,e1,e2,e3,e4,e5,e6⟩:=h j x hx
 exact⟨g,o,kv,iv,e0,Nat.lt_of_lt_of_le e1 hb.size,by rw[hb.cell (p:=⟨g,_,none⟩) e1];exact e2,by rw[hb.cell (p:=⟨g,_,none⟩) e1];exact e3,by rw[hb.cell (p:=⟨g,_,none⟩) e1];exact e4,by rw[hb.cell (p:=⟨g,_,none⟩) e1];exact e5,e6.keep hb⟩
theorem VD.parts {w:World}{n:Nat}{t:VT}{kv iv:Value} (h:VD w n t kv iv): ∃m,n=m+1∧SV w kv t.keys∧ ∃p c,iv= .slice p t.items.length c∧t.items.length≤c∧Items w m p t.items:=by
 cases n with
 | zero=>exact h.elim
 | succ m=>
  obtain⟨h1,p,c,h2,h3,h4⟩:=h
  refine⟨m,rfl,h1,p,c,h2,h3,fun j x hx=>?_⟩
  rcases h4 with h4 | ⟨g,o,h4,h5,h6⟩
  ·rw[h4] at hx;simp at hx
  ·obtain⟨kv',iv',e⟩:=h6 j x hx
   exact⟨g,o,kv',iv',h4,h5,e⟩
theorem VD.form {w:World}{n:Nat}{t:VT}{kv iv:Value} (h:VD w n t kv iv): ∃pk ck p c,kv= .slice pk t.keys.length ck∧iv= .slice p t.items.length c:=by
 obtain⟨_,_,⟨pk,ck,h1,_,_⟩,p,c,h2,_,_⟩:=h.parts
 exact⟨pk,ck,p,c,h1,h2⟩
def VBox (w:World) (b:Nat) (t:VT) (kv iv:Value):Prop:=w.heap[b]?=some (.cells #[.int .i64 t.kind, .string (bs t.text),kv,iv] 36)
theorem VBox.new (w:World) (t:VT) (kv iv:Value):VBox (w.alloc (.cells #[.int .i64 t.kind, .string (bs t.text),kv,iv] 36)) w.heap.size t kv iv:=heap_alloc_new w _
theorem VBox.keep {w w':World}{b:Nat}{t:VT}{kv iv:Value} (h:VBox w b t kv iv) (hb:Below w.heap.size w w'):VBox w' b t kv iv:=by
 unfold VBox at h
 exact(hb.block _ (cell_it h)).trans h
theorem take_one {α:Type}{l:List α}{k:Nat}{x:α} (h:l[k]?=some x):l.take (k+1)=l.take k++ [x]:=by
 rw[List.take_add_one,h];rfl
theorem vsize_any: ∀(n:Nat) (t:VT) (kv iv:Value) (w:World),VD w n t kv iv→t.bulk≤1099511627776→
  Calls Tryz.prog 22 #[vv t kv iv] w fun e w'=>e= .returned (.int .i64 (t.size:Int))∧Below w.heap.size w w':=by
 intro n
 induction n with
 | zero=>intro t kv iv w h;exact h.elim
 | succ m ih=>
  intro t kv iv w h hbk
  obtain⟨m',hm,hsv,p,c,rfl,hlc,hit⟩:=h.parts
  obtain rfl:m=m':=by omega
  obtain⟨k,s,ks,l⟩:=t
  obtain⟨R,hR⟩: ∃R,(VT.mk k s ks l).size=R:=⟨_,rfl⟩
  rw[hR]
  rw[VT.size] at hR
  simp only[VT.items] at hlc hit
  have hbl:bulks l≤1099511627776:=by rw[VT.bulk] at hbk;omega
  have hll:l.length≤1099511627776:=Nat.le_trans (len_le_bulks l) hbl
  have HR:=hid hR
  have HIT:=hid hit
  have HIH:=hid ih
  clear hR hit ih h hsv hm hbk
  unfold vv
  simp only[VT.kind,VT.text,VT.items]
  go_enter Tryz.func22,Tryz.ntmps22
  go_wp2_with fail
  go_loopw [3,9] (fun s3 s9 wr=> ∃(i:Nat),s3= .int .i64 ((sizes (l.take i)+1:Nat):Int)∧s9= .int .i64 (i:Int)∧i≤l.length∧Hid (Below w.heap.size w wr)) (fun _ s9 _=>l.length-(RowKit.intOf s9).toNat)
  case atStart=>exact⟨0,rfl,rfl,Nat.zero_le _,hid (below_alloc1 w _)⟩
  case round=>
   obtain⟨i,rfl,rfl,hi,HBr⟩:=hrel
   by_cases hil:i<l.length
   ·obtain⟨x,hx⟩: ∃x,l[i]?=some x:=⟨_,List.getElem?_eq_getElem hil⟩
    obtain⟨g,o,kv',iv',rfl,hg,n0,n1,n2,n3,hvd⟩:=HIT.out.keep HBr.out i x hx
    obtain⟨pk,ck,px,cx,rfl,rfl⟩:=hvd.form
    have hxb:=Nat.le_trans (bulk_mem (List.mem_of_getElem? hx)) hbl
    have hi1:(i:Int)<(l.length:Int):=by omega
    have dk:decide ((i:Int)<(l.length:Int))=true:=decide_eq_true hi1
    have hsz:sizes (l.take i)+1+x.size=sizes (l.take (i+1))+1:=by rw[take_one hx,sizes_app,sizes,sizes];omega
    have hbd:sizes (l.take (i+1))≤bulks l:=by
     have h1:sizes (l.take (i+1))≤sizes l:=by
      have:=sizes_app (l.take (i+1)) (l.drop (i+1))
      rw[List.take_append_drop] at this
      omega
     exact Nat.le_trans h1 (sizes_le_bulks l)
    have HX:=hid hx
    have HVD:=hid hvd
    have HSZ:=hid hsz
    have HBd:=hid hbd
    clear hx hvd hsz hbd
    go_upto_region 5 with fail
    have HB5:=hid (below_alloc1 wr (.cells #[.int .i64 x.kind, .string (bs x.text), .slice pk x.keys.length ck, .slice px x.items.length cx] 36))
    have HC:=hid (HIH.out x _ _ (wr.alloc (.cells #[.int .i64 x.kind, .string (bs x.text), .slice pk x.keys.length ck, .slice px x.items.length cx] 36)) (HVD.out.keep HB5.out) hxb)
    unfold vv at HC
    go_wp2_with fail
    refine HC.out.mono ?_
    rintro e w2 ⟨rfl,hb2⟩
    have HB6:=hid (below_of_new HBr.out (below_of_new HB5.out hb2))
    have hbd:=HBd.out
    have hsz:=HSZ.out
    have hszz:((sizes (l.take i)+1:Nat):Int)+(x.size:Int)=((sizes (l.take (i+1))+1:Nat):Int):=by omega
    clear hb2
    go_wp2_with fail
    go_roundw
    ·exact⟨i+1,by congr 1<;>omega,rfl,hil,HB6⟩
    ·simp only[RowKit.intOf]
     omega
   ·have dk:decide ((i:Int)<(l.length:Int))=false:=decide_eq_false (by omega)
    obtain rfl:i=l.length:=by omega
    rw[List.take_length]
    have hdl:depths l≤1099511627776:=Nat.le_trans (depths_le_bulks l) hbl
    go_wp2_with fail
    go_ret
    exact⟨by rw[←HR.out];first | rfl | simp,HBr.out⟩
theorem vdepth_any: ∀(n:Nat) (t:VT) (kv iv:Value) (w:World),VD w n t kv iv→t.bulk≤1099511627776→
  Calls Tryz.prog 77 #[vv t kv iv] w fun e w'=>e= .returned (.int .i64 (t.depth:Int))∧Below w.heap.size w w':=by
 intro n
 induction n with
 | zero=>intro t kv iv w h;exact h.elim
 | succ m ih=>
  intro t kv iv w h hbk
  obtain⟨m',hm,hsv,p,c,rfl,hlc,hit⟩:=h.parts
  obtain rfl:m=m':=by omega
  obtain⟨k,s,ks,l⟩:=t
  obtain⟨R,hR⟩: ∃R,(VT.mk k s ks l).depth=R:=⟨_,rfl⟩
  rw[hR]
  rw[VT.depth] at hR
  simp only[VT.items] at hlc hit
  have hbl:bulks l≤1099511627776:=by rw[VT.bulk] at hbk;omega
  have hll:l.length≤1099511627776:=Nat.le_trans (len_le_bulks l) hbl
  have HR:=hid hR
  have HIT:=hid hit
  have HIH:=hid ih
  clear hR hit ih h hsv hm hbk
  unfold vv
  simp only[VT.kind,VT.text,VT.items]
  go_enter Tryz.func77,Tryz.ntmps77
  go_wp2_with fail
  go_loopw [3,9] (fun s3 s9 wr=> ∃(i:Nat),s3= .int .i64 ((depths (l.take i):Nat):Int)∧s9= .int .i64 (i:Int)∧i≤l.length∧Hid (Below w.heap.size w wr)) (fun _ s9 _=>l.length-(RowKit.intOf s9).toNat)
  case atStart=>exact⟨0,rfl,rfl,Nat.zero_le _,hid (below_alloc1 w _)⟩
  case round=>
   obtain⟨i,rfl,rfl,hi,HBr⟩:=hrel
   by_cases hil:i<l.length
   ·obtain⟨x,hx⟩: ∃x,l[i]?=some x:=⟨_,List.getElem?_eq_getElem hil⟩
    obtain⟨g,o,kv',iv',rfl,hg,n0,n1,n2,n3,hvd⟩:=HIT.out.keep HBr.out i x hx
    obtain⟨pk,ck,px,cx,rfl,rfl⟩:=hvd.form
    have hxb:=Nat.le_trans (bulk_mem (List.mem_of_getElem? hx)) hbl
    have hi1:(i:Int)<(l.length:Int):=by omega
    have dk:decide ((i:Int)<(l.length:Int))=true:=decide_eq_true hi1
    have hsz:max (depths (l.take i)) x.depth=depths (l.take (i+1)):=by rw[take_one hx,depths_app,depths,depths];omega
    have hbd:depths (l.take (i+1))≤bulks l:=by
     have h1:depths (l.take (i+1))≤depths l:=by
      have:=depths_app (l.take (i+1)) (l.drop (i+1))
      rw[List.take_append_drop] at this
      omega
     exact Nat.le_trans h1 (depths_le_bulks l)
    have HX:=hid hx
    have HVD:=hid hvd
    have HSZ:=hid hsz
    have HBd:=hid hbd
    clear hx hvd hsz hbd
    go_upto_region 5 with fail
    have HB5:=hid (below_alloc1 wr (.cells #[.int .i64 x.kind, .string (bs x.text), .slice pk x.keys.length ck, .slice px x.items.length cx] 36))
    have HC:=hid (HIH.out x _ _ (wr.alloc (.cells #[.int .i64 x.kind, .string (bs x.text), .slice pk x.keys.length ck, .slice px x.items.length cx] 36)) (HVD.out.keep HB5.out) hxb)
    unfold vv at HC
    go_wp2_with fail
    refine HC.out.mono ?_
    rintro e w2 ⟨rfl,hb2⟩
    have HB6:=hid (below_of_new HBr.out (below_of_new HB5.out hb2))
    have hbd:=HBd.out
    have hsz:=HSZ.out
    have hszz:max ((depths (l.take i):Nat):Int) (x.depth:Int)=((depths (l.take (i+1)):Nat):Int):=by omega
    clear hb2
    go_wp2_with fail
    go_roundw
    ·exact⟨i+1,by congr 1<;>omega,rfl,hil,HB6⟩
    ·simp only[RowKit.intOf]
     omega
   ·have dk:decide ((i:Int)<(l.length:Int))=false:=decide_eq_false (by omega)
    obtain rfl:i=l.length:=by omega
    rw[List.take_length]
    have hdl:depths l≤1099511627776:=Nat.le_trans (depths_le_bulks l) hbl
    go_wp2_with fail
    go_ret
    exact⟨by rw[←HR.out];first | rfl | simp,HBr.out⟩
end Go.Proofs.YtlibkhbachmcgaaGreatDoor
