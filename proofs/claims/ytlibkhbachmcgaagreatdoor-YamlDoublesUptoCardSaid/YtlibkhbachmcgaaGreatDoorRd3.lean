import Derived.Test.YtlibkhbachmcgaaGreatDoorRd2
import Derived.Lib.MapLaws
import Derived.Lib.ValidLaws
import Derived.Lib.RuneBytes
import Derived.Lib.TrimAscii
import Derived.Test.YtlibkhbachmcgaaGreatDoorRd1
set_option maxRecDepth 100000
set_option maxHeartbeats 4000000
namespace Go.Proofs.YtlibkhbachmcgaaGreatDoor
set_option linter.unusedSimpArgs false
set_option linter.unusedVariables false
open Go.RowKit
open Go.Lib hiding intOf
def readGo:Nat→List UInt8→Nat→List UInt8→List UInt8×Int×Int
 | 0,_,i,_=>([],(i:Int),2)
 | _+1,[],i,_=>([],(i:Int),2)
 | f+1,c::r,i,acc=>if c=34 then(acc,(i:Int)+1,0) else if(partL (c::r)).2=0 then([],(i:Int),2) else
  readGo f ((c::r).drop (partL (c::r)).2.toNat) (i+(partL (c::r)).2.toNat) (acc++Lib.encodeRune (partL (c::r)).1)
def readL (l:List UInt8) (at':Int):List UInt8×Int×Int:=
 if 0≤at'∧l[at'.toNat]?=some 34 then readGo (l.length+1) (l.drop (at'.toNat+1)) (at'.toNat+1) [] else([],at',2)
def ReadE (r:List UInt8×Int×Int):Ending:= .returned (.tuple #[.string (bs r.1), .int .i64 r.2.1, .int .i64 r.2.2])
theorem uniL_bd (l:List UInt8):0≤(uniL l).1∧(uniL l).1≤1114111∧((uniL l).2=0∨(1≤(uniL l).2∧(uniL l).2≤l.length)):=by
 unfold uniL
 cases h1:fourL (l.drop 2) with
 | none=>simp
 | some h=>
  obtain⟨h2,h3⟩:=fourL_lt h1
  rw[List.length_drop] at h3
  simp only[]
  split
  ·simp
  ·split
   ·simp only[];omega
   ·split
    ·simp
    ·cases h4:fourL (l.drop 8) with
     | none=>simp
     | some lo=>
      obtain⟨h5,h6⟩:=fourL_lt h4
      rw[List.length_drop] at h6
      simp only[]
      split
      ·simp
      ·simp only[];omega
theorem meantI_bd (n:Int):0≤(meantI n).1∧(meantI n).1≤1114111:=by
 unfold meantI
 repeat' split
 all_goals simp
theorem partL_bd (l:List UInt8) (hne:l≠ []):0≤(partL l).1∧(partL l).1≤1114111∧((partL l).2=0∨(1≤(partL l).2∧(partL l).2≤l.length)):=by
 unfold partL
 split
 ·unfold escL
  cases h:l[1]? with
  | none=>simp
  | some c=>
   have hl:1<l.length:=(List.getElem?_eq_some_iff.1 h).1
   have hm:=meantI_bd c.toNat
   simp only[]
   split
   ·simp only[];omega
   ·split
    ·exact uniL_bd l
    ·simp
 ·split
  ·simp
  ·have h1:=decodeL_drop (bs l) 0
   rw[bs_data,List.drop_zero] at h1
   have hb:=runeI_bd (bs l) 0
   have hp:0<(bs l).size:=by rw[bs_size];cases l with | nil=>exact absurd rfl hne | cons _ _=>simp
   have hw:=widN_bd (bs l) 0 hp
   have sl:=bs_size l
   unfold runeI at hb
   unfold widN at hw
   rw[h1]
   simp only[]
   omega
theorem qread_any (l:List UInt8) (a:Nat) (w:World) (hs:l.length≤1073741824) (ha:a≤l.length) (hV:SVar w) (hT:Tabs w):
  Calls Tryz.prog 192 #[.string (bs l), .int .i64 a] w fun e w'=>e=ReadE (readL l a)∧Below w.heap.size w w':=by
 have sl:=bs_size l
 obtain⟨R,hR⟩: ∃R,readL l a=R:=⟨_,rfl⟩
 rw[hR]
 unfold readL at hR
 rw[Int.toNat_natCast] at hR
 have HV:=hid hV;have HT:=hid hT;clear hV hT
 by_cases h34:l[a]?=some 34
 ·rw [if_pos ⟨by omega,h34⟩] at hR
  have hal:a<l.length:=(List.getElem?_eq_some_iff.1 h34).1
  have hal':a<(bs l).size:=by omega
  have t1:((((bs l)[a]'hal').toNat:Int) !=34)=false:=by
   have:=at_bs l a hal'
   rw[h34] at this
   have h2:(bs l)[a]'hal'=34:=by simpa using this.symm
   rw[h2];rfl
  have d1:decide (l.length≤a)=false:=decide_eq_false (by omega)
  have HR:=hid hR;clear hR h34
  go_enter Tryz.func192,Tryz.ntmps192
  go_wp2_with fail
  go_loopw [1,8,9] (fun s1 _ _ wr=> ∃(i f:Nat) (acc:List UInt8),s1= .int .i64 i∧i≤l.length∧acc.length≤4*i∧l.length<i+f∧Hid (readGo f (l.drop i) i acc=R)∧Hid (Bld w.heap.size w.heap.size acc wr)∧Hid (Below w.heap.size w wr)) (fun s1 _ _ _=>l.length-(RowKit.intOf s1).toNat)
  case atStart=>exact⟨a+1,l.length+1,[],by go_num,by omega,by simp,by omega,HR.out,Bld.new w,below_alloc1 w _⟩
  case round=>
   obtain⟨i,f,acc,rfl,hi,hacc,hf,HG,HBd,HW⟩:=hrel
   obtain⟨g,rfl⟩: ∃g,f=g+1:=⟨f-1,by omega⟩
   by_cases hlt:i<l.length
   ·have hlt':i<(bs l).size:=by omega
    have hdr:l.drop i=l[i]'hlt::l.drop (i+1):=List.drop_eq_getElem_cons hlt
    have hge:=at_bs l i hlt'
    rw[List.getElem?_eq_getElem hlt] at hge
    have hge2:(bs l)[i]'hlt'=l[i]'hlt:=by simpa using hge.symm
    have T34:=byte_eq ((bs l)[i]'hlt') 34 34 rfl
    have hg:=HG.out
    rw[hdr] at hg
    unfold readGo at hg
    rw[←hdr,←hge2] at hg
    clear HG
    by_cases hq:(bs l)[i]'hlt'=34
    ·rw[if_pos hq] at hg
     have HF:=hid hg
     rw[beq_iff_eq.2 hq] at T34
     clear hg hdr hge hge2 hq
     go_wp2_with fail
     refine(Tryz.Builder_String_any_k w.heap.size w.heap.size acc _ HBd.out HW.out.size).mono ?_
     rintro e W1 ⟨rfl,_,b1,_⟩
     go_wp2_with fail
     go_ret3
     exact⟨by rw[←HF.out];rfl,HW.out.trans b1⟩
    ·rw[if_neg hq] at hg
     rw[beq_eq_false_iff_ne.2 hq] at T34
     have hne:l.drop i≠ []:=by rw[hdr];exact List.cons_ne_nil _ _
     have hpb:=partL_bd (l.drop i) hne
     rw[List.length_drop] at hpb
     obtain⟨P,hP⟩: ∃P,partL (l.drop i)=P:=⟨_,rfl⟩
     obtain⟨rn,wd⟩:=P
     have CP:Hid (∀w,SVar w→Tabs w→Calls Tryz.prog 229 #[.string ((bs l).extract i l.length)] w fun e w'=>e= .returned (.tuple #[.int .i32 rn, .int .i64 wd])∧Below w.heap.size w w'):=hid (fun w h1 h2=>by
      have:=part_any (l.drop i) w hne (by rw[List.length_drop];omega) h1 h2
      rw[hP] at this
      rw[bs_from _ _ _ rfl];exact this)
     rw[hP] at hg hpb
     simp only[] at hg hpb
     obtain⟨p0,p1,p2⟩:=hpb
     have hz:w.heap.size≤wr.heap.size:=HW.out.size
     clear hdr hge hge2 hq hne hP
     by_cases hw0:wd=0
     ·rw[if_pos hw0] at hg
      have HF:=hid hg
      subst hw0
      clear hg p2
      go_wp2_with fail
      refine(CP.out _ (HV.out.keep HW.out) (HT.out.keep HW.out)).mono ?_
      rintro e w1 ⟨rfl,hb1⟩
      go_wp2_with fail
      go_ret3
      exact⟨by rw[←HF.out];rfl,HW.out.trans (hb1.mono hz)⟩
     ·rw[if_neg hw0] at hg
      obtain⟨N,rfl⟩: ∃N:Nat,wd=N:=⟨wd.toNat,by omega⟩
      rw[Int.toNat_natCast,List.drop_drop] at hg
      have hN:1≤N∧N≤l.length-i:=by omega
      have hl4:=Lib.runeCells_le rn
      rw[Lib.runeCells_length] at hl4
      have hw1:((N:Int)==0)=false:=beq_eq_false_iff_ne.2 hw0
      have HG2:=hid hg
      clear hg hw0 p2
      go_wp2_with fail
      refine(CP.out _ (HV.out.keep HW.out) (HT.out.keep HW.out)).mono ?_
      rintro e w1 ⟨rfl,hb1⟩
      have HBd1:=hid (HBd.out.keep hb1)
      have HW1:=hid (HW.out.trans (hb1.mono hz))
      clear hb1
      go_wp2_with fail
      refine(writeRune_any w.heap.size w.heap.size acc rn _ HBd1.out ⟨p0,p1⟩ (by omega) HW1.out.size).mono ?_
      rintro e w2 ⟨rfl,h2,b2,_⟩
      have HBd2:=hid h2
      have HW2:=hid (HW1.out.trans b2)
      clear h2 b2
      go_wp2_with fail
      go_roundw
      case rel=>exact⟨i+N,g,acc++Lib.encodeRune rn,by go_num,by omega,by rw[List.length_append];omega,by omega,HG2.out,HBd2.out,HW2.out⟩
      case measure=>simp[RowKit.intOf];omega
   ·have hg:=HG.out
    rw[List.drop_of_length_le (by omega)] at hg
    have HF:=hid (show ([],(i:Int),2)=R from hg)
    obtain rfl:i=l.length:=by omega
    clear hg HG
    go_wp2_with fail
    go_ret3
    exact⟨by rw[←HF.out];rfl,HW.out⟩
 ·rw[if_neg (fun h=>h34 h.2)] at hR
  subst hR
  by_cases hal:a<l.length
  ·have hal':a<(bs l).size:=by omega
   have t1:((((bs l)[a]'hal').toNat:Int) !=34)=true:=by
    rw[bne_iff_ne]
    intro h
    apply h34
    rw[at_bs l a hal']
    have:((bs l)[a]'hal')=34:=UInt8.toNat_inj.1 (by show _=34;omega)
    rw[this]
   clear h34
   go_enter Tryz.func192,Tryz.ntmps192
   go_wp2_with fail
   go_ret3
   exact⟨rfl,Below.refl _ _⟩
  ·clear h34
   go_enter Tryz.func192,Tryz.ntmps192
   go_wp2_with fail
   go_ret3
   exact⟨rfl,Below.refl _ _⟩
def unqL (l:List UInt8):List UInt8×Int×Int:=
 if(readL l 0).2.2=0∧(readL l 0).2.1<l.length then([],(readL l 0).2.1,2) else readL l 0
def endL (l:List UInt8) (a:Int):Int×Int:=if a<0∨(l.length:Int)<a then(0,2) else((readL l a).2.1,(readL l a).2.2)
theorem end_any (l:List UInt8) (a:Int) (w:World) (hs:l.length≤1073741824) (hV:SVar w) (hT:Tabs w):
  Calls Tryz.prog 224 #[.string (bs l), .int .i64 a] w fun e w'=>e= .returned (.tuple #[.int .i64 (endL l a).1, .int .i64 (endL l a).2])∧Below w.heap.size w w':=by
 have sl:=bs_size l
 unfold endL
 by_cases h:a<0∨(l.length:Int)<a
 ·rw[if_pos h]
  rcases h with h | h
  all_goals
   go_enter Tryz.func224,Tryz.ntmps224
   go_wp2_with fail
   go_ret2
   exact⟨rfl,Below.refl _ _⟩
 ·rw[if_neg h]
  have h1:0≤a:=by omega
  have h2:a≤l.length:=by omega
  have C:=qread_any l a.toNat w hs (by omega) hV hT
  rw[show ((a.toNat:Nat):Int)=a by omega] at C
  obtain⟨R,hR⟩: ∃R,readL l a=R:=⟨_,rfl⟩
  obtain⟨s,k,er⟩:=R
  rw[hR] at C ⊢
  have HC:=hid C
  clear C hR hV hT h
  go_enter Tryz.func224,Tryz.ntmps224
  go_wp2_with fail
  refine HC.out.mono ?_
  unfold ReadE
  rintro e w1 ⟨rfl,hb1⟩
  go_wp2_with fail
  go_ret2
  exact⟨rfl,hb1⟩
theorem unquote_any (l:List UInt8) (w:World) (hs:l.length≤1073741824) (hV:SVar w) (hT:Tabs w):
  Calls Tryz.prog 158 #[.string (bs l)] w fun e w'=>e=ReadE (unqL l)∧Below w.heap.size w w':=by
 have sl:=bs_size l
 have C:=qread_any l 0 w hs (by omega) hV hT
 have hq:unqL l=if(readL l 0).2.2=0∧(readL l 0).2.1<l.length then([],(readL l 0).2.1,2) else readL l 0:=rfl
 obtain⟨R,hR⟩: ∃R,readL l 0=R:=⟨_,rfl⟩
 obtain⟨s,k,er⟩:=R
 rw[show ((0:Nat):Int)=0 from rfl,hR] at C
 rw[hR] at hq
 simp only[] at hq
 have HC:=hid C
 clear C hR hV hT
 by_cases h1:er=0
 ·subst h1
  by_cases h2:k<l.length
  ·rw[hq,if_pos ⟨rfl,h2⟩]
   clear hq
   go_enter Tryz.func158,Tryz.ntmps158
   go_wp2_with fail
   refine HC.out.mono ?_
   unfold ReadE
   rintro e w1 ⟨rfl,hb1⟩
   go_wp2_with fail
   go_ret3
   exact⟨rfl,hb1⟩
  ·rw[hq,if_neg (fun h=>h2 h.2)]
   clear hq
   go_enter Tryz.func158,Tryz.ntmps158
   go_wp2_with fail
   refine HC.out.mono ?_
   unfold ReadE
   rintro e w1 ⟨rfl,hb1⟩
   go_wp2_with fail
   go_ret3
   exact⟨rfl,hb1⟩
 ·rw[hq,if_neg (fun h=>h1 h.1)]
  have t1:(er==0)=false:=beq_eq_false_iff_ne.2 h1
  clear hq h1
  go_enter Tryz.func158,Tryz.ntmps158
  go_wp2_with fail
  refine HC.out.mono ?_
  unfold ReadE
  rintro e w1 ⟨rfl,hb1⟩
  go_wp2_with fail
  go_ret3
  exact⟨rfl,hb1⟩
end Go.Proofs.YtlibkhbachmcgaaGreatDoor
namespace Go.Proofs.YtlibkhbachmcgaaGreatDoor
set_option linter.unusedSimpArgs false
set_option linter.unusedVariables false
open Go.Lib
theorem byte_toNat (x:Int) (h0:0≤x) (h1:x<256):x.toNat.toUInt8.toNat=x.toNat:=by
 rw[show x.toNat.toUInt8=UInt8.ofNat x.toNat from rfl,UInt8.toNat_ofNat']
 exact Nat.mod_eq_of_lt (by omega)
def okRune (r:Int):Prop:=0≤r∧r≤1114111∧(r<55296∨57343<r)
theorem decode_encode (r:Int) (h:okRune r) (t:List UInt8):decodeL (encodeRune r++t)=(r.toNat,(encodeRune r).length):=by
 obtain⟨h0,h1,h2⟩:=h
 rw[decodeL_N]
 unfold encodeRune
 by_cases g1:r≤127
 ·rw[encodeRuneZ_one h0 g1]
  simp only[List.map_cons,List.map_nil,List.length_cons,List.length_nil,List.cons_append,List.nil_append,List.getD_cons_zero]
  rw[byte_toNat r h0 (by omega)]
  unfold decodeN
  rw[if_pos (by omega)]
 by_cases g2:r≤2047
 ·rw[encodeRuneZ_two (by omega) g2]
  simp only[List.map_cons,List.map_nil,List.length_cons,List.length_nil,List.cons_append,List.nil_append,List.getD_cons_zero,List.getD_cons_succ]
  rw[byte_toNat _ (by omega) (by omega),byte_toNat (128+r % 64) (by omega) (by omega)]
  unfold decodeN
  rw[if_neg (by omega),if_pos ⟨by omega,by omega,by omega⟩,if_pos (by omega)]
  congr 1
  omega
 by_cases g3:r≤65535
 ·rw[encodeRuneZ_three (by omega)]
  simp only[List.map_cons,List.map_nil,List.length_cons,List.length_nil,List.cons_append,List.nil_append,List.getD_cons_zero,List.getD_cons_succ]
  rw[byte_toNat _ (by omega) (by omega),byte_toNat (128+r / 64 % 64) (by omega) (by omega),byte_toNat (128+r % 64) (by omega) (by omega)]
  unfold decodeN
  rw[if_neg (by omega),if_neg (by omega),if_pos ⟨by omega,⟨by omega,by omega⟩,by omega,by omega⟩,if_pos ⟨by omega,by omega⟩]
  congr 1
  omega
 ·rw[encodeRuneZ_four (by omega) h1]
  simp only[List.map_cons,List.map_nil,List.length_cons,List.length_nil,List.cons_append,List.nil_append,List.getD_cons_zero,List.getD_cons_succ]
  rw[byte_toNat _ (by omega) (by omega),byte_toNat (128+r / 4096 % 64) (by omega) (by omega),byte_toNat (128+r / 64 % 64) (by omega) (by omega),byte_toNat (128+r % 64) (by omega) (by omega)]
  unfold decodeN
  rw[if_neg (by omega),if_neg (by omega),if_neg (by omega),if_pos ⟨by omega,⟨by omega,by omega⟩,⟨by omega,by omega⟩,by omega,by omega⟩,if_pos ⟨by omega,by omega⟩]
  congr 1
  omega
theorem encode_len (r:Int) (h:okRune r) (hr:128≤r):2≤(encodeRune r).length:=by
 obtain⟨h0,h1,h2⟩:=h
 unfold encodeRune
 rw[List.length_map]
 by_cases g2:r≤2047
 ·rw[encodeRuneZ_two (by omega) g2];simp
 by_cases g3:r≤65535
 ·rw[encodeRuneZ_three (by omega)];simp
 ·rw[encodeRuneZ_four (by omega) h1];simp
theorem encode_high (r:Int) (h:okRune r) (hr:128≤r): ∀c∈encodeRune r,128≤c.toNat:=by
 obtain⟨h0,h1,h2⟩:=h
 have key: ∀l:List Int,(∀x∈l,128≤x∧x<256)→ ∀c∈l.map (fun x=>x.toNat.toUInt8),128≤c.toNat:=by
  intro l hl c hc
  obtain⟨x,hx,rfl⟩:=List.mem_map.1 hc
  have:=hl x hx
  rw[byte_toNat x (by omega) (by omega)]
  omega
 refine key _ ?_
 by_cases g2:r≤2047
 ·rw[encodeRuneZ_two (by omega) g2]
  intro x hx
  simp only[List.mem_cons,List.not_mem_nil,or_false] at hx
  omega
 by_cases g3:r≤65535
 ·rw[encodeRuneZ_three (by omega)]
  intro x hx
  simp only[List.mem_cons,List.not_mem_nil,or_false] at hx
  omega
 ·rw[encodeRuneZ_four (by omega) h1]
  intro x hx
  simp only[List.mem_cons,List.not_mem_nil,or_false] at hx
  omega
theorem decode_okRune (l:List UInt8):okRune ((decodeL l).1:Int):=by
 rw[decodeL_N]
 have k0:=(l.getD 0 0).toNat_lt
 rcases decodeN_shape l.length (l.getD 0 0).toNat (l.getD 1 0).toNat (l.getD 2 0).toNat (l.getD 3 0).toNat with⟨c,e⟩ | ⟨c1,c2,c3,cv,e⟩ | ⟨c1,c2,c3,c4,cv,cs,e⟩ | ⟨c1,c2,c3,c4,c5,cv,cw,e⟩ | e
 all_goals
  rw[e]
  unfold okRune
  dsimp only
  omega
theorem encode_ne (r:Int):encodeRune r≠ []:=by
 intro h
 have:=(encodeRuneZ_length r).1
 unfold encodeRune at h
 rw[List.map_eq_nil_iff] at h
 rw[h] at this
 simp at this
theorem encode_one (c:UInt8) (h:c.toNat<128):encodeRune (c.toNat:Int)= [c]:=by
 unfold encodeRune
 rw[encodeRuneZ_one (by omega) (by omega)]
 simp
theorem valid_cut (l:List UInt8) (hne:l≠ []) (h:validD l=true): ∃r t,okRune r∧l=encodeRune r++t∧validD t=true∧decodeL l=(r.toNat,(encodeRune r).length):=by
 rw[validD_step l hne] at h
 by_cases hb:(decodeL l).1=65533∧(decodeL l).2=1
 ·rw[if_pos hb] at h;cases h
 ·rw[if_neg hb] at h
  have he:=encode_decode l hne hb
  have hle:=decodeL_le l hne
  refine⟨((decodeL l).1:Int),l.drop (decodeL l).2,decode_okRune l,by rw[he,List.take_append_drop],h,?_⟩
  rw[he,List.length_take,Int.toNat_natCast,Nat.min_eq_left hle]
theorem validD_rune (r:Int) (h:okRune r) (t:List UInt8):validD (encodeRune r++t)=validD t:=by
 rw[validD_step _ (by simp[encode_ne]),decode_encode r h t,if_neg,List.drop_left]
 rintro⟨a,b⟩
 simp only at a b
 have h0:=h.1
 have:=encode_len r h (by omega)
 omega
theorem validD_app (s t:List UInt8) (hs:validD s=true):validD (s++t)=validD t:=by
 obtain⟨n,hn⟩: ∃n,s.length≤n:=⟨_,Nat.le_refl _⟩
 induction n generalizing s with
 | zero=>
  obtain rfl:s= []:=List.eq_nil_of_length_eq_zero (by omega)
  rfl
 | succ n ih=>
  by_cases hne:s= []
  ·subst hne;rfl
  ·obtain⟨r,u,hr,rfl,hu,_⟩:=valid_cut s hne hs
   have:=List.length_pos_iff.2 (encode_ne r)
   rw[List.append_assoc,validD_rune r hr]
   exact ih u hu (by rw[List.length_append] at hn;omega)
theorem decodeN_far (n b0 b1 b2 b3:Nat) (h:128≤b0) (h0:b0<256):128≤(decodeN n b0 b1 b2 b3).1:=by
 unfold decodeN
 repeat' split
 all_goals simp at *
 all_goals omega
theorem readGo_cons (f:Nat) (c:UInt8) (r:List UInt8) (i:Nat) (acc:List UInt8):readGo (f+1) (c::r) i acc=if c=34 then(acc,(i:Int)+1,0) else if(partL (c::r)).2=0 then([],(i:Int),2) else
  readGo f ((c::r).drop (partL (c::r)).2.toNat) (i+(partL (c::r)).2.toNat) (acc++Lib.encodeRune (partL (c::r)).1):=rfl
theorem readGo_ok: ∀(f:Nat) (l:List UInt8) (i:Nat) (acc:List UInt8),(readGo f l i acc).2.2=0→(i:Int)<(readGo f l i acc).2.1∧(readGo f l i acc).2.1≤i+l.length
 | 0,_,_,_,h=>by simp[readGo] at h
 | _+1,[],_,_,h=>by simp[readGo] at h
 | f+1,c::r,i,acc,h=>by
  rw[readGo_cons] at h ⊢
  split
  ·exact⟨by simp only[];omega,by simp only[List.length_cons];omega⟩
  ·rename_i h34
   rw[if_neg h34] at h
   split
   ·rename_i h0;rw[if_pos h0] at h;exact absurd h (by simp)
   ·rename_i h0
    rw[if_neg h0] at h
    have hp:=partL_bd (c::r) (List.cons_ne_nil _ _)
    obtain⟨P,hP⟩: ∃P,partL (c::r)=P:=⟨_,rfl⟩
    rw[hP] at h hp h0 ⊢
    have:=readGo_ok f _ _ _ h
    rw[List.length_drop] at this
    omega
theorem readGo_off: ∀(f:Nat) (l:List UInt8) (i k:Nat) (acc:List UInt8),readGo f l (i+k) acc=((readGo f l i acc).1,(readGo f l i acc).2.1+k,(readGo f l i acc).2.2)
 | 0,_,i,k,_=>by simp[readGo]
 | _+1,[],i,k,_=>by simp[readGo]
 | f+1,c::r,i,k,acc=>by
  rw[readGo_cons,readGo_cons]
  split
  ·simp only[Prod.mk.injEq,true_and,and_true];omega
  ·split
   ·simp only[Prod.mk.injEq,true_and,and_true];omega
   ·rw[show i+k+(partL (c::r)).2.toNat=(i+(partL (c::r)).2.toNat)+k by omega]
    exact readGo_off f _ _ _ _
theorem readGo_fuel: ∀(f g:Nat) (l:List UInt8) (i:Nat) (acc:List UInt8),l.length<f→l.length<g→readGo f l i acc=readGo g l i acc
 | 0,_,l,_,_,h,_=>by omega
 | _,0,l,_,_,_,h=>by omega
 | _+1,_+1,[],_,_,_,_=>rfl
 | f+1,g+1,c::r,i,acc,hf,hg=>by
  rw[readGo_cons,readGo_cons]
  split
  ·rfl
  ·split
   ·rfl
   ·have hp:=partL_bd (c::r) (List.cons_ne_nil _ _)
    exact readGo_fuel f g _ _ _ (by rw[List.length_drop];omega) (by rw[List.length_drop];omega)
theorem readL_drop (s:List UInt8) (a:Nat) (ha:a≤s.length):readL s a=((readL (s.drop a) 0).1,(readL (s.drop a) 0).2.1+a,(readL (s.drop a) 0).2.2):=by
 unfold readL
 rw[Int.toNat_natCast,Int.toNat_zero,List.getElem?_drop,Nat.add_zero]
 by_cases h:s[a]?=some 34
 ·rw[if_pos ⟨by omega,h⟩,if_pos ⟨by omega,h⟩,List.drop_drop,show a+(0+1)=a+1 by omega]
  have hl:=(List.getElem?_eq_some_iff.1 h).1
  rw[readGo_fuel (s.length+1) ((s.drop a).length+1) _ _ _ (by rw[List.length_drop];omega) (by rw[List.length_drop,List.length_drop];omega)]
  have:=readGo_off ((s.drop a).length+1) (s.drop (a+1)) (0+1) a []
  rw[show 0+1+a=a+1 by omega] at this
  exact this
 ·rw[if_neg (fun g=>h g.2),if_neg (fun g=>h g.2)]
  simp
theorem readL_ok (l:List UInt8) (h:(readL l 0).2.2=0):0<(readL l 0).2.1∧(readL l 0).2.1≤l.length:=by
 unfold readL at h ⊢
 by_cases h1:0≤(0:Int)∧l[(0:Int).toNat]?=some 34
 ·rw[if_pos h1] at h ⊢
  have:=readGo_ok _ _ _ _ h
  rw[List.length_drop] at this
  have hl:=(List.getElem?_eq_some_iff.1 h1.2).1
  simp only[Int.toNat_zero] at this hl ⊢
  omega
 ·rw[if_neg h1] at h;exact absurd h (by simp)
def runL (p:UInt8→Bool) (l:List UInt8):Nat:=(l.takeWhile p).length
def isBlank (c:UInt8):Bool:=c==32||c==9||c==10||c==13
def isNumB (c:UInt8):Bool:=isDig c||c==45||c==43||c==46||c==101||c==69
def isSmall (c:UInt8):Bool:=decide (97≤c.toNat∧c.toNat≤122)
def signI (c:UInt8):Option Nat:=if c=123 then some 0 else if c=125 then some 1 else if c=91 then some 2 else if c=93 then some 3 else if c=44 then some 4 else if c=58 then some 5 else none
def wordL (l:List UInt8):Nat:=if l= [116,114,117,101] then 10 else if l= [102,97,108,115,101] then 11 else if l= [110,117,108,108] then 12 else 0
def tokR (l:List UInt8):Nat×Nat×Int:=
 match l with
 | []=>(0,0,2)
 | c::_=>match signI c with
  | some k=>(2+k,1,0)
  | none=>if isBlank c then(1,runL isBlank l,0) else if c=34 then(if(readL l 0).2.2=0 then(8,(readL l 0).2.1.toNat,0) else(0,(readL l 0).2.1.toNat,(readL l 0).2.2)) else
   if c=45∨isDig c=true then(if(parseL (l.take (runL isNumB l))).2=0 then(9,runL isNumB l,0) else(0,0,(parseL (l.take (runL isNumB l))).2)) else
   if wordL (l.take (runL isSmall l))=0 then(0,0,2) else(wordL (l.take (runL isSmall l)),runL isSmall l,0)
theorem runL_le (p:UInt8→Bool) (l:List UInt8):runL p l≤l.length:=(List.takeWhile_sublist _).length_le
theorem runL_cons (p:UInt8→Bool) (c:UInt8) (l:List UInt8):runL p (c::l)=if p c then runL p l+1 else 0:=by
 unfold runL
 rw[List.takeWhile_cons]
 split<;>rfl
theorem signI_cases (c:UInt8) (k:Nat) (h:signI c=some k):k≤5:=by
 unfold signI at h
 repeat' split at h
 all_goals first | (injection h with h;omega) | cases h
theorem wordL_cases (l:List UInt8):wordL l=0∨(10≤wordL l∧wordL l≤12∧0<l.length):=by
 unfold wordL
 split
 ·rename_i h;right;rw[h];simp
 ·split
  ·rename_i h;right;rw[h];simp
  ·split
   ·rename_i h;right;rw[h];simp
   ·left;rfl
theorem readL_fail (l:List UInt8):0≤(readL l 0).2.1∧(readL l 0).2.1≤l.length:=by
 have hgo: ∀(f:Nat) (l:List UInt8) (i:Nat) (acc:List UInt8),(i:Int)≤(readGo f l i acc).2.1∧(readGo f l i acc).2.1≤i+l.length:=by
  intro f
  induction f with
  | zero=>intro l i acc;simp[readGo];omega
  | succ f ih=>
   intro l i acc
   cases l with
   | nil=>simp[readGo]
   | cons c r=>
    rw[readGo_cons]
    split
    ·simp only[List.length_cons];omega
    ·split
     ·simp only[List.length_cons];omega
     ·have hp:=partL_bd (c::r) (List.cons_ne_nil _ _)
      have:=ih ((c::r).drop (partL (c::r)).2.toNat) (i+(partL (c::r)).2.toNat) (acc++encodeRune (partL (c::r)).1)
      rw[List.length_drop] at this
      omega
 unfold readL
 by_cases h1:0≤(0:Int)∧l[(0:Int).toNat]?=some 34
 ·rw[if_pos h1]
  have:=hgo (l.length+1) (l.drop ((0:Int).toNat+1)) ((0:Int).toNat+1) []
  rw[List.length_drop] at this
  have hl:=(List.getElem?_eq_some_iff.1 h1.2).1
  simp only[Int.toNat_zero] at this hl ⊢
  omega
 ·rw[if_neg h1];simp
theorem tokR_ok (l:List UInt8) (hne:l≠ []):(tokR l).2.1≤l.length∧((tokR l).2.2=0→1≤(tokR l).1∧(tokR l).1≤12∧0<(tokR l).2.1):=by
 cases l with
 | nil=>exact absurd rfl hne
 | cons c r=>
  unfold tokR
  simp only[]
  cases hs:signI c with
  | some k=>
   have:=signI_cases c k hs
   simp only[]
   exact⟨by simp,fun _=>⟨by omega,by omega,by omega⟩⟩
  | none=>
   simp only[]
   split
   ·rename_i hb
    have:=runL_le isBlank (c::r)
    refine⟨this,fun _=>⟨by simp,by simp,?_⟩⟩
    rw[runL_cons,if_pos hb];simp
   ·split
    ·have hr:=readL_fail (c::r)
     split
     ·rename_i h0
      have:=readL_ok (c::r) h0
      exact⟨by simp only[];omega,fun _=>⟨by simp,by simp,by simp only[];omega⟩⟩
     ·rename_i h0
      exact⟨by simp only[];omega,fun h=>absurd h h0⟩
    ·split
     ·rename_i hd
      have hnb:isNumB c=true:=by
       unfold isNumB
       rcases hd with rfl | hd
       ·decide
       ·rw[hd];rfl
      split
      ·refine⟨runL_le _ _,fun _=>⟨by simp,by simp,?_⟩⟩
       simp only[]
       rw[runL_cons,if_pos hnb];simp
      ·rename_i h0
       exact⟨by simp,fun h=>absurd h h0⟩
     ·have hw:=wordL_cases ((c::r).take (runL isSmall (c::r)))
      split
      ·exact⟨by simp,fun h=>absurd h (by simp)⟩
      ·rename_i h0
       rcases hw with hw | hw
       ·exact absurd hw h0
       ·refine⟨runL_le _ _,fun _=>⟨by simp only[];omega,by simp only[];omega,?_⟩⟩
        have:=hw.2.2
        rw[List.length_take] at this
        simp only[]
        omega
structure Tok where
 kind:Nat
 sf:Nat
 st:Nat
deriving DecidableEq
def toksGo:Nat→List UInt8→Nat→List Tok×Option (Nat×Int)
 | 0,_,_=>([],none)
 | _+1,[],_=>([],none)
 | f+1,c::r,i=>if(tokR (c::r)).2.2=0 then(⟨(tokR (c::r)).1,i,i+(tokR (c::r)).2.1⟩::(toksGo f ((c::r).drop (tokR (c::r)).2.1) (i+(tokR (c::r)).2.1)).1,(toksGo f ((c::r).drop (tokR (c::r)).2.1) (i+(tokR (c::r)).2.1)).2) else([],some (i+(tokR (c::r)).2.1,(tokR (c::r)).2.2))
def toksL (s:List UInt8):List Tok×Int×Int:=
 if 65536<s.length then([],0,3) else match (toksGo s.length s 0).2 with
 | none=>((toksGo s.length s 0).1,(s.length:Int),0)
 | some (p,e)=>([],(p:Int),e)
theorem toksGo_cons (f:Nat) (c:UInt8) (r:List UInt8) (i:Nat):toksGo (f+1) (c::r) i=if(tokR (c::r)).2.2=0 then(⟨(tokR (c::r)).1,i,i+(tokR (c::r)).2.1⟩::(toksGo f ((c::r).drop (tokR (c::r)).2.1) (i+(tokR (c::r)).2.1)).1,(toksGo f ((c::r).drop (tokR (c::r)).2.1) (i+(tokR (c::r)).2.1)).2) else([],some (i+(tokR (c::r)).2.1,(tokR (c::r)).2.2)):=rfl
theorem toksGo_nil (f i:Nat):toksGo f [] i=([],none):=by cases f<;>rfl
theorem toks_err: ∀(f:Nat) (l:List UInt8) (i p:Nat) (e:Int),l.length≤f→(toksGo f l i).2=some (p,e)→i≤p∧p≤i+l.length∧e≠0
 | f,[],i,_,_,_,h=>by rw[toksGo_nil] at h;cases h
 | 0,_::_,_,_,_,h,_=>by simp at h
 | f+1,c::r,i,p,e,hf,h=>by
  rw[toksGo_cons] at h
  have hle:=(tokR_ok (c::r) (List.cons_ne_nil _ _)).1
  by_cases h0:(tokR (c::r)).2.2=0
  ·rw[if_pos h0] at h
   have hok:=(tokR_ok (c::r) (List.cons_ne_nil _ _)).2 h0
   have hlc:(c::r).length=r.length+1:=rfl
   have:=toks_err f _ _ p e (by rw[List.length_drop];omega) h
   rw[List.length_drop] at this
   omega
  ·rw[if_neg h0] at h
   simp only[Option.some.injEq,Prod.mk.injEq] at h
   obtain⟨rfl,rfl⟩:=h
   exact⟨by omega,by omega,h0⟩
def hexd (n:UInt8):UInt8:=if n<10 then 48+n else 87+n
def qB (c:UInt8):List UInt8:=
 if c=34∨c=92 then [92,c] else if c=8 then [92,98] else if c=12 then [92,102] else if c=10 then [92,110] else if c=13 then [92,114] else if c=9 then [92,116]
 else if c<32 then [92,117,48,48,hexd (c / 16),hexd (c % 16)] else [c]
def qBs (l:List UInt8):List UInt8:=l.flatMap qB
def quoteL (l:List UInt8):List UInt8×Int:=if validD l then(34::(qBs l++ [34]),0) else([],2)
theorem qBs_append (a b:List UInt8):qBs (a++b)=qBs a++qBs b:=by unfold qBs;rw[List.flatMap_append]
theorem qB_high (c:UInt8) (h:128≤c.toNat):qB c= [c]:=by
 have: ∀n:Fin 256,128≤n.val→qB (UInt8.ofNat n.val)= [UInt8.ofNat n.val]:=by decide+kernel
 have h2:=this ⟨c.toNat,c.toNat_lt⟩ h
 simpa using h2
theorem qBs_high: ∀(l:List UInt8),(∀c∈l,128≤c.toNat)→qBs l=l
 | [],_=>rfl
 | c::t,h=>by
  show qB c++qBs t=c::t
  rw[qB_high c (h c (by simp)),qBs_high t (fun d hd=>h d (by simp[hd]))];rfl
theorem qB_low: ∀n:Fin 128,
  (qB (UInt8.ofNat n.val)= [UInt8.ofNat n.val]∧n.val≠92∧n.val≠34∧32≤n.val)∨
  (qB (UInt8.ofNat n.val)= [92,(qB (UInt8.ofNat n.val)).getD 1 0]∧meantI ((qB (UInt8.ofNat n.val)).getD 1 0).toNat=((n.val:Int),true))∨
  (qB (UInt8.ofNat n.val)= [92,117,48,48,(qB (UInt8.ofNat n.val)).getD 4 0,(qB (UInt8.ofNat n.val)).getD 5 0]∧hexGo 0 [48,48,(qB (UInt8.ofNat n.val)).getD 4 0,(qB (UInt8.ofNat n.val)).getD 5 0]=some n.val∧n.val<32):=by decide+kernel
theorem part_qB (c:UInt8) (hc:c.toNat<128) (t:List UInt8):partL (qB c++t)=((c.toNat:Int),((qB c).length:Int))∧(qB c++t).head?≠some 34∧0<(qB c).length:=by
 have h:=qB_low ⟨c.toNat,hc⟩
 simp only[UInt8.ofNat_toNat] at h
 obtain⟨Q,hQ⟩: ∃Q,qB c=Q:=⟨_,rfl⟩
 rw[hQ] at h ⊢
 rcases h with⟨h,h1,h2,h3⟩ | ⟨h,h1⟩ | ⟨h,h1,h2⟩
 ·rw[h]
  have e92: ¬c=92:=fun e=>h1 (by rw[e];rfl)
  have e34: ¬c=34:=fun e=>h2 (by rw[e];rfl)
  refine⟨?_,by simpa using e34,by simp⟩
  unfold partL
  rw[if_neg (by simpa using e92)]
  rw[show [c]++t=c::t from rfl,decodeL_ascii c t hc,if_neg]
  ·simp
  ·unfold plainB
   simp only[Bool.or_eq_true,decide_eq_true_eq,Bool.and_eq_true,beq_iff_eq]
   omega
 ·obtain⟨x,hx⟩: ∃x,Q.getD 1 0=x:=⟨_,rfl⟩
  rw[hx] at h h1
  rw[h]
  refine⟨?_,by simp,by simp⟩
  unfold partL
  rw[if_pos (by simp)]
  unfold escL
  simp only[List.cons_append,List.nil_append,List.getElem?_cons_succ,List.getElem?_cons_zero,h1,if_true]
  rfl
 ·obtain⟨x,hx⟩: ∃x,Q.getD 4 0=x:=⟨_,rfl⟩
  obtain⟨y,hy⟩: ∃y,Q.getD 5 0=y:=⟨_,rfl⟩
  rw[hx,hy] at h h1
  rw[h]
  refine⟨?_,by simp,by simp⟩
  unfold partL
  rw[if_pos (by simp)]
  unfold escL
  have hm:(meantI ((117:UInt8).toNat:Int)).2=false:=by decide
  simp only[List.cons_append,List.nil_append,List.getElem?_cons_succ,List.getElem?_cons_zero]
  rw[hm,if_neg (by simp),if_pos (by rfl)]
  have hf:fourL ((92::117::48::48::x::y::t).drop 2)=some c.toNat:=by
   unfold fourL
   rw[if_neg (by simp),←h1]
   rfl
  unfold uniL
  rw[hf]
  simp only[]
  rw[if_neg (by omega),if_pos (by omega)]
  rfl
theorem part_rune (r:Int) (hr:okRune r) (h:128≤r) (t:List UInt8):partL (encodeRune r++t)=(r,((encodeRune r).length:Int))∧(encodeRune r++t).head?≠some 34∧0<(encodeRune r).length:=by
 have hh:=encode_high r hr h
 have hl:=encode_len r hr h
 have hd:=decode_encode r hr t
 obtain⟨E,hE⟩: ∃E,encodeRune r=E:=⟨_,rfl⟩
 rw[hE] at hh hl hd ⊢
 cases E with
 | nil=>simp at hl
 | cons c u=>
  have h1:=hh c (by simp)
  have e92: ¬c=92:=fun e=>by rw[e] at h1;exact absurd h1 (by decide)
  have e34: ¬c=34:=fun e=>by rw[e] at h1;exact absurd h1 (by decide)
  refine⟨?_,by simpa using e34,by simp⟩
  unfold partL
  rw[if_neg (by simpa using e92),hd,if_neg]
  ·simp only[]
   rw[Int.toNat_of_nonneg hr.1]
  ·unfold plainB
   have:=hr.1
   simp only[Bool.or_eq_true,decide_eq_true_eq,Bool.and_eq_true,beq_iff_eq]
   omega
theorem read_bd: ∀(f:Nat) (l:List UInt8) (i:Nat) (acc:List UInt8),
  ((i:Int)≤(readGo f l i acc).2.1∧(readGo f l i acc).2.1≤i+l.length)∧((readGo f l i acc).2.2=0∨((readGo f l i acc).2.2=2∧(readGo f l i acc).1= []))
 | 0,_,_,_=>⟨by simp[readGo];omega, .inr ⟨rfl,rfl⟩⟩
 | _+1,[],_,_=>⟨by simp[readGo], .inr ⟨rfl,rfl⟩⟩
 | f+1,c::r,i,acc=>by
  unfold readGo
  split
  ·exact⟨by simp;omega, .inl rfl⟩
  ·split
   ·exact⟨by simp;omega, .inr ⟨rfl,rfl⟩⟩
   ·rename_i h2
    have hp:=partL_bd (c::r) (List.cons_ne_nil _ _)
    obtain⟨P,hP⟩: ∃P,partL (c::r)=P:=⟨_,rfl⟩
    rw[hP] at hp h2 ⊢
    have:=read_bd f ((c::r).drop P.2.toNat) (i+P.2.toNat) (acc++encodeRune P.1)
    rw[List.length_drop] at this
    refine⟨?_,this.2⟩
    have h3:=this.1
    simp only[List.length_cons] at h3 hp ⊢
    omega
theorem qB_shape: ∀n:Fin 256,(∀x∈qB (UInt8.ofNat n.val),32≤x.toNat)∧((qB (UInt8.ofNat n.val)).head?≠some 34)∧
  (∀j:Fin 5,(qB (UInt8.ofNat n.val))[j.val+1]?=some 34→(qB (UInt8.ofNat n.val))[j.val]?=some 92)∧1≤(qB (UInt8.ofNat n.val)).length∧(qB (UInt8.ofNat n.val)).length≤6:=by decide+kernel
theorem qB_is (c:UInt8):(∀x∈qB c,32≤x.toNat)∧((qB c).head?≠some 34)∧(∀j:Nat,(qB c)[j+1]?=some 34→(qB c)[j]?=some 92)∧1≤(qB c).length∧(qB c).length≤6:=by
 have h:=qB_shape ⟨c.toNat,c.toNat_lt⟩
 simp only[UInt8.ofNat_toNat] at h
 refine⟨h.1,h.2.1,fun j hj=>?_,h.2.2.2⟩
 have hl:=(List.getElem?_eq_some_iff.1 hj).1
 exact h.2.2.1 ⟨j,by have:=h.2.2.2.2;omega⟩ hj
theorem qBs_len: ∀l:List UInt8,l.length≤(qBs l).length∧(qBs l).length≤6*l.length
 | []=>by simp[qBs]
 | c::t=>by
  have hq:=qB_is c
  have:=qBs_len t
  change (c::t).length≤(qB c++qBs t).length∧(qB c++qBs t).length≤6*(c::t).length
  rw[List.length_append,List.length_cons]
  omega
abbrev Sp:=Nat×Nat
structure NodeD where
 kind:Nat
 sf:Nat
 st:Nat
 key:Sp
 kids:List Nat
 pcs:List Sp
deriving DecidableEq
inductive JR where
 | ok (rest:List Tok) (last:Sp) (nodes:List NodeD)
 | bad (at':Nat) (er:Int)
def kindT:List Tok→Nat
 | []=>0
 | t::_=>t.kind
def hereT (n:Nat):List Tok→Nat
 | []=>n
 | t::_=>t.sf
def kindOfT (k:Nat):Nat:=if k=12 then 1 else if k=10∨k=11 then 2 else if k=9 then 3 else if k=8 then 4 else if k=4 then 5 else if k=2 then 6 else 0
def modN (f:NodeD→NodeD):Nat→List NodeD→List NodeD
 | _,[]=> []
 | 0,x::l=>f x::l
 | n+1,x::l=>x::modN f n l
def addKid (n kid:Nat) (pc:Sp) (l:List NodeD):List NodeD:=modN (fun x=> { x with kids:=x.kids++ [kid],pcs:=x.pcs++ [pc] }) n l
def setTo (n e:Nat) (l:List NodeD):List NodeD:=modN (fun x=> { x with st:=e }) n l
abbrev VF:=List Tok→Sp→List NodeD→Sp→JR
def kidM (txt:List UInt8) (V:VF) (obj:Bool) (had:List (List UInt8)) (rest:List Tok) (last:Sp) (nodes:List NodeD):JR×List (List UInt8):=
 if obj=false then(V rest last nodes (0,0),had) else match rest with
  | []=>(.bad txt.length 2,had)
  | t::r=>
   if t.kind≠8 then(.bad t.sf 2,had) else
   if(unqL ((txt.drop t.sf).take (t.st-t.sf))).1∈had then(.bad t.sf 7,had) else
   match r with
   | []=>(.bad txt.length 2,(unqL ((txt.drop t.sf).take (t.st-t.sf))).1::had)
   | c::r2=>if c.kind≠7 then(.bad c.sf 2,(unqL ((txt.drop t.sf).take (t.st-t.sf))).1::had) else
    (V r2 (c.sf,c.st) nodes (t.sf,t.st),(unqL ((txt.drop t.sf).take (t.st-t.sf))).1::had)
def loopM (txt:List UInt8) (V:VF) (closing:Nat) (obj:Bool) (n:Nat):Nat→List (List UInt8)→List Tok→Sp→List NodeD→JR
 | 0,_,_,_,_=> .bad 0 0
 | f+1,had,rest,last,nodes=>match kidM txt V obj had rest last nodes with
  | (.bad a e,_)=> .bad a e
  | (.ok r l ns,had')=>match r with
   | []=> .bad txt.length 2
   | t::r'=>if t.kind=closing then .ok r' (t.sf,t.st) (addKid n nodes.length (last.2,t.sf) ns) else
    if t.kind=6 then loopM txt V closing obj n f had' r' (t.sf,t.st) (addKid n nodes.length (last.2,t.sf) ns) else .bad t.sf 2
def kidsM (txt:List UInt8) (V:VF) (closing:Nat) (obj:Bool) (n:Nat) (rest:List Tok) (last:Sp) (nodes:List NodeD):JR:=
 match rest with
 | []=>loopM txt V closing obj n 1 [] rest last nodes
 | t::r=>if t.kind=closing then .ok r (t.sf,t.st) nodes else loopM txt V closing obj n (rest.length+1) [] rest last nodes
def endM (n:Nat):JR→JR
 | .ok r l ns=> .ok r l (setTo n l.2 ns)
 | .bad a e=> .bad a e
def valueM (txt:List UInt8):Nat→VF
 | 0,rest,last,nodes,key=>if kindOfT (kindT rest)=0 then .bad (hereT txt.length rest) 2 else .bad (hereT txt.length rest) 5
 | lv+1,rest,last,nodes,key=>if kindOfT (kindT rest)=0 then .bad (hereT txt.length rest) 2 else
  if nodes.length=4096 then .bad (hereT txt.length rest) 6 else match rest with
  | []=> .bad 0 0
  | t::r=>endM nodes.length (
   if t.kind=4 then kidsM txt (valueM txt lv) 5 false nodes.length r (t.sf,t.st) (nodes++ [⟨kindOfT t.kind,t.sf,t.st,key,[],[]⟩]) else
   if t.kind=2 then kidsM txt (valueM txt lv) 3 true nodes.length r (t.sf,t.st) (nodes++ [⟨kindOfT t.kind,t.sf,t.st,key,[],[]⟩]) else
   .ok r (t.sf,t.st) (nodes++ [⟨kindOfT t.kind,t.sf,t.st,key,[],[]⟩]))
def parseJ (s:List UInt8):List NodeD×Int×Int:=
 if(toksL s).2.2≠0 then([],(toksL s).2.1,(toksL s).2.2) else
  match valueM s 32 ((toksL s).1.filter (fun t=>t.kind !=1)) (0,0) [] (0,0) with
  | .bad a e=>([],(a:Int),e)
  | .ok [] _ ns=>(ns,(s.length:Int),0)
  | .ok (t::_) _ _=>([],(t.sf:Int),2)
theorem modN_len (f:NodeD→NodeD): ∀(n:Nat) (l:List NodeD),(modN f n l).length=l.length
 | _,[]=>by simp[modN]
 | 0,x::l=>rfl
 | n+1,x::l=>by rw[modN,List.length_cons,modN_len f n l,List.length_cons]
theorem modN_at (f:NodeD→NodeD): ∀(n:Nat) (l:List NodeD) (j:Nat),(modN f n l)[j]?=if j=n then(l[j]?).map f else l[j]?
 | n,[],j=>by cases n<;>simp[modN]
 | 0,x::l,0=>rfl
 | 0,x::l,j+1=>by simp[modN]
 | n+1,x::l,0=>by simp[modN]
 | n+1,x::l,j+1=>by
  rw[modN,List.getElem?_cons_succ,List.getElem?_cons_succ,modN_at f n l j]
  simp
theorem modN_mid (f:NodeD→NodeD): ∀(pre:List NodeD) (x:NodeD) (post:List NodeD),modN f pre.length (pre++x::post)=pre++f x::post
 | [],x,post=>rfl
 | y::pre,x,post=>by
  show y::modN f pre.length (pre++x::post)=_
  rw[modN_mid f pre x post];rfl
def Lim (n:Nat) (l:List NodeD):Prop:= ∀y∈l,y.kids.length≤n∧y.pcs.length≤n
def Ext (V:VF):Prop:= ∀rest last nodes key r l ns,V rest last nodes key= .ok r l ns→ ∃more,ns=nodes++more∧1≤more.length∧more.length+r.length≤rest.length∧(∃k,r=rest.drop k)∧Lim more.length more
theorem kid_ext {txt:List UInt8}{V:VF} (hV:Ext V) {obj:Bool}{had:List (List UInt8)}{rest:List Tok}{last:Sp}{nodes:List NodeD}{r:List Tok}{l:Sp}{ns:List NodeD}{had':List (List UInt8)}
  (h:kidM txt V obj had rest last nodes=(.ok r l ns,had')): ∃more,ns=nodes++more∧1≤more.length∧more.length+r.length≤rest.length∧(∃k,r=rest.drop k)∧Lim more.length more:=by
 unfold kidM at h
 split at h
 ·injection h with h _
  exact hV _ _ _ _ _ _ _ h
 ·split at h
  ·injection h with h _;cases h
  ·rename_i t q
   split at h
   ·injection h with h _;cases h
   ·split at h
    ·injection h with h _;cases h
    ·split at h
     ·injection h with h _;cases h
     ·rename_i c r2
      split at h
      ·injection h with h _;cases h
      ·injection h with h _
       obtain⟨more,h1,h2,h3,⟨k,h4⟩,h5⟩:=hV _ _ _ _ _ _ _ h
       exact⟨more,h1,h2,by simp only[List.length_cons];omega,⟨k+2,by rw[h4];rfl⟩,h5⟩
def Mid (pre:List NodeD) (x:NodeD) (post:List NodeD) (nodes:List NodeD):Prop:=nodes=pre++x::post∧x.kids.length≤post.length∧x.pcs.length≤post.length∧Lim post.length post
theorem Mid.add {pre:List NodeD}{x:NodeD}{post nodes more:List NodeD} (h:Mid pre x post nodes) (hm:Lim more.length more) (h1:1≤more.length) (k:Nat) (pc:Sp):
  Mid pre { x with kids:=x.kids++ [k],pcs:=x.pcs++ [pc] } (post++more) (addKid pre.length k pc (nodes++more)):=by
 obtain⟨rfl,h2,h3,h4⟩:=h
 refine⟨?_,?_,?_,?_⟩
 ·unfold addKid
  rw[List.append_assoc,List.cons_append,modN_mid]
 ·simp only[List.length_append,List.length_cons,List.length_nil];omega
 ·simp only[List.length_append,List.length_cons,List.length_nil];omega
 ·intro y hy
  rw[List.length_append]
  rcases List.mem_append.1 hy with hy | hy
  ·have:=h4 y hy;omega
  ·have:=hm y hy;omega
theorem loop_ext {txt:List UInt8}{V:VF} (hV:Ext V) {closing:Nat}{obj:Bool}{pre:List NodeD}: ∀(f:Nat) {had:List (List UInt8)}{rest:List Tok}{last:Sp}{nodes:List NodeD}{r:List Tok}{l:Sp}{ns:List NodeD}{x:NodeD}{post:List NodeD},
  Mid pre x post nodes→loopM txt V closing obj pre.length f had rest last nodes= .ok r l ns→ ∃x' post',Mid pre x' post' ns∧x'.kind=x.kind∧x'.sf=x.sf∧x'.key=x.key∧post.length<post'.length∧post'.length+r.length<post.length+rest.length∧ ∃k,r=rest.drop k
 | 0,_,_,_,_,_,_,_,_,_,_,h=>by cases h
 | f +1,had,rest,last,nodes,r,l,ns,x,post,hm,h=>by
  unfold loopM at h
  split at h
  ·cases h
  ·rename_i r1 l1 ns1 had1 hk
   obtain⟨more,rfl,h2,h3,⟨k,h4⟩,h5⟩:=kid_ext hV hk
   split at h
   ·cases h
   ·rename_i t r'
    simp only[List.length_cons] at h3
    have hr':r'=rest.drop (k+1):=by rw[←List.drop_drop,←h4];rfl
    have hm2:=hm.add h5 h2 nodes.length (last.2,t.sf)
    split at h
    ·injection h with e1 e2 e3
     subst e1
     subst e3
     exact⟨_,_,hm2,rfl,rfl,rfl,by rw[List.length_append];omega,by rw[List.length_append];omega,_,hr'⟩
    ·split at h
     ·obtain⟨x',post',i1,i2,i3,i4,i5,i6,k2,i7⟩:=loop_ext hV f hm2 h
      rw[List.length_append] at i5 i6
      exact⟨x',post',i1,i2,i3,i4,by omega,by omega,k+1+k2,by rw[i7,hr',List.drop_drop]⟩
     ·cases h
theorem kids_ext {txt:List UInt8}{V:VF} (hV:Ext V) {closing:Nat}{obj:Bool}{pre:List NodeD}{rest:List Tok}{last:Sp}{nodes:List NodeD}{r:List Tok}{l:Sp}{ns:List NodeD}{x:NodeD}{post:List NodeD}
  (hm:Mid pre x post nodes) (h:kidsM txt V closing obj pre.length rest last nodes= .ok r l ns): ∃x' post',Mid pre x' post' ns∧x'.kind=x.kind∧x'.sf=x.sf∧x'.key=x.key∧post.length≤post'.length∧post'.length+r.length≤post.length+rest.length∧ ∃k,r=rest.drop k:=by
 unfold kidsM at h
 split at h
 ·obtain⟨x',post',i1,i2,i3,i4,i5,i6,i7⟩:=loop_ext hV _ hm h
  exact⟨x',post',i1,i2,i3,i4,by omega,by omega,i7⟩
 ·rename_i t q
  split at h
  ·injection h with h1 h2 h3
   subst h1 h3
   exact⟨x,post,hm,rfl,rfl,rfl,Nat.le_refl _,by simp only[List.length_cons];omega,1,rfl⟩
  ·obtain⟨x',post',i1,i2,i3,i4,i5,i6,i7⟩:=loop_ext hV _ hm h
   exact⟨x',post',i1,i2,i3,i4,by omega,by omega,i7⟩
theorem setTo_mid {pre:List NodeD}{x:NodeD}{post nodes:List NodeD} (h:Mid pre x post nodes) (e:Nat):Mid pre { x with st:=e } post (setTo pre.length e nodes):=by
 obtain⟨rfl,h2,h3,h4⟩:=h
 exact⟨by unfold setTo;rw[modN_mid],h2,h3,h4⟩
theorem value_ext (txt:List UInt8): ∀lv,Ext (valueM txt lv)
 | 0=>fun rest last nodes key r l ns h=>by
  unfold valueM at h
  split at h<;>cases h
 | lv +1=>fun rest last nodes key r l ns h=>by
  have ih:=value_ext txt lv
  cases rest with
  | nil=>
   unfold valueM at h
   rw[if_pos (show kindOfT (kindT [])=0 from rfl)] at h
   cases h
  | cons t q=>
   unfold valueM at h
   split at h
   ·cases h
   ·split at h
    ·cases h
    ·simp only[] at h
     have key2: ∀x:JR,endM nodes.length x= .ok r l ns→ ∃ns',x= .ok r l ns'∧ns=setTo nodes.length l.2 ns':=by
      intro x hx
      cases x with
      | bad a e=>cases hx
      | ok r' l' ns'=>
       injection hx with h1 h2 h3
       subst h1 h2
       exact⟨ns',rfl,h3.symm⟩
     obtain⟨ns',h1,rfl⟩:=key2 _ h
     have hm0:Mid nodes ⟨kindOfT t.kind,t.sf,t.st,key,[],[]⟩ [] (nodes++ [⟨kindOfT t.kind,t.sf,t.st,key,[],[]⟩]):=⟨rfl,Nat.le_refl _,Nat.le_refl _,fun y hy=>by cases hy⟩
     have fin: ∀ {x':NodeD}{post':List NodeD},Mid nodes x' post' ns'→post'.length+r.length≤q.length→(∃k,r=q.drop k)→ ∃more,setTo nodes.length l.2 ns'=nodes++more∧1≤more.length∧more.length+r.length≤(t::q).length∧(∃k,r=(t::q).drop k)∧Lim more.length more:=by
      intro x' post' hm hl ⟨k,hk⟩
      obtain⟨e1,e2,e3,e4⟩:=setTo_mid hm l.2
      refine⟨_,e1,by simp,by simp only[List.length_cons];omega,⟨k+1,by rw[hk];rfl⟩,fun y hy=>?_⟩
      simp only[List.length_cons]
      rcases List.mem_cons.1 hy with rfl | hy
      ·exact⟨by omega,by omega⟩
      ·have:=e4 y hy;omega
     split at h1
     ·obtain⟨x',post',i1,_,_,_,_,i6,i7⟩:=kids_ext ih hm0 h1
      exact fin i1 (by simpa using i6) i7
     ·split at h1
      ·obtain⟨x',post',i1,_,_,_,_,i6,i7⟩:=kids_ext ih hm0 h1
       exact fin i1 (by simpa using i6) i7
      ·injection h1 with h2 h3 h4
       subst h2 h4
       exact fin hm0 (by simp) ⟨0,rfl⟩
section
variable {α β:Type}{R:α→β→Prop}
end
section
variable {txt txt':List UInt8}{a b m n:Nat}{deep:Prop}{V V':VF}
end
theorem endM_ok {k:Nat}{x:JR}{r:List Tok}{l:Sp}{ns:List NodeD} (hx:endM k x= .ok r l ns): ∃ns',x= .ok r l ns'∧ns=setTo k l.2 ns':=by
 cases x with
 | bad a e=>cases hx
 | ok r' l' ns'=>
  injection hx with h1 h2 h3
  subst h1 h2
  exact⟨ns',rfl,h3.symm⟩
def nblk (ts:List Tok):List Tok:=ts.filter (fun t=>t.kind !=1)
def finP (n:Nat):JR→List NodeD×Int×Int
 | .bad a e=>([],(a:Int),e)
 | .ok [] _ ns=>(ns,(n:Int),0)
 | .ok (t::_) _ _=>([],(t.sf:Int),2)
def Bd (V:VF):Prop:= ∀rest last nodes key a e,V rest last nodes key= .bad a e→e≠0
theorem kid_bad {txt:List UInt8}{V:VF} (hV:Bd V) {obj:Bool}{had had':List (List UInt8)}{rest:List Tok}{last:Sp}{nodes:List NodeD}{a:Nat}{e:Int} (h:kidM txt V obj had rest last nodes=(.bad a e,had')):e≠0:=by
 unfold kidM at h
 split at h
 ·injection h with h _;exact hV _ _ _ _ _ _ h
 ·split at h
  ·injection h with h _;injection h with _ h;rw[←h];decide
  ·split at h
   ·injection h with h _;injection h with _ h;rw[←h];decide
   ·split at h
    ·injection h with h _;injection h with _ h;rw[←h];decide
    ·split at h
     ·injection h with h _;injection h with _ h;rw[←h];decide
     ·split at h
      ·injection h with h _;injection h with _ h;rw[←h];decide
      ·injection h with h _;exact hV _ _ _ _ _ _ h
theorem loop_bad {txt:List UInt8}{V:VF} (hV:Bd V) (hE:Ext V) {closing:Nat}{obj:Bool}{n:Nat}: ∀(f:Nat) {had:List (List UInt8)}{rest:List Tok}{last:Sp}{nodes:List NodeD}{a:Nat}{e:Int},rest.length<f→loopM txt V closing obj n f had rest last nodes= .bad a e→e≠0
 | 0,_,_,_,_,_,_,hf,_=>by omega
 | f +1,had,rest,last,nodes,a,e,hf,h=>by
  unfold loopM at h
  split at h
  ·rename_i hk
   injection h with h1 h2
   subst h1 h2
   exact kid_bad hV hk
  ·rename_i r1 l1 ns1 had1 hk
   obtain⟨more,_,h2,h3,_⟩:=kid_ext hE hk
   split at h
   ·injection h with _ h;rw[←h];decide
   ·simp only[List.length_cons] at h3
    split at h
    ·cases h
    ·split at h
     ·exact loop_bad hV hE f (by omega) h
     ·injection h with _ h;rw[←h];decide
theorem kids_bad {txt:List UInt8}{V:VF} (hV:Bd V) (hE:Ext V) {closing:Nat}{obj:Bool}{n:Nat}{rest:List Tok}{last:Sp}{nodes:List NodeD}{a:Nat}{e:Int} (h:kidsM txt V closing obj n rest last nodes= .bad a e):e≠0:=by
 unfold kidsM at h
 split at h
 ·exact loop_bad hV hE 1 (by simp) h
 ·split at h
  ·cases h
  ·exact loop_bad hV hE _ (by simp) h
theorem endM_bad {k:Nat}{x:JR}{a:Nat}{e:Int} (hx:endM k x= .bad a e):x= .bad a e:=by
 cases x with
 | bad a' e'=>exact hx
 | ok r' l' ns'=>cases hx
theorem value_bad (txt:List UInt8): ∀lv,Bd (valueM txt lv)
 | 0=>fun rest last nodes key a e h=>by
  unfold valueM at h
  split at h
  ·injection h with _ h;rw[←h];decide
  ·injection h with _ h;rw[←h];decide
 | lv +1=>fun rest last nodes key a e h=>by
  have ih:=value_bad txt lv
  have hE:=value_ext txt lv
  unfold valueM at h
  split at h
  ·injection h with _ h;rw[←h];decide
  ·rename_i hk
   split at h
   ·injection h with _ h;rw[←h];decide
   ·cases rest with
    | nil=>exact absurd rfl hk
    | cons t r=>
     simp only[] at h
     have h1:=endM_bad h
     split at h1
     ·exact kids_bad ih hE h1
     ·split at h1
      ·exact kids_bad ih hE h1
      ·cases h1
theorem parse_eq (s:List UInt8):parseJ s=if(toksL s).2.2≠0 then([],(toksL s).2.1,(toksL s).2.2) else finP s.length (valueM s 32 (nblk (toksL s).1) (0,0) [] (0,0)):=by
 unfold parseJ nblk finP
 rfl
theorem toksL_none {s:List UInt8} (h:(toksL s).2.2=0):s.length≤65536∧toksGo s.length s 0=((toksL s).1,none):=by
 unfold toksL at h ⊢
 by_cases hb:65536<s.length
 ·rw[if_pos hb] at h;exact absurd h (by simp)
 ·rw[if_neg hb] at h ⊢
  cases hG:(toksGo s.length s 0).2 with
  | none=>exact⟨by omega,Prod.ext rfl hG⟩
  | some x=>
   obtain⟨p,e⟩:=x
   rw[hG] at h
   exact absurd h (toks_err s.length s 0 p e (Nat.le_refl _) hG).2.2
theorem parse_ok {s:List UInt8} (h:(parseJ s).2.2=0):s.length≤65536∧ ∃T l ns,toksGo s.length s 0=(T,none)∧valueM s 32 (nblk T) (0,0) [] (0,0)= .ok [] l ns∧parseJ s=(ns,(s.length:Int),0):=by
 rw[parse_eq] at h ⊢
 by_cases h0:(toksL s).2.2=0
 ·rw[if_neg (by simpa using h0)] at h ⊢
  obtain⟨h1,h2⟩:=toksL_none h0
  refine⟨h1,(toksL s).1,?_⟩
  cases hv:valueM s 32 (nblk (toksL s).1) (0,0) [] (0,0) with
  | bad a e=>rw[hv] at h;exact absurd h (value_bad s 32 _ _ _ _ _ _ hv)
  | ok r l ns=>
   cases r with
   | cons t r=>rw[hv] at h;exact absurd h (by simp[finP])
   | nil=>exact⟨l,ns,h2,rfl,rfl⟩
 ·rw[if_pos h0] at h;exact absurd h h0
theorem mid_at {pre:List NodeD}{x:NodeD}{post nodes:List NodeD} (h:Mid pre x post nodes):nodes[pre.length]?=some x:=by
 rw[h.1,List.getElem?_append_right (Nat.le_refl _),Nat.sub_self];rfl
theorem mid_len {pre:List NodeD}{x:NodeD}{post nodes:List NodeD} (h:Mid pre x post nodes):nodes.length=pre.length+1+post.length:=by
 rw[h.1,List.length_append,List.length_cons];omega
end Go.Proofs.YtlibkhbachmcgaaGreatDoor
namespace Go.Proofs.YtlibkhbachmcgaaGreatDoor
set_option linter.unusedSimpArgs false
set_option linter.unusedVariables false
set_option linter.unnecessarySimpa false
open Go.Lib
end Go.Proofs.YtlibkhbachmcgaaGreatDoor
