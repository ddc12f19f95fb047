import Derived.Test.YtlibkhbachmcgaaGreatDoorRe12
import Derived.Test.YtlibkhbachmcgaaGreatDoorRe3
import Derived.Lib.IndexMore
import Derived.Deep.RegionHeld3
set_option maxRecDepth 100000
set_option maxHeartbeats 4000000
namespace Go.Proofs.YtlibkhbachmcgaaGreatDoor
set_option linter.unusedSimpArgs false
set_option linter.unusedVariables false
open Go.RowKit
open Go.Lib hiding intOf
theorem end0_bd (l:List UInt8):0≤(endL l 0).1∧(endL l 0).1≤l.length:=by
 unfold endL
 rw[if_neg (by omega)]
 unfold readL
 by_cases h1:0≤(0:Int)∧l[(0:Int).toNat]?=some 34
 ·rw[if_pos h1]
  have:=(read_bd (l.length+1) (l.drop ((0:Int).toNat+1)) ((0:Int).toNat+1) []).1
  rw[List.length_drop] at this
  have hl:=(List.getElem?_eq_some_iff.1 h1.2).1
  simp only[Int.toNat_zero] at this hl ⊢
  omega
 ·rw[if_neg h1];simp
theorem sqGo_bd: ∀(f:Nat) (l:List UInt8) (i:Nat) (acc:List UInt8),(i:Int)≤(sqGo f l i acc).2.1∧(sqGo f l i acc).2.1≤i+l.length
 | 0,_,_,_=>by simp[sqGo];omega
 | _+1,[],_,_=>by simp[sqGo]
 | f+1,c::r,i,acc=>by
  rw[sqGo_cons]
  split
  ·split
   ·rename_i h
    have:=sqGo_bd f (r.drop 1) (i+2) (acc++ [39])
    rw[List.length_drop] at this
    have h0:0<r.length:=by cases r with | nil=>simp at h | cons _ _=>simp
    simp only[List.length_cons]
    omega
   ·simp only[List.length_cons];omega
  ·split
   ·simp only[List.length_cons];omega
   ·have hle:=decodeL_le (c::r) (List.cons_ne_nil _ _)
    have:=sqGo_bd f ((c::r).drop (decodeL (c::r)).2) (i+(decodeL (c::r)).2) (acc++(c::r).take (decodeL (c::r)).2)
    rw[List.length_drop] at this
    omega
theorem sq0_bd (l:List UInt8):0≤(sqL l 0).2.1∧(sqL l 0).2.1≤l.length:=by
 unfold sqL
 rw[if_neg (by omega)]
 by_cases h1:l[(0:Int).toNat]?=some 39
 ·rw[if_pos h1]
  have:=sqGo_bd (l.length+1) (l.drop ((0:Int).toNat+1)) ((0:Int).toNat+1) []
  rw[List.length_drop] at this
  have hl:=(List.getElem?_eq_some_iff.1 h1).1
  simp only[Int.toNat_zero] at this hl ⊢
  omega
 ·rw[if_neg h1];simp
theorem qdL_le (l:List UInt8):qdL l≤l.length:=by
 have h1:=end0_bd l
 have h2:=sq0_bd l
 unfold qdL
 repeat' split
 all_goals omega
theorem qd_any (l:List UInt8) (w:World) (hs:l.length≤1073741824) (hV:SVar w) (hT:Tabs w):
  Calls Tryz.prog 188 #[.string (bs l)] w fun e w'=>e= .returned (.int .i64 (qdL l))∧Below w.heap.size w w':=by
 have sl:=bs_size l
 obtain⟨R,hR⟩: ∃R,qdL l=R:=⟨_,rfl⟩
 rw[hR]
 unfold qdL at hR
 have HV:=hid hV;have HT:=hid hT;clear hV hT
 cases l with
 | nil=>
  simp at hR
  subst hR
  have he:(bs ([]:List UInt8)).toList= []:=by rw[Lib.toList_data,bs_data]
  have he2:(bs ([]:List UInt8)).toList.isEmpty=true:=by rw[Lib.toList_data,bs_data];rfl
  go_enter Tryz.func188,Tryz.ntmps188
  go_wp2_with fail
  go_ret
  exact⟨rfl,Below.refl _ _⟩
 | cons c r=>
  have h0:0<(bs (c::r)).size:=by rw[bs_size];simp
  have hne:(bs (c::r)).toList.isEmpty=false:=by rw[Lib.toList_data,bs_data];rfl
  have hne2: ¬(bs (c::r)).toList= []:=by rw[Lib.toList_data,bs_data];simp
  have T34:=head_is (c::r) 34 34 rfl h0
  have T39:=head_is (c::r) 39 39 rfl h0
  rw[List.head?_cons] at T34 T39 hR
  have hlen:(c::r).length=r.length+1:=rfl
  obtain⟨L,hL⟩: ∃L,c::r=L:=⟨_,rfl⟩
  have CE:=hid (fun w hV hT=>end_any (c::r) 0 w hs hV hT)
  have CS:=hid (fun w hT=>single_any (c::r) 0 w hs hT)
  have eb:=end0_bd (c::r)
  have sb:=sq0_bd (c::r)
  obtain⟨E,hE⟩: ∃E,endL (c::r) 0=E:=⟨_,rfl⟩
  obtain⟨k1,e1⟩:=E
  obtain⟨Q,hQ⟩: ∃Q,sqL (c::r) 0=Q:=⟨_,rfl⟩
  obtain⟨q1,k2,e2⟩:=Q
  rw[hE] at CE eb hR
  rw[hQ] at CS sb hR
  unfold ReadE at CS
  simp only[] at CE CS eb sb hR
  obtain⟨x,hx⟩: ∃x:Int,(((bs (c::r))[0]'h0).toNat:Int)=x:=⟨_,rfl⟩
  rw[hx] at T34 T39
  clear hE hQ hL
  by_cases g1:c=34
  ·rw[if_pos (by rw[g1])] at hR
   rw[show (some c==some 34)=true from by rw[g1];rfl] at T34
   clear T39 g1
   by_cases ge:e1=0
   ·rw[if_pos ge] at hR
    obtain⟨n,rfl⟩: ∃n:Nat,k1=n:=⟨k1.toNat,by omega⟩
    rw[Int.toNat_natCast] at hR
    subst hR ge
    go_enter Tryz.func188,Tryz.ntmps188
    go_wp2_with fail
    with_reducible refine(CE.out _ HV.out HT.out).mono ?_
    rintro e w1 ⟨rfl,hb1⟩
    go_wp2_with fail
    go_ret
    exact⟨rfl,hb1⟩
   ·rw[if_neg ge] at hR
    subst hR
    have te:(e1 !=0)=true:=bne_iff_ne.2 ge
    clear ge
    go_enter Tryz.func188,Tryz.ntmps188
    go_wp2_with fail
    with_reducible refine(CE.out _ HV.out HT.out).mono ?_
    rintro e w1 ⟨rfl,hb1⟩
    go_wp2_with fail
    go_ret
    exact⟨rfl,hb1⟩
  rw[if_neg (by simpa using g1)] at hR
  rw[show (some c==some 34)=false from by rw[beq_eq_false_iff_ne];simpa using g1] at T34
  by_cases g2:c=39
  ·rw[if_pos (by rw[g2])] at hR
   rw[show (some c==some 39)=true from by rw[g2];rfl] at T39
   clear g1 g2
   by_cases ge:e2=0
   ·rw[if_pos ge] at hR
    obtain⟨n,rfl⟩: ∃n:Nat,k2=n:=⟨k2.toNat,by omega⟩
    rw[Int.toNat_natCast] at hR
    subst hR ge
    go_enter Tryz.func188,Tryz.ntmps188
    go_wp2_with fail
    with_reducible refine(CS.out _ HT.out).mono ?_
    rintro e w1 ⟨rfl,hb1⟩
    go_wp2_with fail
    go_ret
    exact⟨rfl,hb1⟩
   ·rw[if_neg ge] at hR
    subst hR
    have te:(e2 !=0)=true:=bne_iff_ne.2 ge
    clear ge
    go_enter Tryz.func188,Tryz.ntmps188
    go_wp2_with fail
    with_reducible refine(CS.out _ HT.out).mono ?_
    rintro e w1 ⟨rfl,hb1⟩
    go_wp2_with fail
    go_ret
    exact⟨rfl,hb1⟩
  ·rw[if_neg (by simpa using g2)] at hR
   rw[show (some c==some 39)=false from by rw[beq_eq_false_iff_ne];simpa using g2] at T39
   subst hR
   clear g1 g2
   go_enter Tryz.func188,Tryz.ntmps188
   go_wp2_with fail
   go_ret
   exact⟨rfl,Below.refl _ _⟩
theorem occ2 (s:List UInt8) (j:Nat):Lib.occAt s [32,35] j=true↔s[j]?=some 32∧s[j+1]?=some 35:=by
 unfold Lib.occAt
 have h1:s[j]?=(s.drop j)[0]?:=by rw[List.getElem?_drop,Nat.add_zero]
 have h2:s[j+1]?=(s.drop j)[1]?:=by rw[List.getElem?_drop]
 rw[h1,h2]
 match s.drop j with
 | []=>simp[List.isPrefixOf]
 | [a]=>simp[List.isPrefixOf]
 | a::b::r=>
  simp[List.isPrefixOf]
  constructor
  ·rintro⟨rfl,rfl⟩;exact⟨rfl,rfl⟩
  ·rintro⟨rfl,rfl⟩;exact⟨rfl,rfl⟩
theorem note_index (l:List UInt8) (a m:Nat) (ha:a≤l.length) (hm:m+1=max a 1) (hl:m≤l.length):
  (Lib.index (l.drop m) [32,35]= -1→noteL l a=l.length)∧(∀i:Nat,Lib.index (l.drop m) [32,35]=i→noteL l a=m+i+1∧m+i+1≤l.length):=by
 have hocc: ∀j,Lib.occAt (l.drop m) [32,35] j=true↔l[m+j]?=some 32∧l[m+j+1]?=some 35:=fun j=>by
  rw[occ2,List.getElem?_drop,List.getElem?_drop];rfl
 have hnot: ∀i,(∀j,j<i→Lib.occAt (l.drop m) [32,35] j=false)→ ∀j,max a 1≤j→j<m+i+1→ ¬(l[j]?=some 35∧l[j-1]?=some 32):=by
  rintro i h j h1 h2 ⟨e1,e2⟩
  have:=h (j-1-m) (by omega)
  have h3:=(hocc (j-1-m)).2 ⟨by rw[show m+(j-1-m)=j-1 by omega];exact e2,by rw[show m+(j-1-m)+1=j by omega];exact e1⟩
  rw[this] at h3;cases h3
 rcases Lib.index_spec (l.drop m) [32,35] with⟨h1,h2⟩ | ⟨i,h1,h2,h3,h4⟩
 ·refine⟨fun _=>noteL_unique l a l.length (Nat.le_refl _) (fun h=>absurd h (Nat.lt_irrefl _)) (fun j g1 g2=>?_),fun i hi=>by rw[h1] at hi;omega⟩
  refine hnot (l.length-m) (fun j hj=>h2 j (by rw[List.length_drop];omega)) j g1 (by omega)
 ·refine⟨fun h=>by rw[h1] at h;omega,fun i' hi=>?_⟩
  obtain rfl:i=i':=by rw[h1] at hi;omega
  have ho:=(hocc i).1 h3
  have hlt:=(List.getElem?_eq_some_iff.1 ho.2).1
  refine⟨noteL_unique l a (m+i+1) (by omega) (fun _=>⟨by omega,ho.2,by rw[Nat.add_sub_cancel];exact ho.1⟩) (hnot i (fun j hj=>?_)),by omega⟩
  exact h4 j hj
theorem note_any (l:List UInt8) (a:Nat) (w:World) (hs:l.length≤1073741824) (ha:a≤l.length) (hM:MVar w):
  Calls Tryz.prog 226 #[.string (bs l), .int .i64 a] w fun e w'=>e= .returned (.int .i64 (noteL l a))∧w=w':=by
 have sl:=bs_size l
 obtain⟨M,hM⟩:=hM
 obtain⟨m,hm⟩: ∃m,m+1=max a 1:=⟨max a 1-1,by omega⟩
 have hml:m≤l.length:=by omega
 have hni:=note_index l a m ha hm hml
 obtain⟨X,hX⟩: ∃X,Lib.index (l.drop m) [32,35]=X:=⟨_,rfl⟩
 have hge:=Lib.index_ge (l.drop m) [32,35]
 have CI:Hid (Calls Tryz.prog 136 #[.string ((bs l).extract m l.length), .string ⟨#[32,35]⟩] w fun e w'=>e= .returned (.int .i64 X)∧w=w'):=hid (by
  have h:=Tryz.strings_Index ((bs l).extract m l.length) ⟨#[32,35]⟩ M w (by rw[bs_from _ _ _ rfl,bs_size,List.length_drop];omega) hM
  rw[bs_from _ _ _ rfl,bs_data,show (⟨#[32,35]⟩:ByteArray).data.toList= [32,35] from rfl,hX] at h
  rw[bs_from _ _ _ rfl]
  exact h.mono fun _ _ ⟨a,b⟩=>⟨a,b.symm⟩)
 rw[hX] at hni hge
 obtain⟨N,hN⟩: ∃N,noteL l a=N:=⟨_,rfl⟩
 rw[hN] at hni ⊢
 have hmax:max ((a:Int)-1) 0=(m:Int):=by omega
 clear hX hN hM
 have ha0:(a:Int)≤(l.length:Int):=by omega
 have hm0:(0:Int)≤(m:Int):=by omega
 have hm1:(m:Int)≤(l.length:Int):=by omega
 have HM:=hid hm;clear hm
 by_cases hx:X<0
 ·have HF:=hid (hni.1 (by omega))
  clear hni
  go_enter Tryz.func226,Tryz.ntmps226
  go_wp2_with (go_at_call 136;refine CI.out.mono ?_;rintro e w' ⟨rfl,rfl⟩)
  go_ret
  exact⟨ret_int (by rw[HF.out]),rfl⟩
 ·obtain⟨i,rfl⟩: ∃i:Nat,X=i:=⟨X.toNat,by omega⟩
  obtain⟨n1,n2⟩:=hni.2 i rfl
  have HF:=hid n1
  have dx:decide ((i:Int)<0)=false:=decide_eq_false (by omega)
  clear hni hx n1
  go_enter Tryz.func226,Tryz.ntmps226
  go_wp2_with (go_at_call 136;refine CI.out.mono ?_;rintro e w' ⟨rfl,rfl⟩)
  go_ret
  exact⟨ret_int (by rw[HF.out];omega),rfl⟩
theorem bs_atY (l:List UInt8) (k:Nat) (h:k<l.length) (h2:k<(bs l).size):(bs l)[k]'h2=l[k]'h:=by
 have:=at_bs l k h2
 rw[List.getElem?_eq_getElem h] at this
 exact(Option.some.inj this).symm
theorem sign_any (l:List UInt8) (k:Nat) (c:UInt8) (w:World) (hs:l.length≤1073741824) (hk:k≤1073741824):
  Calls Tryz.prog 225 #[.string (bs l), .int .i64 k, .int .u8 (c.toNat:Int)] w fun e w'=>e= .returned (.bool (signL l k c))∧w=w':=by
 have sl:=bs_size l
 obtain⟨R,hR⟩: ∃R,signL l k c=R:=⟨_,rfl⟩
 rw[hR]
 unfold signL at hR
 by_cases hlt:k<l.length
 ·have hlt':k<(bs l).size:=by omega
  have hb:=bs_atY l k hlt hlt'
  have T1:=byte_eq ((bs l)[k]'hlt') c _ rfl
  rw[List.getElem?_eq_getElem hlt,←hb] at hR
  have d1:decide (k<l.length)=true:=decide_eq_true hlt
  obtain⟨n,hn⟩: ∃n:Int,(c.toNat:Int)=n:=⟨_,rfl⟩
  rw[hn] at T1 ⊢
  obtain⟨x,hx⟩: ∃x,(bs l)[k]'hlt'=x:=⟨_,rfl⟩
  rw[hx] at T1 hR
  have hx2:(((bs l)[k]'hlt').toNat:Int)=(x.toNat:Int):=by rw[hx]
  obtain⟨y,hy⟩: ∃y:Int,(x.toNat:Int)=y:=⟨_,rfl⟩
  rw[hy] at T1 hx2
  by_cases he:x=c
  ·rw[show (x==c)=true from beq_iff_eq.2 he] at T1
   rw[show (some x==some c)=true from by rw[he];exact beq_self_eq_true _,Bool.true_and] at hR
   by_cases hl1:k+1=l.length
   ·have t2:((k:Int)+1==(l.length:Int))=true:=beq_iff_eq.2 (by omega)
    rw[List.getElem?_eq_none (by omega)] at hR
    have hRt:R=true:=by rw[←hR];rfl
    subst hRt
    clear hR hb he hx hy hn hl1
    go_enter Tryz.func225,Tryz.ntmps225
    go_wp2_with fail
    go_ret
    exact⟨rfl,rfl⟩
   ·have t2:((k:Int)+1==(l.length:Int))=false:=beq_eq_false_iff_ne.2 (by omega)
    have hk1:k+1<l.length:=by omega
    have hk1':k+1<(bs l).size:=by omega
    have hb1:=bs_atY l (k+1) hk1 hk1'
    have T2:=byte_eq ((bs l)[k+1]'hk1') 32 32 rfl
    rw[List.getElem?_eq_getElem hk1,←hb1] at hR
    have hRt:((bs l)[k+1]'hk1'==32)=R:=by rw[←hR];simp
    rw[hRt] at T2
    clear hR hb hb1 he hx hy hn hl1 hRt
    go_enter Tryz.func225,Tryz.ntmps225
    go_wp2_with fail
    go_ret
    exact⟨rfl,rfl⟩
  ·rw[show (x==c)=false from beq_eq_false_iff_ne.2 he] at T1
   rw[show (some x==some c)=false from beq_eq_false_iff_ne.2 (fun h=>he (Option.some.inj h)),Bool.false_and] at hR
   subst hR
   clear hb he hx hy hn
   go_enter Tryz.func225,Tryz.ntmps225
   go_wp2_with fail
   go_ret
   exact⟨rfl,rfl⟩
 ·have d1:decide (k<l.length)=false:=decide_eq_false hlt
  rw[List.getElem?_eq_none (by omega)] at hR
  have hRf:R=false:=by rw[←hR];rfl
  subst hRf
  clear hR
  go_enter Tryz.func225,Tryz.ntmps225
  go_wp2_with fail
  go_ret
  exact⟨rfl,rfl⟩
def HeadE (h:Nat×Nat):Ending:= .returned (.tuple #[.int .i64 h.1, .int .i64 h.2])
theorem sign_at (l:List UInt8) (k:Nat) (c:UInt8) (ki ci:Int) (B:Bool) (hki:(k:Int)=ki) (hci:(c.toNat:Int)=ci) (hB:signL l k c=B) (hs:l.length≤1073741824) (hk:k≤1073741824) (w:World):
  Calls Tryz.prog 225 #[.string (bs l), .int .i64 ki, .int .u8 ci] w fun e w'=>e= .returned (.bool B)∧w=w':=by
 subst hki hci hB
 exact sign_any l k c w hs hk
theorem colGo_cons (t:List UInt8) (c f k:Nat):colGo t c (f+1) k=if c≤k then(5,0) else if signL t k 58 then(4,k) else colGo t c f (k+1):=rfl
theorem head_any (l:List UInt8) (w:World) (hne:l≠ []) (hs:l.length≤1073741824) (hV:SVar w) (hT:Tabs w) (hM:MVar w):
  Calls Tryz.prog 189 #[.string (bs l)] w fun e w'=>e=HeadE (headL l)∧Below w.heap.size w w':=by
 have sl:=bs_size l
 obtain⟨R,hR⟩: ∃R,headL l=R:=⟨_,rfl⟩
 rw[hR]
 unfold headL at hR
 have h0:0<(bs l).size:=by rw[bs_size];exact List.length_pos_iff.2 hne
 have hl0:0<l.length:=by omega
 have T34:=head_is l 34 34 rfl h0
 have T39:=head_is l 39 39 rfl h0
 have T91:=head_is l 91 91 rfl h0
 have T123:=head_is l 123 123 rfl h0
 obtain⟨x,hx⟩: ∃x:Int,(((bs l)[0]'h0).toNat:Int)=x:=⟨_,rfl⟩
 rw[hx] at T34 T39 T91 T123
 have HV:=hid hV;have HT:=hid hT;have HM:=hid hM;clear hV hT hM hne
 cases hb0:signL l 0 45 with
 | true=>
  have CS:=hid (fun w=>sign_at l 0 45 0 45 true rfl rfl hb0 hs (by omega) w)
  rw[if_pos hb0] at hR
  subst hR
  clear hb0 T34 T39 T91 T123
  go_enter Tryz.func189,Tryz.ntmps189
  go_wp2_with (go_at_call 225;refine(CS.out _).mono ?_;rintro e w' ⟨rfl,rfl⟩)
  go_ret2
  exact⟨rfl,Below.refl _ _⟩
 | false=>
  have CS:=hid (fun w=>sign_at l 0 45 0 45 false rfl rfl hb0 hs (by omega) w)
  rw[if_neg (by rw[hb0];simp)] at hR
  clear hb0
  by_cases hq:l.head?=some 34∨l.head?=some 39
  ·rw[if_pos hq] at hR
   have CQ:=hid (fun w hV hT=>qd_any l w hs hV hT)
   obtain⟨q,hqd⟩: ∃q,qdL l=q:=⟨_,rfl⟩
   have hql:=qdL_le l
   rw[hqd] at CQ hR hql
   clear T91 T123
   have TQ:((x==34)||(x==39))=true:=by
    rw[T34,T39]
    rcases hq with h | h<;>rw[h]<;>rfl
   cases hb1:signL l q 58 with
   | true=>
    have CS2:=hid (fun w=>sign_at l q 58 q 58 true rfl rfl hb1 hs (by omega) w)
    rw[if_pos hb1] at hR
    subst hR
    clear hb1 hqd
    by_cases hx34:x=34
    ·subst hx34
     clear T34 T39 hq TQ
     go_enter Tryz.func189,Tryz.ntmps189
     go_wp2_with (go_at_call 225;refine(CS.out _).mono ?_;rintro e w' ⟨rfl,rfl⟩)
     with_reducible refine(CQ.out _ HV.out HT.out).mono ?_
     rintro e w1 ⟨rfl,hb1⟩
     have HB1:=hid hb1;clear hb1
     go_wp2_with (go_at_call 225;refine(CS2.out _).mono ?_;rintro e w' ⟨rfl,rfl⟩)
     go_ret2
     exact⟨rfl,HB1.out⟩
    ·have t34:(x==34)=false:=beq_eq_false_iff_ne.2 hx34
     have t39:(x==39)=true:=by rw[t34] at TQ;simpa using TQ
     clear T34 T39 hq TQ hx34
     go_enter Tryz.func189,Tryz.ntmps189
     go_wp2_with (go_at_call 225;refine(CS.out _).mono ?_;rintro e w' ⟨rfl,rfl⟩)
     with_reducible refine(CQ.out _ HV.out HT.out).mono ?_
     rintro e w1 ⟨rfl,hb1⟩
     have HB1:=hid hb1;clear hb1
     go_wp2_with (go_at_call 225;refine(CS2.out _).mono ?_;rintro e w' ⟨rfl,rfl⟩)
     go_ret2
     exact⟨rfl,HB1.out⟩
   | false=>
    have CS2:=hid (fun w=>sign_at l q 58 q 58 false rfl rfl hb1 hs (by omega) w)
    rw[if_neg (by rw[hb1];simp)] at hR
    subst hR
    clear hb1 hqd
    by_cases hx34:x=34
    ·subst hx34
     clear T34 T39 hq TQ
     go_enter Tryz.func189,Tryz.ntmps189
     go_wp2_with (go_at_call 225;refine(CS.out _).mono ?_;rintro e w' ⟨rfl,rfl⟩)
     with_reducible refine(CQ.out _ HV.out HT.out).mono ?_
     rintro e w1 ⟨rfl,hb1⟩
     have HB1:=hid hb1;clear hb1
     go_wp2_with (go_at_call 225;refine(CS2.out _).mono ?_;rintro e w' ⟨rfl,rfl⟩)
     go_ret2
     exact⟨rfl,HB1.out⟩
    ·have t34:(x==34)=false:=beq_eq_false_iff_ne.2 hx34
     have t39:(x==39)=true:=by rw[t34] at TQ;simpa using TQ
     clear T34 T39 hq TQ hx34
     go_enter Tryz.func189,Tryz.ntmps189
     go_wp2_with (go_at_call 225;refine(CS.out _).mono ?_;rintro e w' ⟨rfl,rfl⟩)
     with_reducible refine(CQ.out _ HV.out HT.out).mono ?_
     rintro e w1 ⟨rfl,hb1⟩
     have HB1:=hid hb1;clear hb1
     go_wp2_with (go_at_call 225;refine(CS2.out _).mono ?_;rintro e w' ⟨rfl,rfl⟩)
     go_ret2
     exact⟨rfl,HB1.out⟩
  ·rw [if_neg hq] at hR
   rw[show (l.head?==some 34)=false from beq_eq_false_iff_ne.2 (fun h=>hq (.inl h))] at T34
   rw[show (l.head?==some 39)=false from beq_eq_false_iff_ne.2 (fun h=>hq (.inr h))] at T39
   by_cases hbr:l.head?=some 91∨l.head?=some 123
   ·rw[if_pos hbr] at hR
    subst hR
    by_cases hx91:x=91
    ·subst hx91
     clear T34 T39 T91 T123 hq hbr
     go_enter Tryz.func189,Tryz.ntmps189
     go_wp2_with (go_at_call 225;refine(CS.out _).mono ?_;rintro e w' ⟨rfl,rfl⟩)
     go_ret2
     exact⟨rfl,Below.refl _ _⟩
    ·have t91:(x==91)=false:=beq_eq_false_iff_ne.2 hx91
     have t123:(x==123)=true:=by
      rw[T123]
      rcases hbr with h | h
      ·rw[t91,h] at T91;cases T91
      ·rw[h];rfl
     clear T91 T123 hq hbr hx91
     go_enter Tryz.func189,Tryz.ntmps189
     go_wp2_with (go_at_call 225;refine(CS.out _).mono ?_;rintro e w' ⟨rfl,rfl⟩)
     go_ret2
     exact⟨rfl,Below.refl _ _⟩
   ·rw [if_neg hbr] at hR
    rw[show (l.head?==some 91)=false from beq_eq_false_iff_ne.2 (fun h=>hbr (.inl h))] at T91
    rw[show (l.head?==some 123)=false from beq_eq_false_iff_ne.2 (fun h=>hbr (.inr h))] at T123
    have CN:=hid (fun w hM=>note_any l 0 w hs (by omega) hM)
    obtain⟨N,hN⟩: ∃N,noteL l 0=N:=⟨_,rfl⟩
    have hNl:=(noteL_spec l 0).1
    rw[hN] at CN hR hNl
    have HR:=hid hR
    clear hq hbr hR hN
    go_enter Tryz.func189,Tryz.ntmps189
    go_wp2_with (go_at_call 225;refine(CS.out _).mono ?_;rintro e w' ⟨rfl,rfl⟩)
    go_loop [6] (fun s6=> ∃k f:Nat,s6= .int .i64 k∧1≤k∧k≤l.length+1∧l.length<k+f∧Hid (colGo l N f k=R)) (fun s6=>l.length+1-(RowKit.intOf s6).toNat)
    case atStart=>exact⟨1,l.length,rfl,by omega,by omega,by omega,HR.out⟩
    case round=>
     obtain⟨k,f,rfl,hk1,hk2,hf,HG⟩:=hrel
     by_cases hkN:N≤k
     ·have HF:Hid (R=(5,0)):=by
       have h1:=HG.out
       cases f with
       | zero=>exact hid h1.symm
       | succ f=>rw[colGo_cons,if_pos hkN] at h1;exact hid h1.symm
      have dk:decide (k<N)=false:=decide_eq_false (by omega)
      go_wp2_with (go_at_call 226;refine(CN.out _ HM.out).mono ?_;rintro e w' ⟨rfl,rfl⟩)
      go_ret2
      exact⟨by rw[HF.out];rfl,Below.refl _ _⟩
     ·have dk:decide (k<N)=true:=decide_eq_true (by omega)
      obtain⟨g,rfl⟩: ∃g,f=g+1:=⟨f-1,by omega⟩
      have h1:=HG.out
      rw[colGo_cons,if_neg hkN] at h1
      cases hb1:signL l k 58 with
      | true=>
       have CS2:=hid (fun w=>sign_at l k 58 k 58 true rfl rfl hb1 hs (by omega) w)
       rw[if_pos hb1] at h1
       have HF:=hid h1
       clear h1 hb1 HG
       go_wp2_with (first | (go_at_call 226;refine(CN.out _ HM.out).mono ?_;rintro e w' ⟨rfl,rfl⟩) | (go_at_call 225;(with_reducible refine(CS2.out _).mono ?_);rintro e w' ⟨rfl,rfl⟩))
       go_ret2
       exact⟨by rw[←HF.out];rfl,Below.refl _ _⟩
      | false=>
       have CS2:=hid (fun w=>sign_at l k 58 k 58 false rfl rfl hb1 hs (by omega) w)
       rw[if_neg (by rw[hb1];simp)] at h1
       have HG2:=hid h1
       clear h1 hb1 HG
       go_wp2_with (first | (go_at_call 226;refine(CN.out _ HM.out).mono ?_;rintro e w' ⟨rfl,rfl⟩) | (go_at_call 225;(with_reducible refine(CS2.out _).mono ?_);rintro e w' ⟨rfl,rfl⟩))
       go_round
       case rel=>exact⟨k+1,g,by go_num,by omega,by omega,by omega,HG2.out⟩
       case measure=>simp[RowKit.intOf];omega
theorem blk_cell {w:World}{g:Nat}{t:TypeId}{cs:Array Value} (h:w.heap[g]?=some (.cells cs t (0,0))) (i:Nat):w.cell? ⟨g,i,none⟩=cs[i]?:=cell_of_row w g i cs t (0,0) h
theorem blk_free {w:World}{g:Nat}{t:TypeId}{cs:Array Value} (h:w.heap[g]?=some (.cells cs t (0,0))) (i:Nat):w.frozen? ⟨g,i,none⟩=false:=by
 simp[World.frozen?,h]
theorem blk_set {w:World}{g:Nat}{t:TypeId}{cs:Array Value} (h:w.heap[g]?=some (.cells cs t (0,0))) (i:Nat) (u:Value):(w.setCell ⟨g,i,none⟩ u).heap[g]?=some (.cells (cs.setIfInBounds i u) t (0,0)):=by
 simp[World.setCell,Array.getElem?_modify,h]
def LineBox (w:World) (X:Nat) (r:LineR):Prop:=w.heap[X]?=some (.cells #[.int .i64 r.kind, .int .i64 r.sf, .int .i64 r.st, .int .i64 r.ind, .int .i64 r.kf, .int .i64 r.kt, .int .i64 r.rf, .int .i64 r.rt, .int .i64 r.nf, .int .i64 r.nt] 51 (0,0))
abbrev LineCells (w:World) (X:Nat) (r:LineR):Prop:=
 w.cell? ⟨X,0,none⟩=some (.int .i64 r.kind)∧w.cell? ⟨X,1,none⟩=some (.int .i64 r.sf)∧w.cell? ⟨X,2,none⟩=some (.int .i64 r.st)∧w.cell? ⟨X,3,none⟩=some (.int .i64 r.ind)∧
 w.cell? ⟨X,4,none⟩=some (.int .i64 r.kf)∧w.cell? ⟨X,5,none⟩=some (.int .i64 r.kt)∧w.cell? ⟨X,6,none⟩=some (.int .i64 r.rf)∧w.cell? ⟨X,7,none⟩=some (.int .i64 r.rt)∧
 w.cell? ⟨X,8,none⟩=some (.int .i64 r.nf)∧w.cell? ⟨X,9,none⟩=some (.int .i64 r.nt)∧
 w.frozen? ⟨X,0,none⟩=false∧w.frozen? ⟨X,1,none⟩=false∧w.frozen? ⟨X,2,none⟩=false∧w.frozen? ⟨X,3,none⟩=false∧w.frozen? ⟨X,4,none⟩=false∧
 w.frozen? ⟨X,5,none⟩=false∧w.frozen? ⟨X,6,none⟩=false∧w.frozen? ⟨X,7,none⟩=false∧w.frozen? ⟨X,8,none⟩=false∧w.frozen? ⟨X,9,none⟩=false
theorem LineBox.cells {w:World}{X:Nat}{r:LineR} (h:LineBox w X r):LineCells w X r:=
  ⟨blk_cell h 0,blk_cell h 1,blk_cell h 2,blk_cell h 3,blk_cell h 4,blk_cell h 5,blk_cell h 6,blk_cell h 7,blk_cell h 8,blk_cell h 9,
   blk_free h 0,blk_free h 1,blk_free h 2,blk_free h 3,blk_free h 4,blk_free h 5,blk_free h 6,blk_free h 7,blk_free h 8,blk_free h 9⟩
theorem LineBox.lt {w:World}{X:Nat}{r:LineR} (h:LineBox w X r):X<w.heap.size:=cell_it h
theorem LineBox.keep {w w':World}{X:Nat}{r:LineR} (h:LineBox w X r) (hb:Below w.heap.size w w'):LineBox w' X r:=(hb.block X h.lt).trans h
theorem LineBox.drew {w:World}{X:Nat}{r:LineR} (h:LineBox w X r):LineBox w.drew X r:=h
def Only (X:Nat) (a b:World):Prop:=a.grownBy b (some X)
theorem Only.of_below {X:Nat}{a b:World} (h:Below a.heap.size a b):Only X a b:=⟨h.os,h.tape,h.output,h.size,fun i hi _=>h.block i hi⟩
theorem Only.set {X:Nat}{a b:World} (h:Only X a b) (i:Nat) (u:Value):Only X a (b.setCell ⟨X,i,none⟩ u):=
 ⟨h.os,h.tape,h.output,by have:=h.size;simpa [World.setCell] using this,fun j hj hne=>(Below.heap_setCell b ⟨X,i,none⟩ u j (by rintro rfl;exact hne rfl)).trans (h.block j hj hne)⟩
theorem Only.drew {X:Nat}{a b:World} (h:Only X a b):Only X a b.drew:=⟨h.os,h.tape,h.output,h.size,h.block⟩
def wholeB (l:List UInt8) (a b:Int):Bool:=if a<0∨b<a∨(l.length:Int)<b then false else !((l.drop a.toNat).take (b-a).toNat).contains 10
theorem contains_index (l:List UInt8) (c:UInt8):decide (0≤Lib.indexByte l c)=l.contains c:=(Lib.contains_iff_indexByte l c).symm
theorem whole_any (l:List UInt8) (a b:Int) (w:World) (hs:l.length≤1073741824):
  Calls Tryz.prog 186 #[.string (bs l), .agg #[.int .i64 a, .int .i64 b]] w fun e w'=>e= .returned (.bool (wholeB l a b))∧Below w.heap.size w w':=by
 have sl:=bs_size l
 obtain⟨R,hR⟩: ∃R,wholeB l a b=R:=⟨_,rfl⟩
 rw[hR]
 unfold wholeB at hR
 by_cases h1:a<0
 ·rw[if_pos (.inl h1)] at hR
  subst hR
  go_enter Tryz.func186,Tryz.ntmps186
  go_wp2_with fail
  go_ret
  exact⟨rfl,below_alloc1 _ _⟩
 by_cases h2:b<a
 ·rw[if_pos (.inr (.inl h2))] at hR
  subst hR
  go_enter Tryz.func186,Tryz.ntmps186
  go_wp2_with fail
  go_ret
  exact⟨rfl,below_alloc1 _ _⟩
 by_cases h3:(l.length:Int)<b
 ·rw[if_pos (.inr (.inr h3))] at hR
  subst hR
  go_enter Tryz.func186,Tryz.ntmps186
  go_wp2_with fail
  go_ret
  exact⟨rfl,below_alloc1 _ _⟩
 rw[if_neg (by omega)] at hR
 obtain⟨x,rfl⟩: ∃x:Nat,a=x:=⟨a.toNat,by omega⟩
 obtain⟨y,rfl⟩: ∃y:Nat,b=y:=⟨b.toNat,by omega⟩
 rw[Int.toNat_natCast,show ((y:Int)-(x:Int)).toNat=y-x by omega] at hR
 obtain⟨B,hB⟩: ∃B,((l.drop x).take (y-x)).contains 10=B:=⟨_,rfl⟩
 have CC:Hid (∀w,Calls Tryz.prog 90 #[.string ((bs l).extract x y), .string ⟨#[10]⟩] w fun e w'=>e= .returned (.bool B)∧w=w'):=hid (fun w=>by
  have h:=Tryz.strings_Contains_one ((bs l).extract x y) 10 w
  rw[bs_extract,bs_data,bs_data,contains_index,hB] at h
  rw[bs_extract,bs_data]
  exact h.mono fun _ _ ⟨a,b⟩=>⟨a,b.symm⟩)
 rw[hB] at hR
 have d2:decide (y<x)=false:=decide_eq_false (by omega)
 have d3:decide (l.length<y)=false:=decide_eq_false (by omega)
 have hxy:(x:Int)≤(y:Int):=by omega
 have hyl:(y:Int)≤(l.length:Int):=by omega
 clear hB h1 h2 h3
 subst hR
 go_enter Tryz.func186,Tryz.ntmps186
 go_wp2_with (go_at_call 90;refine(CC.out _).mono ?_;rintro e w' ⟨rfl,rfl⟩)
 go_ret
 exact⟨rfl,below_alloc1 _ _⟩
theorem trimLeft_any (l:List UInt8) (w:World):Calls Tryz.prog 38 #[.string (bs l), .string ⟨#[32]⟩] w fun e w'=>e= .returned (.string (bs (l.drop (spL l))))∧w=w':=by
 have h:=Tryz.strings_TrimLeft_one (bs l) 32 (by decide) w
 have e:Lib.trimLeftB (bs l).data.toList 32=l.drop (spL l):=by
  rw[bs_data]
  unfold Lib.trimLeftB spL
  have h:=List.takeWhile_append_dropWhile (p:=(· ==32)) (l:=l)
  conv=>rhs;arg 2;rw[←h]
  exact(List.drop_left).symm
 rw[e] at h
 exact h.mono fun _ _ ⟨a,b⟩=>⟨a,b.symm⟩
theorem trimRight_any (l:List UInt8) (w:World) (hs:l.length≤1073741824):Calls Tryz.prog 147 #[.string (bs l), .string ⟨#[32]⟩] w fun e w'=>e= .returned (.string (bs (l.take (trL l))))∧w=w':=by
 have h:=Tryz.strings_TrimRight_one (bs l) 32 (by decide) w (by rw[bs_size];omega)
 have e:Lib.trimRightB (bs l).data.toList 32=l.take (trL l):=by
  rw[bs_data]
  unfold Lib.trimRightB trL spL
  have h:=List.takeWhile_append_dropWhile (p:=(· ==32)) (l:=l.reverse)
  have h2:l.reverse.dropWhile (· ==32)=l.reverse.drop (l.reverse.takeWhile (· ==32)).length:=by
   conv=>rhs;arg 2;rw[←h]
   exact(List.drop_left).symm
  rw[h2,List.drop_reverse,List.reverse_reverse]
 rw[e] at h
 exact h.mono fun _ _ ⟨a,b⟩=>⟨a,b.symm⟩
def restAt (t:List UInt8) (f2 tw:Nat) (r:LineR):LineR:=
 ⟨r.kind,r.sf,r.st,r.ind,r.kf,r.kt,r.sf+f2,r.sf+(f2+trL ((t.take tw).drop f2)),if tw<t.length then r.sf+tw else r.nf,if tw<t.length then r.st else r.nt⟩
def restR (t:List UInt8) (f:Nat) (r:LineR):LineR:=restAt t (behindL t f) (noteL t (behindL t f+qdL (t.drop (behindL t f)))) r
theorem LineBox.note {w:World}{X:Nat}{r:LineR} (h:LineBox w X r) (a b:Int):LineBox ((w.setCell ⟨X,8,none⟩ (.int .i64 a)).setCell ⟨X,9,none⟩ (.int .i64 b)) X { r with nf:=a,nt:=b }:=blk_set (blk_set h 8 _) 9 _
theorem LineBox.rest {w:World}{X:Nat}{r:LineR} (h:LineBox w X r) (a b:Int):LineBox ((w.setCell ⟨X,6,none⟩ (.int .i64 a)).setCell ⟨X,7,none⟩ (.int .i64 b)) X { r with rf:=a,rt:=b }:=blk_set (blk_set h 6 _) 7 _
def LineH (X:Nat) (r:LineR) (w w':World):Prop:=LineBox w' X r∧Only X w w'
theorem rest_any (t:List UInt8) (f X:Nat) (r:LineR) (w:World) (hs:t.length≤1073741824) (hf:f≤t.length) (hX:LineBox w X r) (h0:0≤r.sf) (h1:r.sf≤1073741824) (hV:SVar w) (hT:Tabs w) (hM:MVar w):
  Calls Tryz.prog 190 #[.pointer (some ⟨X,0,none⟩), .string (bs t), .int .i64 f] w fun e w'=>(∃v,e= .returned v)∧LineBox w' X (restR t f r)∧Only X w w':=by
 have sl:=bs_size t
 obtain⟨b1,b2,_,_⟩:=behindL_spec t f hf
 have hbe:behindL t f=f+spL (t.drop f):=rfl
 obtain⟨R,hR⟩: ∃R,restR t f r=R:=⟨_,rfl⟩
 rw[hR]
 unfold restR at hR
 obtain⟨f2,hf2⟩: ∃f2,behindL t f=f2:=⟨_,rfl⟩
 rw[hf2] at hR b1 b2 hbe
 have CL:Hid (∀w,Calls Tryz.prog 38 #[.string ((bs t).extract f t.length), .string ⟨#[32]⟩] w fun e w'=>e= .returned (.string (bs (t.drop f2)))∧w=w'):=hid (fun w=>by
  have:=trimLeft_any (t.drop f) w
  rw[List.drop_drop,←hbe] at this
  rw[bs_from _ _ _ rfl]
  exact this)
 have CQ:Hid (∀w,SVar w→Tabs w→Calls Tryz.prog 188 #[.string ((bs t).extract f2 t.length)] w fun e w'=>e= .returned (.int .i64 (qdL (t.drop f2)))∧Below w.heap.size w w'):=hid (fun w hV hT=>by
  have:=qd_any (t.drop f2) w (by rw[List.length_drop];omega) hV hT
  rw[bs_from _ _ _ rfl]
  exact this)
 have hqd:=qdL_le (t.drop f2)
 rw[List.length_drop] at hqd
 obtain⟨q,hq⟩: ∃q,qdL (t.drop f2)=q:=⟨_,rfl⟩
 rw[hq] at CQ hR hqd
 have CN:=hid (fun w hM=>note_any t (f2+q) w hs (by omega) hM)
 have hns:=noteL_spec t (f2+q)
 obtain⟨tw,htw⟩: ∃tw,noteL t (f2+q)=tw:=⟨_,rfl⟩
 rw[htw] at CN hR hns
 unfold restAt at hR
 obtain⟨n1,n2,_⟩:=hns
 have hft:f2≤tw:=by
  by_cases hl:tw<t.length
  ·have:=(n2 hl).1;omega
  ·omega
 have CR:Hid (∀w,Calls Tryz.prog 147 #[.string ((bs t).extract f2 tw), .string ⟨#[32]⟩] w fun e w'=>e= .returned (.string (bs (((t.take tw).drop f2).take (trL ((t.take tw).drop f2)))))∧w=w'):=hid (fun w=>by
  have:=trimRight_any ((t.take tw).drop f2) w (by rw[List.length_drop,List.length_take];omega)
  rw[bs_extract,bs_data,←List.drop_take]
  exact this)
 have hcast:((f2+q:Nat):Int)=(f2:Int)+(q:Int):=by omega
 rw[hcast] at CN
 obtain⟨Y,hY⟩: ∃Y,((t.take tw).drop f2).take (trL ((t.take tw).drop f2))=Y:=⟨_,rfl⟩
 have hYl:Y.length=trL ((t.take tw).drop f2):=by rw[←hY,List.length_take,Nat.min_eq_left (trL_le _)]
 have htr:=trL_le ((t.take tw).drop f2)
 rw[List.length_drop,List.length_take,Nat.min_eq_left n1] at htr
 obtain⟨z,hz⟩: ∃z,trL ((t.take tw).drop f2)=z:=⟨_,rfl⟩
 rw[hY] at CR
 rw[hz] at hR hYl htr
 have sY:=bs_size Y
 rw[hYl] at sY
 have sD:=bs_size (t.drop f2)
 rw[List.length_drop] at sD
 have hsub:(t.length:Int)-((t.length-f2:Nat):Int)=(f2:Int):=by omega
 have HX:=hid hX;have HV:=hid hV;have HT:=hid hT;have HM:=hid hM
 have HR:=hid hR
 have hfi:(f:Int)≤(t.length:Int):=by omega
 have hf2i:(f2:Int)≤(t.length:Int):=by omega
 have htwi:(tw:Int)≤(t.length:Int):=by omega
 have hfti:(f2:Int)≤(tw:Int):=by omega
 clear hX hV hT hM hR hf2 hq htw n1 n2 hY hYl hz hcast hbe
 go_enter Tryz.func190,Tryz.ntmps190
 go_wp2_with (go_at_call 38;refine(CL.out _).mono ?_;rintro e w' ⟨rfl,rfl⟩)
 with_reducible refine(CQ.out _ HV.out HT.out).mono ?_
 rintro e w1 ⟨rfl,hb1⟩
 have HX1:=hid (HX.out.keep hb1);have HM1:=hid (HM.out.keep hb1);have HO1:=hid (Only.of_below (X:=X) hb1)
 clear hb1
 go_upto_if 27 with(go_at_call 226;(with_reducible refine(CN.out _ HM1.out).mono ?_);rintro e w' ⟨rfl,rfl⟩)
 obtain⟨r2,hr2⟩: ∃r2:LineR,r2= { r with nf:=if tw<t.length then r.sf+tw else r.nf,nt:=if tw<t.length then r.st else r.nt }:=⟨_,rfl⟩
 have HR2:=hid hr2
 go_cut [] (fun wx=>Hid (LineH X r2 w wx))
 case first=>
  have hH:LineH X r w w1:=⟨HX1.out,HO1.out⟩
  by_cases hl:tw<t.length
  ·have dl:decide (tw<t.length)=true:=decide_eq_true hl
   clear hr2
   go_wp2_with fail
   obtain⟨a0,a1,a2,a3,a4,a5,a6,a7,a8,a9,g0,g1,g2,g3,g4,g5,g6,g7,g8,g9⟩:=hH.1.cells
   have hw1:IntKind.i64.wrap (r.sf+(tw:Int))=r.sf+(tw:Int):=by rw[IntKind.wrap_i64];omega
   have HE:Hid (r2= { r with nf:=r.sf+tw,nt:=r.st }):=by rw[HR2.out,if_pos hl,if_pos hl];exact hid rfl
   clear hl
   go_region
   all_goals go_wp2_with fail
   all_goals go_meet
   all_goals (rw[HE.out];exact⟨(LineBox.note hH.1 _ _).drew,((hH.2.set 8 _).set 9 _).drew⟩)
  ·have dl:decide (tw<t.length)=false:=decide_eq_false hl
   have:r2=r:=by rw[hr2,if_neg hl,if_neg hl]
   subst this
   clear hr2
   go_wp2_with fail
   go_meet
   exact hH
 have H2:=hcut
 clear hr2
 have h20:r2.sf=r.sf:=by rw[HR2.out]
 have HE:Hid (R= { r2 with rf:=r.sf+f2,rt:=r.sf+(f2+z) }):=by rw[←HR.out,HR2.out];exact hid rfl
 rw[←h20] at h0 h1
 have HH20:=hid h20;clear h20
 go_upto_if 47 with fail
 go_cut [7] (fun s7 wx=>s7= .int .i64 (((f2+z:Nat)):Int)∧Hid (LineH X r2 w wx))
 case first=>
  by_cases hgt:f2<tw
  ·have dg:decide (f2<tw)=true:=decide_eq_true hgt
   go_wp2_with (go_at_call 147;refine(CR.out _).mono ?_;rintro e w' ⟨rfl,rfl⟩)
   go_meet
   exact⟨by go_num,H2.out⟩
  ·have dg:decide (f2<tw)=false:=decide_eq_false hgt
   obtain rfl:z=0:=by omega
   go_wp2_with fail
   go_meet
   exact⟨by go_num,H2.out⟩
 obtain⟨rfl,H3⟩:=hcut
 obtain⟨a0,a1,a2,a3,a4,a5,a6,a7,a8,a9,g0,g1,g2,g3,g4,g5,g6,g7,g8,g9⟩:=H3.out.1.cells
 have hw1:IntKind.i64.wrap (r2.sf+(f2:Int))=r2.sf+(f2:Int):=by rw[IntKind.wrap_i64];omega
 have hw2:IntKind.i64.wrap (r2.sf+((f2:Int)+(z:Int)))=r2.sf+((f2:Int)+(z:Int)):=by rw[IntKind.wrap_i64];omega
 go_wp2_with fail
 go_region
 all_goals go_end0
 all_goals (refine⟨⟨_,rfl⟩,?_,(((H3.out.2).set 6 _).set 7 _).drew⟩)
 all_goals (rw[HE.out,←HH20.out];exact(LineBox.rest H3.out.1 _ _).drew)
def SpanBox (w:World) (S:Nat) (a b:Int):Prop:=w.heap[S]?=some (.cells #[.int .i64 a, .int .i64 b] 42 (0,0))
abbrev SpanCells (w:World) (S:Nat) (a b:Int):Prop:=w.cell? ⟨S,0,none⟩=some (.int .i64 a)∧w.cell? ⟨S,1,none⟩=some (.int .i64 b)
theorem SpanBox.cells {w:World}{S:Nat}{a b:Int} (h:SpanBox w S a b):SpanCells w S a b:=⟨blk_cell h 0,blk_cell h 1⟩
theorem SpanBox.keep {w w':World}{S:Nat}{a b:Int} (h:SpanBox w S a b) (hb:Below w.heap.size w w'):SpanBox w' S a b:=(hb.block S (cell_it h)).trans h
def lineV (r:LineR):Value:= .agg #[.int .i64 r.kind, .int .i64 r.sf, .int .i64 r.st, .int .i64 r.ind, .int .i64 r.kf, .int .i64 r.kt, .int .i64 r.rf, .int .i64 r.rt, .int .i64 r.nf, .int .i64 r.nt]
def LineE (x:LineR×Int×Int):Ending:= .returned (.tuple #[lineV x.1, .int .i64 x.2.1, .int .i64 x.2.2])
structure LSt (w:World) (a b:Int) (r:LineR) (w':World):Prop where
 s:SpanBox w' w.heap.size a b
 l:LineBox w' (w.heap.size+1) r
 b:Below w.heap.size w w'
 z:w.heap.size+2≤w'.heap.size
theorem LSt.start (w:World) (a b:Int):LSt w a b noLine ((w.alloc (.cells #[.int .i64 a, .int .i64 b] 42)).alloc (.cells #[.int .i64 0, .int .i64 0, .int .i64 0, .int .i64 0, .int .i64 0, .int .i64 0, .int .i64 0, .int .i64 0, .int .i64 0, .int .i64 0] 51)):=by
 refine⟨?_,?_,?_,by simp⟩
 ·exact(Below.heap_alloc _ _ w.heap.size (by simp)).trans (heap_alloc_new w _)
 ·have:=heap_alloc_new (w.alloc (.cells #[.int .i64 a, .int .i64 b] 42)) (.cells #[.int .i64 0, .int .i64 0, .int .i64 0, .int .i64 0, .int .i64 0, .int .i64 0, .int .i64 0, .int .i64 0, .int .i64 0, .int .i64 0] 51)
  rw[World.size_alloc] at this
  exact this
 ·exact(below_alloc1 w _).trans ((below_alloc1 (w.alloc (.cells #[.int .i64 a, .int .i64 b] 42)) _).mono (by simp))
theorem LSt.keep {w w1 w2:World}{a b:Int}{r:LineR} (h:LSt w a b r w1) (hb:Below w1.heap.size w1 w2):LSt w a b r w2:=
 ⟨h.s.keep hb,h.l.keep hb,h.b.trans (hb.mono h.b.size),Nat.le_trans h.z hb.size⟩
theorem set_farY {w:World}{p:Addr}{u:Value}{g:Nat} (h:g≠p.block):(w.setCell p u).heap[g]?=w.heap[g]?:=Below.heap_setCell w p u g h
theorem LSt.set {w w1:World}{a b:Int}{r:LineR} (h:LSt w a b r w1) {X:Nat} (hX:w.heap.size+2≤X) (i:Nat) (u:Value):LSt w a b r (w1.setCell ⟨X,i,none⟩ u):=
 ⟨(set_farY (show w.heap.size≠X by omega)).trans h.s,(set_farY (show w.heap.size+1≠X by omega)).trans h.l,h.b.setCell (p:=⟨X,i,none⟩) (by show w.heap.size≤X;omega) u,by have:=h.z;simpa [World.setCell] using this⟩
theorem LSt.drew {w w1:World}{a b:Int}{r:LineR} (h:LSt w a b r w1):LSt w a b r w1.drew:=⟨h.s,h.l,h.b.drew,h.z⟩
def putR (w:World) (X:Nat) (r:LineR):World:=
 (((((((((w.setCell ⟨X,0,none⟩ (.int .i64 r.kind)).setCell ⟨X,1,none⟩ (.int .i64 r.sf)).setCell ⟨X,2,none⟩ (.int .i64 r.st)).setCell ⟨X,3,none⟩ (.int .i64 r.ind)).setCell ⟨X,4,none⟩ (.int .i64 r.kf)).setCell ⟨X,5,none⟩ (.int .i64 r.kt)).setCell ⟨X,6,none⟩ (.int .i64 r.rf)).setCell ⟨X,7,none⟩ (.int .i64 r.rt)).setCell ⟨X,8,none⟩ (.int .i64 r.nf)).setCell ⟨X,9,none⟩ (.int .i64 r.nt)
theorem LineBox.put {w:World}{X:Nat}{r r2:LineR} (h:LineBox w X r):LineBox (putR w X r2) X r2:=by
 unfold LineBox at h ⊢
 unfold putR
 simp[World.setCell,Array.getElem?_modify,h]
theorem far_put {w:World}{X g:Nat}{r:LineR} (h:g≠X):(putR w X r).heap[g]?=w.heap[g]?:=by
 have h2: ¬X=g:=fun e=>h e.symm
 unfold putR
 simp[World.setCell,Array.getElem?_modify,h2]
theorem size_put (w:World) (X:Nat) (r:LineR):(putR w X r).heap.size=w.heap.size:=by unfold putR;simp[World.setCell]
theorem os_put (w:World) (X:Nat) (r:LineR):(putR w X r).os=w.os:=by unfold putR;simp[World.setCell]
theorem tape_put (w:World) (X:Nat) (r:LineR):(putR w X r).tape=w.tape:=by unfold putR;simp[World.setCell]
theorem output_put (w:World) (X:Nat) (r:LineR):(putR w X r).output=w.output:=by unfold putR;simp[World.setCell]
theorem LSt.put {w w1:World}{a b:Int}{r r2:LineR} (h:LSt w a b r w1):LSt w a b r2 (putR w1 (w.heap.size+1) r2):=by
 refine⟨?_,LineBox.put h.l,⟨?_,?_,?_,?_,?_⟩,?_⟩
 ·have h1:=far_put (w:=w1) (X:=w.heap.size+1) (g:=w.heap.size) (r:=r2) (by omega)
  unfold SpanBox
  rw[h1];exact h.s
 ·rw[os_put];exact h.b.os
 ·rw[tape_put];exact h.b.tape
 ·rw[output_put];exact h.b.output
 ·rw[size_put];exact h.b.size
 ·intro i hi
  rw[far_put (by omega)];exact h.b.block i hi
 ·rw[size_put];exact h.z
theorem split_sp (T:List UInt8):T=List.replicate (spL T) 32++T.drop (spL T):=by
 have h:T.take (spL T)=List.replicate (spL T) 32:=by
  apply List.ext_getElem?
  intro i
  by_cases hi:i<spL T
  ·rw[List.getElem?_take,if_pos hi,spL_at T i hi,List.getElem?_replicate,if_pos hi]
  ·rw[List.getElem?_take,if_neg hi,List.getElem?_replicate,if_neg hi]
 rw[←h,List.take_append_drop]
theorem rep_drop (n k:Nat) (U:List UInt8):(List.replicate n (32:UInt8)++U).drop (n+k)=U.drop k:=by
 rw[List.drop_append,List.length_replicate,List.drop_of_length_le (by rw[List.length_replicate];omega),List.nil_append]
 congr 1;omega
theorem rest_core (U:List UInt8) (n f:Nat) (h35:U.head?≠some 35) (r:LineR):
  restR (List.replicate n 32++U) (n+f) r=⟨r.kind,r.sf,r.st,r.ind,r.kf,r.kt,r.sf+(n+behindL U f),r.sf+(n+(behindL U f+trL ((U.take (noteL U (behindL U f+qdL (U.drop (behindL U f))))).drop (behindL U f)))),
   if noteL U (behindL U f+qdL (U.drop (behindL U f)))<U.length then r.sf+(n+noteL U (behindL U f+qdL (U.drop (behindL U f)))) else r.nf,if noteL U (behindL U f+qdL (U.drop (behindL U f)))<U.length then r.st else r.nt⟩:=by
 have hb:behindL (List.replicate n 32++U) (n+f)=n+behindL U f:=by
  unfold behindL
  rw[rep_drop];omega
 unfold restR
 rw[hb,rep_drop,show n+behindL U f+qdL (U.drop (behindL U f))=n+(behindL U f+qdL (U.drop (behindL U f))) by omega,noteL_shift n _ U h35]
 unfold restAt
 have hlen:(List.replicate n (32:UInt8)++U).length=n+U.length:=by rw[List.length_append,List.length_replicate]
 obtain⟨tw,htw⟩: ∃tw,noteL U (behindL U f+qdL (U.drop (behindL U f)))=tw:=⟨_,rfl⟩
 obtain⟨f2,hf2⟩: ∃f2,behindL U f=f2:=⟨_,rfl⟩
 rw[htw,hf2,hlen]
 have htk:((List.replicate n (32:UInt8)++U).take (n+tw)).drop (n+f2)=(U.take tw).drop f2:=by
  rw[List.take_append,List.length_replicate,List.take_of_length_le (by rw[List.length_replicate];omega),show n+tw-n=tw by omega,rep_drop]
 rw[htk]
 by_cases ht:tw<U.length
 ·rw[if_pos ht,if_pos ht,if_pos (by omega),if_pos (by omega)]
  simp only[LineR.mk.injEq,true_and,and_true]
  omega
 ·rw[if_neg ht,if_neg ht,if_neg (by omega),if_neg (by omega)]
  simp only[LineR.mk.injEq,true_and,and_true]
  omega
theorem LSt.only {w w1 w2:World}{a b:Int}{r:LineR} (h:LSt w a b r w1) {X:Nat} (hX:w.heap.size+2≤X) (ho:Only X w1 w2):LSt w a b r w2:=
  ⟨(ho.block w.heap.size (cell_it h.s) (by intro e;injection e;omega)).trans h.s,(ho.block (w.heap.size+1) (cell_it h.l) (by intro e;injection e;omega)).trans h.l,
   ⟨ho.os.trans h.b.os,ho.tape.trans h.b.tape,ho.output.trans h.b.output,Nat.le_trans h.b.size ho.size,fun i hi=>(ho.block i (Nat.lt_of_lt_of_le hi h.b.size) (by intro e;injection e;omega)).trans (h.b.block i hi)⟩,Nat.le_trans h.z ho.size⟩
def lineG (x y:Int) (n:Nat) (o:Option Core):LineR×Int×Int:=match o with | none=>(noLine,x+n,2) | some c=>(lineOf x y n c,y,0)
theorem lineE_of {x y:Int}{n:Nat}{c:Core}{r:LineR} (h:lineOf x y n c=r):Ending.returned (.tuple #[lineV r, .int .i64 y, .int .i64 0])=LineE (lineG x y n (some c)):=by unfold LineE lineG;simp only[];rw[h]
theorem lineOf_rest (U T:List UInt8) (n:Nat) (x y:Int) (H:Nat×Nat) (h35:U.head?≠some 35) (hT:T=List.replicate n 32++U) (r:LineR) (hr:r=⟨H.1,x,y,n,if H.1=4 then x+n else 0,if H.1=4 then x+n+H.2 else 0,x+n,x+n,0,0⟩):
  lineOf x y n (restL U H (behindL U (fromL H)) (noteL U (behindL U (fromL H)+qdL (U.drop (behindL U (fromL H))))))=restR T (n+fromL H) r:=by
 rw[hT,rest_core U n (fromL H) h35 r,hr]
 unfold lineOf restL
 obtain⟨tw,htw⟩: ∃tw,noteL U (behindL U (fromL H)+qdL (U.drop (behindL U (fromL H))))=tw:=⟨_,rfl⟩
 obtain⟨f2,hf2⟩: ∃f2,behindL U (fromL H)=f2:=⟨_,rfl⟩
 rw[htw,hf2]
 by_cases ht:tw<U.length
 ·simp only[if_pos ht,LineR.mk.injEq,true_and,and_true]
  omega
 ·simp only[if_neg ht,LineR.mk.injEq,true_and,and_true]
  omega
theorem line_gen (l:List UInt8) (x y:Nat) (w:World) (hs:l.length≤1073741824) (hxy:x≤y) (hyl:y≤l.length) (T:List UInt8) (hTd:(l.drop x).take (y-x)=T) (h10:T.contains 10=false) (hV:SVar w) (hT:Tabs w) (hM:MVar w) (hw:wrL true T=T.length):
  Calls Tryz.prog 153 #[.string (bs l), .agg #[.int .i64 x, .int .i64 y]] w fun e w'=>e=LineE (lineG x y (spL T) (coreL (T.drop (spL T))))∧Below w.heap.size w w':=by
 have sl:=bs_size l
 have hTl:T.length=y-x:=by rw[←hTd,List.length_take,List.length_drop];omega
 have CW:Hid (∀w,Calls Tryz.prog 186 #[.string (bs l), .agg #[.int .i64 x, .int .i64 y]] w fun e w'=>e= .returned (.bool true)∧Below w.heap.size w w'):=hid (fun w=>by
  have:=whole_any l x y w hs
  have e:wholeB l x y=true:=by
   unfold wholeB
   rw[if_neg (by omega),Int.toNat_natCast,show ((y:Int)-(x:Int)).toNat=y-x by omega,hTd,h10];rfl
  rw[e] at this
  exact this)
 have hex:(bs l).extract x y=bs T:=by rw[bs_extract,bs_data,hTd]
 have CG:Hid (∀w,Tabs w→Calls Tryz.prog 187 #[.string (bs T)] w fun e w'=>e= .returned (.tuple #[.int .i64 0, .bool false])∧Below w.heap.size w w'):=hid (fun w hT=>by
  have:=wrong_any T w (by have:=hTl;omega) hT
  rw[wrP_no hw] at this
  exact this)
 obtain⟨n,hn⟩: ∃n,spL T=n:=⟨_,rfl⟩
 have hnl:=spL_le T
 rw[hn] at hnl
 have CL:Hid (∀w,Calls Tryz.prog 38 #[.string (bs T), .string ⟨#[32]⟩] w fun e w'=>e= .returned (.string (bs (T.drop n)))∧w=w'):=hid (fun w=>by rw[←hn];exact trimLeft_any T w)
 have sU:=bs_size (T.drop n)
 rw[List.length_drop] at sU
 have hsub:(T.length:Int)-((T.length-n:Nat):Int)=(n:Int):=by omega
 obtain⟨U,hU⟩: ∃U,T.drop n=U:=⟨_,rfl⟩
 rw[hU] at CL sU
 rw[hn,hU]
 have hUb:U.length≤1073741824:=by rw[←bs_size U,sU];omega
 have sT:=bs_size T
 have HTl:=hid hTl
 have hTb:T.length≤1073741824:=by omega
 clear hTl
 have HV:=hid hV;have HT:=hid hT;have HM:=hid hM
 clear hV hT hM hw
 have hxyi:(x:Int)≤(y:Int):=by omega
 have hyli:(y:Int)≤(l.length:Int):=by omega
 go_enter Tryz.func153,Tryz.ntmps153
 go_wp2_with fail
 have HL0:=hid (LSt.start w x y)
 with_reducible refine(CW.out _).mono ?_
 rintro e w1 ⟨rfl,hb1⟩
 have HL1:=hid (HL0.out.keep hb1);clear hb1
 obtain⟨s0,s1⟩:=HL1.out.s.cells
 go_wp2_with fail
 have HT1:=hid (HT.out.keep HL1.out.b)
 with_reducible refine(CG.out _ HT1.out).mono ?_
 rintro e w2 ⟨rfl,hb2⟩
 have HL2:=hid (HL1.out.keep hb2);clear hb2 s0 s1
 obtain⟨s0,s1⟩:=HL2.out.s.cells
 go_upto_region 8 with(go_at_call 38;refine(CL.out _).mono ?_;rintro e w' ⟨rfl,rfl⟩)
 go_cut [4,5,6,7,10,11] (fun s4 s5 s6 s7 s10 s11 wx=> ∃X:Nat,s4= .pointer (some ⟨w.heap.size+1,0,none⟩)∧s5= .int .i64 0∧s6= .int .i64 0∧s7= .string (bs T)∧s10= .string (bs U)∧s11= .pointer (some ⟨X,0,none⟩)∧w.heap.size+2≤X∧Hid (LSt w x y noLine wx∧LineBox wx X ⟨1,x,y,n,0,0,0,0,0,0⟩))
 case first=>
  go_wp2_with fail
  go_meet
  exact⟨w2.heap.size,rfl,rfl,rfl,rfl,rfl,rfl,HL2.out.z,HL2.out.keep (below_alloc1 _ _),heap_alloc_new w2 _⟩
 obtain⟨X,rfl,rfl,rfl,rfl,rfl,rfl,hX,HS⟩:=hcut
 obtain⟨s0,s1⟩:=HS.out.1.s.cells
 obtain⟨a0,a1,a2,a3,a4,a5,a6,a7,a8,a9,g0,g1,g2,g3,g4,g5,g6,g7,g8,g9⟩:=HS.out.2.cells
 go_upto_region 10 with fail
 go_cut [12] (fun s12 wx=>s12= .int .i64 ((x:Int)+(n:Int))∧Hid (LSt w x y noLine wx∧LineBox wx X ⟨1,x,y,n,0,0,x+n,x+n,0,0⟩))
 case first=>
  go_wp2_with fail
  go_meet
  exact⟨rfl,(HS.out.1.set hX 6 _).set hX 7 _,blk_set (blk_set HS.out.2 6 _) 7 _⟩
 clear s0 s1 a0 a1 a2 a3 a4 a5 a6 a7 a8 a9 g0 g1 g2 g3 g4 g5 g6 g7 g8 g9
 obtain⟨rfl,HS2⟩:=hcut
 obtain⟨s0,s1⟩:=HS2.out.1.s.cells
 obtain⟨a0,a1,a2,a3,a4,a5,a6,a7,a8,a9,g0,g1,g2,g3,g4,g5,g6,g7,g8,g9⟩:=HS2.out.2.cells
 obtain⟨b0,b1,b2,b3,b4,b5,b6,b7,b8,b9,h0,h1,h2,h3,h4,h5,h6,h7,h8,h9⟩:=HS2.out.1.l.cells
 by_cases hUe:U= []
 ·have he:(bs U).toList= []:=by rw[Lib.toList_data,bs_data,hUe]
  have he2:(bs U).toList.isEmpty=true:=by rw[he];rfl
  have HC:Hid (coreL U=some ⟨1,0,0,0,none⟩):=hid (by rw[hUe];rfl)
  clear hU hUe
  go_wp2_with fail
  go_region
  obtain⟨W,hW⟩: ∃W,(putR wc (w.heap.size+1) ⟨1,x,y,n,0,0,x+n,x+n,0,0⟩).drew=W:=⟨_,rfl⟩
  have HF:=(LSt.put (r2:=⟨1,x,y,n,0,0,x+n,x+n,0,0⟩) HS2.out.1).drew
  rw[hW] at HF
  have HF2:=hid HF;clear HF
  dsimp only[putR] at hW
  rw[hW]
  clear hW
  clear s0 s1 a0 a1 a2 a3 a4 a5 a6 a7 a8 a9 g0 g1 g2 g3 g4 g5 g6 g7 g8 g9 b0 b1 b2 b3 b4 b5 b6 b7 b8 b9 h0 h1 h2 h3 h4 h5 h6 h7 h8 h9
  obtain⟨c0,c1,c2,c3,c4,c5,c6,c7,c8,c9,_⟩:=HF2.out.l.cells
  go_wp2_with fail
  refine bodyPost_ret (v:= .tuple #[lineV ⟨1,x,y,n,0,0,x+n,x+n,0,0⟩, .int .i64 y, .int .i64 0]) ?_ rfl ⟨?_,HF2.out.b⟩
  ·simp[results,Tryz.results153,go_sem,lineV,noLine,c0,c1,c2,c3,c4,c5,c6,c7,c8,c9]
  ·rw[HC.out]
   exact lineE_of (by unfold lineOf;simp)
 ·have hu0:0<(bs U).size:=by rw[bs_size];exact List.length_pos_iff.2 hUe
  have hne:(bs U).toList.isEmpty=false:=by rw[Lib.toList_data,bs_data];cases U with | nil=>exact absurd rfl hUe | cons _ _=>rfl
  have hne2: ¬(bs U).toList= []:=by rw[Lib.toList_data,bs_data];exact hUe
  have T35:=head_is U 35 35 rfl hu0
  have T34:=head_is U 34 34 rfl hu0
  have T39:=head_is U 39 39 rfl hu0
  obtain⟨cc,hcc⟩: ∃cc:Int,(((bs U)[0]'hu0).toNat:Int)=cc:=⟨_,rfl⟩
  rw[hcc] at T35 T34 T39
  have hcore:coreL U=if U.head?=some 35 then some ⟨2,0,0,0,some 0⟩ else if(U.head?=some 34∨U.head?=some 39)∧qdL U=0 then none else some (restL U (headL U) (behindL U (fromL (headL U))) (noteL U (behindL U (fromL (headL U))+qdL (U.drop (behindL U (fromL (headL U))))))):=by unfold coreL;rw[if_neg hUe]
  by_cases h35:U.head?=some 35
  ·rw[if_pos h35] at hcore
   have HC:=hid hcore
   have t35:(cc==35)=true:=by rw[T35,h35];rfl
   clear hcore T35 T34 T39 h35 hU hUe
   go_upto_region 14 with fail
   go_cut [] (fun wx=>Hid (LSt w x y noLine wx∧LineBox wx X ⟨2,x,y,n,0,0,x+n,x+n,x+n,y⟩))
   case first=>
    go_region
    all_goals go_wp2_with fail
    all_goals go_meet
    all_goals first
     | exact⟨(((HS2.out.1.set hX 0 _).set hX 8 _).set hX 9 _).drew,blk_set (blk_set (blk_set HS2.out.2 0 _) 8 _) 9 _⟩
     | exact⟨(((HS2.out.1.set hX 8 _).set hX 9 _).set hX 0 _).drew,blk_set (blk_set (blk_set HS2.out.2 8 _) 9 _) 0 _⟩
   have HS3:=hcut
   clear s0 s1 a0 a1 a2 a3 a4 a5 a6 a7 a8 a9 g0 g1 g2 g3 g4 g5 g6 g7 g8 g9 b0 b1 b2 b3 b4 b5 b6 b7 b8 b9 h0 h1 h2 h3 h4 h5 h6 h7 h8 h9
   obtain⟨s0,s1⟩:=HS3.out.1.s.cells
   obtain⟨a0,a1,a2,a3,a4,a5,a6,a7,a8,a9,g0,g1,g2,g3,g4,g5,g6,g7,g8,g9⟩:=HS3.out.2.cells
   obtain⟨b0,b1,b2,b3,b4,b5,b6,b7,b8,b9,h0,h1,h2,h3,h4,h5,h6,h7,h8,h9⟩:=HS3.out.1.l.cells
   go_wp2_with fail
   go_region
   obtain⟨W,hW⟩: ∃W,(putR wc (w.heap.size+1) ⟨2,x,y,n,0,0,x+n,x+n,x+n,y⟩).drew=W:=⟨_,rfl⟩
   have HF:=(LSt.put (r2:=⟨2,x,y,n,0,0,x+n,x+n,x+n,y⟩) HS3.out.1).drew
   rw[hW] at HF
   have HF2:=hid HF;clear HF
   dsimp only[putR] at hW
   rw[hW]
   clear hW
   clear s0 s1 a0 a1 a2 a3 a4 a5 a6 a7 a8 a9 g0 g1 g2 g3 g4 g5 g6 g7 g8 g9 b0 b1 b2 b3 b4 b5 b6 b7 b8 b9 h0 h1 h2 h3 h4 h5 h6 h7 h8 h9
   obtain⟨c0,c1,c2,c3,c4,c5,c6,c7,c8,c9,_⟩:=HF2.out.l.cells
   go_wp2_with fail
   refine bodyPost_ret (v:= .tuple #[lineV ⟨2,x,y,n,0,0,x+n,x+n,x+n,y⟩, .int .i64 y, .int .i64 0]) ?_ rfl ⟨?_,HF2.out.b⟩
   ·simp[results,Tryz.results153,go_sem,lineV,noLine,c0,c1,c2,c3,c4,c5,c6,c7,c8,c9]
   ·rw[HC.out]
    exact lineE_of (by unfold lineOf;simp)
  rw[if_neg h35] at hcore
  rw[show (U.head?==some 35)=false from beq_eq_false_iff_ne.2 h35] at T35
  have CQ:=hid (fun w hV hT=>qd_any U w (by omega) hV hT)
  by_cases hbq:(U.head?=some 34∨U.head?=some 39)∧qdL U=0
  ·rw[if_pos hbq] at hcore
   have HC:=hid hcore
   rw[hbq.2] at CQ
   have TQ:((cc==34)||(cc==39))=true:=by
    rw[T34,T39]
    rcases hbq.1 with h | h<;>rw[h]<;>rfl
   clear hcore h35 hU hUe hbq
   by_cases hc34:cc=34
   ·subst hc34
    clear T34 T39 TQ T35
    go_wp2_with fail
    with_reducible refine(CQ.out _ (HV.out.keep HS2.out.1.b) (HT.out.keep HS2.out.1.b)).mono ?_
    rintro e w3 ⟨rfl,hb3⟩
    have HS3:=hid (And.intro (HS2.out.1.keep hb3) (HS2.out.2.keep hb3));clear hb3
    clear s0 s1 a0 a1 a2 a3 a4 a5 a6 a7 a8 a9 g0 g1 g2 g3 g4 g5 g6 g7 g8 g9 b0 b1 b2 b3 b4 b5 b6 b7 b8 b9 h0 h1 h2 h3 h4 h5 h6 h7 h8 h9
    obtain⟨s0,s1⟩:=HS3.out.1.s.cells
    obtain⟨a0,a1,a2,a3,a4,a5,a6,a7,a8,a9,g0,g1,g2,g3,g4,g5,g6,g7,g8,g9⟩:=HS3.out.2.cells
    obtain⟨b0,b1,b2,b3,b4,b5,b6,b7,b8,b9,h0,h1,h2,h3,h4,h5,h6,h7,h8,h9⟩:=HS3.out.1.l.cells
    go_wp2_with fail
    obtain⟨W,hW⟩: ∃W,(putR w3 (w.heap.size+1) noLine)=W:=⟨_,rfl⟩
    have HF:=(LSt.put (r2:=noLine) HS3.out.1)
    rw[hW] at HF
    have HF2:=hid HF;clear HF
    dsimp only[putR,noLine] at hW
    rw[hW]
    clear hW
    clear s0 s1 a0 a1 a2 a3 a4 a5 a6 a7 a8 a9 g0 g1 g2 g3 g4 g5 g6 g7 g8 g9 b0 b1 b2 b3 b4 b5 b6 b7 b8 b9 h0 h1 h2 h3 h4 h5 h6 h7 h8 h9
    obtain⟨c0,c1,c2,c3,c4,c5,c6,c7,c8,c9,_⟩:=HF2.out.l.cells
    go_wp2_with fail
    refine bodyPost_ret (v:= .tuple #[lineV noLine, .int .i64 ((x:Int)+(n:Int)), .int .i64 2]) ?_ rfl ⟨?_,HF2.out.b⟩
    ·simp[results,Tryz.results153,go_sem,lineV,noLine,c0,c1,c2,c3,c4,c5,c6,c7,c8,c9]
    ·rw[HC.out];rfl
   ·have t34:(cc==34)=false:=beq_eq_false_iff_ne.2 hc34
    have t39:(cc==39)=true:=by rw[t34] at TQ;simpa using TQ
    clear T34 T39 TQ hc34
    go_wp2_with fail
    with_reducible refine(CQ.out _ (HV.out.keep HS2.out.1.b) (HT.out.keep HS2.out.1.b)).mono ?_
    rintro e w3 ⟨rfl,hb3⟩
    have HS3:=hid (And.intro (HS2.out.1.keep hb3) (HS2.out.2.keep hb3));clear hb3
    clear s0 s1 a0 a1 a2 a3 a4 a5 a6 a7 a8 a9 g0 g1 g2 g3 g4 g5 g6 g7 g8 g9 b0 b1 b2 b3 b4 b5 b6 b7 b8 b9 h0 h1 h2 h3 h4 h5 h6 h7 h8 h9
    obtain⟨s0,s1⟩:=HS3.out.1.s.cells
    obtain⟨a0,a1,a2,a3,a4,a5,a6,a7,a8,a9,g0,g1,g2,g3,g4,g5,g6,g7,g8,g9⟩:=HS3.out.2.cells
    obtain⟨b0,b1,b2,b3,b4,b5,b6,b7,b8,b9,h0,h1,h2,h3,h4,h5,h6,h7,h8,h9⟩:=HS3.out.1.l.cells
    go_wp2_with fail
    obtain⟨W,hW⟩: ∃W,(putR w3 (w.heap.size+1) noLine)=W:=⟨_,rfl⟩
    have HF:=(LSt.put (r2:=noLine) HS3.out.1)
    rw[hW] at HF
    have HF2:=hid HF;clear HF
    dsimp only[putR,noLine] at hW
    rw[hW]
    clear hW
    clear s0 s1 a0 a1 a2 a3 a4 a5 a6 a7 a8 a9 g0 g1 g2 g3 g4 g5 g6 g7 g8 g9 b0 b1 b2 b3 b4 b5 b6 b7 b8 b9 h0 h1 h2 h3 h4 h5 h6 h7 h8 h9
    obtain⟨c0,c1,c2,c3,c4,c5,c6,c7,c8,c9,_⟩:=HF2.out.l.cells
    go_wp2_with fail
    refine bodyPost_ret (v:= .tuple #[lineV noLine, .int .i64 ((x:Int)+(n:Int)), .int .i64 2]) ?_ rfl ⟨?_,HF2.out.b⟩
    ·simp[results,Tryz.results153,go_sem,lineV,noLine,c0,c1,c2,c3,c4,c5,c6,c7,c8,c9]
    ·rw[HC.out];rfl
  ·rw [if_neg hbq] at hcore
   have HC:=hid hcore
   have hsp:=headL_spec U hbq
   have CH:=hid (fun w hV hT hM=>head_any U w hUe hUb hV hT hM)
   have HU35:=hid h35
   have HTU:Hid (T=List.replicate n 32++U):=hid (by have:=split_sp T;rw[hn,hU] at this;exact this)
   obtain⟨H,hH⟩: ∃H,headL U=H:=⟨_,rfl⟩
   rw[hH] at HC hsp CH
   obtain⟨q,hqq⟩: ∃q,qdL U=q:=⟨_,rfl⟩
   rw[hqq] at hbq CQ
   clear hcore h35 hU hH hqq
   go_upto_region 16 with fail
   go_cut [75] (fun s75 wx=>s75= .bool false∧Hid (LSt w x y noLine wx∧LineBox wx X ⟨1,x,y,n,0,0,x+n,x+n,0,0⟩))
   case first=>
    by_cases hc34:cc=34
    ·have hq0:((q:Int)==0)=false:=beq_eq_false_iff_ne.2 (fun e=>hbq ⟨.inl (by rw[hc34] at T34;exact beq_iff_eq.1 T34.symm),by omega⟩)
     subst hc34
     clear hbq T34 T39 T35
     go_wp2_with fail
     with_reducible refine(CQ.out _ (HV.out.keep HS2.out.1.b) (HT.out.keep HS2.out.1.b)).mono ?_
     rintro e w3 ⟨rfl,hb3⟩
     go_wp2_with fail
     go_meet
     exact⟨rfl,HS2.out.1.keep hb3,HS2.out.2.keep hb3⟩
    ·have t34:(cc==34)=false:=beq_eq_false_iff_ne.2 hc34
     by_cases hc39:cc=39
     ·have hq0:((q:Int)==0)=false:=beq_eq_false_iff_ne.2 (fun e=>hbq ⟨.inr (by rw[hc39] at T39;exact beq_iff_eq.1 T39.symm),by omega⟩)
      subst hc39
      clear hbq T34 T39 T35
      go_wp2_with fail
      with_reducible refine(CQ.out _ (HV.out.keep HS2.out.1.b) (HT.out.keep HS2.out.1.b)).mono ?_
      rintro e w3 ⟨rfl,hb3⟩
      go_wp2_with fail
      go_meet
      exact⟨rfl,HS2.out.1.keep hb3,HS2.out.2.keep hb3⟩
     ·have t39:(cc==39)=false:=beq_eq_false_iff_ne.2 hc39
      clear hbq T34 T39 T35
      go_wp2_with fail
      go_meet
      exact⟨rfl,HS2.out⟩
   obtain⟨rfl,HS3⟩:=hcut
   clear s0 s1 a0 a1 a2 a3 a4 a5 a6 a7 a8 a9 g0 g1 g2 g3 g4 g5 g6 g7 g8 g9 b0 b1 b2 b3 b4 b5 b6 b7 b8 b9 h0 h1 h2 h3 h4 h5 h6 h7 h8 h9
   clear hbq T34 T39 T35 hcc
   obtain⟨s0,s1⟩:=HS3.out.1.s.cells
   obtain⟨a0,a1,a2,a3,a4,a5,a6,a7,a8,a9,g0,g1,g2,g3,g4,g5,g6,g7,g8,g9⟩:=HS3.out.2.cells
   obtain⟨b0,b1,b2,b3,b4,b5,b6,b7,b8,b9,h0,h1,h2,h3,h4,h5,h6,h7,h8,h9⟩:=HS3.out.1.l.cells
   go_wp2_with fail
   with_reducible refine(CH.out _ (HV.out.keep HS3.out.1.b) (HT.out.keep HS3.out.1.b) (HM.out.keep HS3.out.1.b)).mono ?_
   unfold HeadE
   rintro e w4 ⟨rfl,hb4⟩
   have HS4:=hid (And.intro (HS3.out.1.keep hb4) (HS3.out.2.keep hb4));clear hb4
   clear s0 s1 a0 a1 a2 a3 a4 a5 a6 a7 a8 a9 g0 g1 g2 g3 g4 g5 g6 g7 g8 g9 b0 b1 b2 b3 b4 b5 b6 b7 b8 b9 h0 h1 h2 h3 h4 h5 h6 h7 h8 h9
   obtain⟨s0,s1⟩:=HS4.out.1.s.cells
   obtain⟨a0,a1,a2,a3,a4,a5,a6,a7,a8,a9,g0,g1,g2,g3,g4,g5,g6,g7,g8,g9⟩:=HS4.out.2.cells
   obtain⟨b0,b1,b2,b3,b4,b5,b6,b7,b8,b9,h0,h1,h2,h3,h4,h5,h6,h7,h8,h9⟩:=HS4.out.1.l.cells
   have hxb:(x:Int)≤1073741824:=by omega
   rcases hsp with⟨rfl,_⟩ | rfl | ⟨k,rfl,hk1,hk,hk3⟩
   ·obtain⟨R,hR⟩: ∃R,restR T (n+1) ⟨3,x,y,n,0,0,x+n,x+n,0,0⟩=R:=⟨_,rfl⟩
    have CR:Hid (∀W,LineBox W X ⟨3,x,y,n,0,0,x+n,x+n,0,0⟩→SVar W→Tabs W→MVar W→Calls Tryz.prog 190 #[.pointer (some ⟨X,0,none⟩), .string (bs T), .int .i64 ((n:Int)+1)] W fun e w'=>(∃v,e= .returned v)∧LineBox w' X R∧Only X W w'):=hid (fun W h1 h2 h3 h4=>by
     have:=rest_any T (n+1) X ⟨3,x,y,n,0,0,x+n,x+n,0,0⟩ W hTb (by have:=bs_size U;omega) h1 (by show (0:Int)≤(x:Int);omega) hxb h2 h3 h4
     rw[hR] at this
     rw[show ((n:Int)+1)=((n+1:Nat):Int) by omega]
     exact this)
    have HR:=hid hR;clear hR
    go_wp2_with fail
    have HS5:=hid (And.intro (HS4.out.1.set hX 0 (.int .i64 (3))) (show LineBox (w4.setCell ⟨X,0,none⟩ (.int .i64 (3))) X ⟨3,x,y,n,0,0,x+n,x+n,0,0⟩ from (blk_set HS4.out.2 0 (.int .i64 (3)))))
    clear s0 s1 a0 a1 a2 a3 a4 a5 a6 a7 a8 a9 g0 g1 g2 g3 g4 g5 g6 g7 g8 g9 b0 b1 b2 b3 b4 b5 b6 b7 b8 b9 h0 h1 h2 h3 h4 h5 h6 h7 h8 h9
    refine(CR.out _ HS5.out.2 (HV.out.keep HS5.out.1.b) (HT.out.keep HS5.out.1.b) (HM.out.keep HS5.out.1.b)).mono ?_
    rintro e w5 ⟨⟨v,rfl⟩,hL6,hO6⟩
    have HS6:=hid (And.intro (HS5.out.1.only hX hO6) hL6);clear hL6 hO6
    obtain⟨s0,s1⟩:=HS6.out.1.s.cells
    obtain⟨a0,a1,a2,a3,a4,a5,a6,a7,a8,a9,g0,g1,g2,g3,g4,g5,g6,g7,g8,g9⟩:=HS6.out.2.cells
    obtain⟨b0,b1,b2,b3,b4,b5,b6,b7,b8,b9,h0,h1,h2,h3,h4,h5,h6,h7,h8,h9⟩:=HS6.out.1.l.cells
    go_wp2_with fail
    go_region
    obtain⟨W,hW⟩: ∃W,(putR w5 (w.heap.size+1) R).drew=W:=⟨_,rfl⟩
    have HF:=(LSt.put (r2:=R) HS6.out.1).drew
    rw[hW] at HF
    have HF2:=hid HF;clear HF
    dsimp only[putR] at hW
    rw[hW]
    clear hW
    clear s0 s1 a0 a1 a2 a3 a4 a5 a6 a7 a8 a9 g0 g1 g2 g3 g4 g5 g6 g7 g8 g9 b0 b1 b2 b3 b4 b5 b6 b7 b8 b9 h0 h1 h2 h3 h4 h5 h6 h7 h8 h9
    obtain⟨c0,c1,c2,c3,c4,c5,c6,c7,c8,c9,_⟩:=HF2.out.l.cells
    go_wp2_with fail
    refine bodyPost_ret (v:= .tuple #[lineV R, .int .i64 y, .int .i64 0]) ?_ rfl ⟨?_,HF2.out.b⟩
    ·simp[results,Tryz.results153,go_sem,lineV,noLine,c0,c1,c2,c3,c4,c5,c6,c7,c8,c9]
    ·rw[HC.out]
     exact lineE_of ((lineOf_rest U T n x y (3,0) HU35.out HTU.out ⟨3,x,y,n,0,0,x+n,x+n,0,0⟩ rfl).trans HR.out)
   ·obtain⟨R,hR⟩: ∃R,restR T (n+0) ⟨5,x,y,n,0,0,x+n,x+n,0,0⟩=R:=⟨_,rfl⟩
    have CR:Hid (∀W,LineBox W X ⟨5,x,y,n,0,0,x+n,x+n,0,0⟩→SVar W→Tabs W→MVar W→Calls Tryz.prog 190 #[.pointer (some ⟨X,0,none⟩), .string (bs T), .int .i64 (n:Int)] W fun e w'=>(∃v,e= .returned v)∧LineBox w' X R∧Only X W w'):=hid (fun W h1 h2 h3 h4=>by
     have:=rest_any T (n+0) X ⟨5,x,y,n,0,0,x+n,x+n,0,0⟩ W hTb (by have:=bs_size U;omega) h1 (by show (0:Int)≤(x:Int);omega) hxb h2 h3 h4
     rw[hR] at this
     rw[show (n:Int)=((n+0:Nat):Int) by omega]
     exact this)
    have HR:=hid hR;clear hR
    go_wp2_with fail
    have HS5:=hid (And.intro (HS4.out.1.set hX 0 (.int .i64 (5))) (show LineBox (w4.setCell ⟨X,0,none⟩ (.int .i64 (5))) X ⟨5,x,y,n,0,0,x+n,x+n,0,0⟩ from (blk_set HS4.out.2 0 (.int .i64 (5)))))
    clear s0 s1 a0 a1 a2 a3 a4 a5 a6 a7 a8 a9 g0 g1 g2 g3 g4 g5 g6 g7 g8 g9 b0 b1 b2 b3 b4 b5 b6 b7 b8 b9 h0 h1 h2 h3 h4 h5 h6 h7 h8 h9
    refine(CR.out _ HS5.out.2 (HV.out.keep HS5.out.1.b) (HT.out.keep HS5.out.1.b) (HM.out.keep HS5.out.1.b)).mono ?_
    rintro e w5 ⟨⟨v,rfl⟩,hL6,hO6⟩
    have HS6:=hid (And.intro (HS5.out.1.only hX hO6) hL6);clear hL6 hO6
    obtain⟨s0,s1⟩:=HS6.out.1.s.cells
    obtain⟨a0,a1,a2,a3,a4,a5,a6,a7,a8,a9,g0,g1,g2,g3,g4,g5,g6,g7,g8,g9⟩:=HS6.out.2.cells
    obtain⟨b0,b1,b2,b3,b4,b5,b6,b7,b8,b9,h0,h1,h2,h3,h4,h5,h6,h7,h8,h9⟩:=HS6.out.1.l.cells
    go_wp2_with fail
    go_region
    obtain⟨W,hW⟩: ∃W,(putR w5 (w.heap.size+1) R).drew=W:=⟨_,rfl⟩
    have HF:=(LSt.put (r2:=R) HS6.out.1).drew
    rw[hW] at HF
    have HF2:=hid HF;clear HF
    dsimp only[putR] at hW
    rw[hW]
    clear hW
    clear s0 s1 a0 a1 a2 a3 a4 a5 a6 a7 a8 a9 g0 g1 g2 g3 g4 g5 g6 g7 g8 g9 b0 b1 b2 b3 b4 b5 b6 b7 b8 b9 h0 h1 h2 h3 h4 h5 h6 h7 h8 h9
    obtain⟨c0,c1,c2,c3,c4,c5,c6,c7,c8,c9,_⟩:=HF2.out.l.cells
    go_wp2_with fail
    refine bodyPost_ret (v:= .tuple #[lineV R, .int .i64 y, .int .i64 0]) ?_ rfl ⟨?_,HF2.out.b⟩
    ·simp[results,Tryz.results153,go_sem,lineV,noLine,c0,c1,c2,c3,c4,c5,c6,c7,c8,c9]
    ·rw[HC.out]
     exact lineE_of ((lineOf_rest U T n x y (5,0) HU35.out HTU.out ⟨5,x,y,n,0,0,x+n,x+n,0,0⟩ rfl).trans HR.out)
   ·obtain⟨R,hR⟩: ∃R,restR T (n+(k+1)) ⟨4,x,y,n,x+n,x+n+k,x+n,x+n,0,0⟩=R:=⟨_,rfl⟩
    have CR:Hid (∀W,LineBox W X ⟨4,x,y,n,x+n,x+n+k,x+n,x+n,0,0⟩→SVar W→Tabs W→MVar W→Calls Tryz.prog 190 #[.pointer (some ⟨X,0,none⟩), .string (bs T), .int .i64 ((n:Int)+((k:Int)+1))] W fun e w'=>(∃v,e= .returned v)∧LineBox w' X R∧Only X W w'):=hid (fun W h1 h2 h3 h4=>by
     have:=rest_any T (n+(k+1)) X ⟨4,x,y,n,x+n,x+n+k,x+n,x+n,0,0⟩ W hTb (by have:=bs_size U;omega) h1 (by show (0:Int)≤(x:Int);omega) hxb h2 h3 h4
     rw[hR] at this
     rw[show ((n:Int)+((k:Int)+1))=((n+(k+1):Nat):Int) by omega]
     exact this)
    have HR:=hid hR;clear hR
    go_wp2_with fail
    have HS5:=hid (And.intro (((HS4.out.1.set hX 0 (.int .i64 (4))).set hX 4 (.int .i64 ((x:Int)+(n:Int)))).set hX 5 (.int .i64 ((x:Int)+(n:Int)+(k:Int)))) (show LineBox (((w4.setCell ⟨X,0,none⟩ (.int .i64 (4))).setCell ⟨X,4,none⟩ (.int .i64 ((x:Int)+(n:Int)))).setCell ⟨X,5,none⟩ (.int .i64 ((x:Int)+(n:Int)+(k:Int)))) X ⟨4,x,y,n,x+n,x+n+k,x+n,x+n,0,0⟩ from (blk_set (blk_set (blk_set HS4.out.2 0 (.int .i64 (4))) 4 (.int .i64 ((x:Int)+(n:Int)))) 5 (.int .i64 ((x:Int)+(n:Int)+(k:Int))))))
    clear s0 s1 a0 a1 a2 a3 a4 a5 a6 a7 a8 a9 g0 g1 g2 g3 g4 g5 g6 g7 g8 g9 b0 b1 b2 b3 b4 b5 b6 b7 b8 b9 h0 h1 h2 h3 h4 h5 h6 h7 h8 h9
    refine(CR.out _ HS5.out.2 (HV.out.keep HS5.out.1.b) (HT.out.keep HS5.out.1.b) (HM.out.keep HS5.out.1.b)).mono ?_
    rintro e w5 ⟨⟨v,rfl⟩,hL6,hO6⟩
    have HS6:=hid (And.intro (HS5.out.1.only hX hO6) hL6);clear hL6 hO6
    obtain⟨s0,s1⟩:=HS6.out.1.s.cells
    obtain⟨a0,a1,a2,a3,a4,a5,a6,a7,a8,a9,g0,g1,g2,g3,g4,g5,g6,g7,g8,g9⟩:=HS6.out.2.cells
    obtain⟨b0,b1,b2,b3,b4,b5,b6,b7,b8,b9,h0,h1,h2,h3,h4,h5,h6,h7,h8,h9⟩:=HS6.out.1.l.cells
    go_wp2_with fail
    go_region
    obtain⟨W,hW⟩: ∃W,(putR w5 (w.heap.size+1) R).drew=W:=⟨_,rfl⟩
    have HF:=(LSt.put (r2:=R) HS6.out.1).drew
    rw[hW] at HF
    have HF2:=hid HF;clear HF
    dsimp only[putR] at hW
    rw[hW]
    clear hW
    clear s0 s1 a0 a1 a2 a3 a4 a5 a6 a7 a8 a9 g0 g1 g2 g3 g4 g5 g6 g7 g8 g9 b0 b1 b2 b3 b4 b5 b6 b7 b8 b9 h0 h1 h2 h3 h4 h5 h6 h7 h8 h9
    obtain⟨c0,c1,c2,c3,c4,c5,c6,c7,c8,c9,_⟩:=HF2.out.l.cells
    go_wp2_with fail
    refine bodyPost_ret (v:= .tuple #[lineV R, .int .i64 y, .int .i64 0]) ?_ rfl ⟨?_,HF2.out.b⟩
    ·simp[results,Tryz.results153,go_sem,lineV,noLine,c0,c1,c2,c3,c4,c5,c6,c7,c8,c9]
    ·rw[HC.out]
     exact lineE_of ((lineOf_rest U T n x y (4,k) HU35.out HTU.out ⟨4,x,y,n,x+n,x+n+k,x+n,x+n,0,0⟩ rfl).trans HR.out)
theorem line_no (l:List UInt8) (a b:Int) (w:World) (hs:l.length≤1073741824) (h:wholeB l a b=false):
  Calls Tryz.prog 153 #[.string (bs l), .agg #[.int .i64 a, .int .i64 b]] w fun e w'=>e=LineE (noLine,0,1)∧Below w.heap.size w w':=by
 have sl:=bs_size l
 have CW:=hid (fun w=>whole_any l a b w hs)
 rw[h] at CW
 clear h
 go_enter Tryz.func153,Tryz.ntmps153
 go_wp2_with fail
 have HL0:=hid (LSt.start w a b)
 with_reducible refine(CW.out _).mono ?_
 rintro e w1 ⟨rfl,hb1⟩
 have HL1:=hid (HL0.out.keep hb1);clear hb1
 obtain⟨s0,s1⟩:=HL1.out.s.cells
 obtain⟨b0,b1,b2,b3,b4,b5,b6,b7,b8,b9,h0,h1,h2,h3,h4,h5,h6,h7,h8,h9⟩:=HL1.out.l.cells
 go_wp2_with fail
 have HF2:=hid (LSt.put (r2:=noLine) HL1.out)
 obtain⟨W,hW⟩: ∃W,putR w1 (w.heap.size+1) noLine=W:=⟨_,rfl⟩
 rw[hW] at HF2
 dsimp only[putR,noLine] at hW
 rw[hW]
 clear hW s0 s1 b0 b1 b2 b3 b4 b5 b6 b7 b8 b9 h0 h1 h2 h3 h4 h5 h6 h7 h8 h9
 obtain⟨c0,c1,c2,c3,c4,c5,c6,c7,c8,c9,_⟩:=HF2.out.l.cells
 refine bodyPost_ret (v:= .tuple #[lineV noLine, .int .i64 0, .int .i64 1]) ?_ rfl ⟨rfl,HF2.out.b⟩
 simp[results,Tryz.results153,go_sem,lineV,noLine,c0,c1,c2,c3,c4,c5,c6,c7,c8,c9]
theorem line_wrong (l:List UInt8) (x y:Nat) (w:World) (hs:l.length≤1073741824) (hxy:x≤y) (hyl:y≤l.length) (T:List UInt8) (hTd:(l.drop x).take (y-x)=T) (h10:T.contains 10=false) (hT:Tabs w) (k:Nat) (hw:wrL true T=k) (hk:k<T.length):
  Calls Tryz.prog 153 #[.string (bs l), .agg #[.int .i64 x, .int .i64 y]] w fun e w'=>e=LineE (noLine,(x:Int)+k,2)∧Below w.heap.size w w':=by
 have sl:=bs_size l
 have hTl:T.length=y-x:=by rw[←hTd,List.length_take,List.length_drop];omega
 have CW:Hid (∀w,Calls Tryz.prog 186 #[.string (bs l), .agg #[.int .i64 x, .int .i64 y]] w fun e w'=>e= .returned (.bool true)∧Below w.heap.size w w'):=hid (fun w=>by
  have:=whole_any l x y w hs
  have e:wholeB l x y=true:=by
   unfold wholeB
   rw[if_neg (by omega),Int.toNat_natCast,show ((y:Int)-(x:Int)).toNat=y-x by omega,hTd,h10];rfl
  rw[e] at this
  exact this)
 have hex:(bs l).extract x y=bs T:=by rw[bs_extract,bs_data,hTd]
 have CG:Hid (∀w,Tabs w→Calls Tryz.prog 187 #[.string (bs T)] w fun e w'=>e= .returned (.tuple #[.int .i64 k, .bool true])∧Below w.heap.size w w'):=hid (fun w hT=>by
  have:=wrong_any T w (by omega) hT
  rw[wrP_yes hw hk] at this
  exact this)
 have sT:=bs_size T
 have HT:=hid hT
 have hxk:IntKind.i64.wrap ((x:Int)+(k:Int))=(x:Int)+(k:Int):=by rw[IntKind.wrap_i64];omega
 have hkb:(x:Int)+(k:Int)≤1073741824:=by omega
 clear hT hw hTl
 have hxyi:(x:Int)≤(y:Int):=by omega
 have hyli:(y:Int)≤(l.length:Int):=by omega
 go_enter Tryz.func153,Tryz.ntmps153
 go_wp2_with fail
 have HL0:=hid (LSt.start w x y)
 with_reducible refine(CW.out _).mono ?_
 rintro e w1 ⟨rfl,hb1⟩
 have HL1:=hid (HL0.out.keep hb1);clear hb1
 obtain⟨s0,s1⟩:=HL1.out.s.cells
 go_wp2_with fail
 have HT1:=hid (HT.out.keep HL1.out.b)
 with_reducible refine(CG.out _ HT1.out).mono ?_
 rintro e w2 ⟨rfl,hb2⟩
 have HL2:=hid (HL1.out.keep hb2);clear hb2 s0 s1
 obtain⟨s0,s1⟩:=HL2.out.s.cells
 obtain⟨b0,b1,b2,b3,b4,b5,b6,b7,b8,b9,h0,h1,h2,h3,h4,h5,h6,h7,h8,h9⟩:=HL2.out.l.cells
 go_wp2_with fail
 go_region
 obtain⟨W,hW⟩: ∃W,(putR w2 (w.heap.size+1) noLine).drew=W:=⟨_,rfl⟩
 have HF:=(LSt.put (r2:=noLine) HL2.out).drew
 rw[hW] at HF
 have HF2:=hid HF;clear HF
 dsimp only[putR,noLine] at hW
 rw[hW]
 clear hW s0 s1 b0 b1 b2 b3 b4 b5 b6 b7 b8 b9 h0 h1 h2 h3 h4 h5 h6 h7 h8 h9
 obtain⟨c0,c1,c2,c3,c4,c5,c6,c7,c8,c9,_⟩:=HF2.out.l.cells
 go_wp2_with fail
 refine bodyPost_ret (v:= .tuple #[lineV noLine, .int .i64 ((x:Int)+k), .int .i64 2]) ?_ rfl ⟨rfl,HF2.out.b⟩
 simp[results,Tryz.results153,go_sem,lineV,noLine,c0,c1,c2,c3,c4,c5,c6,c7,c8,c9]
theorem line_any (l:List UInt8) (a b:Int) (w:World) (hs:l.length≤1073741824) (hV:SVar w) (hT:Tabs w) (hM:MVar w):
  Calls Tryz.prog 153 #[.string (bs l), .agg #[.int .i64 a, .int .i64 b]] w fun e w'=>e=LineE (lineL l a b)∧Below w.heap.size w w':=by
 obtain⟨R,hR⟩: ∃R,lineL l a b=R:=⟨_,rfl⟩
 rw[hR]
 unfold lineL at hR
 by_cases hout:a<0∨b<a∨(l.length:Int)<b
 ·rw[if_pos hout] at hR
  subst hR
  exact line_no l a b w hs (by unfold wholeB;rw[if_pos hout])
 rw[if_neg hout] at hR
 obtain⟨x,rfl⟩: ∃x:Nat,a=x:=⟨a.toNat,by omega⟩
 obtain⟨y,rfl⟩: ∃y:Nat,b=y:=⟨b.toNat,by omega⟩
 simp only[Int.toNat_natCast,show ((y:Int)-(x:Int)).toNat=y-x by omega] at hR
 obtain⟨T,hTd⟩: ∃T,(l.drop x).take (y-x)=T:=⟨_,rfl⟩
 rw[hTd] at hR
 cases h10:T.contains 10 with
 | true=>
  rw[h10,if_pos rfl] at hR
  subst hR
  exact line_no l x y w hs (by unfold wholeB;rw[if_neg hout,Int.toNat_natCast,show ((y:Int)-(x:Int)).toNat=y-x by omega,hTd,h10];rfl)
 | false=>
  rw[h10,if_neg (by simp)] at hR
  by_cases hk:wrL true T<T.length
  ·rw[if_pos hk] at hR
   subst hR
   exact line_wrong l x y w hs (by omega) (by omega) T hTd h10 hT _ rfl hk
  ·rw[if_neg hk] at hR
   have hw:wrL true T=T.length:=by
    have:=(wrGo_bd true T.length T 0).2
    unfold wrL at hk ⊢;omega
   have:=line_gen l x y w hs (by omega) (by omega) T hTd h10 hV hT hM hw
   have e:lineG x y (spL T) (coreL (T.drop (spL T)))=R:=by rw[←hR];rfl
   rw[e] at this
   exact this
end Go.Proofs.YtlibkhbachmcgaaGreatDoor
