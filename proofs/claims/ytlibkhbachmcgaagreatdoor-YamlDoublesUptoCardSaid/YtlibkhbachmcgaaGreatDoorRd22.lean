import Derived.Test.YtlibkhbachmcgaaGreatDoorRd13
import Derived.Test.YtlibkhbachmcgaaGreatDoorRd21
import Derived.Test.YtlibkhbachmcgaaGreatDoorRd4
import Derived.Test.YtlibkhbachmcgaaGreatDoorRd16
set_option maxRecDepth 100000
set_option maxHeartbeats 4000000
namespace Go.Proofs.YtlibkhbachmcgaaGreatDoor
set_option linter.unusedSimpArgs false
set_option linter.unusedVariables false
open Go.Lib hiding intOf
theorem drop_headT (p:UInt8→Bool): ∀l:Stp,∀c,(l.dropWhile p).head?=some c→p c=false
 | [],c,h=>by simp at h
 | x::l,c,h=>by
  rw[List.dropWhile_cons] at h
  split at h
  ·exact drop_headT p l c h
  ·rename_i hx
   simp at h
   subst h
   simpa using hx
def lowB (c:UInt8):Bool:=decide (c.toNat<32)||decide (c.toNat=127)
theorem cleanGo_eq: ∀(n f:Nat) (s:Stp),s.length≤n→s.length≤f→Lib.validD s=true→cleanGo f s=!s.any lowB
 | 0,f,s,hn,_,_=>by
  cases s with
  | nil=>cases f<;>rfl
  | cons c r=>simp at hn
 | n +1,f,s,hn,hf,hv=>by
  by_cases hne:s= []
  ·subst hne;cases f<;>rfl
  obtain⟨r,t,hr,rfl,ht,hd⟩:=valid_cut s hne hv
  obtain⟨E,hE⟩: ∃E,encodeRune r=E:=⟨_,rfl⟩
  have hEne:=encode_ne r
  rw[hE] at hEne
  cases E with
  | nil=>exact absurd rfl hEne
  | cons e E'=>
   rw[hE] at hd hn hf ⊢
   obtain⟨g,rfl⟩: ∃g,f=g+1:=⟨f-1,by simp at hf;omega⟩
   rw[List.cons_append,cleanGo]
   rw[List.cons_append] at hd
   rw[hd]
   have e1:(e::(E'++t)).drop (e::E').length=t:=by rw[show e::(E'++t)=(e::E')++t from rfl,List.drop_left]
   rw[e1,cleanGo_eq n g t (by simp at hn;omega) (by simp at hf;omega) ht]
   rw[show e::(E'++t)=(e::E')++t from rfl,List.any_append]
   have hr0:=hr.1
   have key:(e::E').any lowB=(decide (r.toNat<32)||(r.toNat==127)):=by
    by_cases h128:r<128
    ·obtain⟨d,hd2⟩: ∃d:UInt8,r=(d.toNat:Int):=⟨UInt8.ofNat r.toNat,by rw[UInt8.toNat_ofNat'];omega⟩
     subst hd2
     rw[←hE,encode_one d (by omega),List.any_cons,List.any_nil,Bool.or_false,Int.toNat_natCast]
     unfold lowB
     congr 1
    ·have h1:(decide (r.toNat<32)||(r.toNat==127))=false:=by
      rw[Bool.or_eq_false_iff]
      exact⟨decide_eq_false (by omega),beq_eq_false_iff_ne.2 (by omega)⟩
     rw[h1,List.any_eq_false]
     intro c hc
     rw[←hE] at hc
     have:=encode_high r hr (by omega) c hc
     unfold lowB
     simp only[Bool.or_eq_true,decide_eq_true_eq]
     omega
   rw[key]
   cases (decide (r.toNat<32)||(r.toNat==127))<;>simp
theorem clean_eq (s:Stp):cleanB s=(Lib.validD s&&!s.any lowB):=by
 unfold cleanB
 cases hv:Lib.validD s with
 | false=>simp
 | true=>rw[cleanGo_eq s.length s.length s (Nat.le_refl _) (Nat.le_refl _) hv];simp
def pairsB:Stp→Bool
 | a::b::r=>!((a==58&&b==32)||(a==32&&b==35))&&pairsB (b::r)
 | _=>true
theorem contains_cons (b:UInt8) (l sub:Stp):Lib.contains (b::l) sub=(sub.isPrefixOf (b::l)||Lib.contains l sub):=by
 unfold Lib.contains
 rw[Lib.index]
 have hg:=Lib.index_ge l sub
 split
 ·rename_i h;rw[h];simp
 ·rename_i h
  rw[Bool.not_eq_true] at h
  rw[h,Bool.false_or]
  split
  ·rename_i h2
   rw[beq_iff_eq] at h2
   rw[h2]
  ·rename_i h2
   simp only[beq_iff_eq] at h2
   rw[decide_eq_decide]
   omega
theorem pairs_eq: ∀s:Stp,(!Lib.contains s [58,32]&&!Lib.contains s [32,35])=pairsB s
 | []=>by rfl
 | [a]=>by
  rw[contains_cons,contains_cons]
  have e1:Lib.contains [] [58,32]=false:=by decide
  have e2:Lib.contains [] [32,35]=false:=by decide
  rw[e1,e2]
  simp[List.isPrefixOf,pairsB]
 | a::b::r=>by
  rw[contains_cons,contains_cons a,pairsB,←pairs_eq (b::r)]
  simp only[List.isPrefixOf,Bool.and_true]
  have e1:((58:UInt8)==a)=(a==58):=BEq.comm
  have e2:((32:UInt8)==b)=(b==32):=BEq.comm
  have e3:((32:UInt8)==a)=(a==32):=BEq.comm
  have e4:((35:UInt8)==b)=(b==35):=BEq.comm
  rw[e1,e2,e3,e4]
  cases (a==58&&b==32)<;>cases (a==32&&b==35)<;>cases Lib.contains (b::r) [58,32]<;>cases Lib.contains (b::r) [32,35]<;>rfl
theorem drop_len (p:UInt8→Bool): ∀l:Stp,(l.dropWhile p).length≤l.length
 | []=>Nat.le_refl _
 | x::l=>by
  rw[List.dropWhile_cons]
  split
  ·have:=drop_len p l;simp only[List.length_cons];omega
  ·exact Nat.le_refl _
theorem drop_whole (p:UInt8→Bool) (l:Stp) (h:l.length≤(l.dropWhile p).length):l.dropWhile p=l:=by
 cases l with
 | nil=>rfl
 | cons x l=>
  rw[List.dropWhile_cons] at h ⊢
  split
  ·rename_i hp
   rw[if_pos hp] at h
   have:=drop_len p l
   simp only[List.length_cons] at h
   omega
  ·rfl
theorem trim_eq (s:Stp):decide (Lib.trimB s 32=s)=(decide (s.head?≠some 32)&&decide (s.getLast?≠some 32)):=by
 rw[←Bool.decide_and,decide_eq_decide]
 unfold Lib.trimB Lib.trimLeftB Lib.trimRightB
 constructor
 ·intro h
  have hl:=congrArg List.length h
  have h1:=drop_len (· ==32) ((s.reverse.dropWhile (· ==32)).reverse)
  have h2:=drop_len (· ==32) s.reverse
  rw[List.length_reverse] at h1 h2
  have e1:=drop_whole (· ==32) s.reverse (by rw[List.length_reverse];omega)
  rw[e1,List.reverse_reverse] at h
  refine⟨fun e=>?_,fun e=>?_⟩
  ·have:=drop_headT (· ==32) s 32 (by rw[h];exact e)
   simp at this
  ·have:=drop_headT (· ==32) s.reverse 32 (by rw[e1,List.head?_reverse];exact e)
   simp at this
 ·rintro⟨h1,h2⟩
  have no: ∀l:Stp,l.head?≠some 32→l.dropWhile (· ==32)=l:=by
   intro l hl
   cases l with
   | nil=>rfl
   | cons x l=>
    rw[List.dropWhile_cons,if_neg]
    intro e
    rw[beq_iff_eq] at e
    exact hl (by rw[e];rfl)
  rw[no s.reverse (by rw[List.head?_reverse];exact h2),List.reverse_reverse,no s h1]
def bareR (s:Stp):Bool:=match s with
 | []=>false
 | c::r=>cleanB (c::r)&&!(c==32)&&!((c::r).getLast?==some 32)&&!((c::r).getLast?==some 58)&&!signsL.contains c&&!(c==45&&(r.isEmpty||r.head?==some 32))&&pairsB (c::r)
theorem bare_eq (s:Stp):bareB s=bareR s:=by
 cases s with
 | nil=>rfl
 | cons c r=>
  unfold bareB bareR
  simp only[]
  rw[trim_eq]
  have e1:decide (0≤Lib.indexByte signsL c)=signsL.contains c:=(Lib.contains_iff_indexByte signsL c).symm
  have e2:Lib.hasSuffix (c::r) [58]=((c::r).getLast?==some 58):=by
   unfold Lib.hasSuffix List.isSuffixOf
   rw[List.reverse_singleton]
   have hh:(c::r).reverse.head?=(c::r).getLast?:=List.head?_reverse
   cases hr:(c::r).reverse with
   | nil=>simp at hr
   | cons x l=>
    rw[hr] at hh
    rw[←hh]
    simp only[List.isPrefixOf,Bool.and_true,List.head?_cons]
    rw[show ((58:UInt8)==x)=(x==58) from BEq.comm]
    rfl
  have e3:(!decide (c::r= [45])&&!Lib.hasPrefix (c::r) [45,32])=!(c==45&&(r.isEmpty||r.head?==some 32)):=by
   unfold Lib.hasPrefix
   cases r with
   | nil=>
    simp only[List.isPrefixOf,Bool.and_false,List.isEmpty_nil,Bool.true_or,Bool.and_true,Bool.not_false]
    congr 1
    rw[Bool.eq_iff_iff];simp
   | cons b r=>
    simp only[List.isPrefixOf,Bool.and_true,List.isEmpty_cons,Bool.false_or,List.head?_cons]
    have:decide (c::b::r= [45])=false:=decide_eq_false (by simp)
    rw[this]
    simp only[Bool.not_false,Bool.true_and]
    rw[show ((45:UInt8)==c)=(c==45) from BEq.comm,show ((32:UInt8)==b)=(b==32) from BEq.comm]
    rfl
  have e4:(decide ((c::r).head?≠some 32))=!(c==32):=by
   rw[Bool.eq_iff_iff];simp
  have e5:(decide ((c::r).getLast?≠some 32))=!((c::r).getLast?==some 32):=by
   rw[Bool.eq_iff_iff];simp
  rw[e1,e2,e4,e5,←e3,←pairs_eq]
  generalize cleanB (c::r)=a1
  generalize (c==32)=a2
  generalize ((c::r).getLast?==some 32)=a3
  generalize signsL.contains c=a4
  generalize decide (c::r= [45])=a5
  generalize Lib.hasPrefix (c::r) [45,32]=a6
  generalize ((c::r).getLast?==some 58)=a7
  generalize Lib.contains (c::r) [58,32]=a8
  generalize Lib.contains (c::r) [32,35]=a9
  cases a1<;>cases a2<;>cases a3<;>cases a4<;>cases a5<;>cases a6<;>cases a7<;>cases a8<;>cases a9<;>rfl
theorem rep_no {old new:Stp}{b:UInt8}{l:Stp} (h:old.isPrefixOf (b::l)=false) (k:Nat):Lib.replaceK old new k (b::l)=b::Lib.replaceK old new k l:=by
 cases k with
 | zero=>rfl
 | succ k=>
  have hg:=Lib.index_ge l old
  have e0:Lib.index (b::l) old=if(Lib.index l old== -1)=true then -1 else Lib.index l old+1:=by rw[Lib.index,if_neg (by rw[h];simp)]
  rw[Lib.replaceK,Lib.replaceK]
  by_cases hi:Lib.index l old= -1
  ·rw[if_pos (show (Lib.index l old== -1)=true by rw[hi];rfl)] at e0
   rw[if_pos (by rw[e0];rfl),if_pos (by rw[hi];rfl)]
  ·have h1: ¬(Lib.index l old== -1)=true:=by simpa using hi
   rw[if_neg h1] at e0
   rw[if_neg h1,if_neg (by rw[e0,beq_iff_eq];omega),e0]
   obtain⟨i,hx⟩: ∃i:Nat,Lib.index l old=i:=⟨(Lib.index l old).toNat,by omega⟩
   rw[hx]
   have e1:((i:Int)+1).toNat=i+1:=by omega
   have e2:i+1+old.length=(i+old.length)+1:=by omega
   rw[e1,Int.toNat_natCast,e2,List.take_succ_cons,List.drop_succ_cons]
   rfl
theorem cnt_skip {old:Stp}{b:UInt8}{l:Stp} (ho:old≠ []) (h:old.isPrefixOf (b::l)=false):Lib.count (b::l) old=Lib.count l old:=by
 have hg:=Lib.index_ge l old
 have e0:Lib.index (b::l) old=if(Lib.index l old== -1)=true then -1 else Lib.index l old+1:=by rw[Lib.index,if_neg (by rw[h];simp)]
 by_cases hi:Lib.index l old= -1
 ·rw[Lib.count_miss hi,Lib.count_miss (by rw[e0,if_pos (by rw[hi];rfl)])]
 ·obtain⟨i,hx⟩: ∃i:Nat,Lib.index l old=i:=⟨(Lib.index l old).toNat,by omega⟩
  rw[if_neg (by simpa using hi),hx] at e0
  rw[Lib.count_hit ho hx,Lib.count_hit (i:=i+1) ho (by rw[e0];omega)]
  have e2:i+1+old.length=(i+old.length)+1:=by omega
  rw[e2,List.drop_succ_cons]
theorem rep_yes {old new:Stp}{b:UInt8}{l:Stp} (h:old.isPrefixOf (b::l)=true) (k:Nat):Lib.replaceK old new (k+1) (b::l)=new++Lib.replaceK old new k ((b::l).drop old.length):=by
 rw[Lib.replaceK_hit old new k (b::l) 0 (by rw[Lib.index,if_pos h];rfl)]
 simp
theorem cnt_yes {old:Stp}{b:UInt8}{l:Stp} (ho:old≠ []) (h:old.isPrefixOf (b::l)=true):Lib.count (b::l) old=1+Lib.count ((b::l).drop old.length) old:=by
 rw[Lib.count_hit (i:=0) ho (by rw[Lib.index,if_pos h];rfl)]
 simp
theorem repA_k {s old new:Stp} (h:(old==new)=false):Lib.replaceAll s old new=Lib.replaceK old new (Lib.count s old) s:=by
 unfold Lib.replaceAll Lib.replace Lib.replaceNum
 rw[if_neg (by rw[h];simp),if_pos (.inl (by decide))]
def rub1 (c:UInt8):Stp:=if c=127 then rubL else [c]
theorem safe1_k: ∀(s:Stp) (k:Nat),Lib.count s [127]≤k→Lib.replaceK [127] rubL k s=s.flatMap rub1
 | [],k,_=>by cases k<;>rfl
 | b::l,k,h=>by
  by_cases hb:b=127
  ·have hp:([127]:Stp).isPrefixOf (b::l)=true:=by rw[hb];rfl
   rw[cnt_yes (by decide) hp] at h
   obtain⟨k,rfl⟩: ∃j,k=j+1:=⟨k-1,by omega⟩
   rw[show (b::l).drop ([127]:Stp).length=l from rfl] at h
   rw[rep_yes hp,show (b::l).drop ([127]:Stp).length=l from rfl,safe1_k l k (by omega),List.flatMap_cons,rub1,if_pos hb]
  ·have hp:([127]:Stp).isPrefixOf (b::l)=false:=by
    simp only[List.isPrefixOf,Bool.and_true]
    exact beq_eq_false_iff_ne.2 (fun e=>hb e.symm)
   rw[rep_no hp,safe1_k l k (by rw[←cnt_skip (by decide) hp];exact h),List.flatMap_cons,rub1,if_neg hb]
   rfl
theorem safe1_eq (s:Stp):safe1 s=s.flatMap rub1:=by
 unfold safe1
 rw[repA_k (by decide)]
 exact safe1_k s _ (Nat.le_refl _)
def safe2:Stp→Stp
 | []=> []
 | [c]=> [c]
 | a::b::r=>if a=32∧b=35 then hashL++safe2 r else a::safe2 (b::r)
theorem safe2_k: ∀(n:Nat) (s:Stp) (k:Nat),s.length≤n→Lib.count s [32,35]≤k→Lib.replaceK [32,35] hashL k s=safe2 s
 | n,[],k,_,_=>by cases k<;>rfl
 | n,[c],k,_,_=>by
  have hp:([32,35]:Stp).isPrefixOf [c]=false:=by simp[List.isPrefixOf]
  rw[rep_no hp,safe2]
  cases k<;>rfl
 | 0,a::b::r,k,hn,_=>by simp at hn
 | n+1,a::b::r,k,hn,h=>by
  by_cases hb:a=32∧b=35
  ·have hp:([32,35]:Stp).isPrefixOf (a::b::r)=true:=by rw[hb.1,hb.2];rfl
   rw[cnt_yes (by decide) hp,show (a::b::r).drop ([32,35]:Stp).length=r from rfl] at h
   obtain⟨k,rfl⟩: ∃j,k=j+1:=⟨k-1,by omega⟩
   rw[rep_yes hp,show (a::b::r).drop ([32,35]:Stp).length=r from rfl,safe2,if_pos hb,safe2_k n r k (by simp at hn;omega) (by omega)]
  ·have hp:([32,35]:Stp).isPrefixOf (a::b::r)=false:=by
    rw[←Bool.not_eq_true]
    intro e
    simp only[List.isPrefixOf,Bool.and_true,Bool.and_eq_true,beq_iff_eq] at e
    exact hb ⟨e.1.symm,e.2.symm⟩
   rw[rep_no hp,safe2,if_neg hb,safe2_k n (b::r) k (by simp at hn ⊢;omega) (by rw[←cnt_skip (by decide) hp];exact h)]
def hash3:Stp:= [92,117,48,48,50,51]
def safeGo (p:Bool):Stp→Stp
 | []=> []
 | c::r=>(if c=127 then rubL else if c=35∧p=true then hash3 else [c])++safeGo (c==32) r
theorem safeGo_p {c:UInt8}{r:Stp} (h:c≠35) (p:Bool):safeGo p (c::r)=safeGo false (c::r):=by
 rw[safeGo,safeGo]
 simp[h]
theorem safe2_skip (c:UInt8) (l:Stp) (h:c≠32):safe2 (c::l)=c::safe2 l:=by
 cases l with
 | nil=>rfl
 | cons b r=>rw[safe2,if_neg (fun e=>h e.1)]
theorem safe2_rub (l:Stp):safe2 (rubL++l)=rubL++safe2 l:=by
 unfold rubL
 simp only[List.cons_append,List.nil_append]
 rw[safe2_skip _ _ (by decide),safe2_skip _ _ (by decide),safe2_skip _ _ (by decide),safe2_skip _ _ (by decide),safe2_skip _ _ (by decide),safe2_skip _ _ (by decide)]
theorem safe_go: ∀(n:Nat) (s:Stp),s.length≤n→safe2 (s.flatMap rub1)=safeGo false s
 | _,[],_=>rfl
 | 0,c::r,h=>by simp at h
 | n + 1,c::r,h=>by
  rw[List.flatMap_cons,safeGo]
  have ih:=safe_go n r (by simp at h;omega)
  by_cases h127:c=127
  ·rw[rub1,if_pos h127,safe2_rub,ih,if_pos h127,show (c==32)=false by rw[h127];rfl]
  ·rw [rub1,if_neg h127,if_neg h127,if_neg (by simp)]
   by_cases h32:c=32
   ·subst h32
    cases r with
    | nil=>rfl
    | cons b r=>
     by_cases hb:b=35
     ·subst hb
      have e1:([32]:Stp)++List.flatMap rub1 (35::r)=32::35::List.flatMap rub1 r:=by rw[List.flatMap_cons];rfl
      rw[e1,safe2,if_pos ⟨rfl,rfl⟩,safe_go n r (by simp at h;omega),safeGo,if_neg (by decide),if_pos ⟨rfl,rfl⟩]
      rfl
     ·have e2:safe2 (([32]:Stp)++List.flatMap rub1 (b::r))=32::safe2 (List.flatMap rub1 (b::r)):=by
       rw[List.flatMap_cons,rub1]
       split
       ·rfl
       ·show safe2 (32::b::List.flatMap rub1 r)=32::safe2 (b::List.flatMap rub1 r)
        rw[safe2,if_neg (fun e=>hb e.2)]
      rw[e2,ih,safeGo_p hb (32==32)]
      rfl
   ·rw[show [c]++List.flatMap rub1 r=c::List.flatMap rub1 r from rfl,safe2_skip _ _ h32,ih,show (c==32)=false from beq_eq_false_iff_ne.2 h32]
    rfl
theorem safe_eq (t:Stp):safeL t=safeGo false t:=by
 unfold safeL
 rw[repA_k (by decide),safe2_k _ _ _ (Nat.le_refl _) (Nat.le_refl _),safe1_eq]
 exact safe_go t.length t (Nat.le_refl _)
end Go.Proofs.YtlibkhbachmcgaaGreatDoor
namespace Go.Proofs.YtlibkhbachmcgaaGreatDoor
set_option linter.unusedSimpArgs false
set_option linter.unusedVariables false
open Go.RowKit
open Go.Lib hiding intOf
end Go.Proofs.YtlibkhbachmcgaaGreatDoor
namespace Go.Proofs.YtlibkhbachmcgaaGreatDoor
set_option linter.unusedSimpArgs false
set_option linter.unusedVariables false
open Go.Lib
def lastB:Bool→Stp→Bool
 | p,[]=>p
 | _,c::r=>lastB (c==32) r
theorem safe_app (b:Stp): ∀(a:Stp) (p:Bool),safeGo p (a++b)=safeGo p a++safeGo (lastB p a) b
 | [],p=>rfl
 | c::r,p=>by rw[List.cons_append,safeGo,safeGo,safe_app b r,lastB,List.append_assoc]
theorem safe_high: ∀(l:Stp) (p:Bool),(∀c∈l,128≤c.toNat)→safeGo p l=l
 | [],p,_=>rfl
 | c::r,p,h=>by
  have h1:=h c (by simp)
  rw[safeGo,if_neg (fun e=>by rw[e] at h1;exact absurd h1 (by decide)),if_neg (fun e=>by rw[e.1] at h1;exact absurd h1 (by decide)),safe_high r _ (fun d hd=>h d (by simp[hd]))]
  rfl
theorem safe_low: ∀(p:Bool) (n:Fin 128),n.val≠127→ ¬(n.val=35∧p=true)→safeGo p (qB (UInt8.ofNat n.val))=qB (UInt8.ofNat n.val):=by decide+kernel
theorem part_rub (X:Stp):partL (rubL++X)=(127,6):=by
 unfold partL rubL
 rw[if_pos (by rfl)]
 unfold escL
 have hm:(meantI ((117:UInt8).toNat:Int)).2=false:=by decide
 simp only[List.cons_append,List.nil_append,List.getElem?_cons_succ,List.getElem?_cons_zero]
 rw[hm,if_neg (by simp),if_pos (by rfl)]
 have hf:fourL ((92::117::48::48::55::102::X).drop 2)=some 127:=by
  unfold fourL
  rw[if_neg (by simp)]
  rfl
 unfold uniL
 rw[hf]
 simp only[]
 rw[if_neg (by omega),if_pos (by omega)]
 rfl
theorem part_hash (X:Stp):partL (hash3++X)=(35,6):=by
 unfold partL hash3
 rw[if_pos (by rfl)]
 unfold escL
 have hm:(meantI ((117:UInt8).toNat:Int)).2=false:=by decide
 simp only[List.cons_append,List.nil_append,List.getElem?_cons_succ,List.getElem?_cons_zero]
 rw[hm,if_neg (by simp),if_pos (by rfl)]
 have hf:fourL ((92::117::48::48::50::51::X).drop 2)=some 35:=by
  unfold fourL
  rw[if_neg (by simp)]
  rfl
 unfold uniL
 rw[hf]
 simp only[]
 rw[if_neg (by omega),if_pos (by omega)]
 rfl
theorem part_safe (r:Int) (hr:okRune r) (p:Bool) (X:Stp):partL (safeGo p (qBs (encodeRune r))++X)=(r,((safeGo p (qBs (encodeRune r))).length:Int))∧(safeGo p (qBs (encodeRune r))++X).head?≠some 34∧0<(safeGo p (qBs (encodeRune r))).length:=by
 by_cases h128:r<128
 ·have h0:=hr.1
  obtain⟨c,hc⟩: ∃c:UInt8,r=(c.toNat:Int):=⟨UInt8.ofNat r.toNat,by rw[UInt8.toNat_ofNat'];omega⟩
  subst hc
  rw[encode_one c (by omega),show qBs [c]=qB c by simp[qBs]]
  by_cases h127:c=127
  ·subst h127
   have e:safeGo p (qB 127)=rubL:=by cases p<;>rfl
   rw[e]
   exact⟨part_rub X,by unfold rubL;simp,by unfold rubL;simp⟩
  ·by_cases h35:c=35∧p=true
   ·obtain⟨rfl,rfl⟩:=h35
    have e:safeGo true (qB 35)=hash3:=rfl
    rw[e]
    exact⟨part_hash X,by unfold hash3;simp,by unfold hash3;simp⟩
   ·have e:=safe_low p ⟨c.toNat,by omega⟩ (fun e=>h127 (UInt8.toNat_inj.1 e)) (fun e=>h35 ⟨UInt8.toNat_inj.1 e.1,e.2⟩)
    simp only[UInt8.ofNat_toNat] at e
    rw[e]
    exact part_qB c (by omega) X
 ·have hq:=qBs_high _ (encode_high r hr (by omega))
  rw[hq,safe_high _ _ (encode_high r hr (by omega))]
  exact part_rune r hr (by omega) _
theorem safe_body (rest:Stp): ∀(n:Nat) (s:Stp) (p:Bool) (i f:Nat) (acc:Stp),s.length≤n→validD s=true→(safeGo p (qBs s)).length<f→
  readGo f (safeGo p (qBs s)++34::rest) i acc=(acc++s,((i+(safeGo p (qBs s)).length:Nat):Int)+1,0):=by
 intro n
 induction n with
 | zero=>
  intro s p i f acc hn hv hf
  obtain rfl:s= []:=List.eq_nil_of_length_eq_zero (by omega)
  obtain⟨g,rfl⟩: ∃g,f=g+1:=⟨f-1,by omega⟩
  show readGo (g+1) (34::rest) i acc=_
  unfold readGo
  rw[if_pos rfl]
  simp[qBs,safeGo]
 | succ n ih=>
  intro s p i f acc hn hv hf
  by_cases hne:s= []
  ·subst hne
   obtain⟨g,rfl⟩: ∃g,f=g+1:=⟨f-1,by omega⟩
   show readGo (g+1) (34::rest) i acc=_
   unfold readGo
   rw[if_pos rfl]
   simp[qBs,safeGo]
  ·obtain⟨r,t,hr,rfl,ht,_⟩:=valid_cut s hne hv
   have hlr:=List.length_pos_iff.2 (encode_ne r)
   rw[qBs_append,safe_app,List.length_append] at hf
   rw[qBs_append,safe_app,List.append_assoc]
   obtain⟨h1,h2,h3⟩:=part_safe r hr p (safeGo (lastB p (qBs (encodeRune r))) (qBs t)++34::rest)
   obtain⟨p2,hp2⟩: ∃q,lastB p (qBs (encodeRune r))=q:=⟨_,rfl⟩
   rw[hp2] at h1 h2 hf ⊢
   obtain⟨Q,hQ⟩: ∃Q,safeGo p (qBs (encodeRune r))=Q:=⟨_,rfl⟩
   rw[hQ] at h1 h2 h3 hf ⊢
   obtain⟨g,rfl⟩: ∃g,f=g+1:=⟨f-1,by omega⟩
   have ihs:=ih t p2 (i+Q.length) g (acc++encodeRune r) (by rw[List.length_append] at hn;omega) ht (by omega)
   obtain⟨X,hX⟩: ∃X,Q++(safeGo p2 (qBs t)++34::rest)=X:=⟨_,rfl⟩
   have hdrop:X.drop Q.length=safeGo p2 (qBs t)++34::rest:=by rw[←hX,List.drop_left]
   rw[hX] at h1 h2 ⊢
   cases X with
   | nil=>have:=congrArg List.length hX;simp at this
   | cons x X'=>
    unfold readGo
    rw[if_neg (by simpa using h2),h1]
    simp only[]
    rw[if_neg (by omega),Int.toNat_natCast,hdrop,ihs]
    simp only[List.append_assoc,List.length_append,Prod.mk.injEq,true_and]
    exact⟨by omega,trivial⟩
def qS (s:Stp):Stp:=34::(safeGo false (qBs s)++ [34])
theorem safe_quote (s:Stp) (hv:validD s=true) (p:Bool):safeGo p (quoteL s).1=qS s:=by
 have hq:(quoteL s).1=34::(qBs s++ [34]):=by unfold quoteL;rw[if_pos hv]
 rw[hq,safeGo,if_neg (by decide),if_neg (by simp),safe_app]
 unfold qS
 rw[show ((34:UInt8)==32)=false from rfl]
 have e: ∀q,safeGo q [34]= [34]:=by intro q;cases q<;>rfl
 rw[e]
 rfl
theorem qS_reads (s front back:Stp) (hv:validD s=true):readL (front++qS s++back) (front.length:Int)=(s,((front.length+(qS s).length:Nat):Int),0):=by
 unfold readL qS
 rw[Int.toNat_natCast,List.append_assoc,if_pos ⟨by omega,by rw[List.getElem?_append_right (Nat.le_refl _)];simp⟩]
 have hd:(front++(34::(safeGo false (qBs s)++ [34])++back)).drop (front.length+1)=safeGo false (qBs s)++34::back:=by
  rw[List.drop_append,List.drop_of_length_le (by omega)]
  simp
 rw[hd,safe_body back s.length s false _ _ [] (Nat.le_refl _) hv (by simp;omega)]
 simp only[List.nil_append,List.length_cons,List.length_append,List.length_nil,Prod.mk.injEq,true_and,and_true]
 omega
theorem unq_safe (s:Stp) (hv:validD s=true):unqL (qS s)=(s,((qS s).length:Int),0):=by
 have h:=qS_reads s [] [] hv
 simp only[List.nil_append,List.append_nil,List.length_nil,Nat.zero_add] at h
 unfold unqL
 rw[show ((0:Nat):Int)=0 from rfl] at h
 rw[h]
 simp only[]
 rw[if_neg (by omega)]
end Go.Proofs.YtlibkhbachmcgaaGreatDoor
namespace Go.Proofs.YtlibkhbachmcgaaGreatDoor
set_option linter.unusedSimpArgs false
set_option linter.unusedVariables false
open Go.Lib hiding intOf
theorem clean_okT2: ∀(n f:Nat) (s:Stp),s.length≤n→s.length≤f→Lib.validD s=true→cleanGo f s=true→ ∀g,s.length≤g→wrGo false g s 0=s.length
 | 0,f,s,hn,_,_,_=>by
  intro g _
  cases s with
  | nil=>cases g<;>rfl
  | cons c r=>simp at hn
 | n+1,f,s,hn,hf,hv,hc=>by
  intro g hg
  by_cases hne:s= []
  ·subst hne;cases g<;>rfl
  obtain⟨r,t,hr,rfl,ht,hd⟩:=valid_cut s hne hv
  obtain⟨E,hE⟩: ∃E,encodeRune r=E:=⟨_,rfl⟩
  have hEne:=encode_ne r
  have hpl:=fun h32=>(plain_rune r hr h32 t).2
  rw[hE] at hEne
  cases E with
  | nil=>exact absurd rfl hEne
  | cons e E'=>
   rw[hE] at hd hn hf hc hg hpl ⊢
   obtain⟨f',rfl⟩: ∃g,f=g+1:=⟨f-1,by simp at hf;omega⟩
   obtain⟨g',rfl⟩: ∃g0,g=g0+1:=⟨g-1,by simp at hg;omega⟩
   rw[List.cons_append,cleanGo] at hc
   rw[List.cons_append] at hd hpl
   rw[hd] at hc
   split at hc
   ·cases hc
   rename_i hb
   simp only[Bool.or_eq_true,decide_eq_true_eq,beq_iff_eq,not_or] at hb
   have e1:(e::(E'++t)).drop (e::E').length=t:=by rw[show e::(E'++t)=(e::E')++t from rfl,List.drop_left]
   rw[e1] at hc
   have ih:=clean_okT2 n f' t (by simp at hn;omega) (by simp at hf;omega) ht hc g' (by simp at hg;omega)
   have hr0:=hr.1
   have hp:=hpl (by omega)
   rw[List.cons_append,wrGo_cons,hp,hd,Bool.false_and,Bool.or_false,if_neg (by simp),e1]
   have ho:=wrGo_off false g' t 0 (e::E').length
   rw[Nat.zero_add] at ho
   rw[Nat.zero_add,ho,ih]
   simp only[List.length_cons,List.length_append]
   omega
theorem clean_sqw2 {s:Stp} (h:cleanB s=true):(sqw s).2=0:=by
 unfold cleanB at h
 rw[Bool.and_eq_true] at h
 have h1:okT s:=clean_okT2 s.length s.length s (Nat.le_refl _) (Nat.le_refl _) h.2 h.1 s.length (Nat.le_refl _)
 have h2:=(wrL_ok s).1 h1
 unfold sqw
 rw[if_neg h2]
theorem key_ok2 {s:Stp} (h:Lib.validD s=true):(keyY s).2=0:=by
 unfold keyY
 rw[if_pos h]
 split
 ·rfl
 ·unfold quotedY
  split
  ·rename_i hc
   exact clean_sqw2 hc
  ·unfold quoteL
   rw[if_pos h]
theorem bare_cons {s:Stp} (h:bareB s=true): ∃c r,s=c::r∧c≠34∧c≠39∧c≠91∧c≠123:=by
 rw[bare_eq] at h
 cases s with
 | nil=>cases h
 | cons c r=>
  unfold bareR at h
  simp only[Bool.and_eq_true,Bool.not_eq_true'] at h
  have hs:signsL.contains c=false:=h.1.1.2
  refine⟨c,r,rfl,?_,?_,?_,?_⟩<;> · rintro rfl;exact absurd hs (by decide)
theorem key_bare {s:Stp} (h:bareB s=true):keyRd s=(s,0):=by
 obtain⟨c,r,rfl,h1,h2,h3,h4⟩:=bare_cons h
 unfold keyRd
 simp only[]
 rw[if_neg (by simp[h1,h2]),if_pos h]
theorem text_qS (s:Stp) (hv:validD s=true):textY (qS s)=(s,0):=by
 unfold textY
 have e:(qS s).head?=some 34:=rfl
 rw[e,if_neg (by decide),unq_safe s hv]
theorem text_sqw (s:Stp) (h:(sqw s).2=0):textY (sqw s).1=(s,0)∧ ∃r,(sqw s).1=39::r:=by
 have hb:=sqL_back [] s [] h (by simp)
 simp only[List.nil_append,List.append_nil,List.length_nil,Nat.zero_add] at hb
 rw[show ((0:Nat):Int)=0 from rfl] at hb
 have he: ∃r,(sqw s).1=39::r:=by
  unfold sqw at h ⊢
  split at h
  ·cases h
  ·rename_i hw
   rw[if_neg hw]
   exact⟨_,rfl⟩
 refine⟨?_,he⟩
 obtain⟨r,hr⟩:=he
 unfold textY singleY
 rw[hb,hr]
 simp
theorem quoted_back (s:Stp) (hv:validD s=true):(quotedY s).2=0∧textY (quotedY s).1=(s,0)∧ ∃c r,(quotedY s).1=c::r∧(c=34∨c=39):=by
 unfold quotedY
 by_cases hc:cleanB s=true
 ·rw[if_pos hc]
  have h0:=clean_sqw2 hc
  obtain⟨h1,r,h2⟩:=text_sqw s h0
  exact⟨h0,h1,39,r,h2, .inr rfl⟩
 ·rw[if_neg hc]
  have hq:safeL (quoteL s).1=qS s:=by rw[safe_eq,safe_quote s hv]
  refine⟨by unfold quoteL;rw[if_pos hv],?_⟩
  simp only[]
  rw[hq]
  exact⟨text_qS s hv,34,_,rfl, .inl rfl⟩
theorem read_quoted {t s:Stp} (h:textY t=(s,0)) (hc: ∃c r,t=c::r∧(c=34∨c=39)):readY t=(strT s,0)∧keyRd t=(s,0):=by
 obtain⟨c,r,rfl,hq⟩:=hc
 unfold readY keyRd
 simp only[]
 rw[if_pos hq,if_pos hq,h]
 simp
theorem valid_ascii: ∀(l:Stp),(∀c∈l,c.toNat<128)→validD l=true
 | [],_=>by decide
 | c::r,h=>by
  have hc:=h c (by simp)
  have e:=encode_one c hc
  have hr:okRune (c.toNat:Int):=by unfold okRune;omega
  have:=validD_rune (c.toNat:Int) hr r
  rw[e] at this
  rw[show c::r= [c]++r from rfl,this]
  exact valid_ascii r (fun d hd=>h d (by simp[hd]))
theorem key_back (s:Stp) (hv:validD s=true):(keyY s).2=0∧keyRd (keyY s).1=(s,0):=by
 refine⟨key_ok2 hv,?_⟩
 unfold keyY
 rw[if_pos hv]
 by_cases hb:bareB s=true
 ·rw[if_pos hb];exact key_bare hb
 ·rw[if_neg hb]
  obtain⟨_,q1,q2⟩:=quoted_back s hv
  exact(read_quoted q1 q2).2
theorem key_no {s:Stp} (hv: ¬validD s=true):keyY s=([],2):=by unfold keyY;rw[if_neg hv]
theorem sqw_len2 (s:Stp):(sqw s).1.length≤2*s.length+2:=by
 unfold sqw
 split
 ·simp
 ·have:=(dbl_len s).2
  simp only[List.length_cons,List.length_append,List.length_nil]
  omega
theorem textL_len2 (n:Num) (h:n.dig.length≤1000) (he: -1000000≤n.exp∧n.exp≤1000000):(textL n).length≤1100:=by
 have hi:=itoa_len n.exp (by omega)
 unfold textL
 split
 ·simp
 ·split
  ·simp
  ·split<;>split<;>simp<;>omega
theorem parse_text_len (s:Stp) (h:(parseL s).2=0):(textL (parseL s).1).length≤1100:=by
 have hr:=rightB_bd (parseL_right (l:=s) (n:=(parseL s).1) (Prod.ext rfl h))
 exact textL_len2 _ hr.1 hr.2
theorem readR_len2: ∀(f:Nat) (l:List UInt8) (i:Nat) (acc:List UInt8),(readGo f l i acc).1.length≤acc.length+4*l.length
 | 0,_,_,_=>by simp[readGo]
 | _+1,[],_,_=>by simp[readGo]
 | f+1,c::r,i,acc=>by
  unfold readGo
  split
  ·simp
  ·split
   ·simp
   ·rename_i h
    have hp:=partL_bd (c::r) (List.cons_ne_nil _ _)
    obtain⟨P,hP⟩: ∃P,partL (c::r)=P:=⟨_,rfl⟩
    rw[hP] at hp h ⊢
    have:=readR_len2 f ((c::r).drop P.2.toNat) (i+P.2.toNat) (acc++encodeRune P.1)
    have h4:=Lib.runeCells_le P.1
    rw[Lib.runeCells_length] at h4
    rw[List.length_drop,List.length_append] at this
    omega
theorem unqL_len2 (l:List UInt8):(unqL l).1.length≤4*(l.length-1):=by
 have h:(readL l 0).1.length≤4*(l.length-1):=by
  unfold readL
  split
  ·have:=readR_len2 (l.length+1) (l.drop ((0:Int).toNat+1)) ((0:Int).toNat+1) []
   rw[List.length_drop] at this
   simp only[List.length_nil] at this
   have e0:(0:Int).toNat=0:=rfl
   rw[e0] at this
   rw[e0]
   omega
  ·simp
 unfold unqL
 split
 ·simp
 ·exact h
theorem parse_nought (s:Stp) (he:(parseL s).2≠0):(parseL s).1=nought:=by
 unfold parseL at he ⊢
 cases hl:litOf s with
 | none=>rfl
 | some x=>
  rw[hl] at he
  simp only[] at he ⊢
  obtain⟨q,hq⟩: ∃q,parseLit x=q:=⟨_,rfl⟩
  rw[hq] at he ⊢
  unfold parseLit at hq
  simp only[] at hq
  (repeat' split at hq)<;>subst hq<;>first | rfl | exact absurd rfl he
end Go.Proofs.YtlibkhbachmcgaaGreatDoor
namespace Go.Proofs.YtlibkhbachmcgaaGreatDoor
set_option linter.unusedSimpArgs false
set_option linter.unusedVariables false
open Go.Lib
theorem textV_len3 (txt:Stp) (ht:txt.length≤65536) (kd:Nat) (sp:Sp):(textV kd (slT txt sp)).length≤262144:=by
 have hl:=slT_len txt sp
 unfold textV
 split
 ·omega
 ·split
  ·by_cases he:(parseL (slT txt sp)).2=0
   ·have:=parse_text_len (slT txt sp) he
    omega
   ·have hz:(parseL (slT txt sp)).1=nought:=parse_nought _ he
    rw[hz]
    decide+kernel
  ·split
   ·have:=unqL_len2 (slT txt sp)
    omega
   ·simp
theorem keyV_len3 (txt:Stp) (ns:List NodeD) (ht:txt.length≤65536) (k:Nat):(keyV txt ns k).length≤262144:=by
 unfold keyV
 split
 ·have:=unqL_len2 (slT txt (by assumption:NodeD).key)
  have h2:=slT_len txt (by assumption:NodeD).key
  omega
 ·simp
theorem readJ_bulk3 (t:Stp) (ht:t.length≤65536):(readJ t).1.bulk≤1099511627776:=by
 unfold readJ
 by_cases he:(parseJ t).2.2=0
 ·rw[if_neg (by simp[he])]
  obtain⟨⟨ns,at_,er⟩,hP⟩: ∃P,parseJ t=P:=⟨_,rfl⟩
  rw[hP] at he
  change er=0 at he
  subst he
  have hT:=parse_tree hP
  have hN:=parse_few t
  rw[hP] at hN ⊢
  simp only[] at hN ⊢
  have:=node_bulk t ns 262144 (textV_len3 t ht) (keyV_len3 t ns ht) 32 0 ns.length hT
  have h2:(ns.length-0)*(2*262144+2)≤65536*524290:=Nat.mul_le_mul (by omega) (by omega)
  omega
 ·rw[if_pos he]
  show zeroT.bulk≤_
  decide+kernel
theorem resT_bulk3 (s:Stp) (h:s.length≤65536):(resT s).bulk≤1099511627776:=by
 unfold resT
 rw[VT.bulk]
 simp only[bulks,totS,List.map_nil,List.sum_nil,List.length_nil]
 unfold resP
 split
 ·simp
 ·split
  ·simp only[];omega
  ·split
   ·rename_i he
    have:=parse_text_len s he
    simp only[];omega
   ·simp only[];omega
theorem sqGo_len3: ∀(f:Nat) (l:Stp) (i:Nat) (acc:Stp),(sqGo f l i acc).1.length≤acc.length+l.length
 | 0,l,i,acc=>by simp[sqGo]
 | _+1,[],i,acc=>by simp[sqGo]
 | f +1,c::r,i,acc=>by
  rw[sqGo_cons]
  have h1:=sqGo_len3 f (r.drop 1) (i+2) (acc++ [39])
  have h2:=sqGo_len3 f ((c::r).drop (decodeL (c::r)).2) (i+(decodeL (c::r)).2) (acc++(c::r).take (decodeL (c::r)).2)
  have hd:=decodeL_le (c::r) (List.cons_ne_nil _ _)
  rw[List.length_append,List.length_drop] at h1 h2
  rw[List.length_take] at h2
  simp only[List.length_singleton,List.length_cons,List.length_nil] at h1 h2 hd ⊢
  split
  ·split
   ·rename_i hh
    have hr:1≤r.length:=by
     cases r with
     | nil=>simp at hh
     | cons _ _=>simp
    omega
   ·simp only[];omega
  ·split
   ·simp
   ·omega
theorem textY_len3 (t:Stp):(textY t).1.length≤4*t.length:=by
 unfold textY
 split
 ·unfold singleY
  split
  ·simp
  ·simp only[]
   unfold sqL
   split
   ·simp
   ·split
    ·have:=sqGo_len3 (t.length+1) (t.drop ((0:Int).toNat+1)) ((0:Int).toNat+1) []
     rw[List.length_drop] at this
     simp only[List.length_nil] at this
     omega
    ·simp
 ·have:=unqL_len2 t
  simp only[]
  omega
theorem readY_bulk3 (t:Stp) (h:t.length≤65536):(readY t).1.bulk≤1099511627776:=by
 have hz:zeroT.bulk≤1099511627776:=by decide+kernel
 unfold readY
 split
 ·exact resT_bulk3 [] (by simp)
 ·rename_i c r
  split
  ·split
   ·exact hz
   ·have:=textY_len3 (c::r)
    show (strT _).bulk≤_
    unfold strT
    rw[VT.bulk]
    simp only[bulks,totS,List.map_nil,List.sum_nil,List.length_nil]
    omega
  ·split
   ·exact readJ_bulk3 _ h
   ·split
    ·exact resT_bulk3 _ h
    ·exact hz
end Go.Proofs.YtlibkhbachmcgaaGreatDoor
namespace Go.Proofs.YtlibkhbachmcgaaGreatDoor
set_option linter.unusedSimpArgs false
set_option linter.unusedVariables false
open Go.RowKit
open Go.Lib hiding intOf
def PhT (W0:World) (P t2:Nat):Nat→Value→World→Prop
 | 0,_,w'=>Below W0.heap.size W0 w'
 | _,_,w'=> ∃w1,Below W0.heap.size W0 w1∧w'=w1.setCell ⟨P,4,none⟩ (.int .i64 (t2:Int))
theorem PhT.keep {W0 w' w2:World}{P t2:Nat}{c:Value} (h:PhT W0 P t2 0 c w') (hb:Below w'.heap.size w' w2):PhT W0 P t2 0 c w2:=below_of_new (show Below W0.heap.size W0 w' from h) hb
theorem slI_len (s:Stp) (a b:Int):(slI s a b).length≤s.length:=by
 unfold slI
 rw[List.length_take,List.length_drop]
 omega
theorem yrest_any {Pr:Frm}{w0:World}{P:Nat}{txt:Stp}{sp:List (Nat×Nat)}{st:YS} (k:Nat) (kf kt:Int) (lv:Nat) (lev:Int) (w:World) (h:YJ YP Pr w0 P txt sp st 0 0 w) (hkl:k<st.lines.length) (hw:WfS txt sp st) (hl:Hid (lev=33-(lv:Int))) (hlv:lv≤32) (hsp:SpOk txt sp) (hs:txt.length≤65536) (hn:sp.length≤131072) (hV:AVar w0):
  Calls Tryz.prog 108 #[.pointer (some ⟨P,0,none⟩), .int .i64 (k:Int), .int .i64 lev, .agg #[.int .i64 kf, .int .i64 kt]] w (YRE YP Pr w0 P txt sp (restM txt lv k kf kt st)):=by
 obtain⟨R,hR⟩: ∃R,restM txt lv k kf kt st=R:=⟨_,rfl⟩
 rw[hR]
 unfold restM at hR
 have hln:=lnAt_get hkl
 obtain⟨r,hr⟩: ∃r,lnAt st.lines k=r:=⟨_,rfl⟩
 rw[hr] at hln hR
 have hll:=hw.ls.1
 have hnt:=hw.tot
 have hrk:=hw.ls.2 k hkl
 rw[hr] at hrk
 obtain⟨n,hn2⟩: ∃n,st.lines.length=n:=⟨_,rfl⟩
 have b1:=below_alloc1 w (.cells #[.int .i64 kf, .int .i64 kt] 42)
 have hX1:=heap_alloc_new w (.cells #[.int .i64 kf, .int .i64 kt] 42)
 have hp1:=h.put b1 (Nat.le_refl _) hX1
 have hl1: ∀q o,Pr q=some o→(Pr.put w.heap.size (.cells #[.int .i64 kf, .int .i64 kt] 42)) q=some o:=Frm.put_less (fun q o hq=>h.frLt q o hq) (Nat.le_refl _)
 obtain⟨X1,hX1e⟩: ∃X,w.heap.size=X:=⟨_,rfl⟩
 obtain⟨W1,hW1⟩: ∃W,w.alloc (.cells #[.int .i64 kf, .int .i64 kt] 42)=W:=⟨_,rfl⟩
 rw[hW1] at hX1 hp1
 rw[hX1e] at hX1 hp1 hl1
 have b2:=below_alloc1 W1 (.cells (lineA r) 51)
 have hX2:=heap_alloc_new W1 (.cells (lineA r) 51)
 have hp2:=hp1.put b2 (Nat.le_refl _) hX2
 have hl2: ∀q o,(Pr.put X1 (.cells #[.int .i64 kf, .int .i64 kt] 42)) q=some o→((Pr.put X1 (.cells #[.int .i64 kf, .int .i64 kt] 42)).put W1.heap.size (.cells (lineA r) 51)) q=some o:=Frm.put_less (fun q o hq=>hp1.frLt q o hq) (Nat.le_refl _)
 have hX1':(W1.alloc (.cells (lineA r) 51)).heap[X1]?=some (.cells #[.int .i64 kf, .int .i64 kt] 42):=(b2.block _ (cell_it hX1)).trans hX1
 obtain⟨z,sv,lvv,nv,hz,hK⟩:=hp1
 obtain⟨gl,cl,e9,_,hcell⟩:=hK.lineAt hln
 subst e9
 obtain⟨⟨_,_,c2,_⟩,_⟩:=hK.cells
 have hPl:=hK.lt
 have g0:=hcell 0 _ (by omega) rfl
 have g1:=hcell 1 _ (by omega) rfl
 have g2:=hcell 2 _ (by omega) rfl
 have g3:=hcell 3 _ (by omega) rfl
 have g4:=hcell 4 _ (by omega) rfl
 have g5:=hcell 5 _ (by omega) rfl
 have g6:=hcell 6 _ (by omega) rfl
 have g7:=hcell 7 _ (by omega) rfl
 have g8:=hcell 8 _ (by omega) rfl
 have g9:=hcell 9 _ (by omega) rfl
 simp only[Nat.add_zero] at g0
 rw[hn2] at c2
 have hk0:(0:Int)≤(k:Int):=by omega
 have hk1:(k:Int)<(n:Int):=by omega
 obtain⟨X2,hX2f⟩: ∃X,W1.heap.size=X:=⟨_,rfl⟩
 obtain⟨W2,hW2⟩: ∃W,W1.alloc (.cells (lineA r) 51)=W:=⟨_,rfl⟩
 rw[hW2] at hp2 hX2 hX1'
 rw[hX2f] at hp2 hX2 hl2
 unfold lineA at hW2
 have HP2:=hid hp2
 have HX12:=hid (And.intro hX1' hX2)
 have HLess:=hid (fun q o hq=>hl2 q o (hl1 q o hq))
 have HR:=hid hR
 have HW:=hid hw
 have HSP:=hid hsp
 have HK:=hid (And.intro hr hln)
 have HN2:=hid hn2
 clear hK hz hcell hp2 hX1 hX1' hX2 b1 b2 hl1 hl2 hR hw hsp hln hr h
 obtain⟨A,hA⟩: ∃A,addM ⟨1,r.ind,k,k+1,kf,kt,r.rf,r.rt,[]⟩ lv r.rf st=A:=⟨_,rfl⟩
 obtain⟨k1,hk1e⟩: ∃k1,k+1=k1:=⟨_,rfl⟩
 have hk1z:(k:Int)+1=(k1:Int):=by omega
 rw[hk1e] at hA
 have HK1:=hid hk1e
 obtain⟨Pr2,hPr2⟩: ∃Pr2:Frm,((Pr.put X1 (.cells #[.int .i64 kf, .int .i64 kt] 42)).put X2 (.cells (lineA r) 51))=Pr2:=⟨_,rfl⟩
 have HX2P:=hid (Frm.put_eq (Pr.put X1 (.cells #[.int .i64 kf, .int .i64 kt] 42)) X2 (.cells (lineA r) 51))
 rw[hPr2] at HX2P HP2 HLess
 have CA:Hid (∀w',YJ YP Pr2 w0 P txt sp st 0 0 w'→Calls Tryz.prog 110 #[.pointer (some ⟨P,0,none⟩), .agg #[.int .i64 1, .int .i64 r.ind, .int .i64 (k:Int), .int .i64 (k1:Int), .int .i64 kf, .int .i64 kt, .int .i64 r.rf, .int .i64 r.rt, .slice none 0 0], .int .i64 lev, .int .i64 r.rf] w' (YRE YP Pr2 w0 P txt sp A)):=hid (fun w' hj=>by
  have:=yadd_any (Pr:=Pr2) ⟨1,r.ind,k,k1,kf,kt,r.rf,r.rt,[]⟩ lv lev r.rf w' hj rfl hl hlv (by omega)
  rw[hA] at this
  exact this)
 have HA:=hid hA
 obtain⟨y0,y1⟩:=cells_span HX12.out.1
 have hlz2:LineBox W2 X2 r:=HX12.out.2
 obtain⟨l0,l1,l2,l3,l4,l5,l6,l7,l8,l9,_⟩:=hlz2.cells
 clear hA hPr2 hk1e hlz2
 go_enter Tryz.func108,Tryz.ntmps108
 go_upto_region 2 with fail
 clear hW1 hX1e hW2 hX2f c2 g0 g1 g2 g3 g4 g5 g6 g7 g8 g9 hPl
 cases A with
 | bad a e=>
  have hR:=HR.out
  rw[HK1.out,HA.out] at hR
  have HR2:Hid (YR.bad a e=R):=hid hR
  clear hR
  go_wp2_with fail
  refine(CA.out _ (by first | exact HP2.out | exact HP2.out.keep (Below.refl _ _).drew)).mono ?_
  rintro e w4 ⟨⟨m,rfl⟩,hbad⟩
  have HF:=hid (hbad.less HLess.out)
  clear hbad
  go_wp2_with fail
  go_ret2
  rw[←HR2.out]
  exact⟨⟨_,rfl⟩,HF.out⟩
 | ok nn s1=>
  obtain⟨e1,e2,h0lv,h4t⟩:=addM_ok HA.out
  subst e2
  have hR:=HR.out
  rw[HK1.out,HA.out] at hR
  simp only[] at hR
  obtain⟨ns,hns⟩: ∃ns,st.nodes++ [⟨1,r.ind,k,k1,kf,kt,r.rf,r.rt,[]⟩]=ns:=⟨_,rfl⟩
  rw[hns] at hR CA
  obtain⟨tot,htot⟩: ∃tot,st.total+1=tot:=⟨_,rfl⟩
  rw[htot] at hR CA
  have htot4:tot≤4096:=by omega
  obtain⟨⟨T,er⟩,hT⟩: ∃T,readY (slI txt r.rf r.rt)=T:=⟨_,rfl⟩
  rw[hT] at hR
  simp only[] at hR
  have hbulk:=readY_bulk3 (slI txt r.rf r.rt) (Nat.le_trans (slI_len _ _ _) hs)
  rw[hT] at hbulk
  simp only[] at hbulk
  have hsz:=size_le_bulk T
  have hsp1:=size_pos T
  have hdz:=depth_le_size T
  have HR3:=hid hR
  have CRd:Hid (∀w',AVar w'→Calls Tryz.prog 63 #[.string (bs (slI txt r.rf r.rt))] w' (NewE2 T er w')):=hid (fun w' hv=>by
   have:=yread_any (slI txt r.rf r.rt) w' (by have:=slI_len txt r.rf r.rt;omega) hv
   rw[hT] at this
   exact this)
  obtain⟨q1,q2,q3⟩:=hrk.rst
  have CBy:Hid (∀w',YJ YP Pr2 w0 P txt sp ⟨st.lines,ns,tot⟩ 0 0 w'→Calls Tryz.prog 155 #[.pointer (some ⟨P,0,none⟩), .agg #[.int .i64 r.rf, .int .i64 r.rt]] w' fun e w2=>e= .returned (.string (bs (slI txt r.rf r.rt)))∧Below w'.heap.size w' w2):=hid (fun w' hj=>ybytes_any r.rf r.rt w' hj q1 q2 q3 (by omega))
  have HNN:=hid e1
  clear hR hT e1 hns htot q1 q2 q3
  go_wp2_with fail
  refine(CA.out _ (by first | exact HP2.out | exact HP2.out.keep (Below.refl _ _).drew)).mono ?_
  rintro e w4 ⟨rfl,hj4⟩
  have HJ4:=hid hj4
  have hlz:LineBox w4 X2 r:=hj4.at_ HX2P.out
  obtain⟨l0,l1,l2,l3,l4,l5,l6,l7,l8,l9,_⟩:=hlz.cells
  clear hj4 hlz y0 y1
  go_wp2_with fail
  refine(CBy.out _ (by first | exact HJ4.out | exact HJ4.out.keep (Below.refl _ _).drew)).mono ?_
  rintro e w5 ⟨rfl,hb5⟩
  have HJ5:=hid (HJ4.out.keep hb5)
  clear hb5 l0 l1 l2 l3 l4 l5 l6 l7 l8 l9
  go_wp2_with fail
  refine(CRd.out _ (hV.keep HJ5.out.bel)).mono ?_
  rintro e w6 ⟨⟨kv,iv,rfl,hv6⟩,hb6⟩
  have HJ6:=hid (HJ5.out.keep hb6)
  obtain⟨pk,ck,pi,ci,rfl,rfl⟩:=hv6.toVD.form
  obtain⟨V,hVe⟩: ∃V,w6.heap.size=V:=⟨_,rfl⟩
  have b7:=below_alloc1 w6 (.cells #[.int .i64 T.kind, .string (bs T.text), .slice pk T.keys.length ck, .slice pi T.items.length ci] 36)
  have hV7:=heap_alloc_new w6 (.cells #[.int .i64 T.kind, .string (bs T.text), .slice pk T.keys.length ck, .slice pi T.items.length ci] 36)
  obtain⟨W7,hW7⟩: ∃W,w6.alloc (.cells #[.int .i64 T.kind, .string (bs T.text), .slice pk T.keys.length ck, .slice pi T.items.length ci] 36)=W:=⟨_,rfl⟩
  rw[hW7] at b7 hV7
  rw[hVe] at hV7
  have HJ7:=hid (HJ6.out.keep b7)
  have HV7:=hid hV7
  have HVX:=hid (hv6.keep b7)
  have HP5:=hid HJ5.out.lt
  unfold vv
  clear hb6 b7 hV7 hv6
  by_cases h0:er=0
  rotate_left
  ·have hR:=HR3.out
   rw[if_pos h0] at hR
   have HR4:Hid (YR.bad r.rf er=R):=hid hR
   have d0:(er !=0)=true:=by simpa using h0
   have CF:=hid (fun w' hj=>yfail_any (Pr:=Pr2) (w0:=w0) (P:=P) (txt:=txt) (sp:=sp) (st:=⟨st.lines,ns,tot⟩) (a0:=0) (e0:=0) r.rf er w' hj)
   clear hR h0
   go_wp2_with fail
   refine(CF.out _ (by first | exact HJ7.out | exact HJ7.out.keep (Below.refl _ _).drew)).mono ?_
   rintro e w8 ⟨rfl,hj8⟩
   have HF:=hid (hj8.less HLess.out).bad
   clear hj8
   go_wp2_with fail
   go_ret2
   rw[←HR4.out]
   exact⟨⟨_,rfl⟩,HF.out⟩
  subst h0
  have hR:=HR3.out
  rw[if_neg (by simp)] at hR
  have HR4:=hid hR
  obtain⟨s1,hs1⟩: ∃s1,T.size-1=s1:=⟨_,rfl⟩
  have hs1z:(T.size:Int)-1=(s1:Int):=by omega
  have hs1w:IntKind.i64.wrap ((T.size:Int)-1)=(s1:Int):=by rw[hs1z,IntKind.wrap_i64];omega
  have hs1x:IntKind.i64.wrap (s1:Int)=(s1:Int):=by rw[IntKind.wrap_i64];omega
  obtain⟨t2,ht2⟩: ∃t2,tot+s1=t2:=⟨_,rfl⟩
  have ht2z:(tot:Int)+(s1:Int)=(t2:Int):=by omega
  have ht2w:IntKind.i64.wrap ((tot:Int)+(s1:Int))=(t2:Int):=by rw[ht2z,IntKind.wrap_i64];omega
  have ht2x:IntKind.i64.wrap (t2:Int)=(t2:Int):=by rw[IntKind.wrap_i64];omega
  have HT2:Hid (tot+T.size-1=t2):=hid (by omega)
  have ht2b:t2≤1099511631872:=by omega
  clear hR hs1 ht2
  obtain⟨W3,hW3⟩: ∃W,W7.drew=W:=⟨_,rfl⟩
  have hb73:Below W7.heap.size W7 W3:=by rw[←hW3];exact(Below.refl _ _).drew
  have HJ3:=hid (HJ7.out.keep hb73)
  have HV3:=hid ((hb73.block _ (cell_it HV7.out)).trans HV7.out)
  have HVX3:=hid (HVX.out.keep hb73)
  have HVD3:=hid (HVX3.out.toVD)
  have CSz:Hid (∀w',Below W3.heap.size W3 w'→Calls Tryz.prog 22 #[.agg #[.int .i64 T.kind, .string (bs T.text), .slice pk T.keys.length ck, .slice pi T.items.length ci]] w' fun e w2=>e= .returned (.int .i64 (T.size:Int))∧Below w'.heap.size w' w2):=hid (fun w' hb=>vsize_any _ T (.slice pk T.keys.length ck) (.slice pi T.items.length ci) w' (HVD3.out.keep hb) hbulk)
  obtain⟨SA,hSA⟩: ∃S:World→Prop,(fun w'=>(w'.cell? ⟨P,4,none⟩=some (.int .i64 (tot:Int))∧w'.frozen? ⟨P,4,none⟩=false)∧w'.cell? ⟨V,0,none⟩=some (.int .i64 T.kind)∧w'.cell? ⟨V,1,none⟩=some (.string (bs T.text))∧w'.cell? ⟨V,2,none⟩=some (.slice pk T.keys.length ck)∧w'.cell? ⟨V,3,none⟩=some (.slice pi T.items.length ci))=S:=⟨_,rfl⟩
  have HSA:Hid (∀w',Below W3.heap.size W3 w'→SA w'):=hid (fun w' hb=>by
   rw[←hSA]
   obtain⟨z,sv,lvv,nv,hz,hK⟩:=HJ3.out.keep hb
   obtain⟨⟨_,_,_,_,c4,_⟩,_,_,f4,_⟩:=hK.cells
   have hv:=(hb.block _ (cell_it HV3.out)).trans HV3.out
   obtain⟨y0,y1,y2,y3,_⟩:=box4 hv
   exact⟨⟨c4,f4⟩,y0,y1,y2,y3⟩)
  clear hb73
  go_upto_region 9 with fail
  clear hW7 hVe
  have hfol:Tryz.prog.follows .mixedOrders=true:=by kernel_rfl
  refine wp_region_rcf3 hfol [some 58,some 59,some 60,some 61,some 62,some 63,some 64,some 65,some 66,some 67,none] [58,59,60,61,62,63,64,65,66,67] [10] 1000000 (fun _ _=>True) 88 rfl (by kernel_rfl) (by kernel_rfl) (by kernel_rfl) (fun iz=>match iz with | 0=> .pointer (some ⟨P,0,none⟩) | 1=> .pointer (some ⟨P,0,none⟩) | 2=> .pointer (some ⟨P,4,none⟩) | 3=> .int .i64 (tot:Int) | 4=> .agg #[.int .i64 T.kind, .string (bs T.text), .slice pk T.keys.length ck, .slice pi T.items.length ci] | 5=> .int .i64 (T.size:Int) | 6=> .int .i64 (s1:Int) | 7=> .int .i64 (t2:Int) | 8=> .pointer (some ⟨P,0,none⟩) | 9=> .pointer (some ⟨P,4,none⟩) | _=>undef) SA (PhT W3 P t2) (by rw[hW3];exact HSA.out _ (Below.refl _ _)) (by rw[hW3];exact Below.refl _ _) ?_ ?_
  ·intro d a w' iq o' ho hi hall hfr hF R' hR
   have hiN:iq<11:=(Array.getElem?_eq_some_iff.1 ho).1
   have q0:a.tmps[0]?.getD undef= .pointer (some ⟨P,0,none⟩):=fr_q hfr 0 (by decide)
   have q14:a.tmps[14]?.getD undef= .pointer (some ⟨V,0,none⟩):=fr_q hfr 14 (by decide)
   have hc:=hF.all [(0,58),(1,59),(2,60),(3,61),(4,62),(5,63),(6,64),(7,65),(8,66),(9,67)] (by decide)
   dsimp only[AllP] at hc
   clear hfr
   have ha:=hall
   have hoo:=ho
   have hcs:iq=5∨iq=10∨iq=0∨iq=1∨iq=2∨iq=6∨iq=7∨iq=8∨iq=9∨iq=3∨iq=4:=by omega
   clear hiN
   rcases hcs with rfl | rfl | rfl | rfl | rfl | rfl | rfl | rfl | rfl | rfl | rfl<;>simp only[List.getElem?_toArray,List.getElem?_cons_zero,List.getElem?_cons_succ,Option.some.injEq] at ho<;>subst ho<;>(try simp[Region.binds] at hall)
   ·have c62:=hF.g 4 62 rfl (by decide) (by decide) (by decide) (by simp[hall])
    have hA:Below W3.heap.size W3 w':=hF.at2 (j:=0) rfl (hF.lastNot (f:=11) (i:=5) (by kernel_rfl) hi) (.inl rfl)
    go_simp
    go_at_call 22
    refine(CSz.out _ hA).mono ?_
    rintro e w5 ⟨rfl,hb5⟩
    exact hR _ _ (hF.quiet (by kernel_rfl) hoo ha rfl (by decide) (by decide) (by decide) rfl (hF.lastNot (f:=11) (i:=5) (by kernel_rfl) hi) (fun _=>HSA.out _ (below_of_new hA hb5)) (fun k c hk hp=>by obtain rfl:k=0:=(by simp at hk;omega);exact PhT.keep hp hb5) (fun x hx=>hx))
   ·have c65:=hF.g 7 65 rfl (by decide) (by decide) (by decide) (by simp[hall])
    have c67:=hF.g 9 67 rfl (by decide) (by decide) (by decide) (by simp[hall])
    have hP0:=hF.at2 (j:=0) rfl hi (.inl rfl)
    have hS0:=hF.st hi
    rw[←hSA] at hS0
    obtain⟨⟨p4,p4f⟩,v0,v1,v2,v3⟩:=hS0
    have hA:Below W3.heap.size W3 w':=hP0
    go_simp
    exact hR undef _ (hF.eff2 (by kernel_rfl) (by decide) 0 hoo ha rfl hi (.inl rfl) rfl (by decide) (fun _ _ _=>trivial) (fun h=>absurd rfl h) ⟨w',hA,rfl⟩)
   iterate 7 (go_simp;exact hR _ _ (hF.pure (by kernel_rfl) hoo ha rfl (by decide) (by decide) (by decide) rfl))
   all_goals
    have hS0:=hF.early (f:=11) (by kernel_rfl) hi
    rw[←hSA] at hS0
    obtain⟨⟨p4,p4f⟩,v0,v1,v2,v3⟩:=hS0
    go_simp
    exact hR _ _ (hF.pure (by kernel_rfl) hoo ha rfl (by decide) (by decide) (by decide) rfl)
  intro v wz hcl hP1
  obtain⟨w8,hb8,hw8⟩:=hP1
  have hj8:YJ YP Pr2 w0 P txt sp ⟨st.lines,ns,t2⟩ 0 0 wz:=by
   obtain⟨z,sv,lvv,nv,hz,hK⟩:=HJ3.out.keep hb8
   rw[hw8]
   exact⟨z,sv,lvv,nv,hz,hK.count t2⟩
  have hv8:wz.heap[V]?=some (.cells #[.int .i64 T.kind, .string (bs T.text), .slice pk T.keys.length ck, .slice pi T.items.length ci] 36):=by
   rw[hw8]
   have hne:V≠P:=by
    intro e
    obtain⟨z,sv,lvv,nv,hz,hK⟩:=HJ3.out
    have hb:=hK.box
    rw[←e,HV3.out] at hb
    injection hb with hb
    injection hb with _ hb
    exact absurd hb (by decide)
   rw[Below.heap_setCell w8 ⟨P,4,none⟩ _ V hne]
   exact(hb8.block _ (cell_it HV3.out)).trans HV3.out
  have hvd8:VD wz T.depth T (.slice pk T.keys.length ck) (.slice pi T.items.length ci):=by
   have h1:=HVX3.out.keep hb8
   refine VDx.toVD (ok:=fun _=>True) (h1.agree (fun q hq hql=>⟨?_,trivial⟩))
   rw[hw8]
   exact Below.heap_setCell w8 ⟨P,4,none⟩ _ q (by have:=HP5.out;simp only[];omega)
  have HJ8:=hid hj8
  have HV8:=hid hv8
  have HVD8:=hid hvd8
  have CDp:Hid (∀w',Below wz.heap.size wz w'→Calls Tryz.prog 77 #[.agg #[.int .i64 T.kind, .string (bs T.text), .slice pk T.keys.length ck, .slice pi T.items.length ci]] w' fun e w2=>e= .returned (.int .i64 (T.depth:Int))∧Below w'.heap.size w' w2):=hid (fun w' hb=>vdepth_any _ T (.slice pk T.keys.length ck) (.slice pi T.items.length ci) w' (HVD8.out.keep hb) hbulk)
  obtain⟨y0,y1,y2,y3,_⟩:=box4 hv8
  clear hcl hb8 hw8 hj8 hv8 hvd8 hSA HSA CSz
  simp only[fillT,List.setIfInBounds_toArray,List.set_cons_succ,List.set_cons_zero]
  have hlev:=hl.out
  have hR:=HR4.out
  rw[HT2.out] at hR
  obtain⟨dp,hdp⟩: ∃dp,T.depth=dp:=⟨_,rfl⟩
  rw[hdp] at hR CDp
  have hdpb:dp≤1099511627776:=by omega
  obtain⟨ld,hld⟩: ∃ld,lev+(dp:Int)=ld:=⟨_,rfl⟩
  have hldw:IntKind.i64.wrap ld=ld:=by rw[IntKind.wrap_i64];omega
  obtain⟨l1,hl1⟩: ∃l1,ld-1=l1:=⟨_,rfl⟩
  have hl1w:IntKind.i64.wrap l1=l1:=by rw[IntKind.wrap_i64];omega
  by_cases hd:lv<dp
  ·rw[if_pos hd] at hR
   have HR5:Hid (YR.bad r.rf 5=R):=hid hR
   have d1:decide ((32:Int)<l1)=true:=decide_eq_true (by omega)
   have CF:=hid (fun w' hj=>yfail_any (Pr:=Pr2) (w0:=w0) (P:=P) (txt:=txt) (sp:=sp) (st:=⟨st.lines,ns,t2⟩) (a0:=0) (e0:=0) r.rf 5 w' hj)
   clear hR hd hlev hdp
   go_wp2_with fail
   refine(CDp.out _ (by first | exact Below.refl _ _ | exact(Below.refl _ _).drew)).mono ?_
   rintro e w9 ⟨rfl,hb9⟩
   have HJ9:=hid (HJ8.out.keep (by first | exact hb9 | exact below_of_new (Below.refl _ _).drew hb9))
   clear hb9
   go_wp2_with fail
   refine(CF.out _ (by first | exact HJ9.out | exact HJ9.out.keep (Below.refl _ _).drew)).mono ?_
   rintro e w10 ⟨rfl,hj10⟩
   have HF:=hid (hj10.less HLess.out).bad
   clear hj10
   go_wp2_with fail
   go_ret2
   rw[←HR5.out]
   exact⟨⟨_,rfl⟩,HF.out⟩
  rw[if_neg hd] at hR
  have d1:decide ((32:Int)<l1)=false:=decide_eq_false (by omega)
  by_cases ht:4096<t2
  ·rw[if_pos ht] at hR
   have HR5:Hid (YR.bad r.rf 6=R):=hid hR
   have d2:decide ((4096:Int)<(t2:Int))=true:=decide_eq_true (by omega)
   have CF:=hid (fun w' hj=>yfail_any (Pr:=Pr2) (w0:=w0) (P:=P) (txt:=txt) (sp:=sp) (st:=⟨st.lines,ns,t2⟩) (a0:=0) (e0:=0) r.rf 6 w' hj)
   clear hR hd hlev hdp ht
   go_wp2_with fail
   refine(CDp.out _ (by first | exact Below.refl _ _ | exact(Below.refl _ _).drew)).mono ?_
   rintro e w9 ⟨rfl,hb9⟩
   have HJ9:=hid (HJ8.out.keep (by first | exact hb9 | exact below_of_new (Below.refl _ _).drew hb9))
   clear hb9
   obtain⟨z,sv,lvv,nv,hz,hK⟩:=HJ9.out
   have c4:=hK.cells.1.2.2.2.2.1
   have hPl:=hK.lt
   clear hK hz
   simp only[] at c4
   go_wp2_with fail
   refine(CF.out _ (by first | exact HJ9.out | exact HJ9.out.keep (Below.refl _ _).drew)).mono ?_
   rintro e w10 ⟨rfl,hj10⟩
   have HF:=hid (hj10.less HLess.out).bad
   clear hj10
   go_wp2_with fail
   go_ret2
   rw[←HR5.out]
   exact⟨⟨_,rfl⟩,HF.out⟩
  ·rw[if_neg ht] at hR
   have HR5:=hid hR
   have d2:decide ((4096:Int)<(t2:Int))=false:=decide_eq_false (by omega)
   clear hR hd hlev hdp ht
   go_wp2_with fail
   refine(CDp.out _ (by first | exact Below.refl _ _ | exact(Below.refl _ _).drew)).mono ?_
   rintro e w9 ⟨rfl,hb9⟩
   have HJ9:=hid (HJ8.out.keep (by first | exact hb9 | exact below_of_new (Below.refl _ _).drew hb9))
   clear hb9
   obtain⟨z,sv,lvv,nv,hz,hK⟩:=HJ9.out
   have c4:=hK.cells.1.2.2.2.2.1
   have hPl:=hK.lt
   clear hK hz
   simp only[] at c4
   have HF:=hid (HJ9.out.less HLess.out)
   go_wp2_with fail
   go_ret2
   rw[←HR5.out]
   exact⟨rfl,HF.out⟩
end Go.Proofs.YtlibkhbachmcgaaGreatDoor
