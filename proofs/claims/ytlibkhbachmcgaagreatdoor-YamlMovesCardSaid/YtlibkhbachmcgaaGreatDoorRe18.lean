import Derived.Test.YtlibkhbachmcgaaGreatDoorRe17
import Derived.Test.YtlibkhbachmcgaaGreatDoorRe4
import Derived.Test.YtlibkhbachmcgaaGreatDoorRe15
import Derived.Test.YtlibkhbachmcgaaGreatDoorRe6
import Derived.Test.YtlibkhbachmcgaaGreatDoorRe7
namespace Go.Proofs.YtlibkhbachmcgaaGreatDoor
set_option linter.unusedSimpArgs false
set_option linter.unusedVariables false
open Go.Lib
theorem cutSp_mem: ∀(l:List (Nat×Nat)) (x:Nat×Nat),x∈cutSp l→ ∃y∈l,x.1=y.1∧(x.2=y.2∨x.2=y.2-1∧y∈l.dropLast)
 | [],x,h=>by cases h
 | [y],x,h=>⟨y,by simp,by rw[List.mem_singleton.1 h];simp⟩
 | y::z::r,x,h=>by
  rw[cutSp] at h
  rcases List.mem_cons.1 h with rfl | h
  ·exact⟨y,by simp,rfl, .inr ⟨rfl,by simp⟩⟩
  ·obtain⟨q,h1,h2,h3⟩:=cutSp_mem (z::r) x h
   refine⟨q,List.mem_cons_of_mem _ h1,h2,h3.imp_right fun⟨e,h⟩=>⟨e,?_⟩⟩
   rw[List.dropLast_cons_of_ne_nil (by simp)]
   exact List.mem_cons_of_mem _ h
theorem linesL_in: ∀(l:Stp) (k pos:Nat),k≤pos→(∀x∈linesL l k pos,k≤x.1∧x.1≤x.2∧x.2≤pos+l.length)∧(∀x∈(linesL l k pos).dropLast,x.1<x.2)
 | [],k,pos,h=>by simp[linesL];omega
 | c::t,k,pos,h=>by
  unfold linesL
  split
  ·obtain⟨h1,h2⟩:=linesL_in t (pos+1) (pos+1) (Nat.le_refl _)
   have hne:linesL t (pos+1) (pos+1)≠ []:=fun e=>by have:=(linesL_len t (pos+1) (pos+1)).2;rw[e] at this;simp at this
   refine⟨fun x hx=>?_,fun x hx=>?_⟩
   ·rw[List.length_cons]
    rcases List.mem_cons.1 hx with rfl | hx
    ·simp only[];omega
    ·have:=h1 x hx;omega
   ·rw[List.dropLast_cons_of_ne_nil hne] at hx
    rcases List.mem_cons.1 hx with rfl | hx
    ·simp only[];omega
    ·exact h2 x hx
  ·obtain⟨h1,h2⟩:=linesL_in t k (pos+1) (by omega)
   refine⟨fun x hx=>?_,h2⟩
   have:=h1 x hx
   rw[List.length_cons]
   omega
def SpOk (s:Stp) (sp:List (Nat×Nat)):Prop:= ∀x∈sp,x.1≤x.2∧x.2≤s.length
theorem spY_ok (s:Stp):SpOk s (spY s):=by
 intro x hx
 obtain⟨y,h1,h2,h3⟩:=cutSp_mem _ _ hx
 obtain⟨g1,g2⟩:=linesL_in s 0 0 (Nat.le_refl _)
 have h4:=g1 y h1
 rcases h3 with h3 | ⟨h3,h5⟩
 ·omega
 ·have:=g2 y h5;omega
theorem SpOk.at_ {s:Stp}{sp:List (Nat×Nat)} (h:SpOk s sp) (k:Nat):(spAt sp k).1≤(spAt sp k).2∧(spAt sp k).2≤s.length:=by
 unfold spAt
 cases hk:sp[k]? with
 | none=>exact⟨Nat.le_refl _,Nat.zero_le _⟩
 | some x=>exact h x (List.mem_of_getElem? hk)
structure LnOk (s:Stp) (x:Nat×Nat) (r:LineR):Prop where
 ind:0≤r.ind∧(x.1:Int)+r.ind≤(x.2:Int)∧(x.2:Int)≤(s.length:Int)
 key:0≤r.kf∧r.kf≤r.kt∧r.kt≤(s.length:Int)
 rst:0≤r.rf∧r.rf≤r.rt∧r.rt≤(s.length:Int)
theorem lineL_ok {s:Stp}{x:Nat×Nat} (h1:x.1≤x.2) (h2:x.2≤s.length) (h:(lineL s x.1 x.2).2.2=0):LnOk s x (lineL s x.1 x.2).1:=by
 unfold lineL at h ⊢
 rw[if_neg (by omega)] at h ⊢
 simp only[Int.toNat_natCast,show ((x.2:Int)-(x.1:Int)).toNat=x.2-x.1 by omega] at h ⊢
 obtain⟨t,ht⟩: ∃t,(s.drop x.1).take (x.2-x.1)=t:=⟨_,rfl⟩
 have htl:t.length=x.2-x.1:=by rw[←ht,List.length_take,List.length_drop];omega
 rw[ht] at h ⊢
 split at h
 ·cases h
 ·rename_i h10
  rw[if_neg h10]
  split at h
  ·cases h
  ·rename_i hw
   rw[if_neg hw]
   have hsl:=spL_le t
   cases hc:coreL (t.drop (spL t)) with
   | none=>rw[hc] at h;cases h
   | some c=>
    have hp:=core_parts _ _ hc
    have hul:(t.drop (spL t)).length=t.length-spL t:=List.length_drop
    have ho:=hp.ord
    rw[hul] at ho
    simp only[]
    unfold lineOf
    refine⟨⟨by simp only[];omega,by simp only[];omega,by omega⟩,?_,⟨by simp only[];omega,by simp only[];omega,by simp only[];omega⟩⟩
    simp only[]
    by_cases h4:c.kind=4
    ·have:=(hp.key h4).2.1
     rw[if_pos h4,if_pos h4];omega
    ·rw[if_neg h4,if_neg h4];omega
theorem lineL_er {s:Stp}{x:Nat×Nat} (h1:x.1≤x.2) (h2:x.2≤s.length):0≤(lineL s x.1 x.2).2.1∧(lineL s x.1 x.2).2.1≤(s.length:Int):=by
 unfold lineL
 rw[if_neg (by omega)]
 simp only[Int.toNat_natCast,show ((x.2:Int)-(x.1:Int)).toNat=x.2-x.1 by omega]
 obtain⟨t,ht⟩: ∃t,(s.drop x.1).take (x.2-x.1)=t:=⟨_,rfl⟩
 have htl:t.length=x.2-x.1:=by rw[←ht,List.length_take,List.length_drop];omega
 rw[ht]
 have hsl:=spL_le t
 split
 ·simp only[];omega
 ·split
  ·simp only[];omega
  ·split
   ·simp only[];omega
   ·simp only[];omega
theorem lnAt_some {ls:List LineR}{k:Nat}{r:LineR} (h:ls[k]?=some r):lnAt ls k=r:=by unfold lnAt;rw[h];rfl
theorem lnAt_get {ls:List LineR}{k:Nat} (h:k<ls.length):ls[k]?=some (lnAt ls k):=by unfold lnAt;rw[List.getElem?_eq_getElem h];rfl
theorem lnAt_app {ls more:List LineR}{k:Nat} (h:k<ls.length):lnAt (ls++more) k=lnAt ls k:=by unfold lnAt;rw[List.getElem?_append_left h]
theorem lnAt_new (ls:List LineR) (r:LineR):lnAt (ls++ [r]) ls.length=r:=by unfold lnAt;rw[List.getElem?_append_right (Nat.le_refl _)];simp
theorem spAt_some {sp:List (Nat×Nat)}{k:Nat}{x:Nat×Nat} (h:sp[k]?=some x):spAt sp k=x:=by unfold spAt;rw[h];rfl
def LsOk (s:Stp) (sp:List (Nat×Nat)) (ls:List LineR):Prop:=ls.length≤sp.length∧ ∀k,k<ls.length→LnOk s (spAt sp k) (lnAt ls k)
theorem LsOk.push {s:Stp}{sp:List (Nat×Nat)}{ls:List LineR} (h:LsOk s sp ls) (hl:ls.length<sp.length) {r:LineR} (hr:LnOk s (spAt sp ls.length) r):LsOk s sp (ls++ [r]):=by
 refine⟨by rw[List.length_append,List.length_singleton];omega,fun k hk=>?_⟩
 rw[List.length_append,List.length_singleton] at hk
 by_cases h2:k<ls.length
 ·rw[lnAt_app h2];exact h.2 k h2
 ·obtain rfl:k=ls.length:=by omega
  rw[lnAt_new];exact hr
def blankK (x:LineR):Prop:=x.kind=1∨x.kind=2
theorem blankK.no {x:LineR} (h:blankK x):contentB x=false:=by
 unfold contentB
 rcases h with h | h<;>rw[h]<;>decide
theorem lineL_kind {s:Stp}{x:Nat×Nat} (h:(lineL s x.1 x.2).2.2=0):contentB (lineL s x.1 x.2).1=true∨blankK (lineL s x.1 x.2).1:=by
 unfold lineL at h ⊢
 split at h
 ·cases h
 ·rename_i h0
  rw[if_neg h0]
  simp only[] at h ⊢
  split at h
  ·cases h
  ·rename_i h1
   rw[if_neg h1]
   split at h
   ·cases h
   ·rename_i h2
    rw[if_neg h2]
    split at h
    ·cases h
    ·rename_i c hc
     have:=(core_parts _ _ hc).kind
     simp only[]
     unfold blankK contentB lineOf
     simp only[Bool.and_eq_true,decide_eq_true_eq]
     omega
def Lk (ls:List LineR) (k:Nat):Prop:= ∀i,k≤i→i<ls.length→blankK (lnAt ls i)∨(i+1=ls.length∧contentB (lnAt ls i)=true)
structure NxOk (s:Stp) (sp:List (Nat×Nat)) (k:Nat) (lines:List LineR) (nx:Nat) (ls:List LineR):Prop where
 pre: ∃more,ls=lines++more
 le:k≤nx∧nx≤sp.length
 hit:nx<sp.length→ls.length=nx+1∧contentB (lnAt ls nx)=true
 miss: ∀i,k≤i→i<nx→blankK (lnAt ls i)
 all:nx=sp.length→ls.length=sp.length
 ok:LsOk s sp ls
theorem nextG_ok (s:Stp) (sp:List (Nat×Nat)) (hsp:SpOk s sp): ∀(rest:List (Nat×Nat)) (k:Nat) (lines:List LineR),sp.drop k=rest→k≤sp.length→k≤lines.length→LsOk s sp lines→Lk lines k→
  match nextG s rest k lines with
  | .ok nx ls=>NxOk s sp k lines nx ls
  | .bad a e=>0≤a∧a≤(s.length:Int)∧e≠0
 | [],k,lines,hd,hk,hkl,hok,hl=>by
  have hks:k=sp.length:=by
   have:=congrArg List.length hd
   rw[List.length_drop] at this
   simp at this
   omega
  unfold nextG
  exact⟨⟨[],by simp⟩,⟨Nat.le_refl _,hk⟩,fun h=>by omega,fun i h1 h2=>by omega,fun _=>by have:=hok.1;omega,hok⟩
 | x ::r,k,lines,hd,hk,hkl,hok,hl=>by
  have hk1:k<sp.length:=by
   have:=congrArg List.length hd
   rw[List.length_drop] at this
   simp at this
   omega
  have hx:sp[k]?=some x:=by
   have:=congrArg (fun l=>l[0]?) hd
   simpa using this
  have hd1:sp.drop (k+1)=r:=by
   have:=congrArg List.tail hd
   rw[List.tail_drop] at this
   simpa using this
  obtain⟨x1,x2⟩:=hsp x (List.mem_of_getElem? hx)
  unfold nextG
  have step: ∀(lines':List LineR),(∃m,lines'=lines++m)→k<lines'.length→blankK (lnAt lines' k)→LsOk s sp lines'→Lk lines' (k+1)→
    match nextG s r (k+1) lines' with
    | .ok nx ls=>NxOk s sp k lines nx ls
    | .bad a e=>0≤a∧a≤(s.length:Int)∧e≠0:=by
   intro lines' hm hkl' hc hok' hlk
   have:=nextG_ok s sp hsp r (k+1) lines' hd1 hk1 hkl' hok' hlk
   cases hn:nextG s r (k+1) lines' with
   | bad a e=>rw[hn] at this;exact this
   | ok nx ls=>
    rw[hn] at this
    simp only[] at this ⊢
    obtain⟨m2,hm2⟩:=this.pre
    obtain⟨m1,hm1⟩:=hm
    refine⟨⟨m1++m2,by rw[hm2,hm1,List.append_assoc]⟩,⟨by have:=this.le;omega,this.le.2⟩,this.hit,fun i h1 h2=>?_,this.all,this.ok⟩
    by_cases hik:i=k
    ·subst hik
     rw[hm2,lnAt_app hkl'];exact hc
    ·exact this.miss i (by omega) h2
  cases hln:lines[k]? with
  | some l=>
   simp only[]
   have hkl2:=(List.getElem?_eq_some_iff.1 hln).1
   have hat:=lnAt_some hln
   by_cases hc:contentB l=true
   ·rw[if_pos hc]
    simp only[]
    refine⟨⟨[],by simp⟩,⟨Nat.le_refl _,hk⟩,fun _=>⟨?_,by rw[hat];exact hc⟩,fun i h1 h2=>by omega,fun h=>by omega,hok⟩
    rcases hl k (Nat.le_refl _) hkl2 with h | h
    ·rw[hat] at h
     rw[h.no] at hc
     cases hc
    ·exact h.1.symm
   ·rw[if_neg hc]
    refine step lines ⟨[],by simp⟩ hkl2 ?_ hok (fun i h1 h2=>hl i (by omega) h2)
    rcases hl k (Nat.le_refl _) hkl2 with h | h
    ·exact h
    ·rw[hat] at h
     exact absurd h.2 hc
  | none=>
   simp only[]
   have hke:k=lines.length:=by
    rw[List.getElem?_eq_none_iff] at hln
    omega
   by_cases h0:(lineL s x.1 x.2).2.2≠0
   ·rw[if_pos h0]
    simp only[]
    have:=lineL_er x1 x2
    exact⟨this.1,this.2,h0⟩
   ·rw[if_neg h0]
    have h00:(lineL s x.1 x.2).2.2=0:=by omega
    have hlo:=lineL_ok x1 x2 h00
    have hok':=hok.push (by omega) (by rw[←hke,spAt_some hx];exact hlo)
    have hnew:lnAt (lines++ [(lineL s x.1 x.2).1]) k=(lineL s x.1 x.2).1:=by rw[hke];exact lnAt_new _ _
    have hnl:(lines++ [(lineL s x.1 x.2).1]).length=k+1:=by rw[List.length_append,List.length_singleton,hke]
    by_cases hc:contentB (lineL s x.1 x.2).1=true
    ·rw[if_pos hc]
     simp only[]
     exact⟨⟨_,rfl⟩,⟨Nat.le_refl _,hk⟩,fun _=>⟨hnl,by rw[hnew];exact hc⟩,fun i h1 h2=>by omega,fun h=>by omega,hok'⟩
    ·rw[if_neg hc]
     exact step _ ⟨_,rfl⟩ (by omega) (by rw[hnew];exact(lineL_kind h00).resolve_left hc) hok' (fun i h1 h2=>by omega)
theorem nextM_ok {s:Stp}{sp:List (Nat×Nat)} (hsp:SpOk s sp) {k:Nat}{lines:List LineR} (hkl:k≤lines.length) (hok:LsOk s sp lines) (hl:Lk lines k):
  match nextM s sp k lines with
  | .ok nx ls=>NxOk s sp k lines nx ls
  | .bad a e=>0≤a∧a≤(s.length:Int)∧e≠0:=nextG_ok s sp hsp (sp.drop k) k lines rfl (Nat.le_trans hkl hok.1) hkl hok hl
theorem NxOk.lk {s:Stp}{sp:List (Nat×Nat)}{k nx:Nat}{lines ls:List LineR} (h:NxOk s sp k lines nx ls):Lk ls k:=by
 intro i h1 h2
 by_cases hi:i<nx
 ·exact .inl (h.miss i h1 hi)
 ·right
  by_cases hn:nx<sp.length
  ·obtain⟨h3,h4⟩:=h.hit hn
   obtain rfl:i=nx:=by omega
   exact⟨h3.symm,h4⟩
  ·have:=h.all (by have:=h.le;omega);have:=h.le;omega
theorem NxOk.len {s:Stp}{sp:List (Nat×Nat)}{k nx:Nat}{lines ls:List LineR} (h:NxOk s sp k lines nx ls):lines.length≤ls.length:=by
 obtain⟨m,hm⟩:=h.pre
 rw[hm,List.length_append];omega
structure WfS (s:Stp) (sp:List (Nat×Nat)) (st:YS):Prop where
 ls:LsOk s sp st.lines
 tot:st.nodes.length≤st.total∧st.total≤4096
structure GoodS (s:Stp) (sp:List (Nat×Nat)) (k:Nat) (st:YS) (n:Nat) (st':YS):Prop where
 num:n=st.nodes.length
 nds: ∃more,more≠ []∧st'.nodes=st.nodes++more
 lns: ∃more,st'.lines=st.lines++more
 til:k<toOf st'.nodes n∧toOf st'.nodes n≤st'.lines.length
 lk:Lk st'.lines (toOf st'.nodes n)
 wf:WfS s sp st'
def GoodR (s:Stp) (sp:List (Nat×Nat)) (k:Nat) (st:YS) (R:YR):Prop:=match R with
 | .ok n st'=>GoodS s sp k st n st'
 | .bad a e=>0≤a∧a≤(s.length:Int)∧e≠0
def VGood (s:Stp) (sp:List (Nat×Nat)) (V:YB):Prop:= ∀k kf kt st,WfS s sp st→k+1=st.lines.length→GoodR s sp k st (V k kf kt st)
theorem toOf_new (ns:List YND) (x:YND) (more:List YND):toOf (ns++x::more) ns.length=x.til:=by
 unfold toOf
 rw[List.getElem?_append_right (Nat.le_refl _),Nat.sub_self]
 rfl
theorem restM_good {s:Stp}{sp:List (Nat×Nat)} (lv:Nat) {k:Nat} (kf kt:Int) {st:YS} (hw:WfS s sp st) (hk:k<st.lines.length) (hlk:Lk st.lines (k+1)):GoodR s sp k st (restM s lv k kf kt st):=by
 have hln:=hw.ls.2 k hk
 unfold restM addM
 split
 ·rename_i a e h
  split at h
  ·injection h with h1 h2;subst h1 h2;exact⟨hln.rst.1,by have:=hln.rst;omega,by decide⟩
  ·split at h
   ·injection h with h1 h2;subst h1 h2;exact⟨hln.rst.1,by have:=hln.rst;omega,by decide⟩
   ·cases h
 ·rename_i n s1 h
  split at h
  ·cases h
  ·split at h
   ·cases h
   ·rename_i ht
    injection h with h1 h2
    subst h1 h2
    simp only[]
    split
    ·exact⟨hln.rst.1,by have:=hln.rst;omega,by assumption⟩
    ·split
     ·exact⟨hln.rst.1,by have:=hln.rst;omega,by decide⟩
     ·split
      ·exact⟨hln.rst.1,by have:=hln.rst;omega,by decide⟩
      ·rename_i h3
       have hto:=toOf_new st.nodes ⟨1,(lnAt st.lines k).ind,k,k+1,kf,kt,(lnAt st.lines k).rf,(lnAt st.lines k).rt,[]⟩ []
       have hsz:=size_pos (readY (slI s (lnAt st.lines k).rf (lnAt st.lines k).rt)).1
       have htot:=hw.tot
       refine⟨rfl,⟨_,List.cons_ne_nil _ _,rfl⟩,⟨[],by simp⟩,?_,?_,⟨hw.ls,?_⟩⟩
       ·simp only[hto];omega
       ·simp only[hto];exact hlk
       ·simp only[List.length_append,List.length_singleton];omega
theorem reachG_le (s:Stp) (ind:Int): ∀(l:List (Nat×Nat)) (i til first:Nat),til≤i→til≤reachG s ind l i til first∧reachG s ind l i til first≤i+l.length
 | [],i,til,first,h=>by simp[reachG];omega
 | x::r,i,til,first,h=>by
  unfold reachG
  rw[List.length_cons]
  split
  ·have:=reachG_le s ind r (i+1) til first (by omega);omega
  ·split
   ·omega
   ·have:=reachG_le s ind r (i+1) (i+1) (if first=0 then spL (lineT s x) else first) (Nat.le_refl _);omega
theorem reachM_le {s:Stp}{sp:List (Nat×Nat)} (ind:Int) {k:Nat} (hk:k<sp.length):k+1≤reachM s sp ind k∧reachM s sp ind k≤sp.length:=by
 have:=reachG_le s ind (sp.drop (k+1)) (k+1) (k+1) 0 (Nat.le_refl _)
 rw[List.length_drop] at this
 unfold reachM
 omega
theorem lineT_len {s:Stp}{x:Nat×Nat} (h1:x.1≤x.2) (h2:x.2≤s.length):(lineT s x).length=x.2-x.1:=by
 unfold lineT
 rw[List.length_take,List.length_drop];omega
theorem textLine_ok {s:Stp}{x:Nat×Nat} (h1:x.1≤x.2) (h2:x.2≤s.length):LnOk s x (textLine s x):=by
 have:=spL_le (lineT s x)
 have:=lineT_len h1 h2
 unfold textLine
 exact⟨by simp only[];omega,by simp only[];omega,by simp only[];omega⟩
theorem takesG_ok {s:Stp}{sp:List (Nat×Nat)} (hsp:SpOk s sp): ∀(l:List (Nat×Nat)) (ls:List LineR),LsOk s sp ls→(∃r,sp.drop ls.length=l++r)→
  match takesG s l ls with
  | .inl ls'=>LsOk s sp ls'∧ls'.length=ls.length+l.length∧(∃more,ls'=ls++more)
  | .inr a=>0≤a∧a≤(s.length:Int)
 | [],ls,h,hd=>⟨h,rfl,[],by simp⟩
 | x::l,ls,h,⟨r,hd⟩=>by
  have hx:sp[ls.length]?=some x:=by
   have:=congrArg (fun l=>l[0]?) hd
   simpa using this
  have hlt:=(List.getElem?_eq_some_iff.1 hx).1
  have hd1:sp.drop (ls.length+1)=l++r:=by
   have:=congrArg List.tail hd
   rw[List.tail_drop] at this
   simpa using this
  obtain⟨x1,x2⟩:=hsp x (List.mem_of_getElem? hx)
  unfold takesG
  by_cases hm:mayA s x<x.2
  ·rw[if_pos hm]
   simp only[]
   omega
  ·rw[if_neg hm]
   have ih:=takesG_ok hsp l (ls++ [textLine s x]) (h.push hlt (by rw[spAt_some hx];exact textLine_ok x1 x2)) ⟨r,by rw[List.length_append,List.length_singleton];exact hd1⟩
   cases ht:takesG s l (ls++ [textLine s x]) with
   | inr a=>rw[ht] at ih;exact ih
   | inl ls'=>
    rw[ht] at ih
    simp only[] at ih ⊢
    obtain⟨i1,i2,m,i3⟩:=ih
    refine⟨i1,?_,textLine s x::m,by rw[i3];simp⟩
    rw[i2,List.length_append,List.length_singleton,List.length_cons];omega
theorem literalM_good {s:Stp}{sp:List (Nat×Nat)} (hsp:SpOk s sp) (lv:Nat) {k:Nat} (kf kt:Int) {st:YS} (hw:WfS s sp st) (hk:k+1=st.lines.length):GoodR s sp k st (literalM s sp lv k kf kt st):=by
 have hln:=hw.ls.2 k (by omega)
 have hks:k<sp.length:=by have:=hw.ls.1;omega
 obtain⟨r1,r2⟩:=reachM_le (s:=s) (lnAt st.lines k).ind hks
 unfold literalM addM
 obtain⟨til,hto⟩: ∃til,reachM s sp (lnAt st.lines k).ind k=til:=⟨_,rfl⟩
 rw[hto] at r1 r2 ⊢
 split
 ·rename_i a e h
  split at h
  ·injection h with h1 h2;subst h1 h2;exact⟨hln.rst.1,by have:=hln.rst;omega,by decide⟩
  ·split at h
   ·injection h with h1 h2;subst h1 h2;exact⟨hln.rst.1,by have:=hln.rst;omega,by decide⟩
   ·cases h
 ·rename_i n s1 h
  split at h
  ·cases h
  ·split at h
   ·cases h
   ·rename_i ht
    injection h with h1 h2
    subst h1 h2
    simp only[]
    have tk:=takesG_ok hsp ((sp.drop (k+1)).take (til-(k+1))) st.lines hw.ls ⟨(sp.drop (k+1)).drop (til-(k+1)),by rw[←hk,List.take_append_drop]⟩
    have hlen:((sp.drop (k+1)).take (til-(k+1))).length=til-(k+1):=by rw[List.length_take,List.length_drop];omega
    cases htk:takesG s ((sp.drop (k+1)).take (til-(k+1))) st.lines with
    | inr a=>rw[htk] at tk;exact⟨tk.1,tk.2,by decide⟩
    | inl ls=>
     rw[htk] at tk
     simp only[] at tk ⊢
     obtain⟨t1,t2,m,t3⟩:=tk
     rw[hlen] at t2
     have hto':=toOf_new st.nodes ⟨4,(lnAt st.lines k).ind,k,til,kf,kt,(lnAt st.lines k).rf,(lnAt st.lines k).rt,[]⟩ []
     have htot:=hw.tot
     refine⟨rfl,⟨_,List.cons_ne_nil _ _,rfl⟩,⟨m,t3⟩,?_,?_,⟨t1,?_⟩⟩
     ·simp only[hto'];omega
     ·simp only[hto'];intro i h1 h2;omega
     ·simp only[List.length_append,List.length_singleton];omega
theorem GoodS.more {s:Stp}{sp:List (Nat×Nat)}{k k':Nat}{st:YS}{ls m:List LineR}{tot n:Nat}{st':YS} (h:GoodS s sp k' ⟨ls,st.nodes,tot⟩ n st') (hm:ls=st.lines++m) (hk:k≤k'):GoodS s sp k st n st':=by
 obtain⟨g1,g2,⟨m2,g3⟩,g4,g5,g6⟩:=h
 exact⟨g1,g2,⟨m++m2,by rw[g3,hm,List.append_assoc]⟩,by omega,g5,g6⟩
theorem GoodR.more {s:Stp}{sp:List (Nat×Nat)}{k k':Nat}{st:YS}{ls m:List LineR}{tot:Nat}{R:YR} (h:GoodR s sp k' ⟨ls,st.nodes,tot⟩ R) (hm:ls=st.lines++m) (hk:k≤k'):GoodR s sp k st R:=by
 cases R with
 | bad a e=>exact h
 | ok n st'=>exact GoodS.more (show GoodS s sp k' ⟨ls,st.nodes,tot⟩ n st' from h) hm hk
theorem ymValue_good {s:Stp}{sp:List (Nat×Nat)} (hsp:SpOk s sp) {B:YB} (hB:VGood s sp B) (lv:Nat):VGood s sp (ymValue s sp B lv):=by
 intro k kf kt st hw hk
 have hlk:Lk st.lines (k+1):=fun i h1 h2=>by omega
 unfold ymValue
 simp only[]
 split
 ·exact literalM_good hsp lv kf kt hw hk
 ·split
  ·have hn:=nextM_ok hsp (k:=k+1) (by omega) hw.ls hlk
   cases hm:nextM s sp (k+1) st.lines with
   | bad a e=>rw[hm] at hn;exact hn
   | ok nx ls=>
    rw[hm] at hn
    simp only[] at hn ⊢
    have hw2:WfS s sp ⟨ls,st.nodes,st.total⟩:=⟨hn.ok,hw.tot⟩
    obtain⟨m,hm2⟩:=hn.pre
    have hle:=hn.le
    have hll:=hn.len
    split
    ·rename_i hc
     exact(hB nx kf kt ⟨ls,st.nodes,st.total⟩ hw2 (hn.hit hc.1).1.symm).more hm2 (by omega)
    ·exact(restM_good (s:=s) lv kf kt hw2 (k:=k) (by simp only[];omega) hn.lk).more hm2 (Nat.le_refl _)
  ·exact restM_good lv kf kt hw (by omega) hlk
theorem modY_len (f:YND→YND): ∀(n:Nat) (l:List YND),(modY f n l).length=l.length
 | _,[]=>by cases ‹Nat› <;>rfl
 | 0,_::_=>rfl
 | n+1,x::l=>by rw[modY,List.length_cons,modY_len f n l,List.length_cons]
theorem modY_set (f:YND→YND): ∀(n:Nat) (l:List YND) (x:YND),l[n]?=some x→modY f n l=l.set n (f x)
 | _,[],x,h=>by simp at h
 | 0,y::l,x,h=>by
  obtain rfl:y=x:=by simpa using h
  rfl
 | n+1,y::l,x,h=>by
  rw[modY,List.set_cons_succ,modY_set f n l x (by simpa using h)]
theorem modY_pre (f:YND→YND) (pre:List YND) (x:YND) (post:List YND):modY f pre.length (pre++x::post)=pre++f x::post:=by
 rw[modY_set f pre.length _ x (by rw[List.getElem?_append_right (Nat.le_refl _),Nat.sub_self];rfl),List.set_append_right _ _ (Nat.le_refl _),Nat.sub_self]
 rfl
theorem toOf_at {ns:List YND}{k:Nat}{x:YND} (h:ns[k]?=some x):toOf ns k=x.til:=by unfold toOf;rw[h]
theorem oneM_good {s:Stp}{sp:List (Nat×Nat)}{V:YB} (hV:VGood s sp V) (map:Bool) (had:List Stp) {k:Nat}{st:YS} (hw:WfS s sp st) (hk:k+1=st.lines.length):GoodR s sp k st (oneM s V map had k st).1:=by
 have hln:=hw.ls.2 k (by omega)
 unfold oneM
 split
 ·simp only[]
  split
  ·rename_i h;exact⟨hln.key.1,by have:=hln.key;omega,h⟩
  ·split
   ·exact⟨hln.key.1,by have:=hln.key;omega,by decide⟩
   ·exact hV _ _ _ _ hw hk
 ·exact hV _ _ _ _ hw hk
structure LpS (s:Stp) (sp:List (Nat×Nat)) (k0 n:Nat) (st0:YS) (k:Nat) (st:YS):Prop where
 nds: ∃x post,st.nodes=st0.nodes++x::post∧x.til≤st.lines.length∧k0<x.til∧Lk st.lines x.til∧x.til≤k
 num:n=st0.nodes.length
 lns: ∃more,st.lines=st0.lines++more
 wf:WfS s sp st
 k:k≤sp.length∧k0<k∧(k<sp.length→k+1=st.lines.length)
theorem ymOne_good {s:Stp}{sp:List (Nat×Nat)} (hsp:SpOk s sp) {V:YB} (hV:VGood s sp V) (map:Bool) {n:Nat} (ind:Int) (had:List Stp) {k0 k:Nat}{st0 st:YS} (hw:WfS s sp st) (hk:k+1=st.lines.length) (hk0:k0≤k) (hn:n=st0.nodes.length) (hnd: ∃x post,st.nodes=st0.nodes++x::post) (hls: ∃more,st.lines=st0.lines++more):
  match ymOne s sp V map n ind had k st with
  | .ok nx s2 had'=>LpS s sp k0 n st0 nx s2∧k<nx
  | .bad a e=>0≤a∧a≤(s.length:Int)∧e≠0:=by
 have h1:=oneM_good hV map had hw hk
 unfold ymOne
 obtain⟨R,hR⟩: ∃R,oneM s V map had k st=R:=⟨_,rfl⟩
 rw[hR] at h1 ⊢
 obtain⟨R,had'⟩:=R
 cases R with
 | bad a e=>exact h1
 | ok kid s2=>
  obtain⟨g1,⟨m1,g2n,g2⟩,⟨m2,g3⟩,g4,g5,g6⟩:=(show GoodS s sp k st kid s2 from h1)
  simp only[]
  have hnx:=nextM_ok hsp (k:=toOf s2.nodes kid) g4.2 g6.ls g5
  cases hm:nextM s sp (toOf s2.nodes kid) s2.lines with
  | bad a e=>rw[hm] at hnx;exact hnx
  | ok nx ls=>
   rw[hm] at hnx
   simp only[] at hnx ⊢
   obtain⟨m3,hm3⟩:=hnx.pre
   have hle:=hnx.le
   have hll:=hnx.len
   by_cases hc:nx<sp.length∧ind<(lnAt ls nx).ind
   ·rw[if_pos hc]
    have hlo:=hnx.ok.2 nx (by have:=(hnx.hit hc.1).1;omega)
    have:=hlo.ind
    simp only[]
    exact⟨by omega,by omega,by decide⟩
   ·rw[if_neg hc]
    simp only[]
    obtain⟨x,post,hx⟩:=hnd
    obtain⟨m0,hm0⟩:=hls
    refine⟨⟨⟨{ x with kids:=x.kids++ [kid],til:=toOf s2.nodes kid },post++m1,?_,by simp only[];omega,by simp only[];omega,hnx.lk,hle.1⟩,hn,⟨m0++m2++m3,by simp only[];rw[hm3,g3,hm0];simp⟩,⟨hnx.ok,?_⟩,⟨hle.2,by omega,fun h=>(hnx.hit h).1.symm⟩⟩,by omega⟩
    ·simp only[]
     unfold addKidY
     rw[hn]
     conv=>lhs;arg 3;rw[g2,hx,List.append_assoc,List.cons_append]
     rw[modY_pre]
    ·have:=g6.tot
     simp only[]
     unfold addKidY
     rw[modY_len]
     exact this
theorem ymLoop_good {s:Stp}{sp:List (Nat×Nat)} (hsp:SpOk s sp) {V:YB} (hV:VGood s sp V) (map:Bool) {n:Nat} (ind kind:Int) {k0:Nat}{st0:YS}: ∀(f:Nat) (had:List Stp) (k:Nat) (st:YS),LpS s sp k0 n st0 k st→GoodR s sp k0 st0 (ymLoop s sp V map n ind kind f had k st)
 | f,had,k,st,h=>by
  have fin:GoodR s sp k0 st0 (.ok n st):=by
   obtain⟨⟨x,post,h1,h2,h3,h4,_⟩,h5,h6,h7,h8⟩:=h
   have ht:toOf st.nodes n=x.til:=by rw[h1,h5];exact toOf_new _ _ _
   exact⟨h5,⟨_,List.cons_ne_nil _ _,h1⟩,h6,by rw[ht];exact⟨h3,h2⟩,by rw[ht];exact h4,h7⟩
  cases f with
  | zero=>exact fin
  | succ f=>
   unfold ymLoop
   split
   ·rename_i hc
    have h1:=ymOne_good hsp hV map (n:=n) ind had h.wf (h.k.2.2 hc.1) (Nat.le_of_lt h.k.2.1) h.num (by obtain⟨x,post,h1,_⟩:=h.nds;exact⟨x,post,h1⟩) h.lns
    cases ho:ymOne s sp V map n ind had k st with
    | bad a e=>rw[ho] at h1;exact h1
    | ok nx s2 had'=>
     rw[ho] at h1
     exact ymLoop_good hsp hV map ind kind f had' nx s2 h1.1
   ·exact fin
theorem addM_ok {x:YND}{lv:Nat}{a:Int}{st:YS}{n:Nat}{s1:YS} (h:addM x lv a st= .ok n s1):n=st.nodes.length∧s1=⟨st.lines,st.nodes++ [x],st.total+1⟩∧lv≠0∧st.total<4096:=by
 unfold addM at h
 split at h
 ·cases h
 ·split at h
  ·cases h
  ·injection h with h1 h2
   exact⟨h1.symm,h2.symm,by assumption,by omega⟩
theorem addM_bad {x:YND}{lv:Nat}{a:Int}{st:YS}{b e:Int} (h:addM x lv a st= .bad b e):b=a∧(e=5∨e=6):=by
 unfold addM at h
 split at h
 ·injection h with h1 h2;exact⟨h1.symm, .inl h2.symm⟩
 ·split at h
  ·injection h with h1 h2;exact⟨h1.symm, .inr h2.symm⟩
  ·cases h
theorem ymBlockS_good {s:Stp}{sp:List (Nat×Nat)} (hsp:SpOk s sp) {V:YB} (lv:Nat) (hV:lv≠0→VGood s sp V):VGood s sp (ymBlockS s sp V lv):=by
 intro k kf kt st hw hk
 have hlk:Lk st.lines (k+1):=fun i h1 h2=>by omega
 have hln:=hw.ls.2 k (by omega)
 have hks:k<sp.length:=by have:=hw.ls.1;omega
 unfold ymBlockS
 simp only[]
 split
 ·exact restM_good lv kf kt hw (by omega) hlk
 ·split
  ·rename_i a e h
   obtain⟨rfl,he⟩:=addM_bad h
   have:=hln.ind
   unfold beginsM
   exact⟨by omega,by omega,by rcases he with rfl | rfl<;>decide⟩
  ·rename_i n s1 h
   obtain⟨rfl,rfl,h0,h4⟩:=addM_ok h
   obtain⟨f,hf⟩: ∃f,sp.length-k=f+1:=⟨sp.length-k-1,by omega⟩
   have htot:=hw.tot
   rw[hf]
   unfold ymLoop
   rw[if_pos ⟨hks,rfl,rfl⟩]
   have h1:=ymOne_good hsp (hV h0) (decide ((lnAt st.lines k).kind=4)) (n:=st.nodes.length) (lnAt st.lines k).ind [] (k0:=k) (st0:=st) (st:=⟨st.lines,st.nodes++ [⟨if(lnAt st.lines k).kind=4 then 3 else 2,(lnAt st.lines k).ind,k,0,kf,kt,0,0,[]⟩],st.total+1⟩) ⟨hw.ls,by simp only[List.length_append,List.length_singleton];omega⟩ hk (Nat.le_refl _) rfl ⟨_,[],rfl⟩ ⟨[],by simp⟩
   split
   ·rename_i a e ho
    rw[ho] at h1;exact h1
   ·rename_i nx s2 had' ho
    rw[ho] at h1
    exact ymLoop_good hsp (hV h0) _ _ _ f had' nx s2 h1.1
theorem ymBlock_good {s:Stp}{sp:List (Nat×Nat)} (hsp:SpOk s sp): ∀lv,VGood s sp (ymBlock s sp lv)
 | 0=>ymBlockS_good hsp 0 (fun h=>absurd rfl h)
 | lv+1=>ymBlockS_good hsp (lv+1) (fun _=>ymValue_good hsp (ymBlock_good hsp lv) lv)
end Go.Proofs.YtlibkhbachmcgaaGreatDoor
namespace Go.Proofs.YtlibkhbachmcgaaGreatDoor
set_option linter.unusedSimpArgs false
set_option linter.unusedVariables false
open Go.RowKit
open Go.Lib hiding intOf
def YJ (T:TypeId) (Pr:Frm) (w0:World) (P:Nat) (txt:Stp) (sp:List (Nat×Nat)) (st:YS) (a er:Int) (w:World):Prop:= ∃z sv lv nv,z.map (·.1)=st.nodes∧YK T Pr w0 P txt sp st.lines z st.total a er sv lv nv w
def YBad (T:TypeId) (Pr:Frm) (w0:World) (P:Nat) (txt:Stp) (sp:List (Nat×Nat)) (a er:Int) (w:World):Prop:= ∃st,YJ T Pr w0 P txt sp st a er w
def NXE (T:TypeId) (Pr:Frm) (w0:World) (P:Nat) (txt:Stp) (sp:List (Nat×Nat)) (st:YS) (R:NX) (e:Ending) (w':World):Prop:=match R with
 | .ok k ls=>e= .returned (.tuple #[.int .i64 (k:Int), .bool true])∧YJ T Pr w0 P txt sp ⟨ls,st.nodes,st.total⟩ 0 0 w'
 | .bad a er=>(∃m:Int,e= .returned (.tuple #[.int .i64 m, .bool false]))∧YBad T Pr w0 P txt sp a er w'
def YRE (T:TypeId) (Pr:Frm) (w0:World) (P:Nat) (txt:Stp) (sp:List (Nat×Nat)) (R:YR) (e:Ending) (w':World):Prop:=match R with
 | .ok n st=>e= .returned (.tuple #[.int .i64 (n:Int), .bool true])∧YJ T Pr w0 P txt sp st 0 0 w'
 | .bad a er=>(∃m:Int,e= .returned (.tuple #[.int .i64 m, .bool false]))∧YBad T Pr w0 P txt sp a er w'
section
variable {T:TypeId}{Pr Pr':Frm}{w0 w w':World}{P:Nat}{txt:Stp}{sp:List (Nat×Nat)}{st:YS}{a er:Int}
theorem YJ.keep (h:YJ T Pr w0 P txt sp st a er w) (hb:Below w.heap.size w w'):YJ T Pr w0 P txt sp st a er w':=by
 obtain⟨z,sv,lv,nv,h1,h2⟩:=h
 exact⟨z,sv,lv,nv,h1,h2.keep hb⟩
theorem YJ.put (h:YJ T Pr w0 P txt sp st a er w) (hb:Below w.heap.size w w') {X:Nat}{o:Obj} (hX:w.heap.size≤X) (ho:w'.heap[X]?=some o):YJ T (Pr.put X o) w0 P txt sp st a er w':=by
 obtain⟨z,sv,lv,nv,h1,h2⟩:=h
 exact⟨z,sv,lv,nv,h1,h2.put hb hX ho⟩
theorem YJ.less (h:YJ T Pr w0 P txt sp st a er w) (hp: ∀k o,Pr' k=some o→Pr k=some o):YJ T Pr' w0 P txt sp st a er w:=by
 obtain⟨z,sv,lv,nv,h1,h2⟩:=h
 exact⟨z,sv,lv,nv,h1,h2.less hp⟩
theorem YJ.bel (h:YJ T Pr w0 P txt sp st a er w):Below w0.heap.size w0 w:=by
 obtain⟨z,sv,lv,nv,h1,h2⟩:=h
 exact h2.bel
theorem YJ.at_ (h:YJ T Pr w0 P txt sp st a er w) {k:Nat}{o:Obj} (hk:Pr k=some o):w.heap[k]?=some o:=by
 obtain⟨z,sv,lv,nv,h1,h2⟩:=h
 exact(h2.fr k o hk).1
theorem YJ.frLt (h:YJ T Pr w0 P txt sp st a er w): ∀k o,Pr k=some o→k<w.heap.size:=by
 obtain⟨z,sv,lv,nv,h1,h2⟩:=h
 exact fun k o hk=>h2.frLt hk
theorem YJ.lt (h:YJ T Pr w0 P txt sp st a er w):P<w.heap.size:=by
 obtain⟨z,sv,lv,nv,h1,h2⟩:=h
 exact h2.lt
theorem YJ.fail (h:YJ T Pr w0 P txt sp st a er w) (a2 e2:Int):YJ T Pr w0 P txt sp st a2 e2 ((w.setCell ⟨P,5,none⟩ (.int .i64 a2)).setCell ⟨P,6,none⟩ (.int .i64 e2)):=by
 obtain⟨z,sv,lv,nv,h1,h2⟩:=h
 exact⟨z,sv,lv,nv,h1,h2.fail a2 e2⟩
theorem YJ.bad (h:YJ T Pr w0 P txt sp st a er w):YBad T Pr w0 P txt sp a er w:=⟨st,h⟩
theorem YBad.keep (h:YBad T Pr w0 P txt sp a er w) (hb:Below w.heap.size w w'):YBad T Pr w0 P txt sp a er w':=by
 obtain⟨st,h⟩:=h
 exact⟨st,h.keep hb⟩
theorem YBad.less (h:YBad T Pr w0 P txt sp a er w) (hp: ∀k o,Pr' k=some o→Pr k=some o):YBad T Pr' w0 P txt sp a er w:=by
 obtain⟨st,h⟩:=h
 exact⟨st,h.less hp⟩
theorem YRE.less {R:YR}{e:Ending} (h:YRE T Pr w0 P txt sp R e w) (hp: ∀k o,Pr' k=some o→Pr k=some o):YRE T Pr' w0 P txt sp R e w:=by
 cases R with
 | ok n st=>exact⟨h.1,h.2.less hp⟩
 | bad a er=>exact⟨h.1,h.2.less hp⟩
end
abbrev YP:TypeId:=75
section
variable {Pr:Frm}{w0:World}{P:Nat}{txt:Stp}{sp:List (Nat×Nat)}{st:YS}{a0 e0:Int}
theorem ycontent_any (r:LineR) (w:World):Calls Tryz.prog 106 #[lineV r] w fun e w'=>e= .returned (.bool (contentB r))∧Below w.heap.size w w':=by
 have hb:=hid (below_alloc1 w (.cells #[.int .i64 r.kind, .int .i64 r.sf, .int .i64 r.st, .int .i64 r.ind, .int .i64 r.kf, .int .i64 r.kt, .int .i64 r.rf, .int .i64 r.rt, .int .i64 r.nf, .int .i64 r.nt] 51))
 unfold lineV contentB
 by_cases h3:3≤r.kind
 ·have d3:decide (3≤r.kind)=true:=decide_eq_true h3
  go_enter Tryz.func106,Tryz.ntmps106
  go_wp2_with fail
  go_ret
  exact⟨by simp[h3],hb.out⟩
 ·have d3:decide (3≤r.kind)=false:=decide_eq_false h3
  go_enter Tryz.func106,Tryz.ntmps106
  go_wp2_with fail
  go_ret
  exact⟨by simp[h3],hb.out⟩
theorem yfail_any (a er:Int) (w:World) (h:YJ YP Pr w0 P txt sp st a0 e0 w):
  Calls Tryz.prog 61 #[.pointer (some ⟨P,0,none⟩), .int .i64 a, .int .i64 er] w fun e w'=>e= .returned (.bool false)∧YJ YP Pr w0 P txt sp st a er w':=by
 have HF:=hid (h.fail a er)
 obtain⟨z,sv,lv,nv,_,hk⟩:=h
 obtain⟨⟨c0,c1,c2,c3,c4,c5,c6⟩,f2,f3,f4,f5,f6⟩:=hk.cells
 clear hk
 go_enter Tryz.func61,Tryz.ntmps61
 go_wp2_with fail
 go_ret
 exact⟨rfl,HF.out⟩
theorem ythere_any (k:Nat) (w:World) (h:YJ YP Pr w0 P txt sp st a0 e0 w):
  Calls Tryz.prog 59 #[.pointer (some ⟨P,0,none⟩), .int .i64 (k:Int)] w fun e w'=>e= .returned (.bool (decide (k<sp.length)))∧Below w.heap.size w w':=by
 have HB:=hid (Below.refl w.heap.size w)
 obtain⟨z,sv,lv,nv,_,hk⟩:=h
 obtain⟨⟨c0,c1,c2,c3,c4,c5,c6⟩,f2,f3,f4,f5,f6⟩:=hk.cells
 obtain⟨p,cap,rfl⟩:=hk.spSlice
 clear hk
 go_enter Tryz.func59,Tryz.ntmps59
 go_wp2_with fail
 go_ret
 exact⟨by simp,HB.out⟩
theorem ybytes_any (x y:Int) (w:World) (h:YJ YP Pr w0 P txt sp st a0 e0 w) (h0:0≤x) (h1:x≤y) (h2:y≤(txt.length:Int)) (hs:txt.length≤1073741824):
  Calls Tryz.prog 155 #[.pointer (some ⟨P,0,none⟩), .agg #[.int .i64 x, .int .i64 y]] w fun e w'=>e= .returned (.string (bs (slI txt x y)))∧Below w.heap.size w w':=by
 have sl:=bs_size txt
 obtain⟨x,rfl⟩: ∃k:Nat,x=k:=⟨x.toNat,by omega⟩
 obtain⟨y,rfl⟩: ∃k:Nat,y=k:=⟨y.toNat,by omega⟩
 have hex:(bs txt).extract x y=bs (slI txt x y):=by
  rw[bs_extract,bs_data];rfl
 have b0:=below_alloc1 w (.cells #[.int .i64 (x:Int), .int .i64 (y:Int)] 42)
 have HB:=hid b0
 have hX0:=heap_alloc_new w (.cells #[.int .i64 (x:Int), .int .i64 (y:Int)] 42)
 obtain⟨K,hKe⟩: ∃K,w.heap.size=K:=⟨_,rfl⟩
 obtain⟨W1,hW1⟩: ∃W,w.alloc (.cells #[.int .i64 (x:Int), .int .i64 (y:Int)] 42)=W:=⟨_,rfl⟩
 rw[hW1] at b0 hX0 HB
 have hj:=h.keep b0
 rw[hKe] at hX0
 obtain⟨x0,x1⟩:=cells_at2 hX0
 obtain⟨z,sv,lv,nv,_,hk⟩:=hj
 obtain⟨⟨c0,c1,c2,c3,c4,c5,c6⟩,f2,f3,f4,f5,f6⟩:=hk.cells
 have hPl:=hk.lt
 clear hk h b0
 have hKl:=cell_it hX0
 clear hX0
 go_enter Tryz.func155,Tryz.ntmps155
 go_upto_region 1 with fail
 clear hW1 hKe
 go_wp2_with fail
 go_region
 go_wp2_with fail
 go_ret
 exact⟨rfl,HB.out.drew⟩
end
end Go.Proofs.YtlibkhbachmcgaaGreatDoor
namespace Go.Proofs.YtlibkhbachmcgaaGreatDoor
set_option linter.unusedSimpArgs false
set_option linter.unusedVariables false
def backG (ops:Array Oper):Bool:=(List.range ops.size).all fun i=>match ops[i]? with
 | some o=>o.after.toList.all (fun e=>!Region.binds .any e||decide (e.on<i))
 | none=>true
theorem backG_at {ops:Array Oper} (h:backG ops=true) {i:Nat}{o:Oper} (ho:ops[i]?=some o): ∀e∈o.after,Region.binds .any e=true→e.on<i:=by
 have hi:=(Array.getElem?_eq_some_iff.1 ho).1
 have:=List.all_eq_true.1 h i (List.mem_range.2 hi)
 rw[ho] at this
 intro e he hb
 have:=List.all_eq_true.1 this e (Array.mem_toList_iff.2 he)
 rw[hb,Bool.not_true,Bool.false_or] at this
 exact of_decide_eq_true this
theorem all_listedG {ops:Array Oper} (h:backG ops=true) {L:Array Bool} (hL:L.size=ops.size) (hr:Region.ready .any ops L= []): ∀i,i<ops.size→L.getD i false=true:=by
 intro i
 induction i using Nat.strongRecOn with
 | _ i ih=>
  intro hi
  obtain⟨o,ho⟩: ∃o,ops[i]?=some o:=⟨_,Array.getElem?_eq_getElem hi⟩
  cases hc:L.getD i false with
  | true=>rfl
  | false=>
   have hm:i∈Region.ready .any ops L:=mem_ready.2 ⟨by
    rw[Array.getD_eq_getD_getElem?,Array.getElem?_eq_getElem (by omega)] at hc ⊢
    simpa using hc,o,ho,fun e he hb=>ih _ (backG_at h ho e he hb) (by have:=backG_at h ho e he hb;omega)⟩
   rw[hr] at hm
   cases hm
theorem wp_region_factsG {P:Program}{ops:Array Oper}{Q:Exit→Act→World→Prop}{id:Nat}{a0:Act}{w0:World} (hm:P.follows .mixedOrders=true) (K:List Nat) (n:Nat) (hn:a0.tmps.size=n) (hback:backG ops=true) (hdst:dstsB ops K n=true)
  (F:(Nat→Bool)→(Nat→Value)→World→Prop) (h0:F (fun _=>false) (fun k=>a0.tmps.getD k undef) w0.drew)
  (hs: ∀(d:Nat→Bool) (a:Act) (w:World) (i:Nat) (o:Oper),ops[i]?=some o→d i=false→(∀e∈o.after,Region.binds .any e=true→d e.on=true)→(∀k,k ∉ K→a.tmps.getD k undef=a0.tmps.getD k undef)→F d (fun k=>a.tmps.getD k undef) w→
   ∀R:Act→World→Prop,(∀x w',F (setB d i) (setV (fun k=>a.tmps.getD k undef) o.dst x) w'→R (a.put o.dst x) w')→if Region.wanted o (yielded ops a.tmps)=true then o.wp P a w R Q else R (a.put o.dst undef) w)
  (hd: ∀(v:Nat→Value) (w:World),F (fun i=>decide (i<ops.size)) v w→Q .normal { a0 with tmps:=fillT a0.tmps v K } w):(Code.region id ops true).wp P Q a0 w0:=by
 subst hn
 refine wp_region_inv hm (fun L a w=>(a.defers=a0.defers∧a.tmps.size=a0.tmps.size∧ ∀k,k ∉ K→a.tmps.getD k undef=a0.tmps.getD k undef)∧F (fun i=>L.getD i false) (fun k=>a.tmps.getD k undef) w) ⟨⟨rfl,rfl,fun k _=>rfl⟩,?_⟩ ?_ ?_
 ·have:(fun i=>(Array.replicate ops.size false).getD i false)=fun _=>false:=by
   funext i
   rw[Array.getD_eq_getD_getElem?,Array.getElem?_replicate]
   split<;>rfl
  rw[this]
  exact h0
 ·intro L a w i o hL ho hi hall hI R hR
  obtain⟨⟨h1,h2,h3⟩,hF⟩:=hI
  have hlt:i<L.size:=by rw[hL];exact(Array.getElem?_eq_some_iff.1 ho).1
  refine hs (fun i=>L.getD i false) a w i o ho ?_ hall h3 hF R fun x w' hx=>hR _ _ ⟨⟨?_,?_,fun k hk=>?_⟩,?_⟩
  ·rw[Array.getD_eq_getD_getElem?,Array.getElem?_eq_getElem hlt] at hi ⊢
   simpa using hi
  ·unfold Act.put;cases o.dst<;>exact h1
  ·unfold Act.put;cases o.dst
   ·exact h2
   ·rw[Array.size_setIfInBounds];exact h2
  ·rw[←h3 k hk]
   have hg:=congrFun (getD_put a o.dst x (fun t ht=>by rw[h2];exact(dsts_at hdst ho t ht).2)) k
   have e: ∀t,o.dst=t→setV (fun k=>a.tmps.getD k undef) t x k=a.tmps.getD k undef:=fun t ht=>by
    cases t with
    | none=>rfl
    | some t=>exact if_neg (fun h=>hk (by rw[h];exact(dsts_at hdst ho t ht).1))
   exact hg.trans (e _ rfl)
  ·rw[getD_set L i hlt,getD_put a o.dst x (fun t ht=>by rw[h2];exact(dsts_at hdst ho t ht).2)]
   exact hx
 ·intro L a w hL hI hr
  obtain⟨⟨h1,h2,h3⟩,hF⟩:=hI
  have hall:=all_listedG hback hL hr
  have hfun:(fun i=>L.getD i false)=fun i=>decide (i<ops.size):=by
   funext i
   by_cases hi:i<ops.size
   ·rw[hall i hi,decide_eq_true hi]
   ·rw[decide_eq_false hi,Array.getD_eq_getD_getElem?,Array.getElem?_eq_none (by omega)]
    rfl
  rw[hfun] at hF
  have:=hd _ w hF
  have ha:a= { a0 with tmps:=fillT a0.tmps (fun k=>a.tmps.getD k undef) K }:=by
   cases a with
   | mk tmps defers=>
    simp only at h1 h2 h3 ⊢
    rw[h1]
    congr 1
    refine Array.ext_getElem? fun j=>?_
    by_cases hj:j<a0.tmps.size
    ·rw[get_fillT _ _ j hj]
     have hget:tmps[j]?=some (tmps.getD j undef):=by rw[Array.getD_eq_getD_getElem?,Array.getElem?_eq_getElem (by omega)];rfl
     split
     ·exact hget
     ·rename_i hk
      rw[hget,h3 j hk,Array.getD_eq_getD_getElem?,Array.getElem?_eq_getElem hj];rfl
    ·rw[Array.getElem?_eq_none (by omega),Array.getElem?_eq_none (by rw[size_fillT];omega)]
  rw[ha]
  exact this
end Go.Proofs.YtlibkhbachmcgaaGreatDoor
namespace Go.Proofs.YtlibkhbachmcgaaGreatDoor
set_option linter.unusedVariables false
open Go.RowKit
def slot3 (sl:List (Option Nat)) (i:Nat):Option Nat:=match sl[i]? with
 | some (some k)=>some k
 | _=>none
def injB3 (sl:List (Option Nat)):Bool:=(List.range sl.length).all fun i=>(List.range sl.length).all fun j=>i==j||slot3 sl i==none||slot3 sl i !=slot3 sl j
theorem slot3_lt {sl:List (Option Nat)}{i k:Nat} (h:slot3 sl i=some k):i<sl.length:=by
 unfold slot3 at h
 cases hs:sl[i]? with
 | none=>rw[hs] at h;cases h
 | some q=>exact(List.getElem?_eq_some_iff.1 hs).1
theorem inj3 {sl:List (Option Nat)} (h:injB3 sl=true) {i j k:Nat} (hi:slot3 sl i=some k) (hj:slot3 sl j=some k):i=j:=by
 have h1:=List.all_eq_true.1 (List.all_eq_true.1 h i (List.mem_range.2 (slot3_lt hi))) j (List.mem_range.2 (slot3_lt hj))
 rw[hi,hj] at h1
 simpa using h1
def slV3 (sl:List (Option Nat)) (v:Nat→Value) (e:Nat):Value:=match slot3 sl e with
 | some k=>v k
 | none=>undef
def lastV3 (eff:List Nat) (sl:List (Option Nat)) (fr:Nat) (v:Nat→Value):Nat→Value
 | 0=>undef
 | k+1=>match eff[k]? with
  | some e=>match slot3 sl e with
   | some _=>slV3 sl v e
   | none=>slV3 sl v fr
  | none=>undef
theorem lastV_succ3 (eff:List Nat) (sl:List (Option Nat)) (fr:Nat) (v:Nat→Value) (k:Nat):lastV3 eff sl fr v (k+1)=match eff[k]? with
  | some e=>match slot3 sl e with
   | some _=>slV3 sl v e
   | none=>slV3 sl v fr
  | none=>undef:=rfl
theorem nodup_at3 {l:List Nat} (h:l.Nodup) {i j a:Nat} (hi:l[i]?=some a) (hj:l[j]?=some a):i=j:=by
 obtain⟨h1,h2⟩:=List.getElem?_eq_some_iff.1 hi
 obtain⟨h3,h4⟩:=List.getElem?_eq_some_iff.1 hj
 have hp:=List.pairwise_iff_getElem.1 h
 rcases Nat.lt_trichotomy i j with hlt | heq | hgt
 ·exact absurd (h2.trans h4.symm) (hp i j h1 h3 hlt)
 ·exact heq
 ·exact absurd (h4.trans h2.symm) (hp j i h3 h1 hgt)
theorem getLastD_mem3 {l:List Nat} (h:l≠ []):l.getLastD 0∈l:=by
 rw[List.getLastD_eq_getLast?,List.getLast?_eq_some_getLast h]
 exact List.getLast_mem h
structure RF3 (ops:Array Oper) (sl:List (Option Nat)) (eff:List Nat) (fr:Nat) (Fb:Value→World→Prop) (val:Nat→Value) (S:World→Prop) (Ph:Nat→Value→World→Prop) (d:Nat→Bool) (v:Nat→Value) (w':World):Prop where
 cl: ∀i,i<sl.length→i ∉ eff→i≠fr→d i=true→slV3 sl v i=val i
 clo:Clo ops d
 st:d (eff.getLastD 0)=false→S w'
 fb:d (eff.getLastD 0)=false→d fr=true→Fb (slV3 sl v fr) w'
 ph: ∃k,k≤eff.length∧(∀j e,eff[j]?=some e→(d e=true↔j<k))∧Ph k (lastV3 eff sl fr v k) w'
section
variable {ops:Array Oper}{sl:List (Option Nat)}{eff:List Nat}{fr:Nat}{Fb:Value→World→Prop}{val:Nat→Value}{S:World→Prop}{Ph:Nat→Value→World→Prop}{d:Nat→Bool}{v:Nat→Value}{w' w2:World}
theorem slV_set3 {i k:Nat} (hk:slot3 sl i=some k) (x:Value):slV3 sl (setV v (some k) x) i=x:=by
 unfold slV3
 rw[hk]
 exact if_pos rfl
theorem slV_other3 (hnd:injB3 sl=true) {i k:Nat} (hk:slot3 sl i=some k) (x:Value) {j:Nat} (hj:j≠i):slV3 sl (setV v (some k) x) j=slV3 sl v j:=by
 unfold slV3
 cases hs:slot3 sl j with
 | none=>rfl
 | some q=>
  exact if_neg (fun e=>hj (inj3 hnd hs (by rw[e];exact hk)))
theorem lastV_same3 {v v2:Nat→Value} (h: ∀e∈eff,slV3 sl v2 e=slV3 sl v e) (hf:slV3 sl v2 fr=slV3 sl v fr): ∀k,lastV3 eff sl fr v2 k=lastV3 eff sl fr v k
 | 0=>rfl
 | k+1=>by
  rw[lastV_succ3,lastV_succ3]
  cases he:eff[k]? with
  | none=>rfl
  | some e=>
   simp only[]
   cases hs:slot3 sl e with
   | none=>exact hf
   | some q=>exact h e (List.mem_of_getElem? he)
theorem RF3.pure (h:RF3 ops sl eff fr Fb val S Ph d v w') (hnd:injB3 sl=true) {i k:Nat}{o:Oper} (ho:ops[i]?=some o) (hall: ∀e∈o.after,Region.binds .any e=true→d e.on=true) (hk:slot3 sl i=some k) (hne:i ∉ eff) (hfr:i≠fr) (hel:eff≠ []) {x:Value} (hx:x=val i):RF3 ops sl eff fr Fb val S Ph (setB d i) (setV v (some k) x) w':=by
 have hsame: ∀e∈eff,slV3 sl (setV v (some k) x) e=slV3 sl v e:=fun e he=>slV_other3 hnd hk x (fun e2=>hne (e2 ▸ he))
 have hd: ∀e∈eff,setB d i e=d e:=fun e he=>setBc_ne (fun e2=>hne (e2 ▸ he))
 have hlast:setB d i (eff.getLastD 0)=d (eff.getLastD 0):=hd _ (getLastD_mem3 hel)
 refine⟨fun j hj hje hjf hdj=>?_,h.clo.step ho hall,fun hl=>h.st (by rw[←hlast];exact hl),fun hl hf=>?_,?_⟩
 ·by_cases hji:j=i
  ·subst hji
   rw[slV_set3 hk];exact hx
  ·rw[slV_other3 hnd hk x hji]
   rw[setBc_ne hji] at hdj
   exact h.cl j hj hje hjf hdj
 ·rw[slV_other3 hnd hk x (Ne.symm hfr)]
  rw[setBc_ne (Ne.symm hfr)] at hf
  exact h.fb (by rw[←hlast];exact hl) hf
 ·obtain⟨q,hq,h2,h3⟩:=h.ph
  refine⟨q,hq,fun j e he=>?_,?_⟩
  ·rw[hd e (List.mem_of_getElem? he)];exact h2 j e he
  ·rw[lastV_same3 hsame (slV_other3 hnd hk x (Ne.symm hfr))];exact h3
theorem RF3.free (h:RF3 ops sl eff fr Fb val S Ph d v w') (hnd:injB3 sl=true) {i k:Nat}{o:Oper} (ho:ops[i]?=some o) (hall: ∀e∈o.after,Region.binds .any e=true→d e.on=true) (hk:slot3 sl i=some k) (hne:i ∉ eff) (hfr:i=fr) (hel:eff≠ []) (hsl:eff.all (fun e=>e==eff.getLastD 0||(slot3 sl e).isSome)=true) (hnl:eff.Nodup) (hdl:d (eff.getLastD 0)=false) {x:Value} (hS:S w'→S w2) (hP: ∀k c,Ph k c w'→Ph k c w2) (hx:Fb x w2):RF3 ops sl eff fr Fb val S Ph (setB d i) (setV v (some k) x) w2:=by
 subst hfr
 have hsame: ∀e∈eff,slV3 sl (setV v (some k) x) e=slV3 sl v e:=fun e he=>slV_other3 hnd hk x (fun e2=>hne (e2 ▸ he))
 have hd: ∀e∈eff,setB d i e=d e:=fun e he=>setBc_ne (fun e2=>hne (e2 ▸ he))
 have hlast:setB d i (eff.getLastD 0)=d (eff.getLastD 0):=hd _ (getLastD_mem3 hel)
 refine⟨fun j hj hje hjf hdj=>?_,h.clo.step ho hall,fun hl=>hS (h.st hdl),fun hl hf=>by rw[slV_set3 hk];exact hx,?_⟩
 ·rw[slV_other3 hnd hk x hjf]
  rw[setBc_ne hjf] at hdj
  exact h.cl j hj hje hjf hdj
 ·obtain⟨q,hq,h2,h3⟩:=h.ph
  refine⟨q,hq,fun j e he=>?_,?_⟩
  ·rw[hd e (List.mem_of_getElem? he)];exact h2 j e he
  ·have hL:lastV3 eff sl i (setV v (some k) x) q=lastV3 eff sl i v q:=by
    cases q with
    | zero=>rfl
    | succ q=>
     rw[lastV_succ3,lastV_succ3]
     cases he:eff[q]? with
     | none=>rfl
     | some e=>
      simp only[]
      cases hs:slot3 sl e with
      | some z=>exact hsame e (List.mem_of_getElem? he)
      | none=>
       have hm:=List.all_eq_true.1 hsl e (List.mem_of_getElem? he)
       rw[Bool.or_eq_true] at hm
       rcases hm with hm | hm
       ·have hm:e=eff.getLastD 0:=by simpa using hm
        have:=(h2 q e he).2 (Nat.lt_succ_self _)
        rw[hm,hdl] at this
        cases this
       ·rw[hs] at hm;cases hm
   rw[hL];exact hP _ _ h3
theorem RF3.at_ (h:RF3 ops sl eff fr Fb val S Ph d v w') {j e:Nat} (he:eff[j]?=some e) (hi:d e=false) (hp: ∀j' e',j=j'+1→eff[j']?=some e'→d e'=true):Ph j (lastV3 eff sl fr v j) w':=by
 obtain⟨q,hq,h2,h3⟩:=h.ph
 have h4: ¬j<q:=fun hlt=>by rw[(h2 j e he).2 hlt] at hi;cases hi
 obtain rfl:j=q:=by
  cases j with
  | zero=>omega
  | succ j'=>
   have hj':=(List.getElem?_eq_some_iff.1 he).1
   have h5:=(h2 j' _ (List.getElem?_eq_getElem (by omega))).1 (hp j' _ rfl (List.getElem?_eq_getElem (by omega)))
   omega
 exact h3
theorem RF3.eff_ (h:RF3 ops sl eff fr Fb val S Ph d v w') (hnd:injB3 sl=true) (hne:eff.Nodup) {i j:Nat}{o:Oper} (ho:ops[i]?=some o) (hall: ∀e∈o.after,Region.binds .any e=true→d e.on=true) (he:eff[j]?=some i) (hi:d i=false) (hp: ∀j' e',j=j'+1→eff[j']?=some e'→d e'=true)
  {dst:Option Nat} (hk:slot3 sl i=dst) (hfr:i≠fr) {x:Value} (hF:i≠eff.getLastD 0→ ∀x,Fb x w'→Fb x w2) (hS:i≠eff.getLastD 0→S w2) (hP:Ph (j+1) (match dst with | some _=>x | none=>slV3 sl v fr) w2):RF3 ops sl eff fr Fb val S Ph (setB d i) (setV v dst x) w2:=by
 obtain⟨q,hq,h2,h3⟩:=h.ph
 have hjl:=(List.getElem?_eq_some_iff.1 he).1
 obtain rfl:j=q:=by
  have h4: ¬j<q:=fun hlt=>by rw[(h2 j i he).2 hlt] at hi;cases hi
  cases j with
  | zero=>omega
  | succ j'=>
   have h5:=(h2 j' _ (List.getElem?_eq_getElem (by omega))).1 (hp j' _ rfl (List.getElem?_eq_getElem (by omega)))
   omega
 have hoth: ∀m,m≠i→slV3 sl (setV v dst x) m=slV3 sl v m:=fun m hm=>by
  cases dst with
  | none=>rfl
  | some k=>exact slV_other3 hnd hk x hm
 have hli: ∀(hl:setB d i (eff.getLastD 0)=false),i≠eff.getLastD 0∧d (eff.getLastD 0)=false:=fun hl=>by
  have hne:i≠eff.getLastD 0:=fun e=>by rw[←e,setBc_eq] at hl;cases hl
  exact⟨hne,by rw[setBc_ne (Ne.symm hne)] at hl;exact hl⟩
 refine⟨fun m hm hme hmf hdm=>?_,h.clo.step ho hall,fun hl=>?_,fun hl hf=>?_,j+1,hjl,fun m e hm=>?_,?_⟩
 ·have hmi:m≠i:=fun e=>hme (e ▸ List.mem_of_getElem? he)
  rw[hoth m hmi]
  rw[setBc_ne hmi] at hdm
  exact h.cl m hm hme hmf hdm
 ·exact hS (hli hl).1
 ·rw[hoth fr (Ne.symm hfr)]
  rw[setBc_ne (Ne.symm hfr)] at hf
  exact hF (hli hl).1 _ (h.fb (hli hl).2 hf)
 ·by_cases hmj:m=j
  ·subst hmj
   rw[he] at hm
   injection hm with hm
   subst hm
   rw[setBc_eq]
   exact⟨fun _=>Nat.lt_succ_self _,fun _=>rfl⟩
  ·have hei:e≠i:=fun e2=>hmj (nodup_at3 hne (by rw[←e2];exact hm) he)
   rw[setBc_ne hei,h2 m e hm]
   omega
 ·rw[lastV_succ3,he]
  simp only[hk]
  cases dst with
  | none=>exact hP
  | some k=>
   simp only[]
   rw[slV_set3 hk]
   exact hP
theorem RF3.fin (h:RF3 ops sl eff fr Fb val S Ph d v w') (hd: ∀e∈eff,d e=true):Ph eff.length (lastV3 eff sl fr v eff.length) w':=by
 obtain⟨q,hq,h2,h3⟩:=h.ph
 by_cases hlt:q<eff.length
 ·have:=(h2 q _ (List.getElem?_eq_getElem hlt)).1 (hd _ (List.getElem_mem hlt))
  omega
 ·obtain rfl:q=eff.length:=by omega
  exact h3
theorem RF3.early (h:RF3 ops sl eff fr Fb val S Ph d v w') {f i:Nat} (hr:reachB ops f (eff.getLastD 0) i=true) (hi:d i=false):S w':=by
 refine h.st ?_
 cases hc:d (eff.getLastD 0) with
 | false=>rfl
 | true=>rw[h.clo.reach f _ _ hr hc] at hi;cases hi
end
section
variable {ops:Array Oper}{sl:List (Option Nat)}{eff:List Nat}{fr:Nat}{Fb:Value→World→Prop}{val:Nat→Value}{S:World→Prop}{Ph:Nat→Value→World→Prop}{d:Nat→Bool}{v:Nat→Value}{w' w2:World}
theorem prev_of3 {j:Nat} (hp:j=0∨ ∃e',eff[j-1]?=some e'∧d e'=true): ∀j' e',j=j'+1→eff[j']?=some e'→d e'=true:=by
 rintro j' e' rfl he
 rcases hp with h | ⟨e2,h1,h2⟩
 ·omega
 ·rw[Nat.add_sub_cancel,he] at h1
  injection h1 with h1
  rw[h1];exact h2
theorem RF3.at2 (h:RF3 ops sl eff fr Fb val S Ph d v w') {j e:Nat} (he:eff[j]?=some e) (hi:d e=false) (hp:j=0∨ ∃e',eff[j-1]?=some e'∧d e'=true):Ph j (lastV3 eff sl fr v j) w':=h.at_ he hi (prev_of3 hp)
theorem RF3.eff2 (h:RF3 ops sl eff fr Fb val S Ph d v w') (hnd:injB3 sl=true) (hne:eff.Nodup) {i:Nat} (j:Nat) {o:Oper} (ho:ops[i]?=some o) (hall: ∀e∈o.after,Region.binds .any e=true→d e.on=true) (he:eff[j]?=some i) (hi:d i=false) (hp:j=0∨ ∃e',eff[j-1]?=some e'∧d e'=true)
  {dst:Option Nat} (hk:slot3 sl i=dst) (hfr:i≠fr) {x:Value} (hF:i≠eff.getLastD 0→ ∀x,Fb x w'→Fb x w2) (hS:i≠eff.getLastD 0→S w2) (hP:Ph (j+1) (match dst with | some _=>x | none=>slV3 sl v fr) w2):RF3 ops sl eff fr Fb val S Ph (setB d i) (setV v dst x) w2:=h.eff_ hnd hne ho hall he hi (prev_of3 hp) hk hfr hF hS hP
end
theorem RF3.lastNot {ops:Array Oper}{sl:List (Option Nat)}{eff:List Nat}{fr:Nat}{Fb:Value→World→Prop}{val:Nat→Value}{S:World→Prop}{Ph:Nat→Value→World→Prop}{d:Nat→Bool}{v:Nat→Value}{w':World} (h:RF3 ops sl eff fr Fb val S Ph d v w') {f i:Nat} (hr:reachB ops f (eff.getLastD 0) i=true) (hi:d i=false):d (eff.getLastD 0)=false:=by
 cases hc:d (eff.getLastD 0) with
 | false=>rfl
 | true=>rw[h.clo.reach f _ _ hr hc] at hi;cases hi
theorem RF3.g {ops:Array Oper}{sl:List (Option Nat)}{eff:List Nat}{fr:Nat}{Fb:Value→World→Prop}{val:Nat→Value}{S:World→Prop}{Ph:Nat→Value→World→Prop}{d:Nat→Bool}{a:Array Value}{w':World} (h:RF3 ops sl eff fr Fb val S Ph d (fun k=>a.getD k undef) w') (i k:Nat) (hs:slot3 sl i=some k) (hl:i<sl.length) (h1:i ∉ eff) (h2:i≠fr) (hd:d i=true):a[k]?.getD undef=val i:=by
 have:=h.cl i hl h1 h2 hd
 unfold slV3 at this
 rw[hs] at this
 rw[←Array.getD_eq_getD_getElem?]
 exact this
theorem wp_region_rcf3 {P:Program}{ops:Array Oper}{Q:Exit→Act→World→Prop}{id:Nat}{a0:Act}{w0:World} (hm:P.follows .mixedOrders=true) (sl:List (Option Nat)) (K:List Nat) (eff:List Nat) (fr:Nat) (Fb:Value→World→Prop) (n:Nat) (hn:a0.tmps.size=n) (hback:backB ops=true) (hdst:dstsB ops K n=true) (heff:eff.all (fun e=>decide (e<ops.size))=true)
  (val:Nat→Value) (S:World→Prop) (Ph:Nat→Value→World→Prop) (h0:S w0.drew) (hP:Ph 0 undef w0.drew)
  (hs: ∀(d:Nat→Bool) (a:Act) (w:World) (i:Nat) (o:Oper),ops[i]?=some o→d i=false→(∀e∈o.after,Region.binds .any e=true→d e.on=true)→(∀k,k ∉ K→a.tmps.getD k undef=a0.tmps.getD k undef)→RF3 ops sl eff fr Fb val S Ph d (fun k=>a.tmps.getD k undef) w→
   ∀R:Act→World→Prop,(∀x w',RF3 ops sl eff fr Fb val S Ph (setB d i) (setV (fun k=>a.tmps.getD k undef) o.dst x) w'→R (a.put o.dst x) w')→o.wp P a w R Q)
  (hd: ∀(v:Nat→Value) (w:World),(∀i,i<sl.length→i<ops.size→i ∉ eff→i≠fr→slV3 sl v i=val i)→Ph eff.length (lastV3 eff sl fr v eff.length) w→Q .normal { a0 with tmps:=fillT a0.tmps v K } w):(Code.region id ops true).wp P Q a0 w0:=by
 refine wp_region_facts hm K n hn hback hdst (fun d v w'=>RF3 ops sl eff fr Fb val S Ph d v w') ?_ hs (fun v w h=>hd v w (fun i h1 h2 h3 h4=>h.cl i h1 h3 h4 (decide_eq_true h2)) (h.fin (fun e he=>?_)))
 ·exact⟨fun _ _ _ _ h=>Bool.noConfusion h,fun _ _ _ h=>Bool.noConfusion h,fun _=>h0,fun _ h=>Bool.noConfusion h,0,Nat.zero_le _,fun j e _=>⟨fun h=>Bool.noConfusion h,fun h=>absurd h (Nat.not_lt_zero _)⟩,hP⟩
 ·exact List.all_eq_true.1 heff e he
end Go.Proofs.YtlibkhbachmcgaaGreatDoor
