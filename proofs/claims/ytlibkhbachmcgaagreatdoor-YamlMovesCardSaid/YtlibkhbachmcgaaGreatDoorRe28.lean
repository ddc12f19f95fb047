import Derived.Test.YtlibkhbachmcgaaGreatDoorRe27
namespace Go.Proofs.YtlibkhbachmcgaaGreatDoor
set_option linter.unusedSimpArgs false
set_option linter.unusedVariables false
open Go.Lib hiding intOf
section
variable {m c:Nat}{s s':Stp}{sp sp':List (Nat×Nat)}
theorem nextG_len: ∀(rest:List (Nat×Nat)) (k:Nat) (lines:List LineR) {nx:Nat}{ls:List LineR},nextG s rest k lines= .ok nx ls→lines.length≤ls.length
 | [],k,lines,nx,ls,h=>by injection h with _ h;rw[h];exact Nat.le_refl _
 | x ::r,k,lines,nx,ls,h=>by
  unfold nextG at h
  split at h
  ·split at h
   ·injection h with _ h;rw[h];exact Nat.le_refl _
   ·exact nextG_len r _ _ h
  ·split at h
   ·cases h
   ·split at h
    ·injection h with _ h;rw[←h,List.length_append];omega
    ·have:=nextG_len r _ _ h
     rw[List.length_append] at this
     omega
theorem PosS.next (H:Sm m c s s' sp sp') {k k':Nat}{lines lines':List LineR} (hL:LsS m c s s' sp sp' lines lines') (hP:PosS c s sp sp' lines lines' k k') {nx nx':Nat}{ls ls':List LineR} (h:nextM s sp k lines= .ok nx ls) (h':nextM s' sp' k' lines'= .ok nx' ls'):PosS c s sp sp' ls ls' k k':=by
 rcases hP with⟨rfl,hk⟩ | ⟨rfl,p1,p2,p3,p4⟩
 ·exact .inl ⟨rfl,Nat.le_trans hk (nextG_len _ _ _ h)⟩
 ·unfold nextM at h h'
  rw[List.drop_of_length_le (Nat.le_refl _)] at h'
  obtain⟨more,m1,m2,m3⟩:=next_none (s:=s) (sp:=sp) (sp.drop k) k lines rfl p2 hL.le p3 (fun j hj1 hj2=>by
   have:=blank_line H.ok hj2 (p4 j hj1 hj2)
   exact⟨this.1,this.2.1⟩)
  rw[m1] at h
  injection h with _ h
  injection h' with _ h'
  subst h h'
  refine .inr ⟨rfl,p1,by rw[List.length_append];omega,fun j hj1 hj2=>?_,fun j hj1 hj2=>by omega⟩
  by_cases hj3:j<lines.length
  ·rw[lnAt_app hj3];exact p3 j hj1 hj3
  ·exact m3 j (by omega) (by omega)
structure NdS (e0:Prop) (s s':Stp) (ls ls':List LineR) (x x':YND):Prop where
 kind:x'.kind=x.kind
 kids:x'.kids=x.kids
 key:bytesI s' x'.kf x'.kt=bytesI s x.kf x.kt
 rst:bytesI s' x'.rf x'.rt=bytesI s x.rf x.rt
 lit:e0→x.kind=4→ ∀more more',litY s' (ls'++more') x'=litY s (ls++more) x
theorem NdS.mono {e0:Prop}{ls ls' a a':List LineR}{x x':YND} (h:NdS e0 s s' ls ls' x x') (h1: ∃q,a=ls++q) (h2: ∃q,a'=ls'++q):NdS e0 s s' a a' x x':=by
 obtain⟨q,rfl⟩:=h1
 obtain⟨q',rfl⟩:=h2
 exact⟨h.kind,h.kids,h.key,h.rst,fun e k more more'=>by rw[List.append_assoc,List.append_assoc];exact h.lit e k _ _⟩
abbrev E0 (c:Nat) (sp sp':List (Nat×Nat)):Prop:=sp'.length=c+sp.length
structure NsS (c:Nat) (s s':Stp) (sp sp':List (Nat×Nat)) (st st':YS):Prop where
 len:st'.nodes.length=st.nodes.length
 nd: ∀(i:Nat) (x x':YND),st.nodes[i]?=some x→st'.nodes[i]?=some x'→NdS (E0 c sp sp') s s' st.lines st'.lines x x'
 tot:st'.total=st.total
theorem NsS.mono {st st':YS} (h:NsS c s s' sp sp' st st') {ls ls':List LineR} (h1: ∃q,ls=st.lines++q) (h2: ∃q,ls'=st'.lines++q):NsS c s s' sp sp' ⟨ls,st.nodes,st.total⟩ ⟨ls',st'.nodes,st'.total⟩:=
 ⟨h.len,fun i x x' hx hx'=>(h.nd i x x' hx hx').mono h1 h2,h.tot⟩
theorem NsS.add {st st':YS} (h:NsS c s s' sp sp' st st') {ls ls':List LineR} (h1: ∃q,ls=st.lines++q) (h2: ∃q,ls'=st'.lines++q) {x x':YND} (hx:NdS (E0 c sp sp') s s' ls ls' x x') {t t':Nat} (ht:t'=t):NsS c s s' sp sp' ⟨ls,st.nodes++ [x],t⟩ ⟨ls',st'.nodes++ [x'],t'⟩:=by
 refine⟨by simp[h.len],fun i y y' hy hy'=>?_,ht⟩
 have hy:(st.nodes++ [x])[i]?=some y:=hy
 have hy':(st'.nodes++ [x'])[i]?=some y':=hy'
 by_cases hi:i<st.nodes.length
 ·rw[List.getElem?_append_left hi] at hy
  rw[List.getElem?_append_left (by rw[h.len];exact hi)] at hy'
  exact(h.nd i y y' hy hy').mono h1 h2
 ·have hil:=(List.getElem?_eq_some_iff.1 hy).1
  rw[List.length_append,List.length_singleton] at hil
  obtain rfl:i=st.nodes.length:=by omega
  rw[List.getElem?_append_right (Nat.le_refl _),Nat.sub_self] at hy
  rw[←h.len,List.getElem?_append_right (Nat.le_refl _),Nat.sub_self] at hy'
  obtain rfl:=Option.some.inj hy
  obtain rfl:=Option.some.inj hy'
  exact hx
def YRS (m c:Nat) (s s':Stp) (sp sp':List (Nat×Nat)) (R R':YR):Prop:=match R,R' with
 | .bad _ e, .bad _ e'=>e'=e
 | .ok n st, .ok n' st'=>n'=n∧LsS m c s s' sp sp' st.lines st'.lines∧NsS c s s' sp sp' st st'∧PosS c s sp sp' st.lines st'.lines (toOf st.nodes n) (toOf st'.nodes n)
 | _,_=>False
def VSm (m c:Nat) (s s':Stp) (sp sp':List (Nat×Nat)) (V V':YB):Prop:= ∀k kf kt kf' kt' st st',WfS s sp st→WfS s' sp' st'→k+1=st.lines.length→c+k+1=st'.lines.length→contentB (lnAt st.lines k)=true→LsS m c s s' sp sp' st.lines st'.lines→NsS c s s' sp sp' st st'→bytesI s' kf' kt'=bytesI s kf kt→YRS m c s s' sp sp' (V k kf kt st) (V' (c+k) kf' kt' st')
theorem LnOk.rstI {x:Nat×Nat}{r:LineR} (h:LnOk s x r):bytesI s r.rf r.rt=slI s r.rf r.rt:=bytesI_in h.rst.1 h.rst.2.1 h.rst.2.2
theorem LnOk.keyI {x:Nat×Nat}{r:LineR} (h:LnOk s x r):bytesI s r.kf r.kt=slI s r.kf r.kt:=bytesI_in h.key.1 h.key.2.1 h.key.2.2
theorem bytes00 (s:Stp):bytesI s 0 0= []:=by
 unfold bytesI slI
 rw[if_neg (by omega)]
 rfl
theorem restM_sim {lv k:Nat}{kf kt kf' kt':Int}{st st':YS} (hw:WfS s sp st) (hw':WfS s' sp' st') (hk:k<st.lines.length) (hcb:contentB (lnAt st.lines k)=true) (hL:LsS m c s s' sp sp' st.lines st'.lines) (hN:NsS c s s' sp sp' st st') (hkey:bytesI s' kf' kt'=bytesI s kf kt):YRS m c s s' sp sp' (restM s lv k kf kt st) (restM s' lv (c+k) kf' kt' st'):=by
 obtain⟨a1,_,a3⟩:=hL.at_ k hk
 have hln:=a3 hcb
 have o1:=hw.ls.2 k hk
 have o2:=hw'.ls.2 (c+k) a1
 unfold restM addM
 rw[hN.tot]
 by_cases h0:lv=0
 ·rw[if_pos h0,if_pos h0];exact rfl
 rw[if_neg h0,if_neg h0]
 by_cases h4:4096≤st.total
 ·rw[if_pos h4,if_pos h4];exact rfl
 rw[if_neg h4,if_neg h4]
 simp only[]
 rw[hln.rst]
 obtain⟨v,hv⟩: ∃v,readY (slI s (lnAt st.lines k).rf (lnAt st.lines k).rt)=v:=⟨_,rfl⟩
 rw[hv]
 by_cases h1:v.2=0
 rotate_left
 ·rw[if_pos h1,if_pos h1];exact rfl
 have h1': ¬v.2≠0:=by simp[h1]
 rw[if_neg h1',if_neg h1']
 by_cases h2:lv<v.1.depth
 ·rw[if_pos h2,if_pos h2];exact rfl
 rw[if_neg h2,if_neg h2]
 by_cases h3:4096<st.total+1+v.1.size-1
 ·rw[if_pos h3,if_pos h3];exact rfl
 rw[if_neg h3,if_neg h3]
 refine⟨hN.len,hL,hN.add (ls:=st.lines) (ls':=st'.lines) ⟨[],(List.append_nil _).symm⟩ ⟨[],(List.append_nil _).symm⟩ ?_ rfl,?_⟩
 ·refine NdS.mk rfl rfl hkey ?_ (fun _ e=>absurd e (show ¬(1:Nat)=4 by decide))
  show bytesI s' (lnAt st'.lines (c+k)).rf (lnAt st'.lines (c+k)).rt=bytesI s (lnAt st.lines k).rf (lnAt st.lines k).rt
  rw[o1.rstI,o2.rstI,hln.rst]
 ·refine .inl ⟨?_,?_⟩
  ·simp only[]
   rw[toOf_new st.nodes _ [],←hN.len,toOf_new st'.nodes _ []]
   show c+k+1=c+(k+1)
   omega
  ·simp only[]
   rw[toOf_new st.nodes _ []]
   exact hk
theorem reach_nb (s:Stp) (ind:Int): ∀(rest:List (Nat×Nat)) (i til first:Nat),til≤i→til<reachG s ind rest i til first→ ∃y∈rest.take (reachG s ind rest i til first-i),spL (lineT s y)≠(lineT s y).length
 | [],i,til,first,_,h=>by unfold reachG at h;omega
 | x::r,i,til,first,ht,h=>by
  unfold reachG at h ⊢
  by_cases hb:spL (lineT s x)=(lineT s x).length
  ·rw[if_pos hb] at h ⊢
   obtain⟨y,hy,h2⟩:=reach_nb s ind r (i+1) til first (by omega) h
   refine⟨y,?_,h2⟩
   have hle:=reachG_le s ind r (i+1) til first (by omega)
   obtain⟨T,hT⟩: ∃T,reachG s ind r (i+1) til first=T:=⟨_,rfl⟩
   rw[hT] at hy h hle ⊢
   by_cases hTi:T≤i
   ·rw[show T-(i+1)=0 by omega] at hy;cases hy
   ·rw[show T-i=(T-(i+1))+1 by omega,List.take_succ_cons]
    exact List.mem_cons_of_mem _ hy
  ·rw[if_neg hb] at h ⊢
   by_cases hs:(spL (lineT s x):Int)≤ind∨spL (lineT s x)<first
   ·rw[if_pos hs] at h;omega
   ·rw[if_neg hs]
    have hle:=reachG_le s ind r (i+1) (i+1) (if first=0 then spL (lineT s x) else first) (Nat.le_refl _)
    refine⟨x,?_,hb⟩
    obtain⟨T,hT⟩: ∃T,reachG s ind r (i+1) (i+1) (if first=0 then spL (lineT s x) else first)=T:=⟨_,rfl⟩
    rw[hT] at hle ⊢
    rw[show T-i=(T-(i+1))+1 by omega,List.take_succ_cons]
    exact List.mem_cons_self ..
theorem reach_sim (H:Sm m c s s' sp sp') {ind:Int} (hi:0≤ind): ∀(rest:List (Nat×Nat)) (i til first:Nat),sp.drop i=rest→i≤sp.length→til≤i→(∀j,til≤j→j<i→BlL s sp j)→
  reachG s' (ind+m) (sp'.drop (c+i)) (c+i) (c+til) (if first=0 then 0 else first+m)=c+reachG s ind rest i til first∨
  (reachG s' (ind+m) (sp'.drop (c+i)) (c+i) (c+til) (if first=0 then 0 else first+m)=sp'.length∧ ¬E0 c sp sp'∧ ∀j,reachG s ind rest i til first≤j→j<sp.length→BlL s sp j)
 | [],i,til,first,hd,hi2,ht,hb=>by
  have hil:=List.drop_eq_nil_iff.1 hd
  obtain rfl:i=sp.length:=by omega
  show _=c+til∨_
  by_cases he:E0 c sp sp'
  ·left
   rw[List.drop_of_length_le (by unfold E0 at he;omega)]
   rfl
  ·rcases H.reach (ind+m) (c+til) (if first=0 then 0 else first+m) with h | h
   ·exact .inl h
   ·exact .inr ⟨h,he,fun j hj1 hj2=>hb j hj1 hj2⟩
 | x ::r,i,til,first,hd,hi2,ht,hb=>by
  have his:i<sp.length:=by
   apply Classical.byContradiction
   intro hn
   rw[List.drop_of_length_le (by omega)] at hd
   cases hd
  have hd2:sp.drop (i+1)=r:=by rw[←List.drop_drop,hd];rfl
  have hx:spAt sp i=x:=by
   apply spAt_some
   have:=congrArg List.head? hd
   rw[List.head?_drop] at this
   exact this
  have hlen:=H.len
  have his':c+i<sp'.length:=by omega
  obtain⟨x',hx'⟩: ∃x',spAt sp' (c+i)=x':=⟨_,rfl⟩
  have hd':sp'.drop (c+i)=x'::sp'.drop (c+(i+1)):=by
   rw[List.drop_eq_getElem_cons his']
   congr 1
   rw[←hx']
   unfold spAt
   rw[List.getElem?_eq_getElem his']
   rfl
  have htx:=H.tx i his
  rw[hx,hx'] at htx
  rw[hd']
  unfold reachG
  rw[htx,spL_rep,List.length_append,List.length_replicate]
  by_cases hbl:spL (lineT s x)=(lineT s x).length
  ·rw[if_pos hbl,if_pos (by omega)]
   exact reach_sim H hi r (i+1) til first hd2 (by omega) (by omega) (fun j hj1 hj2=>by
    by_cases hji:j=i
    ·rw[hji];unfold BlL;rw[hx];exact hbl
    ·exact hb j hj1 (by omega))
  ·rw [if_neg hbl,if_neg (by omega)]
   by_cases hs:(spL (lineT s x):Int)≤ind∨spL (lineT s x)<first
   ·rw[if_pos hs,if_pos (by
     rcases hs with h | h
     ·left;omega
     ·right;rw[if_neg (by omega)];omega)]
    exact .inl rfl
   ·rw[if_neg hs,if_neg (by
     intro h
     apply hs
     rcases h with h | h
     ·left;omega
     ·right
      by_cases hf:first=0
      ·rw[if_pos hf] at h;omega
      ·rw[if_neg hf] at h;omega)]
    have:=reach_sim H hi r (i+1) (i+1) (if first=0 then spL (lineT s x) else first) hd2 (by omega) (Nat.le_refl _) (fun j hj1 hj2=>by omega)
    have e:(if(if first=0 then spL (lineT s x) else first)=0 then 0 else(if first=0 then spL (lineT s x) else first)+m)=(if(if first=0 then 0 else first+m)=0 then m+spL (lineT s x) else(if first=0 then 0 else first+m)):=by
     by_cases hf:first=0
     ·have h1:spL (lineT s x)≠0:=by omega
      simp only[hf,if_true,h1,if_false];omega
     ·have h2:first+m≠0:=by omega
      simp only[hf,if_false,h2]
    rw[e] at this
    exact this
theorem takesW_yes (s:Stp): ∀(l:List (Nat×Nat)) (ls:List LineR),(∀x∈l,¬mayA s x<x.2)→takesG s l ls= .inl (ls++l.map (textLine s))
 | [],ls,_=>by simp[takesG]
 | x::r,ls,h=>by
  unfold takesG
  rw[if_neg (h x (List.mem_cons_self ..)),takesW_yes s r _ (fun y hy=>h y (List.mem_cons_of_mem _ hy))]
  simp
theorem takesW_no (s:Stp): ∀(l:List (Nat×Nat)) (ls:List LineR),(∃x∈l,mayA s x<x.2)→ ∃a,takesG s l ls= .inr a
 | [],ls,h=>by obtain⟨x,hx,_⟩:=h;cases hx
 | x::r,ls,h=>by
  unfold takesG
  by_cases hx:mayA s x<x.2
  ·exact⟨_,if_pos hx⟩
  ·rw[if_neg hx]
   refine takesW_no s r _ ?_
   obtain⟨y,hy,h2⟩:=h
   rcases List.mem_cons.1 hy with e | hy
   ·rw[e] at h2;exact absurd h2 hx
   ·exact⟨y,hy,h2⟩
theorem seg_mem {sp:List (Nat×Nat)}{a b:Nat} (hb:b≤sp.length) {x:Nat×Nat}:x∈(sp.drop a).take (b-a)↔ ∃j,a≤j∧j<b∧spAt sp j=x:=by
 rw[List.mem_iff_getElem?]
 constructor
 ·rintro⟨i,hi⟩
  rw[List.getElem?_take] at hi
  split at hi
  ·rw[List.getElem?_drop] at hi
   exact⟨a+i,by omega,by omega,spAt_some hi⟩
  ·cases hi
 ·rintro⟨j,h1,h2,h3⟩
  refine⟨j-a,?_⟩
  rw[List.getElem?_take,if_pos (by omega),List.getElem?_drop,show a+(j-a)=j by omega]
  unfold spAt at h3
  rw[List.getElem?_eq_getElem (show j<sp.length by omega)] at h3 ⊢
  rw[←h3];rfl
theorem seg_len {sp:List (Nat×Nat)}{a b:Nat} (hb:b≤sp.length):((sp.drop a).take (b-a)).length=b-a:=by rw[List.length_take,List.length_drop];omega
theorem text_at {s:Stp}{sp:List (Nat×Nat)}{lines:List LineR}{b:Nat} (hb:b≤sp.length) {j:Nat} (h1:lines.length≤j) (h2:j<b):lnAt (lines++((sp.drop lines.length).take (b-lines.length)).map (textLine s)) j=textLine s (spAt sp j):=by
 unfold lnAt
 rw[List.getElem?_append_right h1,List.getElem?_map,List.getElem?_take,if_pos (by omega),List.getElem?_drop,show lines.length+(j-lines.length)=j by omega]
 unfold spAt
 rw[List.getElem?_eq_getElem (show j<sp.length by omega)]
 rfl
theorem cutGo_sim (m:Nat): ∀l:List (Stp×Int),(∀t∈l,0≤t.2∧spL t.1≤t.1.length)→(∃t∈l,spL t.1≠t.1.length)→0≤cutGo l∧cutGo (l.map fun t=>(List.replicate m 32++t.1,t.2+m))=cutGo l+m
 | [],_,h=>by obtain⟨t,ht,_⟩:=h;cases ht
 | (t,i)::r,h0,h=>by
  rw[List.map_cons]
  unfold cutGo
  simp only[]
  rw[spL_rep,List.length_append,List.length_replicate]
  by_cases hb:spL t=t.length
  ·rw[if_neg (by simp[hb]),if_neg (by simp[hb])]
   refine cutGo_sim m r (fun u hu=>h0 u (List.mem_cons_of_mem _ hu)) ?_
   obtain⟨u,hu,h2⟩:=h
   rcases List.mem_cons.1 hu with e | hu
   ·rw[e] at h2;exact absurd hb h2
   ·exact⟨u,hu,h2⟩
  ·rw[if_pos hb,if_pos (by omega)]
   exact⟨(h0 _ (List.mem_cons_self ..)).1,rfl⟩
end
section
variable {m c:Nat}{s s':Stp}{sp sp':List (Nat×Nat)}
theorem SpEnd.at_ (h:SpEnd s sp) {j:Nat} (hj:j<sp.length):s[(spAt sp j).2]?=none∨s[(spAt sp j).2]?=some 10:=by
 refine h.1 _ ?_
 unfold spAt
 rw[List.getElem?_eq_getElem hj]
 exact List.getElem_mem hj
theorem Sm.may (H:Sm m c s s' sp sp') {j:Nat} (hj:j<sp.length):(mayA s' (spAt sp' (c+j))<(spAt sp' (c+j)).2↔mayA s (spAt sp j)<(spAt sp j).2):=by
 have h1:=may_text (H.ok.at_ j).1 (H.ok.at_ j).2 (H.en.at_ hj)
 have h2:=may_text (H.ok'.at_ (c+j)).1 (H.ok'.at_ (c+j)).2 (H.en'.at_ (by have:=H.len;omega))
 rw[H.tx j hj,MtB_rep,←h1] at h2
 constructor
 ·intro h
  apply Classical.byContradiction
  intro hn
  exact h2.2 hn h
 ·intro h
  apply Classical.byContradiction
  intro hn
  exact h2.1 hn h
theorem literalM_sim (H:Sm m c s s' sp sp') {lv k:Nat}{kf kt kf' kt':Int}{st st':YS} (hw:WfS s sp st) (hw':WfS s' sp' st') (hk:k+1=st.lines.length) (hk':c+k+1=st'.lines.length) (hcb:contentB (lnAt st.lines k)=true) (hL:LsS m c s s' sp sp' st.lines st'.lines) (hN:NsS c s s' sp sp' st st') (hkey:bytesI s' kf' kt'=bytesI s kf kt):
  YRS m c s s' sp sp' (literalM s sp lv k kf kt st) (literalM s' sp' lv (c+k) kf' kt' st'):=by
 obtain⟨a1,_,a3⟩:=hL.at_ k (by omega)
 have hln:=a3 hcb
 have o1:=hw.ls.2 k (by omega)
 have o2:=hw'.ls.2 (c+k) a1
 have hks:k<sp.length:=by have:=hL.le;omega
 have hks':c+k<sp'.length:=by have:=hL.le';omega
 have hlen:=H.len
 have hind:0≤(lnAt st.lines k).ind:=o1.ind.1
 have hrc:=reach_sim H hind (sp.drop (k+1)) (k+1) (k+1) 0 rfl (by omega) (Nat.le_refl _) (fun j h1 h2=>by omega)
 rw[if_pos rfl] at hrc
 have hT0:=reachM_le (s:=s) (lnAt st.lines k).ind hks
 have hT0':=reachM_le (s:=s') ((lnAt st.lines k).ind+m) hks'
 unfold literalM addM
 rw[hN.tot,hln.ind]
 obtain⟨T,hT⟩: ∃T,reachM s sp (lnAt st.lines k).ind k=T:=⟨_,rfl⟩
 obtain⟨T',hT'⟩: ∃T,reachM s' sp' ((lnAt st.lines k).ind+m) (c+k)=T:=⟨_,rfl⟩
 have hrc2:T'=c+T∨(T'=sp'.length∧ ¬E0 c sp sp'∧ ∀j,T≤j→j<sp.length→BlL s sp j):=by
  rw[←hT,←hT']
  unfold reachM
  rw[show c+k+1=c+(k+1) by omega]
  exact hrc
 rw[hT] at hT0
 rw[hT'] at hT0'
 have HT:reachM s sp (lnAt st.lines k).ind k=T:=hT
 have HT':reachM s' sp' ((lnAt st.lines k).ind+m) (c+k)=T':=hT'
 rw[HT,HT']
 by_cases h0:lv=0
 ·rw[if_pos h0,if_pos h0];exact rfl
 rw[if_neg h0,if_neg h0]
 by_cases h4:4096≤st.total
 ·rw[if_pos h4,if_pos h4];exact rfl
 rw[if_neg h4,if_neg h4]
 simp only[]
 have hTle:c+T≤T':=by rcases hrc2 with h | ⟨h,_,_⟩<;>omega
 have hbad:(∃x∈(sp'.drop (c+k+1)).take (T'-(c+k+1)),mayA s' x<x.2)↔ ∃x∈(sp.drop (k+1)).take (T-(k+1)),mayA s x<x.2:=by
  constructor
  ·rintro⟨x,hx,h2⟩
   obtain⟨j',j1,j2,rfl⟩:=(seg_mem hT0'.2).1 hx
   obtain⟨j,rfl⟩: ∃j,j'=c+j:=⟨j'-c,by omega⟩
   by_cases hjT:j<T
   ·exact⟨spAt sp j,(seg_mem hT0.2).2 ⟨j,by omega,hjT,rfl⟩,(H.may (by omega)).1 h2⟩
   ·exfalso
    rcases hrc2 with h | ⟨h,_,hb⟩
    ·omega
    ·have hm:MtB (lineT s' (spAt sp' (c+j)))=true:=by
      by_cases hjs:j<sp.length
      ·rw[H.tx j hjs,MtB_rep]
       exact(blank_line H.ok hjs (hb j (by omega) hjs)).2.2
      ·exact(H.ext (c+j) (by omega) (by omega)).2.2
     exact(may_text (H.ok'.at_ (c+j)).1 (H.ok'.at_ (c+j)).2 (H.en'.at_ (by omega))).2 hm h2
  ·rintro⟨x,hx,h2⟩
   obtain⟨j,j1,j2,rfl⟩:=(seg_mem hT0.2).1 hx
   exact⟨spAt sp' (c+j),(seg_mem hT0'.2).2 ⟨c+j,by omega,by omega,rfl⟩,(H.may (by omega)).2 h2⟩
 by_cases hb: ∃x∈(sp.drop (k+1)).take (T-(k+1)),mayA s x<x.2
 ·obtain⟨a,ha⟩:=takesW_no s _ st.lines hb
  obtain⟨a',ha'⟩:=takesW_no s' _ st'.lines (hbad.2 hb)
  rw[ha,ha']
  exact rfl
 ·have hb':=fun h=>hb (hbad.1 h)
  have ha:=takesW_yes s ((sp.drop (k+1)).take (T-(k+1))) st.lines (fun x hx h=>hb ⟨x,hx,h⟩)
  have ha':=takesW_yes s' ((sp'.drop (c+k+1)).take (T'-(c+k+1))) st'.lines (fun x hx h=>hb' ⟨x,hx,h⟩)
  rw[ha,ha']
  rw[hk] at ha ⊢
  rw[hk'] at ha' ⊢
  obtain⟨L,hLd⟩: ∃L,st.lines++((sp.drop st.lines.length).take (T-st.lines.length)).map (textLine s)=L:=⟨_,rfl⟩
  obtain⟨L',hLd'⟩: ∃L,st'.lines++((sp'.drop st'.lines.length).take (T'-st'.lines.length)).map (textLine s')=L:=⟨_,rfl⟩
  have hLl:L.length=T:=by rw[←hLd,List.length_append,List.length_map,seg_len hT0.2];omega
  have hLl':L'.length=T':=by rw[←hLd',List.length_append,List.length_map,seg_len hT0'.2];omega
  have hat: ∀j,st.lines.length≤j→j<T→contentB (lnAt L j)=false:=fun j h1 h2=>by rw[←hLd,text_at hT0.2 h1 h2];rfl
  have hat': ∀j,st'.lines.length≤j→j<T'→contentB (lnAt L' j)=false:=fun j h1 h2=>by rw[←hLd',text_at hT0'.2 h1 h2];rfl
  rw[hLd] at ha ⊢
  rw[hLd'] at ha' ⊢
  refine⟨hN.len,⟨by rw[hLl];exact hT0.2,by rw[hLl'];exact hT0'.2,fun j hj=>?_,?_⟩,hN.add (ls:=L) (ls':=L') ⟨_,hLd.symm⟩ ⟨_,hLd'.symm⟩ ?_ rfl,?_⟩
  ·rw[hLl] at hj
   by_cases hj2:j<st.lines.length
   ·obtain⟨b1,b2,b3⟩:=hL.at_ j hj2
    have e1:lnAt L j=lnAt st.lines j:=by rw[←hLd];exact lnAt_app hj2
    have e2:lnAt L' (c+j)=lnAt st'.lines (c+j):=by rw[←hLd'];exact lnAt_app b1
    rw[e1,e2]
    exact⟨by rw[hLl'];omega,b2,b3⟩
   ·rw[hat j (by omega) hj,hat' (c+j) (by omega) (by omega)]
    exact⟨by rw[hLl'];omega,rfl,fun h=>by cases h⟩
  ·rcases hrc2 with h | ⟨h,_,hbl⟩
   ·exact .inl (by rw[hLl,hLl',h])
   ·refine .inr ⟨by rw[hLl',h],fun j h1 h2=>hbl j (by rw[hLl] at h1;exact h1) h2,fun j h1 h2=>hat' j (by rw[hLl] at h1;omega) (by omega)⟩
  ·refine NdS.mk rfl rfl hkey ?_ (fun he _ more more'=>?_)
   ·show bytesI s' (lnAt st'.lines (c+k)).rf (lnAt st'.lines (c+k)).rt=bytesI s (lnAt st.lines k).rf (lnAt st.lines k).rt
    rw[o1.rstI,o2.rstI,hln.rst]
   ·have hTT:T'=c+T:=by rcases hrc2 with h | ⟨_,h,_⟩;exact h;exact absurd he h
    have t1:=lit_ts (s:=s) (ind:=(lnAt st.lines k).ind) (x:=⟨4,(lnAt st.lines k).ind,k,T,kf,kt,(lnAt st.lines k).rf,(lnAt st.lines k).rt,[]⟩) H.ok more hk (by rw[HT,hk];exact ha) hks rfl HT.symm
    have t2:=lit_ts (s:=s') (ind:=(lnAt st.lines k).ind+m) (x:=⟨4,(lnAt st.lines k).ind+m,c+k,T',kf',kt',(lnAt st'.lines (c+k)).rf,(lnAt st'.lines (c+k)).rt,[]⟩) H.ok' more' hk' (by rw[HT',hk'];exact ha') hks' rfl HT'.symm
    rw[HT] at t1
    rw[HT'] at t2
    have hmap:((sp'.drop (c+k+1)).take (T'-(c+k+1))).map (fun y=>(lineT s' y,(spL (lineT s' y):Int)))=(((sp.drop (k+1)).take (T-(k+1))).map (fun y=>(lineT s y,(spL (lineT s y):Int)))).map (fun t:Stp×Int=>((List.replicate m 32++t.1,t.2+(m:Int)):Stp×Int)):=by
     refine List.ext_getElem? (fun i=>?_)
     rw[List.getElem?_map,List.getElem?_map,List.getElem?_map,List.getElem?_take,List.getElem?_take]
     by_cases hi:i<T-(k+1)
     ·rw[if_pos (by omega),if_pos hi,List.getElem?_drop,List.getElem?_drop]
      have h1:k+1+i<sp.length:=by omega
      have h2:c+k+1+i<sp'.length:=by omega
      have htx:=H.tx (k+1+i) h1
      unfold spAt at htx
      rw[show c+(k+1+i)=c+k+1+i by omega,List.getElem?_eq_getElem h1,List.getElem?_eq_getElem h2] at htx
      rw[List.getElem?_eq_getElem h1,List.getElem?_eq_getElem h2]
      simp only[Option.map_some,Option.some.injEq,Prod.mk.injEq]
      have htx:lineT s' sp'[c+k+1+i]=List.replicate m 32++lineT s sp[k+1+i]:=htx
      rw[htx,spL_rep]
      exact⟨rfl,by omega⟩
     ·rw[if_neg (by omega),if_neg hi]
      rfl
    rw[hmap] at t2
    obtain⟨ts,hts⟩: ∃ts,((sp.drop (k+1)).take (T-(k+1))).map (fun y=>(lineT s y,(spL (lineT s y):Int)))=ts:=⟨_,rfl⟩
    rw[hts] at t1 t2
    unfold litY
    rw[t1,t2]
    have hrest:bytesI s' (lnAt st'.lines (c+k)).rf (lnAt st'.lines (c+k)).rt=bytesI s (lnAt st.lines k).rf (lnAt st.lines k).rt:=by rw[o1.rstI,o2.rstI,hln.rst]
    simp only[]
    rw[hrest]
    by_cases hnil:ts= []
    ·rw[hnil];rfl
    ·have hlt:k+1<T:=by
      apply Classical.byContradiction
      intro hn
      apply hnil
      rw[←hts,show T-(k+1)=0 by omega]
      rfl
     have hnb:=reach_nb s (lnAt st.lines k).ind (sp.drop (k+1)) (k+1) (k+1) 0 (Nat.le_refl _) (by
      have:reachG s (lnAt st.lines k).ind (sp.drop (k+1)) (k+1) (k+1) 0=T:=HT
      rw[this];exact hlt)
     have hnb2: ∃y∈(sp.drop (k+1)).take (T-(k+1)),spL (lineT s y)≠(lineT s y).length:=by
      have:reachG s (lnAt st.lines k).ind (sp.drop (k+1)) (k+1) (k+1) 0=T:=HT
      rw[this] at hnb
      exact hnb
     obtain⟨g1,g2⟩:=cutGo_sim m ts (fun t ht=>by
      rw[←hts] at ht
      obtain⟨y,_,e⟩:=List.mem_map.1 ht
      rw[←e]
      exact⟨by simp only[];omega,spL_le _⟩) (by
      obtain⟨y,hy,h2⟩:=hnb2
      exact⟨(lineT s y,(spL (lineT s y):Int)),by rw[←hts];exact List.mem_map.2 ⟨y,hy,rfl⟩,h2⟩)
     rw[g2,List.map_map]
     have hmap2:ts.map ((fun t:Stp×Int=>t.1.drop (cutGo ts+(m:Int)).toNat) ∘ fun t=>(List.replicate m 32++t.1,t.2+(m:Int)))=ts.map fun t=>t.1.drop (cutGo ts).toNat:=by
      refine List.map_congr_left (fun t _=>?_)
      show (List.replicate m 32++t.1).drop (cutGo ts+(m:Int)).toNat=_
      rw[show (cutGo ts+(m:Int)).toNat=m+(cutGo ts).toNat by omega,drop_rep]
     rw[hmap2]
     congr 1
     have q1:ts.map (fun t:Stp×Int=>(List.replicate m 32++t.1,t.2+(m:Int)))≠ []:=by
      intro e
      exact hnil (List.map_eq_nil_iff.1 e)
     simp only[ne_eq,q1,hnil,not_false_eq_true,true_and]
  ·have e1:toOf (st.nodes++ [(⟨4,(lnAt st.lines k).ind,k,T,kf,kt,(lnAt st.lines k).rf,(lnAt st.lines k).rt,[]⟩:YND)]) st.nodes.length=T:=toOf_new st.nodes _ []
   have e2:toOf (st'.nodes++ [(⟨4,(lnAt st.lines k).ind+m,c+k,T',kf',kt',(lnAt st'.lines (c+k)).rf,(lnAt st'.lines (c+k)).rt,[]⟩:YND)]) st'.nodes.length=T':=toOf_new st'.nodes _ []
   simp only[]
   rw[e1,←hN.len,e2]
   rcases hrc2 with h | ⟨h,_,hbl⟩
   ·exact .inl ⟨h,by rw[hLl];exact Nat.le_refl _⟩
   ·exact .inr ⟨h,by rw[hLl',h],by rw[hLl];exact Nat.le_refl _,fun j h1 h2=>by omega,fun j h1 h2=>hbl j (by rw[hLl] at h1;exact h1) h2⟩
end
section
variable {m c:Nat}{s s':Stp}{sp sp':List (Nat×Nat)}
theorem pre_of (hsp:SpOk s sp) {k:Nat}{lines:List LineR} (hkl:k≤lines.length) (hok:LsOk s sp lines) (hl:Lk lines k) {nx:Nat}{ls:List LineR} (h:nextM s sp k lines= .ok nx ls):NxOk s sp k lines nx ls:=by
 have:=nextM_ok hsp hkl hok hl
 rw[h] at this
 exact this
theorem ymValue_sim (H:Sm m c s s' sp sp') {B B':YB}{lv:Nat} (hB:VSm m c s s' sp sp' B B'):VSm m c s s' sp sp' (ymValue s sp B lv) (ymValue s' sp' B' lv):=by
 intro k kf kt kf' kt' st st' hw hw' hk hk' hcb hL hN hkey
 obtain⟨a1,_,a3⟩:=hL.at_ k (by omega)
 have hln:=a3 hcb
 have hlen:=H.len
 unfold ymValue
 simp only[]
 rw[hln.rst]
 obtain⟨t,ht⟩: ∃t,slI s (lnAt st.lines k).rf (lnAt st.lines k).rt=t:=⟨_,rfl⟩
 rw[ht]
 by_cases h1:t= [124]∨t= [124,45]
 ·rw[if_pos h1,if_pos h1]
  exact literalM_sim H hw hw' hk hk' hcb hL hN hkey
 rw[if_neg h1,if_neg h1]
 by_cases h2:t= []
 rotate_left
 ·rw[if_neg h2,if_neg h2]
  exact restM_sim hw hw' (by omega) hcb hL hN hkey
 rw[if_pos h2,if_pos h2]
 have hs:=next_sim H hL (k:=k+1) (k':=c+k+1) (.inl ⟨by omega,by omega⟩)
 have ho:=fun nx ls=>pre_of (nx:=nx) (ls:=ls) H.ok (k:=k+1) (lines:=st.lines) (by omega) hw.ls (fun i h1 h2=>by omega)
 have ho':=fun nx ls=>pre_of (nx:=nx) (ls:=ls) H.ok' (k:=c+k+1) (lines:=st'.lines) (by omega) hw'.ls (fun i h1 h2=>by omega)
 cases hR:nextM s sp (k+1) st.lines with
 | bad a e=>
  cases hR':nextM s' sp' (c+k+1) st'.lines with
  | bad a' e'=>rw[hR,hR'] at hs;exact hs
  | ok nx' ls'=>rw[hR,hR'] at hs;exact hs.elim
 | ok nx ls=>
  cases hR':nextM s' sp' (c+k+1) st'.lines with
  | bad a' e'=>rw[hR,hR'] at hs;exact hs.elim
  | ok nx' ls'=>
   rw[hR,hR'] at hs
   obtain⟨hL2,hpos⟩:=hs
   have n1:=ho nx ls hR
   have n2:=ho' nx' ls' hR'
   have hN2:=hN.mono n1.pre n2.pre
   have hw2:WfS s sp ⟨ls,st.nodes,st.total⟩:=⟨n1.ok,hw.tot⟩
   have hw2':WfS s' sp' ⟨ls',st'.nodes,st'.total⟩:=⟨n2.ok,hw'.tot⟩
   simp only[]
   have el:lnAt ls k=lnAt st.lines k:=by obtain⟨q,hq⟩:=n1.pre;rw[hq];exact lnAt_app (by omega)
   have hrest:YRS m c s s' sp sp' (restM s lv k kf kt ⟨ls,st.nodes,st.total⟩) (restM s' lv (c+k) kf' kt' ⟨ls',st'.nodes,st'.total⟩):=
    restM_sim hw2 hw2' (by have:=n1.len;show k<ls.length;omega) (by show contentB (lnAt ls k)=true;rw[el];exact hcb) hL2 hN2 hkey
   rcases hpos with⟨p1,p2,p3,p4⟩ | ⟨p1,p2,_,_⟩
   ·obtain⟨_,_,b3⟩:=hL2.at_ nx p3
    have hi:=(b3 p4).ind
    subst p2
    have h3:=(n1.hit p1).1
    have h3':=(n2.hit (by omega)).1
    rw[hi,hln.ind]
    by_cases hc:(lnAt st.lines k).ind<(lnAt ls nx).ind
    ·rw[if_pos ⟨p1,hc⟩,if_pos ⟨by omega,by omega⟩]
     exact hB nx kf kt kf' kt' _ _ hw2 hw2' h3.symm h3'.symm p4 hL2 hN2 hkey
    ·rw[if_neg (fun h=>hc h.2),if_neg (fun h=>hc (by omega))]
     exact hrest
   ·rw[if_neg (fun h=>by omega),if_neg (fun h=>by omega)]
    exact hrest
theorem oneM_sim (H:Sm m c s s' sp sp') {V V':YB} (hV:VSm m c s s' sp sp' V V') (map:Bool) (had:List Stp) {k:Nat}{st st':YS} (hw:WfS s sp st) (hw':WfS s' sp' st') (hk:k+1=st.lines.length) (hk':c+k+1=st'.lines.length) (hcb:contentB (lnAt st.lines k)=true) (hL:LsS m c s s' sp sp' st.lines st'.lines) (hN:NsS c s s' sp sp' st st'):
  YRS m c s s' sp sp' (oneM s V map had k st).1 (oneM s' V' map had (c+k) st').1∧(oneM s' V' map had (c+k) st').2=(oneM s V map had k st).2:=by
 obtain⟨a1,_,a3⟩:=hL.at_ k (by omega)
 have hln:=a3 hcb
 have o1:=hw.ls.2 k (by omega)
 have o2:=hw'.ls.2 (c+k) a1
 unfold oneM
 cases map with
 | false=>exact⟨hV k 0 0 0 0 st st' hw hw' hk hk' hcb hL hN (by rw[bytes00,bytes00]),rfl⟩
 | true=>
  simp only[if_true]
  rw[hln.key]
  obtain⟨kr,hkr⟩: ∃q,keyRd (slI s (lnAt st.lines k).kf (lnAt st.lines k).kt)=q:=⟨_,rfl⟩
  rw[hkr]
  by_cases h1:kr.2=0
  rotate_left
  ·rw[if_pos h1,if_pos h1];exact⟨rfl,rfl⟩
  have h1': ¬kr.2≠0:=by simp[h1]
  rw[if_neg h1',if_neg h1']
  by_cases h2:kr.1∈had
  ·rw[if_pos h2,if_pos h2];exact⟨rfl,rfl⟩
  rw[if_neg h2,if_neg h2]
  exact⟨hV k _ _ _ _ st st' hw hw' hk hk' hcb hL hN (by rw[o1.keyI,o2.keyI,hln.key]),rfl⟩
def OnS (m c:Nat) (s s':Stp) (sp sp':List (Nat×Nat)) (n:Nat) (R R':OR):Prop:=match R,R' with
 | .bad _ e, .bad _ e'=>e'=e
 | .ok nx st had, .ok nx' st' had'=>had'=had∧LsS m c s s' sp sp' st.lines st'.lines∧NsS c s s' sp sp' st st'∧((nx<sp.length∧nx'=c+nx∧nx<st.lines.length∧contentB (lnAt st.lines nx)=true)∨(nx=sp.length∧nx'=sp'.length))∧PosS c s sp sp' st.lines st'.lines (toOf st.nodes n) (toOf st'.nodes n)∧ ∃y,st.nodes[n]?=some y∧y.kind≠4
 | _,_=>False
theorem ymOne_sim (H:Sm m c s s' sp sp') {V V':YB} (hG:VGood s sp V) (hG':VGood s' sp' V') (hV:VSm m c s s' sp sp' V V') {map:Bool}{n:Nat}{ind:Int} (had:List Stp) {k:Nat}{st st':YS} (hw:WfS s sp st) (hw':WfS s' sp' st') (hk:k+1=st.lines.length) (hk':c+k+1=st'.lines.length) (hcb:contentB (lnAt st.lines k)=true) (hL:LsS m c s s' sp sp' st.lines st'.lines) (hN:NsS c s s' sp sp' st st') {x0:YND} (hx0:st.nodes[n]?=some x0) (h04:x0.kind≠4):
  OnS m c s s' sp sp' n (ymOne s sp V map n ind had k st) (ymOne s' sp' V' map n (ind+m) had (c+k) st'):=by
 have hlen:=H.len
 have hn:n<st.nodes.length:=(List.getElem?_eq_some_iff.1 hx0).1
 obtain⟨o1,o2⟩:=oneM_sim H hV map had hw hw' hk hk' hcb hL hN
 have hg:=oneM_good hG map had hw hk
 have hg':=oneM_good hG' map had hw' hk'
 unfold ymOne
 obtain⟨⟨Q,hd2⟩,hQ⟩: ∃Q,oneM s V map had k st=Q:=⟨_,rfl⟩
 obtain⟨⟨Q',hd2'⟩,hQ'⟩: ∃Q,oneM s' V' map had (c+k) st'=Q:=⟨_,rfl⟩
 rw[hQ,hQ'] at o1 o2
 rw[hQ] at hg
 rw[hQ'] at hg'
 rw[hQ,hQ']
 have o2:hd2'=hd2:=o2
 subst o2
 cases Q with
 | bad a e=>
  cases Q' with
  | bad a' e'=>exact o1
  | ok kid' s2'=>exact o1.elim
 | ok kid s2=>
  cases Q' with
  | bad a' e'=>exact o1.elim
  | ok kid' s2'=>
   obtain⟨e0,hL2,hN2,hP2⟩:=(show kid'=kid∧_ from o1)
   subst e0
   obtain⟨g1,⟨more,g2n,g2⟩,⟨mls,g3⟩,g4,g5,g6⟩:=(show GoodS s sp k st kid' s2 from hg)
   obtain⟨_,⟨more',_,g2'⟩,⟨mls',g3'⟩,g4',g5',g6'⟩:=(show GoodS s' sp' (c+k) st' kid' s2' from hg')
   simp only[]
   have hs:=next_sim H hL2 hP2
   cases hR:nextM s sp (toOf s2.nodes kid') s2.lines with
   | bad a e=>
    cases hR':nextM s' sp' (toOf s2'.nodes kid') s2'.lines with
    | bad a' e'=>rw[hR,hR'] at hs;exact hs
    | ok nx' ls'=>rw[hR,hR'] at hs;exact hs.elim
   | ok nx ls=>
    cases hR':nextM s' sp' (toOf s2'.nodes kid') s2'.lines with
    | bad a' e'=>rw[hR,hR'] at hs;exact hs.elim
    | ok nx' ls'=>
     rw[hR,hR'] at hs
     obtain⟨hL3,hpos⟩:=hs
     have n1:=pre_of H.ok g4.2 g6.ls g5 hR
     have n2:=pre_of H.ok' g4'.2 g6'.ls g5' hR'
     have hP3:=PosS.next H hL2 hP2 hR hR'
     simp only[]
     have hcond:(nx<sp.length∧ind<(lnAt ls nx).ind)↔(nx'<sp'.length∧ind+(m:Int)<(lnAt ls' nx').ind):=by
      rcases hpos with⟨p1,p2,p3,p4⟩ | ⟨p1,p2,_,_⟩
      ·obtain⟨_,_,b3⟩:=hL3.at_ nx p3
       have hi:=(b3 p4).ind
       rw[p2,hi]
       constructor
       ·intro h;exact⟨by omega,by omega⟩
       ·intro h;exact⟨p1,by omega⟩
      ·constructor<;>intro h<;>omega
     by_cases hc:nx<sp.length∧ind<(lnAt ls nx).ind
     ·rw[if_pos hc,if_pos (hcond.1 hc)]
      exact rfl
     ·rw[if_neg hc,if_neg (fun h=>hc (hcond.2 h))]
      have hn2:n<s2.nodes.length:=by rw[g2,List.length_append];omega
      have hn2':n<s2'.nodes.length:=by rw[hN2.len];exact hn2
      obtain⟨x,hx⟩: ∃x,s2.nodes[n]?=some x:=⟨_,List.getElem?_eq_getElem hn2⟩
      obtain⟨x',hx'⟩: ∃x,s2'.nodes[n]?=some x:=⟨_,List.getElem?_eq_getElem hn2'⟩
      have hset:addKidY n kid' s2.nodes=s2.nodes.set n { x with kids:=x.kids++ [kid'],til:=toOf s2.nodes kid' }:=by unfold addKidY;exact modY_set _ n _ x hx
      have hset':addKidY n kid' s2'.nodes=s2'.nodes.set n { x' with kids:=x'.kids++ [kid'],til:=toOf s2'.nodes kid' }:=by unfold addKidY;exact modY_set _ n _ x' hx'
      have ht:toOf (addKidY n kid' s2.nodes) n=toOf s2.nodes kid':=by rw[hset];exact toOf_at (by rw[List.getElem?_set_self hn2])
      have ht':toOf (addKidY n kid' s2'.nodes) n=toOf s2'.nodes kid':=by rw[hset'];exact toOf_at (by rw[List.getElem?_set_self hn2'])
      have hN3:=hN2.mono n1.pre n2.pre
      have hxx:s2.nodes[n]?=some x0:=by rw[g2,List.getElem?_append_left hn];exact hx0
      rw[hx] at hxx
      obtain rfl:=Option.some.inj hxx
      refine⟨rfl,hL3,⟨?_,fun i y y' hy hy'=>?_,hN2.tot⟩,?_,by simp only[];rw[ht,ht'];exact hP3, { x with kids:=x.kids++ [kid'],til:=toOf s2.nodes kid' },by simp only[];rw[hset,List.getElem?_set_self hn2],h04⟩
      ·simp only[]
       rw[hset,hset',List.length_set,List.length_set];exact hN2.len
      ·simp only[] at hy hy'
       rw[hset,List.getElem?_set] at hy
       rw[hset',List.getElem?_set] at hy'
       by_cases hin:n=i
       ·subst hin
        rw[if_pos rfl,if_pos hn2] at hy
        rw[if_pos rfl,if_pos hn2'] at hy'
        obtain rfl:=Option.some.inj hy
        obtain rfl:=Option.some.inj hy'
        have h0:=hN3.nd n x x' hx hx'
        refine⟨h0.kind,by show x'.kids++ [kid']=x.kids++ [kid'];rw[h0.kids],h0.key,h0.rst,fun he h4 more more'=>?_⟩
        exact absurd h4 h04
       ·rw[if_neg hin] at hy hy'
        exact hN3.nd i y y' hy hy'
      ·rcases hpos with p | ⟨p1,p2,_,_⟩
       ·exact .inl p
       ·exact .inr ⟨p1,p2⟩
theorem ymLoop_sim (H:Sm m c s s' sp sp') {V V':YB} (hG:VGood s sp V) (hG':VGood s' sp' V') (hV:VSm m c s s' sp sp' V V') {map:Bool}{n:Nat}{ind kind:Int}: ∀(f f':Nat) (had:List Stp) (k k':Nat) (st st':YS) (x x':YND),
  sp.length≤k+f→sp'.length≤k'+f'→WfS s sp st→WfS s' sp' st'→LsS m c s s' sp sp' st.lines st'.lines→NsS c s s' sp sp' st st'→
  ((k<sp.length∧k'=c+k∧k+1=st.lines.length∧c+k+1=st'.lines.length∧contentB (lnAt st.lines k)=true)∨(k=sp.length∧k'=sp'.length))→
  st.nodes[n]?=some x→st'.nodes[n]?=some x'→x.kind≠4→((k<sp.length∧(lnAt st.lines k).ind=ind∧(lnAt st.lines k).kind=kind)∨PosS c s sp sp' st.lines st'.lines (toOf st.nodes n) (toOf st'.nodes n))→
  YRS m c s s' sp sp' (ymLoop s sp V map n ind kind f had k st) (ymLoop s' sp' V' map n (ind+m) kind f' had k' st'):=by
 have hlen:=H.len
 intro f
 induction f with
 | zero=>
  intro f' had k k' st st' x x' hf hf' hw hw' hL hN hk hx hx' h4 hP
  rcases hk with⟨k1,_,_,_,_⟩ | ⟨k1,k2⟩
  ·omega
  ·have hP2:PosS c s sp sp' st.lines st'.lines (toOf st.nodes n) (toOf st'.nodes n):=by
    rcases hP with h | h
    ·omega
    ·exact h
   have e:ymLoop s' sp' V' map n (ind+m) kind f' had k' st'= .ok n st':=by
    cases f' with
    | zero=>rfl
    | succ f'=>unfold ymLoop;rw[if_neg (by omega)]
   rw[e]
   exact⟨rfl,hL,hN,hP2⟩
 | succ f ih=>
  intro f' had k k' st st' x x' hf hf' hw hw' hL hN hk hx hx' h4 hP
  rcases hk with⟨k1,k2,k3,k4,k5⟩ | ⟨k1,k2⟩
  ·subst k2
   obtain⟨f1,rfl⟩: ∃f1,f'=f1+1:=⟨f'-1,by omega⟩
   obtain⟨_,_,a3⟩:=hL.at_ k (by omega)
   have hln:=a3 k5
   unfold ymLoop
   rw[hln.ind,hln.kind]
   by_cases hc:k<sp.length∧(lnAt st.lines k).ind=ind∧(lnAt st.lines k).kind=kind
   ·rw [if_pos hc,if_pos ⟨by omega,by omega,hc.2.2⟩]
    have ho:=ymOne_sim H hG hG' hV (map:=map) (n:=n) (ind:=ind) had hw hw' k3 k4 k5 hL hN hx h4
    cases hR:ymOne s sp V map n ind had k st with
    | bad a e=>
     cases hR':ymOne s' sp' V' map n (ind+m) had (c+k) st' with
     | bad a' e'=>rw[hR,hR'] at ho;exact ho
     | ok nx' s2' had2'=>rw[hR,hR'] at ho;exact ho.elim
    | ok nx s2 had2=>
     cases hR':ymOne s' sp' V' map n (ind+m) had (c+k) st' with
     | bad a' e'=>rw[hR,hR'] at ho;exact ho.elim
     | ok nx' s2' had2'=>
      rw[hR,hR'] at ho
      obtain⟨e0,hL2,hN2,hpos,hP2,y,y1,y2⟩:=(show had2'=had2∧_ from ho)
      subst e0
      obtain⟨_,g2,g3,g4,g5,g6,g7⟩:=ymOne_step H.ok hG hw k3 hx hR
      obtain⟨⟨y',y1',_,_⟩,_,_,g4',g5',g6',g7'⟩:=ymOne_step H.ok' hG' hw' k4 hx' hR'
      simp only[]
      refine ih f1 had2' nx nx' s2 s2' y y' (by omega) (by omega) g4 g4' hL2 hN2 ?_ y1 y1' y2 (.inr hP2)
      rcases hpos with⟨p1,p2,p3,p4⟩ | p
      ·subst p2
       exact .inl ⟨p1,rfl,g7 p1,g7' (by omega),p4⟩
      ·exact .inr p
   ·rw[if_neg hc,if_neg (fun h=>hc ⟨k1,by omega,h.2.2⟩)]
    rcases hP with h | h
    ·exact absurd h hc
    ·exact⟨rfl,hL,hN,h⟩
  ·have hP2:PosS c s sp sp' st.lines st'.lines (toOf st.nodes n) (toOf st'.nodes n):=by
    rcases hP with h | h
    ·omega
    ·exact h
   have e1:ymLoop s sp V map n ind kind (f+1) had k st= .ok n st:=by unfold ymLoop;rw[if_neg (by omega)]
   have e2:ymLoop s' sp' V' map n (ind+m) kind f' had k' st'= .ok n st':=by
    cases f' with
    | zero=>rfl
    | succ f'=>unfold ymLoop;rw[if_neg (by omega)]
   rw[e1,e2]
   exact⟨rfl,hL,hN,hP2⟩
end
section
variable {m c:Nat}{s s':Stp}{sp sp':List (Nat×Nat)}
theorem ymBlockS_sim (H:Sm m c s s' sp sp') {V V':YB} (lv:Nat) (hG:lv≠0→VGood s sp V) (hG':lv≠0→VGood s' sp' V') (hV:lv≠0→VSm m c s s' sp sp' V V'):VSm m c s s' sp sp' (ymBlockS s sp V lv) (ymBlockS s' sp' V' lv):=by
 intro k kf kt kf' kt' st st' hw hw' hk hk' hcb hL hN hkey
 obtain⟨a1,_,a3⟩:=hL.at_ k (by omega)
 have hln:=a3 hcb
 have hks:k<sp.length:=by have:=hL.le;omega
 have htot:=hw.tot
 have htot':=hw'.tot
 unfold ymBlockS
 simp only[]
 rw[hln.kind]
 by_cases h5:(lnAt st.lines k).kind=5
 ·rw[if_pos h5,if_pos h5]
  exact restM_sim hw hw' (by omega) hcb hL hN hkey
 rw[if_neg h5,if_neg h5]
 unfold addM
 rw[hN.tot]
 by_cases h0:lv=0
 ·rw[if_pos h0,if_pos h0];exact rfl
 rw[if_neg h0,if_neg h0]
 by_cases h4:4096≤st.total
 ·rw[if_pos h4,if_pos h4];exact rfl
 rw[if_neg h4,if_neg h4]
 simp only[]
 rw[hln.ind,hN.len]
 obtain⟨K,hK⟩: ∃K,(if(lnAt st.lines k).kind=4 then 3 else 2:Nat)=K:=⟨_,rfl⟩
 have hK4:K≠4:=by rw[←hK];split<;>decide
 rw[hK]
 have hN2:NsS c s s' sp sp' ⟨st.lines,st.nodes++ [⟨K,(lnAt st.lines k).ind,k,0,kf,kt,0,0,[]⟩],st.total+1⟩ ⟨st'.lines,st'.nodes++ [⟨K,(lnAt st.lines k).ind+m,c+k,0,kf',kt',0,0,[]⟩],st.total+1⟩:=by
  refine hN.add (ls:=st.lines) (ls':=st'.lines) ⟨[],(List.append_nil _).symm⟩ ⟨[],(List.append_nil _).symm⟩ ?_ rfl
  exact NdS.mk rfl rfl hkey (by show bytesI s' 0 0=bytesI s 0 0;rw[bytes00,bytes00]) (fun _ e=>absurd e hK4)
 refine ymLoop_sim H (hG h0) (hG' h0) (hV h0) _ _ [] k (c+k) _ _ ⟨K,(lnAt st.lines k).ind,k,0,kf,kt,0,0,[]⟩ ⟨K,(lnAt st.lines k).ind+m,c+k,0,kf',kt',0,0,[]⟩ (by omega) (by omega) ⟨hw.ls,?_⟩ ⟨hw'.ls,?_⟩ hL hN2 (.inl ⟨hks,rfl,hk,hk',hcb⟩) ?_ ?_ hK4 (.inl ⟨hks,rfl,rfl⟩)
 ·simp only[List.length_append,List.length_singleton];omega
 ·have:=hN.tot;simp only[List.length_append,List.length_singleton];omega
 ·simp
 ·show (st'.nodes++ [_])[st.nodes.length]?=_
  rw[←hN.len]
  simp
theorem ymBlock_sim (H:Sm m c s s' sp sp'): ∀lv,VSm m c s s' sp sp' (ymBlock s sp lv) (ymBlock s' sp' lv)
 | 0=>ymBlockS_sim H 0 (fun h=>absurd rfl h) (fun h=>absurd rfl h) (fun h=>absurd rfl h)
 | lv+1=>ymBlockS_sim H (lv+1) (fun _=>ymValue_good H.ok (ymBlock_good H.ok lv) lv) (fun _=>ymValue_good H.ok' (ymBlock_good H.ok' lv) lv) (fun _=>ymValue_sim H (ymBlock_sim H lv))
theorem front_pass {s':Stp}{sp':List (Nat×Nat)}{c:Nat} (hc:c≤sp'.length) (hf: ∀j,j<c→(lnL s' sp' j).2.2=0∧contentB (lnL s' sp' j).1=false): ∀(k:Nat) (lines:List LineR),k≤c→lines.length=k→ ∃F:List LineR,F.length=c∧nextG s' (sp'.drop k) k lines=nextG s' (sp'.drop c) c F:=by
 intro k
 induction hn:c-k generalizing k with
 | zero=>
  intro lines h1 h2
  obtain rfl:k=c:=by omega
  exact⟨lines,h2,rfl⟩
 | succ n ih=>
  intro lines h1 h2
  have hks:k<sp'.length:=by omega
  obtain⟨g1,g2⟩:=hf k (by omega)
  unfold lnL at g1 g2
  obtain⟨x,hx⟩: ∃x,spAt sp' k=x:=⟨_,rfl⟩
  have hd:sp'.drop k=x::sp'.drop (k+1):=by
   rw[List.drop_eq_getElem_cons hks]
   congr 1
   rw[←hx]
   unfold spAt
   rw[List.getElem?_eq_getElem hks]
   rfl
  rw[hx] at g1 g2
  obtain⟨F,f1,f2⟩:=ih (k+1) (by omega) (lines++ [(lineL s' x.1 x.2).1]) (by omega) (by rw[List.length_append,List.length_singleton];omega)
  refine⟨F,f1,?_⟩
  rw[hd]
  conv=>lhs;unfold nextG
  rw[List.getElem?_eq_none (by omega)]
  simp only[]
  rw[if_neg (by rw[g1];simp),if_neg (by rw[g2];simp),f2]
def DcS (e0:Prop) (s s':Stp) (R R':YDoc×Int×Int):Prop:=R'.2.2=R.2.2∧(R.2.2=0→R'.1.nodes.length=R.1.nodes.length∧ ∀(i:Nat) (x x':YND),R.1.nodes[i]?=some x→R'.1.nodes[i]?=some x'→NdS e0 s s' R.1.lines R'.1.lines x x')
theorem DcS.bad {e0:Prop}{d d':YDoc}{a a' e e':Int} (h:e'=e) (he:e≠0):DcS e0 s s' (d,a,e) (d',a',e'):=⟨h,fun h0=>absurd h0 he⟩
theorem whole_sim (H:Sm m c s s' sp sp') (hf: ∀j,j<c→(lnL s' sp' j).2.2=0∧contentB (lnL s' sp' j).1=false):DcS (E0 c sp sp') s s' (ymWhole s sp) (ymWhole s' sp'):=by
 have hlen:=H.len
 have hls:LsOk s sp []:=⟨Nat.zero_le _,fun i hi=>absurd hi (Nat.not_lt_zero _)⟩
 have hls':LsOk s' sp' []:=⟨Nat.zero_le _,fun i hi=>absurd hi (Nat.not_lt_zero _)⟩
 have h1:=nextM_ok H.ok (k:=0) (lines:= []) (Nat.le_refl _) hls (fun i _ hi=>absurd hi (Nat.not_lt_zero _))
 have h1':=nextM_ok H.ok' (k:=0) (lines:= []) (Nat.le_refl _) hls' (fun i _ hi=>absurd hi (Nat.not_lt_zero _))
 obtain⟨F,f1,f2⟩:=front_pass (s':=s') (sp':=sp') (c:=c) (by omega) hf 0 [] (Nat.zero_le _) rfl
 have hF:LsS m c s s' sp sp' [] F:=⟨Nat.zero_le _,by omega,fun j hj=>absurd hj (Nat.not_lt_zero _), .inl f1⟩
 have hs:=nextG_sim H (sp.drop 0) 0 [] F rfl (Nat.le_refl _) hF
 have e1:nextM s sp 0 []=nextG s (sp.drop 0) 0 []:=rfl
 have e2:nextM s' sp' 0 []=nextG s' (sp'.drop (c+0)) (c+0) F:=f2
 rw[←e1,←e2] at hs
 unfold ymWhole
 cases hN:nextM s sp 0 [] with
 | bad a e=>
  cases hN':nextM s' sp' 0 [] with
  | bad a' e'=>
   rw[hN,hN'] at hs
   rw[hN] at h1
   exact DcS.bad hs h1.2.2
  | ok nx' ls'=>rw[hN,hN'] at hs;exact hs.elim
 | ok k ls=>
  cases hN':nextM s' sp' 0 [] with
  | bad a' e'=>rw[hN,hN'] at hs;exact hs.elim
  | ok k' ls'=>
   rw[hN,hN'] at hs
   rw[hN] at h1
   rw[hN'] at h1'
   simp only[] at h1 h1' ⊢
   obtain⟨hL,hpos⟩:=hs
   rcases hpos with⟨p1,p2,p3,p4⟩ | ⟨p1,p2,_,_⟩
   ·subst p2
    have p1':c+k<sp'.length:=by omega
    rw[if_neg (fun h=>h p1),if_neg (fun h=>h p1')]
    have hw:WfS s sp ⟨ls,[],0⟩:=⟨h1.ok,by simp⟩
    have hw':WfS s' sp' ⟨ls',[],0⟩:=⟨h1'.ok,by simp⟩
    have hg:=ymBlock_good H.ok 32 k 0 0 ⟨ls,[],0⟩ hw (h1.hit p1).1.symm
    have hg':=ymBlock_good H.ok' 32 (c+k) 0 0 ⟨ls',[],0⟩ hw' (h1'.hit p1').1.symm
    have ht:=ymBlock_sim H 32 k 0 0 0 0 ⟨ls,[],0⟩ ⟨ls',[],0⟩ hw hw' (h1.hit p1).1.symm (h1'.hit p1').1.symm p4 hL ⟨rfl,fun i x x' hx=>(by cases hx),rfl⟩ (by rw[bytes00,bytes00])
    cases hB:ymBlock s sp 32 k 0 0 ⟨ls,[],0⟩ with
    | bad a e=>
     cases hB':ymBlock s' sp' 32 (c+k) 0 0 ⟨ls',[],0⟩ with
     | bad a' e'=>
      rw[hB,hB'] at ht
      rw[hB] at hg
      exact DcS.bad ht (show 0≤a∧a≤(s.length:Int)∧e≠0 from hg).2.2
     | ok n' st'=>rw[hB,hB'] at ht;exact ht.elim
    | ok n st=>
     cases hB':ymBlock s' sp' 32 (c+k) 0 0 ⟨ls',[],0⟩ with
     | bad a' e'=>rw[hB,hB'] at ht;exact ht.elim
     | ok n' st'=>
      rw[hB,hB'] at ht
      rw[hB] at hg
      rw[hB'] at hg'
      obtain⟨e0,hL2,hN2,hP2⟩:=(show n'=n∧_ from ht)
      obtain⟨g1,_,_,g4,g5,g6⟩:=(show GoodS s sp k ⟨ls,[],0⟩ n st from hg)
      obtain⟨_,_,_,g4',g5',g6'⟩:=(show GoodS s' sp' (c+k) ⟨ls',[],0⟩ n' st' from hg')
      have g10:n=0:=g1
      subst g10
      subst e0
      have h2:=nextM_ok H.ok (k:=toOf st.nodes 0) g4.2 g6.ls g5
      have h2':=nextM_ok H.ok' (k:=toOf st'.nodes 0) g4'.2 g6'.ls g5'
      have hs2:=next_sim H hL2 hP2
      simp only[]
      cases hM:nextM s sp (toOf st.nodes 0) st.lines with
      | bad a e=>
       cases hM':nextM s' sp' (toOf st'.nodes 0) st'.lines with
       | bad a' e'=>
        rw[hM,hM'] at hs2
        rw[hM] at h2
        exact DcS.bad hs2 h2.2.2
       | ok nx' ls'=>rw[hM,hM'] at hs2;exact hs2.elim
      | ok k2 ls2=>
       cases hM':nextM s' sp' (toOf st'.nodes 0) st'.lines with
       | bad a' e'=>rw[hM,hM'] at hs2;exact hs2.elim
       | ok k2' ls2'=>
        rw[hM,hM'] at hs2
        rw[hM] at h2
        rw[hM'] at h2'
        obtain⟨hL3,hpos⟩:=hs2
        simp only[] at h2 h2' ⊢
        have hN3:=hN2.mono h2.pre h2'.pre
        rcases hpos with⟨q1,q2,q3,q4⟩ | ⟨q1,q2,_,_⟩
        ·rw[if_pos q1,if_pos (by omega)]
         exact DcS.bad rfl (by decide)
        ·rw[if_neg (by omega),if_neg (by omega)]
         exact⟨rfl,fun _=>⟨hN3.len,hN3.nd⟩⟩
   ·rw[if_pos (by omega),if_pos (by omega)]
    refine⟨rfl,fun _=>⟨rfl,fun i x x' hx hx'=>?_⟩⟩
    have hx:([⟨1,0,0,0,0,0,(s.length:Int),(s.length:Int),[]⟩]:List YND)[i]?=some x:=hx
    have hx':([⟨1,0,0,0,0,0,(s'.length:Int),(s'.length:Int),[]⟩]:List YND)[i]?=some x':=hx'
    cases i with
    | zero=>
     obtain rfl:=Option.some.inj hx
     obtain rfl:=Option.some.inj hx'
     have hz: ∀t:Stp,bytesI t (t.length:Int) (t.length:Int)= []:=fun t=>by
      unfold bytesI slI
      rw[if_neg (by omega),Nat.sub_self,List.take_zero]
     exact NdS.mk rfl rfl (by rw[bytes00,bytes00]) (by simp only[];rw[hz,hz]) (fun _ e=>absurd e (show ¬(1:Nat)=4 by decide))
    | succ i=>cases hx
theorem value_sim {e0:Prop}{d d':YDoc} (hlen:d'.nodes.length=d.nodes.length) (hN: ∀(i:Nat) (x x':YND),d.nodes[i]?=some x→d'.nodes[i]?=some x'→NdS e0 s s' d.lines d'.lines x x') (h4:e0∨ ∀x∈d.nodes,x.kind≠4): ∀(lv k hi:Nat),TKY d.nodes lv k hi→nodeYv s' d' lv k=nodeYv s d lv k
 | lv+1,k,hi,h=>by
  have hkid:=fun {x} hx=>TKY.kid (x:=x) h hx
  obtain⟨x,hx,_⟩:=h
  have hk:=(List.getElem?_eq_some_iff.1 hx).1
  obtain⟨x',hx'⟩: ∃x',d'.nodes[k]?=some x':=⟨_,List.getElem?_eq_getElem (by omega)⟩
  have hn:=hN k x x' hx hx'
  unfold nodeYv
  rw[hx,hx']
  simp only[]
  rw[hn.kind,hn.rst,hn.kids]
  by_cases h1:x.kind=1
  ·rw[if_pos h1,if_pos h1]
  rw[if_neg h1,if_neg h1]
  by_cases hk4:x.kind=4
  ·rw[if_pos hk4,if_pos hk4]
   rcases h4 with h | h
   ·have:=hn.lit h hk4 [] []
    rw[List.append_nil,List.append_nil] at this
    rw[this]
   ·exact absurd hk4 (h x (List.mem_of_getElem? hx))
  rw[if_neg hk4,if_neg hk4]
  have e1:x.kids.map (keyYv s' d'.nodes)=x.kids.map (keyYv s d.nodes):=by
   refine List.map_congr_left (fun q hq=>?_)
   have hql:=(hkid hx q hq).2
   obtain⟨y,hy⟩: ∃y,d.nodes[q]?=some y:=⟨_,List.getElem?_eq_getElem hql⟩
   obtain⟨y',hy'⟩: ∃y,d'.nodes[q]?=some y:=⟨_,List.getElem?_eq_getElem (by omega)⟩
   unfold keyYv
   rw[hy,hy']
   simp only[]
   rw[(hN q y y' hy hy').key]
  have e2:x.kids.map (nodeYv s' d' lv)=x.kids.map (nodeYv s d lv):=by
   refine List.map_congr_left (fun q hq=>?_)
   obtain⟨m,hm⟩:=(hkid hx q hq).1
   exact value_sim hlen hN h4 lv q m hm
  rw[e1,e2]
end
end Go.Proofs.YtlibkhbachmcgaaGreatDoor
