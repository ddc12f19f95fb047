import Derived.Test.YtlibkhbachmcgaaGreatDoorRc27
namespace Go.Proofs.YtlibkhbachmcgaaGreatDoor
set_option linter.unusedSimpArgs false
set_option linter.unusedVariables false
open Go.Lib
def DpOk (s:Stp) (lv:Nat) (x:YND):Prop:=x.kind=1→(readY (slI s x.rf x.rt)).1.depth≤lv
def TKD (s:Stp) (ns:List YND):Nat→Nat→Nat→Prop
 | 0,_,_=>False
 | lv+1,k,hi=> ∃x,ns[k]?=some x∧DpOk s (lv+1) x∧KidsOk (TKD s ns lv) x.kids (k+1) hi
theorem TKD.tky {s:Stp}{ns:List YND}: ∀ {lv k hi:Nat},TKD s ns lv k hi→TKY ns lv k hi
 | lv+1,k,hi,⟨x,hx,_,h⟩=>⟨x,hx,h.monoP (fun _ _=>TKD.tky)⟩
theorem TKD.lt {s:Stp}{ns:List YND}{lv k hi:Nat} (h:TKD s ns lv k hi):k<hi:=h.tky.lt
theorem TKD.mono {s:Stp}{ns ns':List YND}: ∀ {lv k hi:Nat},TKD s ns lv k hi→(∀j y,k≤j→j<hi→ns[j]?=some y→ns'[j]?=some y)→TKD s ns' lv k hi
 | lv+1,k,hi,h,hm=>by
  have hkh:=h.lt
  obtain⟨x,hx,hd,h2⟩:=h
  exact⟨x,hm k x (Nat.le_refl _) hkh hx,hd,h2.imp hi (fun k m h=>h.lt) (fun k' m h5 h6 h7=>h7.mono (fun j y h8 h9=>hm j y (by omega) (by omega)))⟩
def TrR (s:Stp) (lv:Nat) (R:YR):Prop:=match R with
 | .ok n st'=>TKD s st'.nodes lv n st'.nodes.length
 | .bad _ _=>True
def VTr (s:Stp) (sp:List (Nat×Nat)) (lv:Nat) (V:YB):Prop:= ∀k kf kt st,WfS s sp st→k+1=st.lines.length→TrR s lv (V k kf kt st)
theorem leaf_tree {s:Stp}{ns:List YND}{x:YND}{lv:Nat} (h0:lv≠0) (hd:DpOk s lv x) (hx:x.kids= []):TKD s (ns++ [x]) lv ns.length (ns++ [x]).length:=by
 cases lv with
 | zero=>exact absurd rfl h0
 | succ lv=>exact⟨x,by simp,hd,by rw[hx];show ns.length+1=_;simp⟩
theorem restM_tree {s:Stp}{lv k:Nat}{kf kt:Int}{st:YS}:TrR s lv (restM s lv k kf kt st):=by
 unfold restM
 split
 ·trivial
 ·rename_i n1 s1 h1
  obtain⟨rfl,rfl,h0,_⟩:=addM_ok h1
  simp only[]
  split
  ·trivial
  ·split
   ·trivial
   ·rename_i hdp
    split
    ·trivial
    ·exact leaf_tree h0 (fun _=>Nat.le_of_not_lt hdp) rfl
theorem literalM_tree {s:Stp}{sp:List (Nat×Nat)}{lv k:Nat}{kf kt:Int}{st:YS}:TrR s lv (literalM s sp lv k kf kt st):=by
 unfold literalM
 split
 ·trivial
 ·rename_i n1 s1 h1
  obtain⟨rfl,rfl,h0,_⟩:=addM_ok h1
  simp only[]
  split
  ·trivial
  ·exact leaf_tree h0 (fun e=>by cases e) rfl
theorem ymValue_tree {s:Stp}{sp:List (Nat×Nat)} (hsp:SpOk s sp) {B:YB}{lv:Nat} (hB:VTr s sp lv B):VTr s sp lv (ymValue s sp B lv):=by
 intro k kf kt st hw hk
 unfold ymValue
 simp only[]
 split
 ·exact literalM_tree
 ·split
  ·have hn:=nextM_ok hsp (k:=k+1) (lines:=st.lines) (by omega) hw.ls (fun i h1 h2=>by omega)
   cases hm:nextM s sp (k+1) st.lines with
   | bad a e=>trivial
   | ok nx ls=>
    rw[hm] at hn
    simp only[] at hn ⊢
    split
    ·rename_i hc
     exact hB nx kf kt ⟨ls,st.nodes,st.total⟩ ⟨hn.ok,hw.tot⟩ (hn.hit hc.1).1.symm
    ·exact restM_tree
  ·exact restM_tree
theorem oneM_tree {s:Stp}{sp:List (Nat×Nat)}{V:YB}{m:Nat} (hV:VTr s sp m V) (map:Bool) (had:List Stp) {k:Nat}{st:YS} (hw:WfS s sp st) (hk:k+1=st.lines.length):TrR s m (oneM s V map had k st).1:=by
 unfold oneM
 split
 ·simp only[]
  split
  ·trivial
  ·split
   ·trivial
   ·exact hV _ _ _ _ hw hk
 ·exact hV _ _ _ _ hw hk
theorem ymOne_tree {s:Stp}{sp:List (Nat×Nat)}{V:YB} (hG:VGood s sp V) {m:Nat} (hV:VTr s sp m V) {map:Bool}{n:Nat}{ind:Int}{had had':List Stp}{k nx:Nat}{st s3:YS} (hw:WfS s sp st) (hk:k+1=st.lines.length) {x:YND} (hx:st.nodes[n]?=some x) (hK:KidsOk (TKD s st.nodes m) x.kids (n+1) st.nodes.length) (h:ymOne s sp V map n ind had k st= .ok nx s3 had'):
  ∃x',s3.nodes[n]?=some x'∧x'.kind=x.kind∧KidsOk (TKD s s3.nodes m) x'.kids (n+1) s3.nodes.length:=by
 have hg:=oneM_good hG map had hw hk
 have ht:=oneM_tree hV map had hw hk
 unfold ymOne at h
 obtain⟨⟨Q,had2⟩,hQ⟩: ∃Q,oneM s V map had k st=Q:=⟨_,rfl⟩
 rw[hQ] at h hg ht
 cases Q with
 | bad a e=>cases h
 | ok kid s2=>
  obtain⟨g1,⟨more,g2n,g2⟩,_,_,_,_⟩:=(show GoodS s sp k st kid s2 from hg)
  have ht:TKD s s2.nodes m kid s2.nodes.length:=ht
  simp only[] at h
  split at h
  ·cases h
  ·split at h
   ·cases h
   ·injection h with e1 e2 e3
    have hnl:=(List.getElem?_eq_some_iff.1 hx).1
    have hx2:s2.nodes[n]?=some x:=by rw[g2,List.getElem?_append_left hnl];exact hx
    have hn2:=(List.getElem?_eq_some_iff.1 hx2).1
    subst e2
    simp only[]
    obtain⟨ns3,hns3⟩: ∃ns3,addKidY n kid s2.nodes=ns3:=⟨_,rfl⟩
    have hset:ns3=s2.nodes.set n { x with kids:=x.kids++ [kid],til:=toOf s2.nodes kid }:=by
     rw[←hns3];unfold addKidY;exact modY_set _ n _ x hx2
    have hl3:ns3.length=s2.nodes.length:=by rw[hset,List.length_set]
    rw[hns3]
    refine⟨{ x with kids:=x.kids++ [kid],til:=toOf s2.nodes kid },by rw[hset,List.getElem?_set_self hn2],rfl,?_⟩
    simp only[]
    have hmono: ∀k' m',n<k'→TKD s s2.nodes m k' m'→TKD s ns3 m k' m':=fun k' m' h1 h2=>h2.mono (fun j y h3 h4 h5=>by rw[hset,List.getElem?_set_ne (by omega)];exact h5)
    refine KidsOk.snoc (k:=kid) ?_ (by rw[hl3];exact hmono _ _ (by omega) ht)
    rw[g1]
    exact hK.imp _ (fun k m h=>TKD.lt h) (fun k' m' h1 h2 h3=>hmono k' m' (by omega) (h3.mono (fun j y h4 h5 h6=>by rw[g2,List.getElem?_append_left (by omega)];exact h6)))
theorem ymLoop_tree {s:Stp}{sp:List (Nat×Nat)} (hsp:SpOk s sp) {V:YB} (hG:VGood s sp V) {m:Nat} (hV:VTr s sp m V) {map:Bool}{n:Nat}{ind kind:Int}: ∀(f:Nat) (had:List Stp) (k:Nat) (st:YS) (x:YND),
  WfS s sp st→(k<sp.length→k+1=st.lines.length)→st.nodes[n]?=some x→x.kind≠1→KidsOk (TKD s st.nodes m) x.kids (n+1) st.nodes.length→TrR s (m+1) (ymLoop s sp V map n ind kind f had k st)
 | 0,had,k,st,x,hw,hk,hx,hx1,hK=>⟨x,hx,fun e=>absurd e hx1,hK⟩
 | f+1,had,k,st,x,hw,hk,hx,hx1,hK=>by
  unfold ymLoop
  split
  ·rename_i hc
   cases ho:ymOne s sp V map n ind had k st with
   | bad a e=>trivial
   | ok nx s2 had'=>
    obtain⟨x',h1,hx1',h2⟩:=ymOne_tree hG hV hw (hk hc.1) hx hK ho
    obtain⟨_,_,_,h3,h4,h5,h6⟩:=ymOne_step hsp hG hw (hk hc.1) hx ho
    exact ymLoop_tree hsp hG hV f had' nx s2 x' h3 h6 h1 (by rw[hx1'];exact hx1) h2
  ·exact⟨x,hx,fun e=>absurd e hx1,hK⟩
theorem ymBlockS_tree {s:Stp}{sp:List (Nat×Nat)} (hsp:SpOk s sp) {V:YB} (lv:Nat) (hG:lv≠0→VGood s sp V) (hV: ∀m,lv=m+1→VTr s sp m V):VTr s sp lv (ymBlockS s sp V lv):=by
 intro k kf kt st hw hk
 unfold ymBlockS
 simp only[]
 split
 ·exact restM_tree
 ·split
  ·trivial
  ·rename_i n1 s1 h1
   obtain⟨rfl,rfl,h0,h4⟩:=addM_ok h1
   obtain⟨m,rfl⟩: ∃m,lv=m+1:=⟨lv-1,by omega⟩
   have htot:=hw.tot
   refine ymLoop_tree hsp (hG h0) (hV m rfl) _ _ _ _ _ ⟨hw.ls,by simp only[List.length_append,List.length_singleton];omega⟩ (fun _=>hk) (by simp;rfl) (by simp only[];split<;>decide) ?_
   show st.nodes.length+1=_
   simp
theorem ymBlock_tree {s:Stp}{sp:List (Nat×Nat)} (hsp:SpOk s sp): ∀lv,VTr s sp lv (ymBlock s sp lv)
 | 0=>ymBlockS_tree hsp 0 (fun h=>absurd rfl h) (fun m h=>by omega)
 | lv+1=>ymBlockS_tree hsp (lv+1) (fun _=>ymValue_good hsp (ymBlock_good hsp lv) lv) (fun m h=>by
   obtain rfl:m=lv:=by omega
   exact ymValue_tree hsp (ymBlock_tree hsp m))
structure DocTr (s:Stp) (d:YDoc):Prop where
 treeD:TKD s d.nodes 32 0 d.nodes.length
 cnt:d.nodes.length≤4096
 lns:d.lines.length≤(spY s).length
 ok:LsOk s (spY s) d.lines
theorem whole_tree {s:Stp}{d:YDoc}{a:Int} (h:ymWhole s (spY s)=(d,a,0)):DocTr s d:=by
 have hsp:=spY_ok s
 have hls:LsOk s (spY s) []:=⟨Nat.zero_le _,fun i hi=>absurd hi (Nat.not_lt_zero _)⟩
 have h1:=nextM_ok hsp (k:=0) (lines:= []) (Nat.le_refl _) hls (fun i _ hi=>absurd hi (Nat.not_lt_zero _))
 unfold ymWhole at h
 cases hN:nextM s (spY s) 0 [] with
 | bad a' e'=>
  rw[hN] at h1 h
  simp only[Prod.mk.injEq] at h
  exact absurd h.2.2 h1.2.2
 | ok k ls=>
  rw[hN] at h1 h
  simp only[] at h1 h
  by_cases hk:k<(spY s).length
  ·rw [if_neg (fun e=>e hk)] at h
   have hw:WfS s (spY s) ⟨ls,[],0⟩:=⟨h1.ok,by simp⟩
   have hg:=ymBlock_good hsp 32 k 0 0 ⟨ls,[],0⟩ hw (h1.hit hk).1.symm
   have ht:=ymBlock_tree hsp 32 k 0 0 ⟨ls,[],0⟩ hw (h1.hit hk).1.symm
   cases hB:ymBlock s (spY s) 32 k 0 0 ⟨ls,[],0⟩ with
   | bad a' e'=>
    rw[hB] at hg h
    simp only[Prod.mk.injEq] at h
    exact absurd h.2.2 (show 0≤a'∧a'≤(s.length:Int)∧e'≠0 from hg).2.2
   | ok n st=>
    rw[hB] at hg ht h
    obtain⟨g1,_,_,g4,g5,g6⟩:=(show GoodS s (spY s) k ⟨ls,[],0⟩ n st from hg)
    have g10:n=0:=g1
    subst g10
    have ht:TKD s st.nodes 32 0 st.nodes.length:=ht
    have h2:=nextM_ok hsp (k:=toOf st.nodes 0) g4.2 g6.ls g5
    simp only[] at h
    cases hN2:nextM s (spY s) (toOf st.nodes 0) st.lines with
    | bad a' e'=>
     rw[hN2] at h2 h
     simp only[Prod.mk.injEq] at h
     exact absurd h.2.2 h2.2.2
    | ok k2 ls2=>
     rw[hN2] at h2 h
     simp only[] at h h2
     split at h
     ·simp only[Prod.mk.injEq] at h
      exact absurd h.2.2 (by decide)
     ·injection h with e1 e2
      subst e1
      exact⟨ht,by have:=g6.tot;simp only[];omega,h2.ok.1,h2.ok⟩
  ·rw[if_pos hk] at h
   injection h with e1 e2
   subst e1
   exact⟨⟨_,rfl,fun _=>by unfold slI;rw[Nat.sub_self,List.take_zero];decide,rfl⟩,by simp,h1.ok.1,h1.ok⟩
theorem DocTr.tree {s:Stp}{d:YDoc} (h:DocTr s d):TKY d.nodes 32 0 d.nodes.length:=h.treeD.tky
theorem TKY.sub {ns:List YND}: ∀ {lv k hi:Nat},TKY ns lv k hi→ ∀j,k≤j→j<hi→ ∃m,TKY ns lv j m
 | lv+1,k,hi,h,j,h1,h2=>by
  by_cases hjk:j=k
  ·subst hjk;exact⟨hi,h⟩
  ·obtain⟨x,hx,hK⟩:=h
   have key: ∀(l:List Nat) (a:Nat),KidsOk (TKY ns lv) l a hi→a≤j→ ∃m,TKY ns lv j m:=by
    intro l
    induction l with
    | nil=>intro a h ha;have:a=hi:=h;omega
    | cons y l ih=>
     intro a h ha
     obtain⟨rfl,m,h3,h4⟩:=h
     by_cases hm:m≤j
     ·exact ih m h4 hm
     ·exact TKY.sub h3 j ha (by omega)
   obtain⟨m,hm⟩:=key _ _ hK (by omega)
   exact⟨m,hm.up⟩
theorem kidsY_le {P:Nat→Nat→Prop} (hlt: ∀k m,P k m→k<m) {hi:Nat}: ∀ {l:List Nat}{a:Nat},KidsOk P l a hi→a+l.length≤hi
 | [],a,h=>Nat.le_of_eq h
 | y::l,a,h=>by
  obtain⟨rfl,m,h2,h3⟩:=h
  have h4:=hlt _ _ h2
  have:=kidsY_le hlt h3
  rw[List.length_cons]
  omega
theorem DocTr.node {s:Stp}{d:YDoc} (h:DocTr s d) {k:Nat} (hk:k<d.nodes.length): ∃m,TKY d.nodes 32 k m∧m≤d.nodes.length:=by
 obtain⟨m,hm⟩:=h.tree.sub k (Nat.zero_le _) hk
 refine⟨m,hm,?_⟩
 have: ∀ {lv k m:Nat},TKY d.nodes lv k m→m≤d.nodes.length:=by
  intro lv
  induction lv with
  | zero=>intro k m h;exact h.elim
  | succ lv ih=>
   intro k m h
   obtain⟨x,hx,hK⟩:=h
   have hkl:=(List.getElem?_eq_some_iff.1 hx).1
   have: ∀(l:List Nat) (a:Nat),a≤d.nodes.length→KidsOk (TKY d.nodes lv) l a m→m≤d.nodes.length:=by
    intro l
    induction l with
    | nil=>intro a ha h;have:a=m:=h;omega
    | cons y l ih2=>
     intro a ha h
     obtain⟨rfl,q,h3,h4⟩:=h
     exact ih2 q (ih h3) h4
   exact this _ _ (by omega) hK
 exact this hm
theorem DocTr.kids {s:Stp}{d:YDoc} (h:DocTr s d) {k:Nat}{x:YND} (hx:d.nodes[k]?=some x):x.kids.length≤4096:=by
 obtain⟨m,hm,hml⟩:=h.node (List.getElem?_eq_some_iff.1 hx).1
 obtain⟨x',hx',hK⟩:=hm
 rw[hx] at hx'
 obtain rfl:=Option.some.inj hx'
 have:=kidsY_le (fun _ _=>TKY.lt) hK
 have:=h.cnt
 omega
def sumSp (sp:List (Nat×Nat)):Nat:=(sp.map fun x=>x.2-x.1+1).sum
theorem sumSp_app (a b:List (Nat×Nat)):sumSp (a++b)=sumSp a+sumSp b:=by unfold sumSp;simp
theorem sumSp_cons (x:Nat×Nat) (b:List (Nat×Nat)):sumSp (x::b)=(x.2-x.1+1)+sumSp b:=by unfold sumSp;simp
theorem sumSp_cut (l:List (Nat×Nat)) (a b:Nat):sumSp ((l.drop a).take b)≤sumSp l:=by
 have e:l=l.take a++((l.drop a).take b++(l.drop a).drop b):=by rw[List.take_append_drop,List.take_append_drop]
 conv=>rhs;rw[e]
 rw[sumSp_app,sumSp_app];omega
def SpEnd (s:Stp) (sp:List (Nat×Nat)):Prop:=(∀x∈sp,s[x.2]?=none∨s[x.2]?=some 10)∧sumSp sp≤s.length+1
theorem cutSp_cons2 (x:Nat×Nat) {l:List (Nat×Nat)} (h:l≠ []):cutSp (x::l)=(x.1,x.2-1)::cutSp l:=by
 cases l with
 | nil=>exact absurd rfl h
 | cons y r=>rfl
theorem linesL_ne2: ∀(l:Stp) (k pos:Nat),linesL l k pos≠ []
 | [],_,_=>by simp[linesL]
 | c::l,k,pos=>by
  unfold linesL
  split
  ·simp
  ·exact linesL_ne2 l k (pos+1)
theorem cut_ends (s:Stp): ∀(l:Stp) (k pos:Nat),s.drop pos=l→ ∀x∈cutSp (linesL l k pos),s[x.2]?=none∨s[x.2]?=some 10
 | [],k,pos,h,x,hx=>by
  rw[show linesL ([]:Stp) k pos= [(k,pos)] from rfl] at hx
  rw[show cutSp [(k,pos)]= [(k,pos)] from rfl,List.mem_singleton] at hx
  subst hx
  left
  rw[List.getElem?_eq_none_iff]
  exact List.drop_eq_nil_iff.1 h
 | c::l,k,pos,h,x,hx=>by
  have h1:s.drop (pos+1)=l:=by rw[←List.drop_drop,h];rfl
  have h0:s[pos]?=some c:=by
   have:=congrArg List.head? h
   rw[List.head?_drop] at this
   exact this
  unfold linesL at hx
  split at hx
  ·rename_i hc
   rw[cutSp_cons2 _ (linesL_ne2 _ _ _)] at hx
   rcases List.mem_cons.1 hx with e | hx
   ·right
    rw[e]
    show s[pos+1-1]?=_
    rw[Nat.add_sub_cancel,h0,hc]
   ·exact cut_ends s l _ _ h1 x hx
  ·exact cut_ends s l _ _ h1 x hx
theorem cut_sum: ∀(l:Stp) (k pos:Nat),k≤pos→sumSp (cutSp (linesL l k pos))=(pos-k)+l.length+1
 | [],k,pos,h=>by
  rw[show linesL ([]:Stp) k pos= [(k,pos)] from rfl,show cutSp [(k,pos)]= [(k,pos)] from rfl,sumSp_cons]
  rfl
 | c::l,k,pos,h=>by
  unfold linesL
  split
  ·rw[cutSp_cons2 _ (linesL_ne2 _ _ _),sumSp_cons,cut_sum l (pos+1) (pos+1) (Nat.le_refl _),List.length_cons]
   simp only[]
   omega
  ·rw[cut_sum l k (pos+1) (by omega),List.length_cons];omega
theorem spY_end (s:Stp):SpEnd s (spY s):=⟨fun x hx=>cut_ends s s 0 0 (by simp) x hx,by
 have:=cut_sum s 0 0 (Nat.le_refl _)
 unfold spY
 omega⟩
theorem joinNl_sum: ∀l:List Stp,(joinNl l).length≤(l.map fun t=>t.length+1).sum
 | []=>Nat.zero_le _
 | [x]=>by simp[joinNl]
 | x::y::r=>by
  have:=joinNl_sum (y::r)
  rw[List.map_cons,List.sum_cons]
  simp only[joinNl,List.length_append,List.length_cons] at this ⊢
  omega
theorem may_valid (s:Stp) (e:Nat) (hE:s[e]?=none∨s[e]?=some 10) (he:e≤s.length): ∀(f i:Nat),e≤i+f→ ¬mayGo s e f i<e→validD ((s.drop i).take (e-i))=true
 | 0,i,hf,_=>by rw[show e-i=0 by omega,List.take_zero];rfl
 | f +1,i,hf,h=>by
  unfold mayGo at h
  by_cases hei:e≤i
  ·rw[show e-i=0 by omega,List.take_zero];rfl
  rw[if_neg hei] at h
  split at h
  ·omega
  ·rename_i hb
   have hne:s.drop i≠ []:=by intro h0;have:=List.drop_eq_nil_iff.1 h0;omega
   obtain⟨r,n,hd⟩: ∃r n,decodeL (s.drop i)=(r,n):=⟨_,_,rfl⟩
   have hn1:=decodeL_width (s.drop i)
   have hn2:=decodeL_le (s.drop i) hne
   have hok:=decode_okRune (s.drop i)
   have hg: ¬((decodeL (s.drop i)).1=65533∧(decodeL (s.drop i)).2=1):=by
    intro hh
    apply hb
    unfold badM
    rw[hh.1,hh.2]
    rfl
   have henc:=encode_decode (s.drop i) hne (by omega)
   rw[hd] at h hn1 hn2 hok henc
   simp only[] at h hn1 hn2 hok henc
   have hnl:n≤e-i:=by
    apply Classical.byContradiction
    intro hgt
    have hlen:((s.drop i).take n).length=n:=by rw[List.length_take];omega
    rw[List.length_drop] at hn2
    have hr:(128:Int)≤(r:Int):=by
     apply Classical.byContradiction
     intro hlt
     have h1:=encode_one (UInt8.ofNat r) (by rw[UInt8.toNat_ofNat'];omega)
     rw[UInt8.toNat_ofNat',Nat.mod_eq_of_lt (by omega)] at h1
     rw[h1] at henc
     rw[←henc] at hlen
     simp only[List.length_singleton] at hlen
     omega
    have hse:s[e]?=some (s[e]'(by omega)):=List.getElem?_eq_getElem (by omega)
    have hin:s[e]'(by omega)∈encodeRune (r:Int):=by
     rw[henc]
     refine List.mem_of_getElem? (i:=e-i) ?_
     rw[List.getElem?_take,if_pos (by omega),List.getElem?_drop,show i+(e-i)=e by omega]
     exact hse
    have:=encode_high (r:Int) hok hr _ hin
    rcases hE with h0 | h0
    ·rw[h0] at hse;cases hse
    ·rw[h0] at hse
     rw[←Option.some.inj hse] at this
     exact absurd this (by decide)
   have hsplit:(s.drop i).take (e-i)=(s.drop i).take n++(s.drop (i+n)).take (e-(i+n)):=by
    rw[show e-i=n+(e-(i+n)) by omega,List.take_add,List.drop_drop]
   rw[hsplit]
   refine validD_cat (by rw[←henc];exact validD_one _ hok) (may_valid s e hE he f (i+n) (by omega) h)
theorem line_valid {s:Stp}{x:Nat×Nat} (h1:x.1≤x.2) (h2:x.2≤s.length) (hE:s[x.2]?=none∨s[x.2]?=some 10) (h: ¬mayA s x<x.2):validD (lineT s x)=true:=may_valid s x.2 hE h2 (x.2-x.1) x.1 (by omega) h
theorem valid_32 (u:Stp):validD (32::u)=validD u:=by
 have:=validD_app [32] u rfl
 exact this
theorem valid_drop : ∀ (t : Stp) (c:Nat),validD t=true→spL t=t.length∨c≤spL t→validD (t.drop c)=true
  | [],c,h,_=>by rw[List.drop_nil];rfl
  | d::u,0,h,_=>h
  | d ::u,c+1,h,hc=>by
    rw[spL_cons] at hc
    by_cases hd:d=32
    · rw[if_pos hd] at hc
      rw[hd,valid_32] at h
      exact valid_drop u c h (by rcases hc with hc | hc; · left;rw[List.length_cons] at hc;omega
                                 · right;omega)
    · rw[if_neg hd] at hc
      rw[List.length_cons] at hc
      omega
theorem join_valid: ∀(l:List Stp),(∀t∈l,validD t=true)→validD (joinNl l)=true
 | [],_=>rfl
 | [x],h=>h x (List.mem_singleton_self _)
 | x::y::r,h=>by
  show validD (x++10::joinNl (y::r))=true
  refine validD_cat (h x (List.mem_cons_self ..)) ?_
  have:=validD_app [10] (joinNl (y::r)) rfl
  rw[show (10::joinNl (y::r):Stp)= [10]++joinNl (y::r) from rfl,this]
  exact join_valid (y::r) (fun t ht=>h t (List.mem_cons_of_mem _ ht))
def cutL (s:Stp) (l:List (Nat×Nat)):Int:=cutGo (l.map fun x=>(lineT s x,(spL (lineT s x):Int)))
theorem reach_cut (s:Stp) (ind:Int) (hi:0≤ind): ∀(rest:List (Nat×Nat)) (i til first T:Nat),til≤i→reachG s ind rest i til first=T→
  ∀x∈rest.take (T-i),spL (lineT s x)=(lineT s x).length∨(if first=0 then cutL s (rest.take (T-i)) else(first:Int))≤(spL (lineT s x):Int)
 | [],i,til,first,T,_,_,x,hx=>by rw[List.take_nil] at hx;cases hx
 | y ::r,i,til,first,T,ht,h,x,hx=>by
  unfold reachG at h
  by_cases hb:spL (lineT s y)=(lineT s y).length
  ·rw[if_pos hb] at h
   by_cases hT:T≤i
   ·rw[show T-i=0 by omega] at hx;cases hx
   obtain⟨q,hq⟩: ∃q,T-i=q+1:=⟨T-i-1,by omega⟩
   rw[hq,List.take_succ_cons] at hx ⊢
   have hc:cutL s (y::r.take q)=cutL s (r.take q):=by
    unfold cutL
    rw[List.map_cons]
    show (if spL (lineT s y)≠(lineT s y).length then _ else _)=_
    rw[if_neg (by simp[hb])]
   rw[hc]
   rcases List.mem_cons.1 hx with e | hx
   ·rw[e];exact .inl hb
   ·have:=reach_cut s ind hi r (i+1) til first T (by omega) h x (by rw[show T-(i+1)=q by omega];exact hx)
    rw[show T-(i+1)=q by omega] at this
    exact this
  ·rw [if_neg hb] at h
   by_cases hs:(spL (lineT s y):Int)≤ind∨spL (lineT s y)<first
   ·rw[if_pos hs] at h
    rw[show T-i=0 by omega] at hx;cases hx
   ·rw [if_neg hs] at h
    have hle:=reachG_le s ind r (i+1) (i+1) (if first=0 then spL (lineT s y) else first) (Nat.le_refl _)
    rw[h] at hle
    obtain⟨q,hq⟩: ∃q,T-i=q+1:=⟨T-i-1,by omega⟩
    rw[hq,List.take_succ_cons] at hx ⊢
    have hc:cutL s (y::r.take q)=(spL (lineT s y):Int):=by
     unfold cutL
     rw[List.map_cons]
     show (if spL (lineT s y)≠(lineT s y).length then _ else _)=_
     rw[if_pos hb]
    rw[hc]
    rcases List.mem_cons.1 hx with e | hx
    ·right
     rw[e]
     split<;>omega
    ·have:=reach_cut s ind hi r (i+1) (i+1) (if first=0 then spL (lineT s y) else first) T (Nat.le_refl _) h x (by rw[show T-(i+1)=q by omega];exact hx)
     rcases this with h1 | h1
     ·exact .inl h1
     ·right
      by_cases hf:first=0
      ·rw[if_pos hf] at h1 ⊢
       rw[if_neg (by omega)] at h1
       exact h1
      ·rw[if_neg hf] at h1 ⊢
       rw[if_neg hf] at h1
       exact h1
theorem takesG_is (s:Stp): ∀(l:List (Nat×Nat)) (ls ls':List LineR),takesG s l ls= .inl ls'→ls'=ls++l.map (textLine s)∧ ∀x∈l,¬mayA s x<x.2
 | [],ls,ls',h=>by
  injection h with h
  subst h
  exact⟨by simp,fun x hx=>by cases hx⟩
 | x::r,ls,ls',h=>by
  unfold takesG at h
  split at h
  ·cases h
  ·rename_i hx
   obtain⟨h1,h2⟩:=takesG_is s r _ _ h
   refine⟨by rw[h1];simp,fun y hy=>?_⟩
   rcases List.mem_cons.1 hy with e | hy
   ·rw[e];exact hx
   ·exact h2 y hy
theorem bytesI_in {s:Stp}{a b:Int} (h1:0≤a) (h2:a≤b) (h3:b≤(s.length:Int)):bytesI s a b=slI s a b:=by
 unfold bytesI
 rw[if_neg (by omega)]
theorem bytesI_line {s:Stp}{x:Nat×Nat} (h1:x.1≤x.2) (h2:x.2≤s.length):bytesI s (x.1:Int) (x.2:Int)=lineT s x:=by
 rw[bytesI_in (by omega) (by omega) (by omega)]
 unfold slI lineT
 rw[Int.toNat_natCast,Int.toNat_natCast]
theorem lit_valid {s:Stp}{sp:List (Nat×Nat)} (hsp:SpOk s sp) (hE:SpEnd s sp) {k:Nat}{ind:Int} (hi:0≤ind) {ls ls' more:List LineR} (hk:k+1=ls.length) (ht:takesG s ((sp.drop (k+1)).take (reachM s sp ind k-(k+1))) ls= .inl ls') (hkl:k<sp.length) {x:YND} (hf:x.fr=k) (hti:x.til=reachM s sp ind k):
  validD (litY s (ls'++more) x)=true∧(litY s (ls'++more) x).length≤s.length+2:=by
 obtain⟨l,hl⟩: ∃l,(sp.drop (k+1)).take (reachM s sp ind k-(k+1))=l:=⟨_,rfl⟩
 rw[hl] at ht
 obtain⟨e1,e2⟩:=takesG_is s l ls ls' ht
 have hr:=reachM_le (s:=s) ind hkl
 have hll:l.length=reachM s sp ind k-(k+1):=by rw[←hl,List.length_take,List.length_drop];omega
 have hmem: ∀y∈l,y∈sp:=fun y hy=>List.mem_of_mem_drop (List.mem_of_mem_take (by rw[hl];exact hy))
 have hlines:litLines (ls'++more) x=l.map (textLine s):=by
  unfold litLines
  rw[hf,hti,e1,List.append_assoc,List.take_append,List.drop_append,hk]
  have h1:(ls.take (reachM s sp ind k)).drop ls.length= []:=List.drop_of_length_le (by rw[List.length_take];omega)
  rw[h1,List.nil_append,List.length_take,show ls.length-min (reachM s sp ind k) ls.length=0 by omega,List.drop_zero,show reachM s sp ind k-ls.length=(l.map (textLine s)).length by rw[List.length_map,hll,hk],List.take_left]
 have hts:litTs s (ls'++more) x=l.map fun y=>(lineT s y,(spL (lineT s y):Int)):=by
  unfold litTs
  rw[hlines,List.map_map]
  refine List.map_congr_left (fun y hy=>?_)
  have hy2:=hsp y (hmem y hy)
  show (bytesI s (y.1:Int) (y.2:Int),(spL (lineT s y):Int))=_
  rw[bytesI_line hy2.1 hy2.2]
 unfold litY
 rw[hts]
 refine⟨validD_cat (join_valid _ (fun t ht=>?_)) (by split<;>rfl),?_⟩
 rotate_left
 ·have hs:=sumSp_cut sp (k+1) (reachM s sp ind k-(k+1))
  rw[hl] at hs
  have he:=hE.2
  rw[List.length_append]
  have h1:(if List.map (fun y=>(lineT s y,(spL (lineT s y):Int))) l≠ []∧bytesI s x.rf x.rt= [124] then [10] else([]:Stp)).length≤1:=by split<;>simp
  refine Nat.le_trans (Nat.add_le_add (joinNl_sum _) h1) ?_
  rw[List.map_map,List.map_map]
  have h2: ∀m:List (Nat×Nat),(m.map ((fun t:Stp=>t.length+1) ∘ (fun t:Stp×Int=>t.1.drop (cutGo (List.map (fun y=>(lineT s y,(spL (lineT s y):Int))) l)).toNat) ∘ fun y=>(lineT s y,(spL (lineT s y):Int)))).sum≤sumSp m:=by
   intro m
   induction m with
   | nil=>exact Nat.le_refl _
   | cons y m ih=>
    rw[List.map_cons,List.sum_cons,sumSp_cons]
    have:((lineT s y).drop (cutGo (List.map (fun y=>(lineT s y,(spL (lineT s y):Int))) l)).toNat).length≤y.2-y.1:=by
     rw[List.length_drop]
     unfold lineT
     rw[List.length_take]
     omega
    simp only[Function.comp] at ih ⊢
    omega
  exact Nat.le_trans (Nat.add_le_add_right (h2 l) 1) (by omega)
 rw[List.map_map] at ht
 obtain⟨y,hy,e⟩:=List.mem_map.1 ht
 subst e
 have hy2:=hsp y (hmem y hy)
 have hv:=line_valid hy2.1 hy2.2 (hE.1 y (hmem y hy)) (e2 y hy)
 refine valid_drop _ _ hv ?_
 have:=reach_cut s ind hi (sp.drop (k+1)) (k+1) (k+1) 0 (reachM s sp ind k) (Nat.le_refl _) rfl y (by rw[hl];exact hy)
 rw[hl,if_pos rfl] at this
 rcases this with h1 | h1
 ·exact .inl h1
 ·right
  exact Int.toNat_le.2 h1
def wY (s:Stp) (x:YND):Nat:=if x.kind=1 then(readY (slI s x.rf x.rt)).1.size else 1
def sumY (s:Stp) (ns:List YND):Nat:=(ns.map (wY s)).sum
theorem sumY_app (s:Stp) (a b:List YND):sumY s (a++b)=sumY s a+sumY s b:=by unfold sumY;simp
theorem sumY_cons (s:Stp) (x:YND) (b:List YND):sumY s (x::b)=wY s x+sumY s b:=by unfold sumY;simp
theorem wY_pos (s:Stp) (x:YND):1≤wY s x:=by
 unfold wY
 split
 ·exact size_pos _
 ·exact Nat.le_refl _
theorem sumY_len (s:Stp): ∀ns:List YND,ns.length≤sumY s ns
 | []=>Nat.zero_le _
 | x::l=>by
  have:=sumY_len s l
  have:=wY_pos s x
  rw[sumY_cons,List.length_cons];omega
theorem sumY_mod (s:Stp) {f:YND→YND} (hf: ∀x,wY s (f x)=wY s x): ∀(n:Nat) (ns:List YND),sumY s (modY f n ns)=sumY s ns
 | n,[]=>by cases n<;>rfl
 | 0,x::l=>by show sumY s (f x::l)=_;rw[sumY_cons,sumY_cons,hf]
 | n+1,x::l=>by show sumY s (x::modY f n l)=_;rw[sumY_cons,sumY_cons,sumY_mod s hf n l]
def KeyY (ns ns':List YND):Prop:= ∀j,j<ns.length→(ns'[j]?).map (fun y=>(y.kf,y.kt))=(ns[j]?).map (fun y=>(y.kf,y.kt))
theorem KeyY.len {ns ns':List YND} (h:KeyY ns ns'):ns.length≤ns'.length:=by
 apply Classical.byContradiction
 intro hn
 have h1:=h ns'.length (by omega)
 rw[List.getElem?_eq_none (Nat.le_refl _),List.getElem?_eq_getElem (by omega)] at h1
 cases h1
theorem KeyY.key {s:Stp}{ns ns':List YND} (h:KeyY ns ns') {q:Nat} (hq:q<ns.length):keyYv s ns' q=keyYv s ns q:=by
 have h1:=h q hq
 have hq':=Nat.lt_of_lt_of_le hq h.len
 unfold keyYv
 rw[List.getElem?_eq_getElem hq,List.getElem?_eq_getElem hq'] at h1 ⊢
 simp only[Option.map_some,Option.some.injEq,Prod.mk.injEq] at h1
 simp only[h1.1,h1.2]
theorem KeyY.map {s:Stp}{ns ns':List YND} (h:KeyY ns ns') {l:List Nat} (hl: ∀q∈l,q<ns.length):l.map (keyYv s ns')=l.map (keyYv s ns):=List.map_congr_left (fun q hq=>h.key (hl q hq))
theorem KeyY.app (ns more:List YND):KeyY ns (ns++more):=fun j hj=>by rw[List.getElem?_append_left hj]
theorem KeyY.trans {a b c:List YND} (h:KeyY a b) (h2:KeyY b c):KeyY a c:=fun j hj=>(h2 j (Nat.lt_of_lt_of_le hj h.len)).trans (h j hj)
theorem KeyY.set {ns:List YND}{n:Nat}{x x':YND} (hx:ns[n]?=some x) (h1:x'.kf=x.kf) (h2:x'.kt=x.kt):KeyY ns (ns.set n x'):=fun j hj=>by
 rw[List.getElem?_set]
 by_cases e:n=j
 ·subst e
  rw[if_pos rfl,if_pos hj,hx]
  simp[h1,h2]
 ·rw[if_neg e]
structure NYt (s:Stp) (ls:List LineR) (ns:List YND) (x:YND):Prop where
 kd:x.kind=1∨x.kind=2∨x.kind=3∨x.kind=4
 rest:x.kind=1→(readY (slI s x.rf x.rt)).2=0∧0≤x.rf∧x.rf≤x.rt∧x.rt≤(s.length:Int)
 flat:x.kind=1∨x.kind=4→x.kids= []
 lit:x.kind=4→ ∀more,validD (litY s (ls++more) x)=true∧(litY s (ls++more) x).length≤s.length+2
 pl:x.fr≤s.length+1∧x.til≤s.length+1
 kid: ∀q∈x.kids,q<ns.length
 keys:x.kind=3→keysGo [] (x.kids.map (keyYv s ns))=true
theorem NYt.mono {s:Stp}{ls ls':List LineR}{ns ns':List YND}{x:YND} (h:NYt s ls ns x) (hl: ∃m,ls'=ls++m) (hk:KeyY ns ns'):NYt s ls' ns' x:=by
 obtain⟨m,rfl⟩:=hl
 exact⟨h.kd,h.rest,h.flat,fun h4 more=>by rw[List.append_assoc];exact h.lit h4 _,h.pl,fun q hq=>Nat.lt_of_lt_of_le (h.kid q hq) hk.len,fun h6=>by rw[hk.map h.kid];exact h.keys h6⟩
structure RtS (s:Stp) (kf kt:Int) (st:YS) (n:Nat) (st':YS):Prop where
 new: ∀j y,st.nodes.length≤j→st'.nodes[j]?=some y→NYt s st'.lines st'.nodes y
 tot:st.total=sumY s st.nodes→st'.total=sumY s st'.nodes
 key: ∃x,st'.nodes[n]?=some x∧x.kf=kf∧x.kt=kt
def RtR (s:Stp) (kf kt:Int) (st:YS) (R:YR):Prop:=match R with
 | .ok n st'=>RtS s kf kt st n st'
 | .bad _ _=>True
def VRt (s:Stp) (sp:List (Nat×Nat)) (V:YB):Prop:= ∀k kf kt st,WfS s sp st→k+1=st.lines.length→RtR s kf kt st (V k kf kt st)
theorem new_one {s:Stp}{ls:List LineR}{ns:List YND}{x:YND} (h:NYt s ls (ns++ [x]) x): ∀j y,ns.length≤j→(ns++ [x])[j]?=some y→NYt s ls (ns++ [x]) y:=by
 intro j y hj hy
 rw[List.getElem?_append_right hj] at hy
 have:j-ns.length=0:=by
  have:=(List.getElem?_eq_some_iff.1 hy).1
  simp only[List.length_singleton] at this
  omega
 rw[this] at hy
 obtain rfl:x=y:=Option.some.inj hy
 exact h
theorem restM_rt {s:Stp}{sp:List (Nat×Nat)} (hN:sp.length≤s.length+1) {lv k:Nat}{kf kt:Int}{st:YS} (hw:WfS s sp st) (hk:k<st.lines.length):RtR s kf kt st (restM s lv k kf kt st):=by
 have hln:=(hw.ls.2 k hk).rst
 have hls:=hw.ls.1
 unfold restM
 split
 ·trivial
 ·rename_i n1 s1 h1
  obtain⟨rfl,rfl,h0,_⟩:=addM_ok h1
  simp only[]
  split
  ·trivial
  ·rename_i he
   split
   ·trivial
   ·split
    ·trivial
    ·refine⟨new_one ⟨.inl rfl,fun _=>⟨by simpa using he,hln⟩,fun _=>rfl,fun e=>(by cases e),⟨by simp only[];omega,by simp only[];omega⟩,fun q hq=>(by cases hq),fun e=>(by cases e)⟩,fun ht=>?_,⟨_,by simp;rfl,rfl,rfl⟩⟩
     have hz:=size_pos (readY (slI s (lnAt st.lines k).rf (lnAt st.lines k).rt)).1
     show st.total+1+(readY (slI s (lnAt st.lines k).rf (lnAt st.lines k).rt)).1.size-1=sumY s (st.nodes++ [_])
     rw[sumY_app,←ht]
     show _=st.total+((readY (slI s (lnAt st.lines k).rf (lnAt st.lines k).rt)).1.size+0)
     omega
theorem literalM_rt {s:Stp}{sp:List (Nat×Nat)} (hN:sp.length≤s.length+1) (hsp:SpOk s sp) (hE:SpEnd s sp) {lv k:Nat}{kf kt:Int}{st:YS} (hw:WfS s sp st) (hk:k+1=st.lines.length):RtR s kf kt st (literalM s sp lv k kf kt st):=by
 have hln:=(hw.ls.2 k (by omega)).ind
 have hkl:k<sp.length:=by have:=hw.ls.1;omega
 have hre:=(reachM_le (s:=s) (lnAt st.lines k).ind hkl).2
 unfold literalM
 split
 ·trivial
 ·rename_i n1 s1 h1
  obtain⟨rfl,rfl,h0,_⟩:=addM_ok h1
  simp only[]
  split
  ·trivial
  ·rename_i ls ht
   refine⟨new_one ⟨.inr (.inr (.inr rfl)),fun e=>(by cases e),fun _=>rfl,fun _ more=>lit_valid hsp hE hln.1 hk ht hkl rfl rfl,⟨by simp only[];omega,by simp only[];omega⟩,fun q hq=>(by cases hq),fun e=>(by cases e)⟩,fun ht=>?_,⟨_,by simp;rfl,rfl,rfl⟩⟩
   show st.total+1=sumY s (st.nodes++ [_])
   rw[sumY_app,←ht]
   rfl
theorem ymValue_rt {s:Stp}{sp:List (Nat×Nat)} (hN:sp.length≤s.length+1) (hsp:SpOk s sp) (hE:SpEnd s sp) {B:YB}{lv:Nat} (hB:VRt s sp B):VRt s sp (ymValue s sp B lv):=by
 intro k kf kt st hw hk
 unfold ymValue
 simp only[]
 split
 ·exact literalM_rt hN hsp hE hw hk
 ·split
  ·have hn:=nextM_ok hsp (k:=k+1) (lines:=st.lines) (by omega) hw.ls (fun i h1 h2=>by omega)
   cases hm:nextM s sp (k+1) st.lines with
   | bad a e=>trivial
   | ok nx ls=>
    rw[hm] at hn
    simp only[] at hn ⊢
    have hw2:WfS s sp ⟨ls,st.nodes,st.total⟩:=⟨hn.ok,hw.tot⟩
    split
    ·rename_i hc
     have:=hB nx kf kt ⟨ls,st.nodes,st.total⟩ hw2 (hn.hit hc.1).1.symm
     cases hQ:B nx kf kt ⟨ls,st.nodes,st.total⟩ with
     | bad a e=>trivial
     | ok n st'=>rw[hQ] at this;exact⟨this.new,this.tot,this.key⟩
    ·have hkl:k<ls.length:=by obtain⟨m,rfl⟩:=hn.pre;rw[List.length_append];omega
     have:=restM_rt hN (lv:=lv) (kf:=kf) (kt:=kt) hw2 hkl
     have e:lnAt ls k=lnAt st.lines k:=by obtain⟨m,rfl⟩:=hn.pre;exact lnAt_app (by omega)
     cases hQ:restM s lv k kf kt ⟨ls,st.nodes,st.total⟩ with
     | bad a e=>trivial
     | ok n st'=>rw[hQ] at this;exact⟨this.new,this.tot,this.key⟩
  ·exact restM_rt hN hw (by omega)
structure LRt (s:Stp) (map:Bool) (n:Nat) (x:YND) (had:List Stp) (st:YS):Prop where
 post: ∀j y,n<j→st.nodes[j]?=some y→NYt s st.lines st.nodes y
 pl:x.fr≤s.length+1∧x.til≤s.length+1
 kid: ∀q∈x.kids,q<st.nodes.length
 keys:map=true→had=(x.kids.map (keyYv s st.nodes)).reverse∧keysGo [] (x.kids.map (keyYv s st.nodes))=true
theorem ymOne_rt {s:Stp}{sp:List (Nat×Nat)} (hN:sp.length≤s.length+1) (hsp:SpOk s sp) {V:YB} (hG:VGood s sp V) (hV:VRt s sp V) {map:Bool}{n:Nat}{ind:Int}{had had':List Stp}{k nx:Nat}{st s3:YS} (hw:WfS s sp st) (hk:k+1=st.lines.length) {x:YND} (hx:st.nodes[n]?=some x) (hL:LRt s map n x had st) (h:ymOne s sp V map n ind had k st= .ok nx s3 had'):
  ∃x',s3.nodes[n]?=some x'∧LRt s map n x' had' s3∧x'.kind=x.kind∧x'.kf=x.kf∧x'.kt=x.kt∧(st.total=sumY s st.nodes→s3.total=sumY s s3.nodes):=by
 have hln:=(hw.ls.2 k (by omega)).key
 have hg:=oneM_good hG map had hw hk
 unfold ymOne at h
 obtain⟨⟨Q,had2⟩,hQ⟩: ∃Q,oneM s V map had k st=Q:=⟨_,rfl⟩
 rw[hQ] at h hg
 cases Q with
 | bad a e=>cases h
 | ok kid s2=>
  obtain⟨g1,⟨more,g2n,g2⟩,⟨mls,g3⟩,g4,g5,g6⟩:=(show GoodS s sp k st kid s2 from hg)
  have hone:(∀j y,st.nodes.length≤j→s2.nodes[j]?=some y→NYt s s2.lines s2.nodes y)∧(st.total=sumY s st.nodes→s2.total=sumY s s2.nodes)∧(map=true→keyYv s s2.nodes kid ∉ had∧validD (keyYv s s2.nodes kid)=true∧had2=keyYv s s2.nodes kid::had):=by
   unfold oneM at hQ
   split at hQ
   ·simp only[] at hQ
    split at hQ
    ·injection hQ with hQ _;cases hQ
    ·rename_i hke
     split at hQ
     ·injection hQ with hQ _;cases hQ
     ·rename_i hnh
      injection hQ with hQ hQ2
      have:=hV k (lnAt st.lines k).kf (lnAt st.lines k).kt st hw hk
      rw[hQ] at this
      obtain⟨r1,r2,xk,r3,r4,r5⟩:=(show RtS s _ _ st kid s2 from this)
      have ekey:keyYv s s2.nodes kid=(keyRd (slI s (lnAt st.lines k).kf (lnAt st.lines k).kt)).1:=by
       unfold keyYv
       rw[r3]
       simp only[r4,r5]
       rw[bytesI_in hln.1 hln.2.1 hln.2.2]
      refine⟨r1,r2,fun _=>?_⟩
      rw[ekey]
      exact⟨hnh,keyRd_valid (by simpa using hke),hQ2.symm⟩
   ·rename_i hmp
    injection hQ with hQ _
    have:=hV k 0 0 st hw hk
    rw[hQ] at this
    exact⟨this.new,this.tot,fun e=>absurd e hmp⟩
  obtain⟨o1,o2,o3⟩:=hone
  simp only[] at h
  have hn:=nextM_ok hsp (k:=toOf s2.nodes kid) (lines:=s2.lines) g4.2 g6.ls g5
  split at h
  ·cases h
  ·rename_i nx2 ls2 hnx
   rw[hnx] at hn
   split at h
   ·cases h
   ·injection h with e1 e2 e3
    have hnl:=(List.getElem?_eq_some_iff.1 hx).1
    have hx2:s2.nodes[n]?=some x:=by rw[g2,List.getElem?_append_left hnl];exact hx
    have hn2:=(List.getElem?_eq_some_iff.1 hx2).1
    have hkl:kid<s2.nodes.length:=by rw[g2,List.length_append,g1];have:=List.length_pos_iff.2 g2n;omega
    subst e2
    simp only[]
    obtain⟨ns3,hns3⟩: ∃ns3,addKidY n kid s2.nodes=ns3:=⟨_,rfl⟩
    have hset:ns3=s2.nodes.set n { x with kids:=x.kids++ [kid],til:=toOf s2.nodes kid }:=by
     rw[←hns3];unfold addKidY;exact modY_set _ n _ x hx2
    have hsum:sumY s ns3=sumY s s2.nodes:=by rw[←hns3];unfold addKidY;refine sumY_mod s ?_ _ _;intro _;rfl
    have hl3:ns3.length=s2.nodes.length:=by rw[hset,List.length_set]
    have hK2:KeyY s2.nodes ns3:=by rw[hset];exact KeyY.set hx2 rfl rfl
    have hK0:KeyY st.nodes ns3:=by
     refine KeyY.trans ?_ hK2
     rw[g2];exact KeyY.app _ _
    rw[hns3]
    refine⟨{ x with kids:=x.kids++ [kid],til:=toOf s2.nodes kid },by rw[hset,List.getElem?_set_self hn2],⟨fun j y hj hy=>?_,⟨hL.pl.1,by have:=g6.ls.1;simp only[];omega⟩,fun q hq=>?_,fun hm=>?_⟩,rfl,rfl,rfl,fun ht=>by rw[hsum];exact o2 ht⟩
    ·have hy:ns3[j]?=some y:=hy
     rw[hset,List.getElem?_set_ne (by omega)] at hy
     show NYt s ls2 ns3 y
     by_cases hj2:j<st.nodes.length
     ·rw[g2,List.getElem?_append_left hj2] at hy
      obtain⟨m2,hm2⟩:=hn.pre
      exact(hL.post j y hj hy).mono ⟨mls++m2,by rw[hm2,g3,List.append_assoc]⟩ hK0
     ·exact(o1 j y (by omega) hy).mono hn.pre hK2
    ·show q<ns3.length
     rw[hl3]
     rcases List.mem_append.1 hq with hq | hq
     ·have:=hL.kid q hq;rw[g2,List.length_append];omega
     ·rw[List.mem_singleton.1 hq];exact hkl
    ·obtain⟨f1,f2⟩:=hL.keys hm
     obtain⟨p1,p2,p3⟩:=o3 hm
     have em:(x.kids++ [kid]).map (keyYv s ns3)=x.kids.map (keyYv s st.nodes)++ [keyYv s s2.nodes kid]:=by
      rw[List.map_append,hK0.map hL.kid,List.map_singleton,hK2.key hkl]
     show had'=((x.kids++ [kid]).map (keyYv s ns3)).reverse∧keysGo [] ((x.kids++ [kid]).map (keyYv s ns3))=true
     rw[em]
     refine⟨by rw[←e3,p3,f1,List.reverse_append];rfl,?_⟩
     rw[keysGo_snoc,f2,p2,decide_eq_false (by
      simp only[List.not_mem_nil,false_or]
      intro hin
      exact p1 (by rw[f1];exact List.mem_reverse.2 hin))]
     rfl
theorem ymLoop_rt {s:Stp}{sp:List (Nat×Nat)} (hN:sp.length≤s.length+1) (hsp:SpOk s sp) {V:YB} (hG:VGood s sp V) (hV:VRt s sp V) {map:Bool}{n:Nat}{ind kind:Int}{kf kt:Int}{st0:YS} (hn0:n=st0.nodes.length): ∀(f:Nat) (had:List Stp) (k:Nat) (st:YS) (x:YND),
  WfS s sp st→(k<sp.length→k+1=st.lines.length)→st.nodes[n]?=some x→LRt s map n x had st→(x.kind=2∨x.kind=3∧map=true)→x.kf=kf→x.kt=kt→(st0.total=sumY s st0.nodes→st.total=sumY s st.nodes)→RtR s kf kt st0 (ymLoop s sp V map n ind kind f had k st):=by
 have fin: ∀(had:List Stp) (st:YS) (x:YND),st.nodes[n]?=some x→LRt s map n x had st→(x.kind=2∨x.kind=3∧map=true)→x.kf=kf→x.kt=kt→(st0.total=sumY s st0.nodes→st.total=sumY s st.nodes)→RtS s kf kt st0 n st:=by
  intro had st x hx hL hkd hf ht hs
  refine⟨fun j y hj hy=>?_,hs,x,hx,hf,ht⟩
  by_cases e:j=n
  ·rw[e,hx] at hy
   obtain rfl:x=y:=Option.some.inj hy
   exact⟨by rcases hkd with h | h;exact .inr (.inl h);exact .inr (.inr (.inl h.1)),fun h1=>(by omega),fun h1=>(by omega),fun h1=>(by omega),hL.pl,hL.kid,fun h3=>(hL.keys (by rcases hkd with h | h;omega;exact h.2)).2⟩
  ·exact hL.post j y (by omega) hy
 intro f
 induction f with
 | zero=>intro had k st x hw hk hx hL hkd hf ht hs;exact fin had st x hx hL hkd hf ht hs
 | succ f ih=>
  intro had k st x hw hk hx hL hkd hf ht hs
  unfold ymLoop
  split
  ·rename_i hc
   cases ho:ymOne s sp V map n ind had k st with
   | bad a e=>trivial
   | ok nx s2 had'=>
    obtain⟨x',h1,h2,h3,h4,h5,h6⟩:=ymOne_rt hN hsp hG hV hw (hk hc.1) hx hL ho
    obtain⟨_,_,_,g3,g4,g5,g6⟩:=ymOne_step hsp hG hw (hk hc.1) hx ho
    exact ih had' nx s2 x' g3 g6 h1 h2 (by rw[h3];exact hkd) (by rw[h4];exact hf) (by rw[h5];exact ht) (fun h=>h6 (hs h))
  ·exact fin had st x hx hL hkd hf ht hs
theorem ymBlockS_rt {s:Stp}{sp:List (Nat×Nat)} (hN:sp.length≤s.length+1) (hsp:SpOk s sp) {V:YB} (lv:Nat) (hG:lv≠0→VGood s sp V) (hV:lv≠0→VRt s sp V):VRt s sp (ymBlockS s sp V lv):=by
 intro k kf kt st hw hk
 unfold ymBlockS
 simp only[]
 split
 ·exact restM_rt hN hw (by omega)
 ·split
  ·trivial
  ·rename_i n1 s1 h1
   obtain⟨rfl,rfl,h0,h4⟩:=addM_ok h1
   have htot:=hw.tot
   have hls:=hw.ls.1
   refine ymLoop_rt hN hsp (hG h0) (hV h0) rfl _ _ _ _ _ ⟨hw.ls,by simp only[List.length_append,List.length_singleton];omega⟩ (fun _=>hk) (by simp;rfl) ⟨fun j y hj hy=>?_,⟨by simp only[];omega,Nat.zero_le _⟩,fun q hq=>(by cases hq),fun _=>⟨rfl,rfl⟩⟩ ?_ rfl rfl (fun ht=>?_)
   ·have:=(List.getElem?_eq_some_iff.1 hy).1
    simp only[List.length_append,List.length_singleton] at this
    omega
   ·by_cases e:(lnAt st.lines k).kind=4
    ·right;exact⟨if_pos e,decide_eq_true e⟩
    ·left;exact if_neg e
   ·show st.total+1=sumY s (st.nodes++ [_])
    rw[sumY_app,←ht]
    have: ∀kd:Nat,kd≠1→sumY s [(⟨kd,(lnAt st.lines k).ind,k,0,kf,kt,0,0,[]⟩:YND)]=1:=by
     intro kd hkd
     rw[sumY_cons]
     unfold wY
     rw[if_neg hkd]
     rfl
    rw[this _ (by split<;>decide)]
theorem ymBlock_rt {s:Stp}{sp:List (Nat×Nat)} (hN:sp.length≤s.length+1) (hsp:SpOk s sp) (hE:SpEnd s sp): ∀lv,VRt s sp (ymBlock s sp lv)
 | 0=>ymBlockS_rt hN hsp 0 (fun h=>absurd rfl h) (fun h=>absurd rfl h)
 | lv+1=>ymBlockS_rt hN hsp (lv+1) (fun _=>ymValue_good hsp (ymBlock_good hsp lv) lv) (fun _=>ymValue_rt hN hsp hE (ymBlock_rt hN hsp hE lv))
theorem spY_len (s:Stp):(spY s).length≤s.length+1:=by
 unfold spY
 rw[cutSp_len]
 exact(linesL_len s 0 0).1
structure DocRt (s:Stp) (d:YDoc):Prop where
 nd: ∀x∈d.nodes,NYt s d.lines d.nodes x
 sum:sumY s d.nodes≤4096
theorem whole_rt {s:Stp}{d:YDoc}{a:Int} (h:ymWhole s (spY s)=(d,a,0)):DocRt s d∧a=(s.length:Int):=by
 have hsp:=spY_ok s
 have hls:LsOk s (spY s) []:=⟨Nat.zero_le _,fun i hi=>absurd hi (Nat.not_lt_zero _)⟩
 have h1:=nextM_ok hsp (k:=0) (lines:= []) (Nat.le_refl _) hls (fun i _ hi=>absurd hi (Nat.not_lt_zero _))
 unfold ymWhole at h
 cases hN:nextM s (spY s) 0 [] with
 | bad a' e'=>
  rw[hN] at h1 h
  simp only[Prod.mk.injEq] at h
  exact absurd h.2.2 h1.2.2
 | ok k ls=>
  rw[hN] at h1 h
  simp only[] at h1 h
  by_cases hk:k<(spY s).length
  ·rw [if_neg (fun e=>e hk)] at h
   have hw:WfS s (spY s) ⟨ls,[],0⟩:=⟨h1.ok,by simp⟩
   have hg:=ymBlock_good hsp 32 k 0 0 ⟨ls,[],0⟩ hw (h1.hit hk).1.symm
   have ht:=ymBlock_rt (spY_len s) hsp (spY_end s) 32 k 0 0 ⟨ls,[],0⟩ hw (h1.hit hk).1.symm
   cases hB:ymBlock s (spY s) 32 k 0 0 ⟨ls,[],0⟩ with
   | bad a' e'=>
    rw[hB] at hg h
    simp only[Prod.mk.injEq] at h
    exact absurd h.2.2 (show 0≤a'∧a'≤(s.length:Int)∧e'≠0 from hg).2.2
   | ok n st=>
    rw[hB] at hg ht h
    obtain⟨g1,_,_,g4,g5,g6⟩:=(show GoodS s (spY s) k ⟨ls,[],0⟩ n st from hg)
    have g10:n=0:=g1
    subst g10
    obtain⟨t1,t2,t3⟩:=(show RtS s 0 0 ⟨ls,[],0⟩ 0 st from ht)
    have h2:=nextM_ok hsp (k:=toOf st.nodes 0) g4.2 g6.ls g5
    simp only[] at h
    cases hN2:nextM s (spY s) (toOf st.nodes 0) st.lines with
    | bad a' e'=>
     rw[hN2] at h2 h
     simp only[Prod.mk.injEq] at h
     exact absurd h.2.2 h2.2.2
    | ok k2 ls2=>
     rw[hN2] at h2 h
     simp only[] at h h2
     split at h
     ·simp only[Prod.mk.injEq] at h
      exact absurd h.2.2 (by decide)
     ·injection h with e1 e2
      injection e2 with e2 _
      subst e1
      refine⟨⟨fun x hx=>?_,?_⟩,e2.symm⟩
      ·obtain⟨j,hj,e⟩:=List.mem_iff_getElem.1 hx
       exact(t1 j x (Nat.zero_le _) (by rw[List.getElem?_eq_getElem hj,e])).mono h2.pre (fun _ _=>rfl)
      ·rw[←t2 rfl];exact g6.tot.2
  ·rw[if_pos hk] at h
   injection h with e1 e2
   injection e2 with e2 _
   subst e1
   have hr:slI s (s.length:Int) (s.length:Int)= []:=by unfold slI;rw[Nat.sub_self,List.take_zero]
   refine⟨⟨fun x hx=>?_,?_⟩,e2.symm⟩
   ·rw[List.mem_singleton.1 hx]
    exact⟨.inl rfl,fun _=>⟨by show (readY (slI s (s.length:Int) (s.length:Int))).2=0;rw[hr];rfl,by simp,by simp,by simp⟩,fun _=>rfl,fun e=>(by cases e),⟨Nat.zero_le _,Nat.zero_le _⟩,fun q hq=>(by cases hq),fun e=>(by cases e)⟩
   ·rw[sumY_cons]
    unfold wY
    rw[if_pos rfl,hr]
    show (readY ([]:Stp)).1.size+0≤4096
    decide
def segY (ns:List YND) (a b:Nat):List YND:=(ns.drop a).take (b-a)
theorem segY_cut (ns:List YND) {a b c:Nat} (h1:a≤b) (h2:b≤c):segY ns a c=segY ns a b++segY ns b c:=by
 unfold segY
 rw[show c-a=(b-a)+(c-b) by omega,List.take_add,List.drop_drop,show a+(b-a)=b by omega]
theorem segY_one {ns:List YND}{k:Nat}{x:YND} (h:ns[k]?=some x):segY ns k (k+1)= [x]:=by
 have hk:=(List.getElem?_eq_some_iff.1 h).1
 unfold segY
 rw[show k+1-k=1 by omega,List.drop_eq_getElem_cons hk]
 rw[List.getElem?_eq_getElem hk] at h
 rw[Option.some.inj h]
 rfl
theorem value_rt {s:Stp}{d:YDoc} (hd:DocRt s d): ∀(lv k hi:Nat),TKD s d.nodes lv k hi→
  (nodeYv s d lv k).size=sumY s (segY d.nodes k hi)∧(nodeYv s d lv k).depth≤lv∧everyB rnodeB (nodeYv s d lv k)=true
 | lv+1,k,hi,h=>by
  have hlt:=h.lt
  obtain⟨x,hx,hdp,h2⟩:=h
  have hn:=hd.nd x (List.mem_of_getElem? hx)
  have hkids: ∀(l:List Nat) (a:Nat),KidsOk (TKD s d.nodes lv) l a hi→sizes (l.map (nodeYv s d lv))=sumY s (segY d.nodes a hi)∧a≤hi∧depths (l.map (nodeYv s d lv))≤lv∧everyL rnodeB (l.map (nodeYv s d lv))=true:=by
   intro l
   induction l with
   | nil=>
    intro a h
    have e:a=hi:=h
    subst e
    refine⟨?_,Nat.le_refl _,Nat.zero_le _,rfl⟩
    unfold segY
    rw[Nat.sub_self,List.take_zero]
    rfl
   | cons y l ih=>
    intro a h
    obtain⟨rfl,m',h2,h3⟩:=h
    obtain⟨i1,i2,i3⟩:=value_rt hd lv y m' h2
    have i4:=h2.lt
    obtain⟨j1,j2,j3,j4⟩:=ih _ h3
    rw[List.map_cons,sizes,depths,everyL,i1,j1,segY_cut d.nodes (Nat.le_of_lt i4) j2,sumY_app,i3,j4]
    exact⟨rfl,by omega,by omega,rfl⟩
  obtain⟨c1,c2,c3,c4⟩:=hkids _ _ h2
  have hseg:sumY s (segY d.nodes k hi)=wY s x+sumY s (segY d.nodes (k+1) hi):=by
   rw[segY_cut d.nodes (Nat.le_succ k) c2,sumY_app,segY_one hx]
   rfl
  have hleaf:x.kids= []→sumY s (segY d.nodes (k+1) hi)=0:=by
   intro e
   rw[e] at c1
   exact c1.symm
  rw[hseg]
  unfold nodeYv
  rw[hx]
  simp only[]
  by_cases e1:x.kind=1
  ·rw[if_pos e1]
   obtain⟨r1,r2,r3,r4⟩:=hn.rest e1
   rw[bytesI_in r2 r3 r4,hleaf (hn.flat (.inl e1))]
   refine⟨?_,hdp e1,readY_right r1⟩
   unfold wY
   rw[if_pos e1]
   rfl
  ·rw[if_neg e1]
   have hwx:wY s x=1:=by unfold wY;rw[if_neg e1]
   rw[hwx]
   by_cases e4:x.kind=4
   ·rw[if_pos e4,hleaf (hn.flat (.inr e4))]
    have hv:=hn.lit e4 []
    rw[List.append_nil] at hv
    refine⟨rfl,?_,str_right hv.1⟩
    show 0+1≤_
    omega
   ·rw[if_neg e4,VT.size,VT.depth,everyB,c1,c4,Bool.and_true]
    refine⟨by omega,by omega,?_⟩
    unfold rnodeB nodeB
    rw[Bool.and_eq_true]
    by_cases e3:x.kind=3
    ·rw[if_pos e3,if_pos e3]
     refine⟨rfl,?_⟩
     show (keyedB (x.kids.map (keyYv s d.nodes)) (x.kids.map (nodeYv s d lv)).length&&true)=true
     unfold keyedB
     rw[hn.keys e3,List.length_map,List.length_map]
     simp
    ·rw[if_neg e3,if_neg e3]
     exact⟨rfl,rfl⟩
theorem tkd_up {s:Stp}{ns:List YND}: ∀ {lv k hi:Nat},TKD s ns lv k hi→TKD s ns (lv+1) k hi
 | lv+1,k,hi,⟨x,hx,hd,h⟩=>⟨x,hx,fun e=>Nat.le_succ_of_le (hd e),h.monoP (fun _ _=>tkd_up)⟩
theorem tkd_sub {s:Stp}{ns:List YND}: ∀ {lv k hi:Nat},TKD s ns lv k hi→ ∀j,k≤j→j<hi→ ∃m,m≤hi∧TKD s ns lv j m
 | lv +1,k,hi,h,j,h1,h2=>by
  by_cases hjk:j=k
  ·subst hjk;exact⟨hi,Nat.le_refl _,h⟩
  ·obtain⟨x,hx,_,hK⟩:=h
   have key: ∀(l:List Nat) (a:Nat),KidsOk (TKD s ns lv) l a hi→a≤j→ ∃m,m≤hi∧TKD s ns lv j m:=by
    intro l
    induction l with
    | nil=>intro a h ha;have:a=hi:=h;omega
    | cons y l ih=>
     intro a h ha
     obtain⟨rfl,m,h3,h4⟩:=h
     by_cases hm:m≤j
     ·exact ih m h4 hm
     ·obtain⟨q,hq1,hq2⟩:=tkd_sub h3 j ha (by omega)
      exact⟨q,Nat.le_trans hq1 (h4.leY (fun _ _=>TKD.lt)),hq2⟩
   obtain⟨m,hm1,hm2⟩:=key _ _ hK (by omega)
   exact⟨m,hm1,tkd_up hm2⟩
theorem values {s:Stp}{d:YDoc} (hd:DocRt s d) (hT:DocTr s d):(∀k,k<d.nodes.length→RightB (nodeYv s d 32 k)=true)∧d.nodes.length≤(nodeYv s d 32 0).size∧1≤d.nodes.length:=by
 have hs: ∀k m,TKD s d.nodes 32 k m→RightB (nodeYv s d 32 k)=true:=by
  intro k m h
  obtain⟨h1,h2,h3⟩:=value_rt hd 32 k m h
  have hle:sumY s (segY d.nodes k m)≤sumY s d.nodes:=by
   have e:d.nodes=d.nodes.take k++(segY d.nodes k m++(d.nodes.drop k).drop (m-k)):=by
    unfold segY
    rw[List.take_append_drop,List.take_append_drop]
   conv=>rhs;rw[e]
   rw[sumY_app,sumY_app]
   omega
  unfold RightB
  rw[h3,decide_eq_true (by have:=hd.sum;omega),decide_eq_true h2]
  rfl
 refine⟨fun k hk=>?_,?_,hT.treeD.lt⟩
 ·obtain⟨m,_,hm⟩:=tkd_sub hT.treeD k (Nat.zero_le _) hk
  exact hs k m hm
 ·rw[(value_rt hd 32 0 _ hT.treeD).1]
  have:segY d.nodes 0 d.nodes.length=d.nodes:=by
   unfold segY
   rw[List.drop_zero,Nat.sub_zero,List.take_length]
  rw[this]
  exact sumY_len s d.nodes
theorem leaf_bulk {A:Nat} (k:Int) {s:Stp} (h:s.length≤A):(VT.mk k s [] []).bulk+(A+1)≤(VT.mk k s [] []).size*(2*A+2):=by
 rw[VT.bulk,VT.size]
 simp only[bulks,sizes,totS,List.map_nil,List.sum_nil,List.length_nil]
 omega
theorem text_A {A:Nat} (l:Stp) (hA:1100≤A):(textL (parseL l).1).length≤A:=by
 by_cases he:(parseL l).2=0
 ·have:=parse_text_len l he;omega
 ·rw[parse_nought l he]
  have:(textL nought).length≤1100:=by decide+kernel
  omega
theorem textV_A {A:Nat} (txt:Stp) (hA:4*txt.length+1100≤A) (kd:Nat) (sp:Sp):(textV kd (slT txt sp)).length≤A:=by
 have hl:=slT_len txt sp
 unfold textV
 split
 ·omega
 ·split
  ·exact text_A _ (by omega)
  ·split
   ·have:=unqL_len2 (slT txt sp);omega
   ·simp
theorem keyV_A {A:Nat} (txt:Stp) (ns:List NodeD) (hA:4*txt.length+1100≤A) (k:Nat):(keyV txt ns k).length≤A:=by
 unfold keyV
 split
 ·have:=unqL_len2 (slT txt (by assumption:NodeD).key)
  have h2:=slT_len txt (by assumption:NodeD).key
  omega
 ·simp
theorem resT_A {A:Nat} (s:Stp) (hA:s.length≤A) (h2:1100≤A):(resT s).bulk+(A+1)≤(resT s).size*(2*A+2):=by
 unfold resT
 refine leaf_bulk _ ?_
 unfold resP
 split
 ·exact Nat.zero_le _
 ·split
  ·exact hA
  ·split
   ·exact text_A s h2
   ·exact hA
theorem readY_A {A:Nat} (t:Stp) (hA:4*t.length+1100≤A):(readY t).1.bulk+(A+1)≤(readY t).1.size*(2*A+2):=by
 have hz:zeroT.bulk+(A+1)≤zeroT.size*(2*A+2):=leaf_bulk 0 (Nat.zero_le _)
 unfold readY
 split
 ·exact resT_A [] (Nat.zero_le _) (by omega)
 ·rename_i c r
  split
  ·split
   ·exact hz
   ·have:=textY_len3 (c::r)
    exact leaf_bulk 4 (by omega)
  ·split
   ·show (readJ (c::r)).1.bulk+(A+1)≤(readJ (c::r)).1.size*(2*A+2)
    unfold readJ
    by_cases he:(parseJ (c::r)).2.2=0
    ·rw[if_neg (by simp[he])]
     obtain⟨⟨ns,at_,er⟩,hP⟩: ∃P,parseJ (c::r)=P:=⟨_,rfl⟩
     rw[hP] at he ⊢
     change er=0 at he
     subst he
     have hT:=parse_tree hP
     have h1:=node_bulk (c::r) ns A (textV_A _ hA) (keyV_A _ ns hA) 32 0 ns.length hT
     have h2:=(nodeV_size (txt:=c::r) hT).1
     show (nodeV (c::r) ns 32 0).bulk+(A+1)≤(nodeV (c::r) ns 32 0).size*(2*A+2)
     rw[h2]
     exact h1
    ·rw[if_pos he]
     exact hz
   ·split
    ·exact resT_A _ (by omega) (by omega)
    ·exact hz
theorem keyRd_A (t:Stp):(keyRd t).1.length≤4*t.length:=by
 unfold keyRd
 split
 ·exact Nat.zero_le _
 ·split
  ·exact textY_len3 _
  ·split
   ·simp only[];omega
   ·exact Nat.zero_le _
theorem sl_len (s:Stp) (a b:Int):(bytesI s a b).length≤s.length:=by
 unfold bytesI
 split
 ·exact Nat.zero_le _
 ·unfold slI;rw[List.length_take,List.length_drop];omega
theorem nodeY_A {A:Nat}{s:Stp}{d:YDoc} (hA:4*s.length+1100≤A) (hd:DocRt s d): ∀(lv k hi:Nat),TKD s d.nodes lv k hi→(nodeYv s d lv k).bulk+(A+1)≤(nodeYv s d lv k).size*(2*A+2)
 | lv + 1,k,hi,h=>by
  obtain⟨x,hx,_,h2⟩:=h
  have hn:=hd.nd x (List.mem_of_getElem? hx)
  unfold nodeYv
  rw[hx]
  simp only[]
  by_cases e1:x.kind=1
  ·rw[if_pos e1]
   have:=sl_len s x.rf x.rt
   exact readY_A _ (by omega)
  rw[if_neg e1]
  by_cases e4:x.kind=4
  ·rw[if_pos e4]
   have hv:=(hn.lit e4 []).2
   rw[List.append_nil] at hv
   exact leaf_bulk 4 (by omega)
  rw[if_neg e4,VT.bulk,VT.size]
  have hk:totS (if x.kind=3 then x.kids.map (keyYv s d.nodes) else [])+(if x.kind=3 then x.kids.map (keyYv s d.nodes) else []).length≤x.kids.length*(A+1):=by
   split
   ·have: ∀l:List Nat,totS (l.map (keyYv s d.nodes))+(l.map (keyYv s d.nodes)).length≤l.length*(A+1):=by
     intro l
     induction l with
     | nil=>simp[totS]
     | cons q l ih=>
      rw[List.map_cons,totS_cons,List.length_cons,List.length_cons,Nat.succ_mul]
      have:(keyYv s d.nodes q).length≤A:=by
       unfold keyYv
       split
       ·rename_i y _
        have h1:=keyRd_A (bytesI s y.kf y.kt)
        have h2:=sl_len s y.kf y.kt
        omega
       ·exact Nat.zero_le _
      omega
    exact this _
   ·exact Nat.zero_le _
  have hi2: ∀(l:List Nat) (a:Nat),KidsOk (TKD s d.nodes lv) l a hi→bulks (l.map (nodeYv s d lv))+l.length*(A+1)≤sizes (l.map (nodeYv s d lv))*(2*A+2):=by
   intro l
   induction l with
   | nil=>intro a _;simp[bulks,sizes]
   | cons y l ih=>
    intro a h
    obtain⟨rfl,m',h2,h3⟩:=h
    have i1:=nodeY_A hA hd lv y m' h2
    have i2:=ih _ h3
    rw[List.map_cons,bulks,sizes,List.length_cons,Nat.succ_mul,Nat.add_mul]
    omega
  have:=hi2 _ _ h2
  rw[Nat.add_mul]
  simp only[List.length_nil]
  omega
theorem node_fits {s:Stp}{d:YDoc} (hs:s.length≤4096) (hd:DocRt s d) (hT:DocTr s d) {k:Nat} (hk:k<d.nodes.length):(nodeYv s d 32 k).bulk≤1073741824:=by
 obtain⟨m,_,hm⟩:=tkd_sub hT.treeD k (Nat.zero_le _) hk
 have h1:=nodeY_A (A:=17484) (by omega) hd 32 k m hm
 have h2:=(values hd hT).1 k hk
 unfold RightB at h2
 rw[Bool.and_eq_true,Bool.and_eq_true,decide_eq_true_eq] at h2
 have h3:(nodeYv s d 32 k).size*(2*17484+2)≤4096*(2*17484+2):=Nat.mul_le_mul_right _ h2.1.1
 omega
theorem whole_err {s:Stp}{d:YDoc}{a er:Int} (h:ymWhole s (spY s)=(d,a,er)) (he:er≠0):d.nodes= []∧0≤a∧a≤(s.length:Int):=by
 have hsp:=spY_ok s
 have hls:LsOk s (spY s) []:=⟨Nat.zero_le _,fun i hi=>absurd hi (Nat.not_lt_zero _)⟩
 have h1:=nextM_ok hsp (k:=0) (lines:= []) (Nat.le_refl _) hls (fun i _ hi=>absurd hi (Nat.not_lt_zero _))
 unfold ymWhole at h
 cases hN:nextM s (spY s) 0 [] with
 | bad a' e'=>
  rw[hN] at h1 h
  simp only[Prod.mk.injEq] at h
  obtain⟨rfl,rfl,rfl⟩:=h
  exact⟨rfl,h1.1,h1.2.1⟩
 | ok k ls=>
  rw[hN] at h1 h
  simp only[] at h1 h
  by_cases hk:k<(spY s).length
  ·rw [if_neg (fun e=>e hk)] at h
   have hw:WfS s (spY s) ⟨ls,[],0⟩:=⟨h1.ok,by simp⟩
   have hg:=ymBlock_good hsp 32 k 0 0 ⟨ls,[],0⟩ hw (h1.hit hk).1.symm
   cases hB:ymBlock s (spY s) 32 k 0 0 ⟨ls,[],0⟩ with
   | bad a' e'=>
    rw[hB] at hg h
    simp only[Prod.mk.injEq] at h
    obtain⟨rfl,rfl,rfl⟩:=h
    have hg:=(show 0≤a'∧a'≤(s.length:Int)∧e'≠0 from hg)
    exact⟨rfl,hg.1,hg.2.1⟩
   | ok n st=>
    rw[hB] at hg h
    obtain⟨g1,_,_,g4,g5,g6⟩:=(show GoodS s (spY s) k ⟨ls,[],0⟩ n st from hg)
    have g10:n=0:=g1
    subst g10
    have h2:=nextM_ok hsp (k:=toOf st.nodes 0) g4.2 g6.ls g5
    simp only[] at h
    cases hN2:nextM s (spY s) (toOf st.nodes 0) st.lines with
    | bad a' e'=>
     rw[hN2] at h2 h
     simp only[Prod.mk.injEq] at h
     obtain⟨rfl,rfl,rfl⟩:=h
     exact⟨rfl,h2.1,h2.2.1⟩
    | ok k2 ls2=>
     rw[hN2] at h2 h
     simp only[] at h h2
     split at h
     ·rename_i hk2
      simp only[Prod.mk.injEq] at h
      obtain⟨rfl,rfl,rfl⟩:=h
      have:=(h2.ok.2 k2 (by have:=(h2.hit hk2).1;omega)).ind
      exact⟨rfl,by omega,by omega⟩
     ·simp only[Prod.mk.injEq] at h
      exact absurd h.2.2.symm he
  ·rw[if_pos hk] at h
   simp only[Prod.mk.injEq] at h
   exact absurd h.2.2.symm he
theorem parse_err {s:Stp}{d:YDoc}{a er:Int} (h:parseYm s=(d,a,er)) (he:er≠0):d.nodes= []∧0≤a∧a≤(s.length:Int):=by
 unfold parseYm at h
 split at h
 ·simp only[Prod.mk.injEq] at h
  obtain⟨rfl,rfl,rfl⟩:=h
  exact⟨rfl,Int.le_refl _,by omega⟩
 ·exact whole_err h he
theorem doc_B {s:Stp}{d:YDoc}{a:Int} (hs:s.length≤65536) (h:ymWhole s (spY s)=(d,a,0)):DocB s d∧ ∀l∈d.lines,l.ind≤1099511627776:=by
 have hT:=whole_tree h
 have hR:=(whole_rt h).1
 have hl:d.lines.length≤s.length+1:=Nat.le_trans hT.lns (spY_len s)
 have hi: ∀l∈d.lines,0≤l.ind∧l.ind≤(s.length:Int):=by
  intro l hl
  obtain⟨j,hj,e⟩:=List.mem_iff_getElem.1 hl
  have h1:=(hT.ok.2 j hj).ind
  rw[show lnAt d.lines j=l by unfold lnAt;rw[List.getElem?_eq_getElem hj,e];rfl] at h1
  omega
 refine⟨⟨hs,by omega,by have:=hT.cnt;omega,fun x hx=>?_,fun l hl=>(hi l hl).1⟩,fun l hl=>by have:=(hi l hl).2;omega⟩
 obtain⟨j,hj,e⟩:=List.mem_iff_getElem.1 hx
 have hxj:d.nodes[j]?=some x:=by rw[List.getElem?_eq_getElem hj,e]
 have h1:=(hR.nd x hx).pl
 have h2:=hT.kids hxj
 exact⟨by omega,by omega,by omega⟩
end Go.Proofs.YtlibkhbachmcgaaGreatDoor
