import Derived.Test.YtlibkhbachmcgaaGreatDoorRb17
import Derived.Test.YtlibkhbachmcgaaGreatDoorRb4
import Derived.Test.YtlibkhbachmcgaaGreatDoorRb11
import Derived.Test.YtlibkhbachmcgaaGreatDoorRb23
set_option maxRecDepth 100000
set_option maxHeartbeats 2000000
namespace Go.Proofs.YtlibkhbachmcgaaGreatDoor
set_option linter.unusedSimpArgs false
set_option linter.unusedVariables false
open Go.Lib
def leafB (x:YND):Bool:=!(x.kind==2||x.kind==3)
def ownsB (i:Nat) (x:YND):Bool:=leafB x&&(decide (x.fr≤i)&&decide (i<x.til))
def cntY (ns:List YND) (i:Nat):Nat:=ns.countP (ownsB i)
theorem cntY_app (a b:List YND) (i:Nat):cntY (a++b) i=cntY a i+cntY b i:=List.countP_append
theorem cntY_cons (x:YND) (b:List YND) (i:Nat):cntY (x::b) i=(if ownsB i x then 1 else 0)+cntY b i:=by
 unfold cntY
 rw[List.countP_cons];omega
def okL (kind:Int) (c:Nat):Prop:=(kind=6→c=1)∧(kind=5→c=1)∧c≤1∧(kind=1∨kind=2→c=0)
def ChainY (ns:List YND) (k:Nat) (ind:Int):List Nat→Nat→Nat→Prop
 | [],a,e=>a=e
 | q::l,a,e=>k<q∧ ∃y,ns[q]?=some y∧a≤y.fr∧y.fr≤y.til∧ind≤y.ind∧ChainY ns k ind l y.til e
theorem ChainY.le {ns:List YND}{k:Nat}{ind:Int}: ∀ {l:List Nat}{a e:Nat},ChainY ns k ind l a e→a≤e
 | [],a,e,h=>Nat.le_of_eq h
 | q::l,a,e,⟨_,y,_,h1,h2,_,h3⟩=>by have:=h3.le;omega
theorem ChainY.mono {ns ns':List YND}{k:Nat}{ind:Int} (hk: ∀q y,k<q→ns[q]?=some y→ns'[q]?=some y): ∀ {l:List Nat}{a e:Nat},ChainY ns k ind l a e→ChainY ns' k ind l a e
 | [],a,e,h=>h
 | q::l,a,e,⟨h0,y,h1,h2,h3,h4,h5⟩=>⟨h0,y,hk q y h0 h1,h2,h3,h4,h5.mono hk⟩
theorem ChainY.snoc {ns:List YND}{k:Nat}{ind:Int}{q:Nat}{y:YND} (h0:k<q) (h1:ns[q]?=some y) (h3:y.fr≤y.til) (h4:ind≤y.ind): ∀ {l:List Nat}{a e:Nat},ChainY ns k ind l a e→e≤y.fr→ChainY ns k ind (l++ [q]) a y.til
 | [],a,e,h,h2=>by
  have e0:a=e:=h
  subst e0
  exact⟨h0,y,h1,h2,h3,h4,rfl⟩
 | p::l,a,e,⟨g0,z,g1,g2,g3,g4,g5⟩,h2=>⟨g0,z,g1,g2,g3,g4,ChainY.snoc h0 h1 h3 h4 g5 h2⟩
structure NdOk (N:Nat) (ns:List YND) (k:Nat) (x:YND):Prop where
 le:x.fr≤x.til∧x.til≤N
 leaf:leafB x=true→x.kids= []
 kids:leafB x=false→x.kids≠ []∧ChainY ns k x.ind x.kids x.fr x.til
theorem NdOk.mono {N N':Nat}{ns ns':List YND}{k:Nat}{x:YND} (h:NdOk N ns k x) (hN:N≤N') (hk: ∀q y,k<q→ns[q]?=some y→ns'[q]?=some y):NdOk N' ns' k x:=
 ⟨⟨h.le.1,Nat.le_trans h.le.2 hN⟩,h.leaf,fun hl=>⟨(h.kids hl).1,(h.kids hl).2.mono hk⟩⟩
structure OwnS (k:Nat) (ind:Int) (st:YS) (n:Nat) (st':YS):Prop where
 nd: ∃x,st'.nodes[n]?=some x∧k≤x.fr∧ind≤x.ind
 oks: ∀j x,st.nodes.length≤j→st'.nodes[j]?=some x→NdOk st'.lines.length st'.nodes j x
 cin: ∀i,k≤i→i<toOf st'.nodes n→okL (lnAt st'.lines i).kind (cntY (st'.nodes.drop st.nodes.length) i)
 out: ∀i,i<k∨toOf st'.nodes n≤i→cntY (st'.nodes.drop st.nodes.length) i=0
def VOwn (s:Stp) (sp:List (Nat×Nat)) (ok:Int→Prop) (V:YB):Prop:= ∀k kf kt st n st',WfS s sp st→k+1=st.lines.length→ok (lnAt st.lines k).kind→V k kf kt st= .ok n st'→OwnS k (lnAt st.lines k).ind st n st'
theorem restM_own {s:Stp}{sp:List (Nat×Nat)}{lv k:Nat}{kf kt:Int}{st:YS}{n:Nat}{st':YS} (hw:WfS s sp st) (hk:k<st.lines.length) (hc:contentB (lnAt st.lines k)=true) (h:restM s lv k kf kt st= .ok n st'):OwnS k (lnAt st.lines k).ind st n st':=by
 unfold restM at h
 split at h
 ·cases h
 ·rename_i n1 s1 h1
  obtain⟨rfl,rfl,_,_⟩:=addM_ok h1
  simp only[] at h
  split at h
  ·cases h
  ·split at h
   ·cases h
   ·split at h
    ·cases h
    ·injection h with e1 e2
     subst e1 e2
     have hto:=toOf_new st.nodes ⟨1,(lnAt st.lines k).ind,k,k+1,kf,kt,(lnAt st.lines k).rf,(lnAt st.lines k).rt,[]⟩ []
     have hd: ∀x:YND,(st.nodes++ [x]).drop st.nodes.length= [x]:=fun x=>List.drop_left
     refine⟨⟨_,by rw[List.getElem?_append_right (Nat.le_refl _),Nat.sub_self];rfl,Nat.le_refl _,Int.le_refl _⟩,fun j x hj hx=>?_,fun i h1 h2=>?_,fun i h1=>?_⟩
     ·simp only[] at hx
      rw[List.getElem?_append_right hj] at hx
      obtain⟨h1,h2⟩:j-st.nodes.length=0∧_=x:=by
       cases hq:j-st.nodes.length with
       | zero=>rw[hq] at hx;exact⟨rfl,by simpa using hx⟩
       | succ q=>rw[hq] at hx;simp at hx
      subst h2
      exact⟨⟨Nat.le_succ _,by simp only[];omega⟩,fun _=>rfl,fun h=>by cases h⟩
     ·simp only[hto] at h2
      obtain rfl:i=k:=by omega
      simp only[]
      rw[hd,cntY_cons]
      have e:ownsB i ⟨1,(lnAt st.lines i).ind,i,i+1,kf,kt,(lnAt st.lines i).rf,(lnAt st.lines i).rt,[]⟩=true:=by simp[ownsB,leafB]
      rw[if_pos e]
      show okL _ 1
      unfold contentB at hc
      simp only[Bool.and_eq_true,decide_eq_true_eq] at hc
      exact⟨fun _=>rfl,fun _=>rfl,Nat.le_refl _,fun h=>by omega⟩
     ·simp only[hto] at h1
      simp only[]
      rw[hd,cntY_cons]
      have e:ownsB i ⟨1,(lnAt st.lines k).ind,k,k+1,kf,kt,(lnAt st.lines k).rf,(lnAt st.lines k).rt,[]⟩=false:=by
       simp[ownsB,leafB];omega
      rw[e];rfl
theorem takesG_lines {s:Stp}: ∀(l:List (Nat×Nat)) (ls ls':List LineR),takesG s l ls= .inl ls'→(∀i,i<ls.length→lnAt ls' i=lnAt ls i)∧ls'.length=ls.length+l.length∧ ∀i,ls.length≤i→i<ls'.length→(lnAt ls' i).kind=6
 | [],ls,ls',h=>by
  have e:ls=ls':=by unfold takesG at h;injection h
  subst e
  exact⟨fun _ _=>rfl,rfl,fun i h1 h2=>by omega⟩
 | x::l,ls,ls',h=>by
  unfold takesG at h
  split at h
  ·cases h
  ·obtain⟨h1,h2,h3⟩:=takesG_lines l _ _ h
   rw[List.length_append,List.length_singleton] at h1 h2 h3
   refine⟨fun i hi=>?_,by rw[h2,List.length_cons];omega,fun i hi1 hi2=>?_⟩
   ·rw[h1 i (by omega),lnAt_app hi]
   ·by_cases hi:i=ls.length
    ·rw[h1 i (by omega),hi,lnAt_new];rfl
    ·exact h3 i (by omega) hi2
theorem literalM_own {s:Stp}{sp:List (Nat×Nat)}{lv k:Nat}{kf kt:Int}{st:YS}{n:Nat}{st':YS} (hw:WfS s sp st) (hk:k+1=st.lines.length) (hc:contentB (lnAt st.lines k)=true) (h:literalM s sp lv k kf kt st= .ok n st'):OwnS k (lnAt st.lines k).ind st n st':=by
 have hks:k<sp.length:=by have:=hw.ls.1;omega
 obtain⟨r1,r2⟩:=reachM_le (s:=s) (lnAt st.lines k).ind hks
 unfold literalM at h
 obtain⟨til,hto⟩: ∃til,reachM s sp (lnAt st.lines k).ind k=til:=⟨_,rfl⟩
 rw[hto] at r1 r2 h
 split at h
 ·cases h
 ·rename_i n1 s1 h1
  obtain⟨rfl,rfl,_,_⟩:=addM_ok h1
  simp only[] at h
  split at h
  ·cases h
  ·rename_i ls htk
   injection h with e1 e2
   subst e1 e2
   obtain⟨t1,t2,t3⟩:=takesG_lines _ _ _ htk
   have hlen:((sp.drop (k+1)).take (til-(k+1))).length=til-(k+1):=by rw[List.length_take,List.length_drop];omega
   rw[hlen] at t2
   have hto':=toOf_new st.nodes ⟨4,(lnAt st.lines k).ind,k,til,kf,kt,(lnAt st.lines k).rf,(lnAt st.lines k).rt,[]⟩ []
   have hd: ∀x:YND,(st.nodes++ [x]).drop st.nodes.length= [x]:=fun x=>List.drop_left
   refine⟨⟨_,by rw[List.getElem?_append_right (Nat.le_refl _),Nat.sub_self];rfl,Nat.le_refl _,Int.le_refl _⟩,fun j x hj hx=>?_,fun i h1 h2=>?_,fun i h1=>?_⟩
   ·simp only[] at hx
    rw[List.getElem?_append_right hj] at hx
    obtain⟨h1,h2⟩:j-st.nodes.length=0∧_=x:=by
     cases hq:j-st.nodes.length with
     | zero=>rw[hq] at hx;exact⟨rfl,by simpa using hx⟩
     | succ q=>rw[hq] at hx;simp at hx
    subst h2
    exact⟨⟨by simp only[];omega,by simp only[];omega⟩,fun _=>rfl,fun h=>by cases h⟩
   ·simp only[hto'] at h2
    simp only[]
    rw[hd,cntY_cons]
    have e:ownsB i ⟨4,(lnAt st.lines k).ind,k,til,kf,kt,(lnAt st.lines k).rf,(lnAt st.lines k).rt,[]⟩=true:=by simp[ownsB,leafB];omega
    rw[if_pos e]
    show okL _ 1
    have hnb: ¬((lnAt ls i).kind=1∨(lnAt ls i).kind=2):=by
     by_cases hik:i=k
     ·subst hik
      rw[t1 i (by omega)]
      unfold contentB at hc
      simp only[Bool.and_eq_true,decide_eq_true_eq] at hc
      omega
     ·rw[t3 i (by omega) (by omega)];decide
    exact⟨fun _=>rfl,fun _=>rfl,Nat.le_refl _,fun h=>absurd h hnb⟩
   ·simp only[hto'] at h1
    simp only[]
    rw[hd,cntY_cons]
    have e:ownsB i ⟨4,(lnAt st.lines k).ind,k,til,kf,kt,(lnAt st.lines k).rf,(lnAt st.lines k).rt,[]⟩=false:=by
     simp[ownsB,leafB];omega
    rw[e];rfl
theorem okL_blank {x:LineR} (h:blankK x):okL x.kind 0:=by
 unfold okL
 rcases h with h | h<;>rw[h]<;>simp
theorem ymValue_own {s:Stp}{sp:List (Nat×Nat)} (hsp:SpOk s sp) {B:YB} (hG:VGood s sp B) (hB:VOwn s sp (fun c=>3≤c∧c≤5) B) (lv:Nat):VOwn s sp (fun c=>c=3∨c=4) (ymValue s sp B lv):=by
 intro k kf kt st n st' hw hk hkind h
 have hlk:Lk st.lines (k+1):=fun i h1 h2=>by omega
 have hc:contentB (lnAt st.lines k)=true:=by unfold contentB;rcases hkind with e | e<;>rw[e]<;>decide
 unfold ymValue at h
 simp only[] at h
 split at h
 ·exact literalM_own hw hk hc h
 ·split at h
  ·have hn:=nextM_ok hsp (k:=k+1) (by omega) hw.ls hlk
   split at h
   ·cases h
   ·rename_i nx ls hm
    rw[hm] at hn
    simp only[] at hn
    have hw2:WfS s sp ⟨ls,st.nodes,st.total⟩:=⟨hn.ok,hw.tot⟩
    obtain⟨m,hm2⟩:=hn.pre
    have hle:=hn.le
    have hll:=hn.len
    have hlnk:lnAt ls k=lnAt st.lines k:=by rw[hm2,lnAt_app (by omega)]
    split at h
    ·rename_i hcond
     have hhit:=hn.hit hcond.1
     have hg:=hG nx kf kt ⟨ls,st.nodes,st.total⟩ hw2 hhit.1.symm
     rw[h] at hg
     obtain⟨g1,g2,⟨m2,g3⟩,g4,g5,g6⟩:=(show GoodS s sp nx ⟨ls,st.nodes,st.total⟩ n st' from hg)
     have hck:=hhit.2
     unfold contentB at hck
     simp only[Bool.and_eq_true,decide_eq_true_eq] at hck
     obtain⟨⟨x,o1,o2,o3⟩,o4,o5,o6⟩:=hB nx kf kt ⟨ls,st.nodes,st.total⟩ n st' hw2 hhit.1.symm hck h
     refine⟨⟨x,o1,by omega,by have:=hcond.2;simp only[] at o3;omega⟩,o4,fun i h1 h2=>?_,fun i h1=>o6 i (by omega)⟩
     by_cases hi:nx≤i
     ·exact o5 i hi h2
     ·have h0:=o6 i (.inl (by omega))
      simp only[] at h0
      rw[h0]
      have hl3:lnAt st'.lines i=lnAt ls i:=by rw[g3];exact lnAt_app (ls:=ls) (by have:=hhit.1;omega)
      rw[hl3]
      by_cases hik:i=k
      ·subst hik
       rw[hlnk]
       unfold okL
       rcases hkind with e | e<;>rw[e]<;>simp
      ·exact okL_blank (hn.miss i (by omega) (by omega))
    ·have:=restM_own (k:=k) hw2 (by simp only[];omega) (by simp only[];rw[hlnk];exact hc) h
     simp only[hlnk] at this
     exact⟨this.nd,this.oks,this.cin,this.out⟩
  ·exact restM_own hw (by omega) hc h
structure LpO (k0 n:Nat) (ind:Int) (st0:YS) (k:Nat) (st:YS) (x:YND) (post:List YND) (e:Nat):Prop where
 nds:st.nodes=st0.nodes++x::post
 hx:leafB x=false∧x.fr=k0∧x.ind=ind
 ch:ChainY st.nodes n ind x.kids k0 e
 e0:x.kids= []→e=k0∧k=k0
 e1:x.kids≠ []→e=x.til
 ek:e≤k∧e≤st.lines.length
 oks: ∀j y,st0.nodes.length<j→st.nodes[j]?=some y→NdOk st.lines.length st.nodes j y
 cin: ∀i,k0≤i→i<e→okL (lnAt st.lines i).kind (cntY post i)
 out: ∀i,i<k0∨e≤i→cntY post i=0
 bl: ∀i,e≤i→i<k→blankK (lnAt st.lines i)
theorem get_pre {pre:List YND}{x x':YND}{post more:List YND}{q:Nat}{y:YND} (hq:pre.length<q) (h:(pre++x::post)[q]?=some y):(pre++x'::(post++more))[q]?=some y:=by
 rw[List.getElem?_append_right (by omega)] at h ⊢
 obtain⟨d,hd⟩: ∃d,q-pre.length=d+1:=⟨q-pre.length-1,by omega⟩
 rw[hd,List.getElem?_cons_succ] at h ⊢
 rw[List.getElem?_append_left (List.getElem?_eq_some_iff.1 h).1]
 exact h
theorem oneM_ok {s:Stp}{V:YB}{map:Bool}{had had':List Stp}{k:Nat}{st s2:YS}{kid:Nat} (h:oneM s V map had k st=(.ok kid s2,had')): ∃kf kt,V k kf kt st= .ok kid s2:=by
 unfold oneM at h
 split at h
 ·simp only[] at h
  split at h
  ·cases h
  ·split at h
   ·cases h
   ·injection h with h1 h2;exact⟨_,_,h1⟩
 ·injection h with h1 h2;exact⟨_,_,h1⟩
theorem ymOne_own {s:Stp}{sp:List (Nat×Nat)} (hsp:SpOk s sp) {V:YB} (hG:VGood s sp V) (hV:VOwn s sp (fun c=>c=3∨c=4) V) {map:Bool}{n:Nat}{ind:Int}{had had':List Stp}{k0 k nx:Nat}{st0 st s3:YS}{x:YND}{post:List YND}{e:Nat}
  (h:LpO k0 n ind st0 k st x post e) (hn:n=st0.nodes.length) (hw:WfS s sp st) (hk:k+1=st.lines.length) (hk0:k0≤k) (hkind:(lnAt st.lines k).kind=3∨(lnAt st.lines k).kind=4) (hind:(lnAt st.lines k).ind=ind)
  (ho:ymOne s sp V map n ind had k st= .ok nx s3 had'): ∃x' post' e',LpO k0 n ind st0 nx s3 x' post' e'∧x'.kids≠ []:=by
 unfold ymOne at ho
 obtain⟨R,hR⟩: ∃R,oneM s V map had k st=R:=⟨_,rfl⟩
 rw[hR] at ho
 obtain⟨R,had2⟩:=R
 cases R with
 | bad a e=>cases ho
 | ok kid s2=>
  obtain⟨kf,kt,hVk⟩:=oneM_ok hR
  have hg:=hG k kf kt st hw hk
  rw[hVk] at hg
  obtain⟨g1,⟨m1,g2n,g2⟩,⟨m2,g3⟩,g4,g5,g6⟩:=(show GoodS s sp k st kid s2 from hg)
  obtain⟨⟨y,o1,o2,o3⟩,o4,o5,o6⟩:=hV k kf kt st kid s2 hw hk hkind hVk
  simp only[] at ho
  have hnx:=nextM_ok hsp (k:=toOf s2.nodes kid) g4.2 g6.ls g5
  split at ho
  ·cases ho
  ·rename_i nx' ls hm
   rw[hm] at hnx
   simp only[] at hnx
   split at ho
   ·cases ho
   ·injection ho with e1 e2 e3
    subst e1
    obtain⟨m3,hm3⟩:=hnx.pre
    have hle:=hnx.le
    have hll:=hnx.len
    have hto:toOf s2.nodes kid=y.til:=toOf_at o1
    rw[hto] at g4 g5 hnx hle o5 o6
    have hkidn:n<kid:=by rw[g1,h.nds,hn,List.length_append,List.length_cons];omega
    have hdrop:s2.nodes.drop st.nodes.length=m1:=by rw[g2];exact List.drop_left
    rw[hdrop] at o5 o6
    have hl1: ∀i,i<st.lines.length→lnAt ls i=lnAt st.lines i:=fun i hi=>by
     rw[hm3,g3,List.append_assoc];exact lnAt_app hi
    have hl2: ∀i,i<s2.lines.length→lnAt ls i=lnAt s2.lines i:=fun i hi=>by rw[hm3];exact lnAt_app hi
    have hnodes:s3.nodes=st0.nodes++ { x with kids:=x.kids++ [kid],til:=y.til }::(post++m1):=by
     rw[←e2]
     simp only[]
     unfold addKidY
     rw[hto,hn]
     conv=>lhs;arg 3;rw[g2,h.nds,List.append_assoc,List.cons_append]
     rw[modY_pre]
    have hs2:s2.nodes=st0.nodes++x::(post++m1):=by rw[g2,h.nds,List.append_assoc,List.cons_append]
    have hlines:s3.lines=ls:=by rw[←e2]
    have up: ∀q z,n<q→st.nodes[q]?=some z→s3.nodes[q]?=some z:=fun q z hq hz=>by
     rw[hnodes];rw[h.nds] at hz
     exact get_pre (by omega) hz
    have up2: ∀q z,n<q→s2.nodes[q]?=some z→s3.nodes[q]?=some z:=fun q z hq hz=>by
     rw[hnodes];rw[hs2] at hz
     have:=get_pre (x':= { x with kids:=x.kids++ [kid],til:=y.til }) (more:= []) (by omega) hz
     rw[List.append_nil] at this
     exact this
    have hyok:=o4 kid y (Nat.le_of_eq g1.symm) o1
    have hkl:s2.lines.length=st.lines.length+m2.length:=by rw[g3,List.length_append]
    refine⟨_,_,y.til,⟨hnodes,⟨h.hx.1,h.hx.2.1,h.hx.2.2⟩,?_,fun he=>absurd he (by simp),fun _=>rfl,⟨hle.1,?_⟩,fun j z hj hz=>?_,fun i h1 h2=>?_,fun i h1=>?_,fun i h1 h2=>?_⟩,by simp⟩
    ·exact ChainY.snoc hkidn (up2 kid y hkidn o1) hyok.le.1 (by omega) (h.ch.mono up) (by have:=h.ek;omega)
    ·rw[hlines];omega
    ·by_cases hjl:j<st.nodes.length
     ·have hz':st.nodes[j]?=some z:=by
       rw[hnodes] at hz
       rw[h.nds] at hjl ⊢
       rw[List.getElem?_append_right (by omega)] at hz ⊢
       obtain⟨d,hd⟩: ∃d,j-st0.nodes.length=d+1:=⟨j-st0.nodes.length-1,by omega⟩
       rw[hd,List.getElem?_cons_succ] at hz ⊢
       rw[List.length_append,List.length_cons] at hjl
       rw[List.getElem?_append_left (by omega)] at hz
       exact hz
      exact(h.oks j z hj hz').mono (by rw[hlines];omega) (fun q w hq hw=>up q w (by omega) hw)
     ·have hz':s2.nodes[j]?=some z:=by
       rw[hnodes] at hz
       rw[hs2]
       rw[List.getElem?_append_right (by omega)] at hz ⊢
       obtain⟨d,hd⟩: ∃d,j-st0.nodes.length=d+1:=⟨j-st0.nodes.length-1,by omega⟩
       rw[hd,List.getElem?_cons_succ] at hz ⊢
       exact hz
      exact(o4 j z (by omega) hz').mono (by rw[hlines];omega) (fun q w hq hw=>up2 q w (by omega) hw)
    ·rw[hlines,cntY_app]
     have hek:=h.ek
     by_cases hi1:i<e
     ·rw[o6 i (.inl (by omega)),hl1 i (by omega)]
      exact h.cin i h1 hi1
     ·rw[h.out i (.inr (by omega)),Nat.zero_add]
      by_cases hi2:i<k
      ·rw[o6 i (.inl hi2),hl1 i (by omega)]
       exact okL_blank (h.bl i (by omega) hi2)
      ·rw[hl2 i (by omega)]
       exact o5 i (by omega) h2
    ·rw[cntY_app]
     have hek:=h.ek
     rw[h.out i (by omega),o6 i (by omega)]
    ·rw[hlines]
     exact hnx.miss i h1 h2
theorem LpO.fin {k0 n:Nat}{ind:Int}{st0 st:YS}{k:Nat}{x:YND}{post:List YND}{e:Nat} (h:LpO k0 n ind st0 k st x post e) (hn:n=st0.nodes.length) (hk:x.kids≠ []):OwnS k0 ind st0 n st:=by
 have hxn:st.nodes[n]?=some x:=by rw[h.nds,hn,List.getElem?_append_right (Nat.le_refl _),Nat.sub_self];rfl
 have he:=h.e1 hk
 have hto:toOf st.nodes n=e:=by rw[toOf_at hxn,he]
 have hd:st.nodes.drop st0.nodes.length=x::post:=by rw[h.nds];exact List.drop_left
 have hc: ∀i,cntY (x::post) i=cntY post i:=fun i=>by
  rw[cntY_cons]
  have:ownsB i x=false:=by unfold ownsB;rw[h.hx.1,Bool.false_and]
  rw[this];simp
 refine⟨⟨x,hxn,Nat.le_of_eq h.hx.2.1.symm,Int.le_of_eq h.hx.2.2.symm⟩,fun j y hj hy=>?_,fun i h1 h2=>?_,fun i h1=>?_⟩
 ·by_cases hjn:j=n
  ·subst hjn
   rw[hxn] at hy
   obtain rfl:=Option.some.inj hy
   have:=h.ch.le
   have:=h.ek
   have:=h.hx.2.1
   refine⟨⟨by omega,by omega⟩,fun hl=>?_,fun _=>⟨hk,?_⟩⟩
   ·rw[h.hx.1] at hl;cases hl
   ·rw[h.hx.2.1,h.hx.2.2,←he];exact h.ch
  ·exact h.oks j y (by omega) hy
 ·rw[hto] at h2
  rw[hd,hc]
  exact h.cin i h1 h2
 ·rw[hto] at h1
  rw[hd,hc]
  exact h.out i h1
theorem ymLoop_own {s:Stp}{sp:List (Nat×Nat)} (hsp:SpOk s sp) {V:YB} (hG:VGood s sp V) (hV:VOwn s sp (fun c=>c=3∨c=4) V) {map:Bool}{n:Nat}{ind kind:Int} (hkd:kind=3∨kind=4) {k0:Nat}{st0:YS} (hn:n=st0.nodes.length): ∀(f:Nat) (had:List Stp) (k:Nat) (st:YS) (x:YND) (post:List YND) (e:Nat) (m:Nat) (st':YS),
  LpO k0 n ind st0 k st x post e→x.kids≠ []→LpS s sp k0 n st0 k st→ymLoop s sp V map n ind kind f had k st= .ok m st'→m=n∧OwnS k0 ind st0 n st'
 | f,had,k,st,x,post,e,m,st',h,hx,hl,hr=>by
  cases f with
  | zero=>injection hr with e1 e2;subst e1 e2;exact⟨rfl,h.fin hn hx⟩
  | succ f=>
   unfold ymLoop at hr
   split at hr
   ·rename_i hc
    have hk:=hl.k.2.2 hc.1
    have h2:=ymOne_good hsp hG map (n:=n) ind had hl.wf hk (Nat.le_of_lt hl.k.2.1) hn ⟨x,post,h.nds⟩ hl.lns
    split at hr
    ·cases hr
    ·rename_i nx s2 had' ho
     rw[ho] at h2
     obtain⟨x',post',e',h3,h4⟩:=ymOne_own hsp hG hV h hn hl.wf hk (Nat.le_of_lt hl.k.2.1) (by rw[hc.2.2];exact hkd) hc.2.1 ho
     exact ymLoop_own hsp hG hV hkd hn f had' nx s2 x' post' e' m st' h3 h4 h2.1 hr
   ·injection hr with e1 e2;subst e1 e2;exact⟨rfl,h.fin hn hx⟩
theorem ymBlockS_own {s:Stp}{sp:List (Nat×Nat)} (hsp:SpOk s sp) {V:YB} (lv:Nat) (hG:lv≠0→VGood s sp V) (hV:lv≠0→VOwn s sp (fun c=>c=3∨c=4) V):VOwn s sp (fun c=>3≤c∧c≤5) (ymBlockS s sp V lv):=by
 intro k kf kt st n st' hw hk hkind h
 have hc:contentB (lnAt st.lines k)=true:=by unfold contentB;simp only[Bool.and_eq_true,decide_eq_true_eq];exact hkind
 have hks:k<sp.length:=by have:=hw.ls.1;omega
 unfold ymBlockS at h
 simp only[] at h
 split at h
 ·exact restM_own hw (by omega) hc h
 ·rename_i h5
  split at h
  ·cases h
  ·rename_i n1 s1 h1
   obtain⟨rfl,rfl,h0,h4⟩:=addM_ok h1
   obtain⟨f,hf⟩: ∃f,sp.length-k=f+1:=⟨sp.length-k-1,by omega⟩
   have htot:=hw.tot
   have hkd:(lnAt st.lines k).kind=3∨(lnAt st.lines k).kind=4:=by omega
   rw[hf] at h
   unfold ymLoop at h
   rw[if_pos ⟨hks,rfl,rfl⟩] at h
   obtain⟨x0,hx0⟩: ∃x0:YND,x0=⟨if(lnAt st.lines k).kind=4 then 3 else 2,(lnAt st.lines k).ind,k,0,kf,kt,0,0,[]⟩:=⟨_,rfl⟩
   rw[←hx0] at h
   have hleaf:leafB x0=false:=by rw[hx0];unfold leafB;simp only[];split<;>rfl
   have hw1:WfS s sp ⟨st.lines,st.nodes++ [x0],st.total+1⟩:=⟨hw.ls,by simp only[List.length_append,List.length_singleton];omega⟩
   have hLp:LpO k st.nodes.length (lnAt st.lines k).ind st k ⟨st.lines,st.nodes++ [x0],st.total+1⟩ x0 [] k:=by
    refine⟨rfl,⟨hleaf,by rw[hx0],by rw[hx0]⟩,?_,fun _=>⟨rfl,rfl⟩,fun h=>absurd (by rw[hx0]) h,⟨Nat.le_refl _,by simp only[];omega⟩,fun j y hj hy=>?_,fun i h1 h2=>by omega,fun i _=>rfl,fun i h1 h2=>by omega⟩
    ·rw[hx0];rfl
    ·simp only[] at hy
     have:=(List.getElem?_eq_some_iff.1 hy).1
     rw[List.length_append,List.length_singleton] at this
     omega
   have h2:=ymOne_good hsp (hG h0) (decide ((lnAt st.lines k).kind=4)) (n:=st.nodes.length) (lnAt st.lines k).ind [] (k0:=k) (st0:=st) hw1 hk (Nat.le_refl _) rfl ⟨x0,[],rfl⟩ ⟨[],by simp⟩
   split at h
   ·cases h
   ·rename_i nx s2 had' ho
    rw[ho] at h2
    obtain⟨x',post',e',h3,h4'⟩:=ymOne_own hsp (hG h0) (hV h0) hLp rfl hw1 hk (Nat.le_refl _) hkd rfl ho
    obtain⟨e1,e2⟩:=ymLoop_own hsp (hG h0) (hV h0) hkd rfl f had' nx s2 x' post' e' n st' h3 h4' h2.1 h
    rw[e1]
    exact e2
theorem ymBlock_own {s:Stp}{sp:List (Nat×Nat)} (hsp:SpOk s sp): ∀lv,VOwn s sp (fun c=>3≤c∧c≤5) (ymBlock s sp lv)
 | 0=>ymBlockS_own hsp 0 (fun h=>absurd rfl h) (fun h=>absurd rfl h)
 | lv+1=>ymBlockS_own hsp (lv+1) (fun _=>ymValue_good hsp (ymBlock_good hsp lv) lv) (fun _=>ymValue_own hsp (ymBlock_good hsp lv) (ymBlock_own hsp lv) lv)
structure DocOwn (d:YDoc):Prop where
 oks: ∀j x,d.nodes[j]?=some x→NdOk d.lines.length d.nodes j x
 cnt: ∀i,i<d.lines.length→okL (lnAt d.lines i).kind (cntY d.nodes i)
 one:d.nodes≠ []
theorem whole_own {s:Stp}{sp:List (Nat×Nat)} (hsp:SpOk s sp) {d:YDoc}{a:Int} (h:ymWhole s sp=(d,a,0)):DocOwn d:=by
 have hnil:LsOk s sp []:=⟨Nat.zero_le _,fun k hk=>absurd hk (Nat.not_lt_zero _)⟩
 have hn:=nextM_ok hsp (k:=0) (lines:= []) (Nat.zero_le _) hnil (fun i h1 h2=>absurd h2 (Nat.not_lt_zero _))
 unfold ymWhole at h
 split at h
 ·rename_i a' e' hm
  rw[hm] at hn
  simp only[Prod.mk.injEq] at h
  exact absurd h.2.2 hn.2.2
 ·rename_i k ls hm
  rw[hm] at hn
  simp only[] at hn
  split at h
  ·rename_i hk
   injection h with h1 h2
   subst h1
   have hk1:k=sp.length:=by have:=hn.le;omega
   refine⟨fun j x hx=>?_,fun i hi=>?_,List.cons_ne_nil _ _⟩
   ·cases j with
    | succ j=>simp at hx
    | zero=>
     simp only[List.getElem?_cons_zero,Option.some.injEq] at hx
     subst hx
     exact⟨⟨Nat.le_refl _,Nat.zero_le _⟩,fun _=>rfl,fun h=>by cases h⟩
   ·simp only[] at hi ⊢
    have:=hn.all hk1
    rw[cntY_cons]
    have e:ownsB i ⟨1,0,0,0,0,0,(s.length:Int),(s.length:Int),[]⟩=false:=by simp[ownsB]
    rw[e]
    exact okL_blank (hn.miss i (Nat.zero_le _) (by omega))
  ·rename_i hk
   have hk:k<sp.length:=by omega
   have hhit:=hn.hit hk
   have hw:WfS s sp ⟨ls,[],0⟩:=⟨hn.ok,by simp⟩
   have hg:=ymBlock_good hsp 32 k 0 0 ⟨ls,[],0⟩ hw hhit.1.symm
   split at h
   ·rename_i a' e' hb
    rw[hb] at hg
    simp only[Prod.mk.injEq] at h
    exact absurd h.2.2 hg.2.2
   ·rename_i n st hb
    rw[hb] at hg
    obtain⟨g1,⟨m1,g2n,g2⟩,⟨m2,g3⟩,g4,g5,g6⟩:=(show GoodS s sp k ⟨ls,[],0⟩ n st from hg)
    have hck:=hhit.2
    unfold contentB at hck
    simp only[Bool.and_eq_true,decide_eq_true_eq] at hck
    have ho:=ymBlock_own hsp 32 k 0 0 ⟨ls,[],0⟩ n st hw hhit.1.symm hck hb
    obtain rfl:n=0:=g1
    have hnx:=nextM_ok hsp (k:=toOf st.nodes 0) g4.2 g6.ls g5
    split at h
    ·rename_i a' e' hm2
     rw[hm2] at hnx
     simp only[Prod.mk.injEq] at h
     exact absurd h.2.2 hnx.2.2
    ·rename_i k2 ls2 hm2
     rw[hm2] at hnx
     simp only[] at hnx
     split at h
     ·simp only[Prod.mk.injEq] at h;exact absurd h.2.2 (by decide)
     ·rename_i hk2
      injection h with h1 h2
      subst h1
      have hk2:k2=sp.length:=by have:=hnx.le;omega
      have hlen2:=hnx.all hk2
      obtain⟨m3,hm3⟩:=hnx.pre
      obtain⟨_,o4,o5,o6⟩:=ho
      refine⟨fun j x hx=>(o4 j x (Nat.zero_le _) hx).mono hnx.len (fun q y _ hy=>hy),fun i hi=>?_,?_⟩
      ·simp only[] at hi ⊢
       have hd:st.nodes.drop ([]:List YND).length=st.nodes:=rfl
       simp only[] at o5 o6
       rw[hd] at o5 o6
       by_cases h1:i<k
       ·rw[o6 i (.inl h1),hm3,g3,List.append_assoc]
        have e:lnAt (ls++(m2++m3)) i=lnAt ls i:=lnAt_app (by omega)
        have hbk:=hn.miss i (Nat.zero_le _) h1
        simp only[]
        rw[e]
        exact okL_blank hbk
       ·by_cases h2:i<toOf st.nodes 0
        ·have:=o5 i (by omega) h2
         rw[hm3,lnAt_app (by omega)]
         exact this
        ·rw[o6 i (.inr (by omega))]
         exact okL_blank (hnx.miss i (by omega) (by omega))
      ·simp only[]
       rw[g2]
       simpa using g2n
def bytesI (s:Stp) (a b:Int):Stp:=if a<0∨b<a∨(s.length:Int)<b then [] else slI s a b
def joinNl:List Stp→Stp
 | []=> []
 | [x]=>x
 | x::y::r=>x++10::joinNl (y::r)
def cutGo:List (Stp×Int)→Int
 | []=> -1
 | (t,i)::r=>if spL t≠t.length then i else cutGo r
def litLines (ls:List LineR) (x:YND):List LineR:=(ls.take x.til).drop (x.fr+1)
def litTs (s:Stp) (ls:List LineR) (x:YND):List (Stp×Int):=(litLines ls x).map fun l=>(bytesI s l.sf l.st,l.ind)
def litY (s:Stp) (ls:List LineR) (x:YND):Stp:=
 joinNl ((litTs s ls x).map fun t=>t.1.drop (cutGo (litTs s ls x)).toNat)++(if litTs s ls x≠ []∧bytesI s x.rf x.rt= [124] then [10] else [])
def keyYv (s:Stp) (ns:List YND) (q:Nat):Stp:=match ns[q]? with
 | some y=>(keyRd (bytesI s y.kf y.kt)).1
 | none=> []
def nodeYv (s:Stp) (d:YDoc):Nat→Nat→VT
 | 0,_=>zeroT
 | f+1,k=>match d.nodes[k]? with
  | none=>zeroT
  | some x=>if x.kind=1 then(readY (bytesI s x.rf x.rt)).1 else if x.kind=4 then strT (litY s d.lines x) else
   .mk (if x.kind=3 then 6 else 5) [] (if x.kind=3 then x.kids.map (keyYv s d.nodes) else []) (x.kids.map (nodeYv s d f))
def TKY (ns:List YND):Nat→Nat→Nat→Prop
 | 0,_,_=>False
 | lv+1,k,hi=> ∃x,ns[k]?=some x∧KidsOk (TKY ns lv) x.kids (k+1) hi
theorem TKY.lt {ns:List YND}: ∀ {lv k hi:Nat},TKY ns lv k hi→k<hi
 | lv+1,k,hi,h=>by
  obtain⟨x,hx,h2⟩:=h
  have: ∀(l:List Nat) (a:Nat),KidsOk (TKY ns lv) l a hi→a≤hi:=by
   intro l
   induction l with
   | nil=>intro a h;exact Nat.le_of_eq h
   | cons y l ih=>
    intro a h
    obtain⟨rfl,m,h2,h3⟩:=h
    have:=ih m h3
    have:=TKY.lt h2
    omega
  have:=this _ _ h2
  omega
theorem TKY.mono {ns ns':List YND}: ∀ {lv k hi:Nat},TKY ns lv k hi→(∀j y,k≤j→j<hi→ns[j]?=some y→ ∃y',ns'[j]?=some y'∧y'.kids=y.kids)→TKY ns' lv k hi
 | lv+1,k,hi,h,hm=>by
  have hkh:=TKY.lt h
  obtain⟨x,hx,h2⟩:=h
  obtain⟨x',hx',hk⟩:=hm k x (Nat.le_refl _) hkh hx
  refine⟨x',hx',?_⟩
  rw[hk]
  exact h2.imp hi (fun k m h=>TKY.lt h) (fun k' m h5 h6 h7=>h7.mono (fun j y h8 h9=>hm j y (by omega) (by omega)))
end Go.Proofs.YtlibkhbachmcgaaGreatDoor
namespace Go.Proofs.YtlibkhbachmcgaaGreatDoor
set_option linter.unusedSimpArgs false
set_option linter.unusedVariables false
open Go.RowKit
open Go.Lib hiding intOf
theorem slI_bs (s:Stp) (a b:Nat):(bs s).extract a b=bs (slI s (a:Int) (b:Int)):=by
 unfold slI
 rw[Int.toNat_natCast,Int.toNat_natCast,bs_extract,bs_data]
theorem ydbytes_any (s:Stp) (lv nv:Value) (hlv: ∃p n c,lv= .slice p n c) (hnv: ∃p n c,nv= .slice p n c) (a b:Int) (w:World) (hs:s.length≤1073741824):
  Calls Tryz.prog 37 #[.agg #[.string (bs s),lv,nv], .agg #[.int .i64 a, .int .i64 b]] w fun e w'=>e= .returned (.string (bs (bytesI s a b)))∧Below w.heap.size w w':=by
 obtain⟨pl,nl,cl,rfl⟩:=hlv
 obtain⟨pn,nn,cn,rfl⟩:=hnv
 have sl:=bs_size s
 obtain⟨R,hR⟩: ∃R,bytesI s a b=R:=⟨_,rfl⟩
 rw[hR]
 unfold bytesI at hR
 obtain⟨W1,hW1⟩: ∃W,w.alloc (.cells #[.string (bs s), .slice pl nl cl, .slice pn nn cn] 26)=W:=⟨_,rfl⟩
 obtain⟨D,hD⟩: ∃D,w.heap.size=D:=⟨_,rfl⟩
 have b1:Below w.heap.size w W1:=by rw[←hW1];exact below_alloc1 _ _
 have h1:W1.heap[D]?=some (.cells #[.string (bs s), .slice pl nl cl, .slice pn nn cn] 26):=by rw[←hW1,←hD];exact heap_alloc_new w _
 obtain⟨W2,hW2⟩: ∃W,W1.alloc (.cells #[.int .i64 a, .int .i64 b] 42)=W:=⟨_,rfl⟩
 obtain⟨S,hS⟩: ∃S,W1.heap.size=S:=⟨_,rfl⟩
 have b2:Below W1.heap.size W1 W2:=by rw[←hW2];exact below_alloc1 _ _
 have h2:W2.heap[S]?=some (.cells #[.int .i64 a, .int .i64 b] 42):=by rw[←hW2,←hS];exact heap_alloc_new W1 _
 obtain⟨d0,_⟩:=box3f ((b2.block D (cell_it h1)).trans h1)
 obtain⟨y0,y1⟩:=cells_span h2
 have HB:=hid (below_of_new b1 b2)
 clear b1 b2 h1 h2
 by_cases ha:a<0
 ·rw[if_pos (.inl ha)] at hR
  have da:decide (a<0)=true:=decide_eq_true ha
  clear ha
  go_enter Tryz.func37,Tryz.ntmps37
  go_upto_region 1 with fail
  clear hW1 hW2 hD hS
  go_wp2_with fail
  go_ret
  rw[←hR]
  exact⟨rfl,by first | exact HB.out | exact HB.out.drew⟩
 have da:decide (a<0)=false:=decide_eq_false ha
 by_cases hb:b<a
 ·rw[if_pos (.inr (.inl hb))] at hR
  have db:decide (b<a)=true:=decide_eq_true hb
  clear ha hb
  go_enter Tryz.func37,Tryz.ntmps37
  go_upto_region 1 with fail
  clear hW1 hW2 hD hS
  go_wp2_with fail
  go_ret
  rw[←hR]
  exact⟨rfl,by first | exact HB.out | exact HB.out.drew⟩
 have db:decide (b<a)=false:=decide_eq_false hb
 by_cases hc:(s.length:Int)<b
 ·rw[if_pos (.inr (.inr hc))] at hR
  have dc:decide ((s.length:Int)<b)=true:=decide_eq_true hc
  clear ha hb hc
  go_enter Tryz.func37,Tryz.ntmps37
  go_upto_region 1 with fail
  clear hW1 hW2 hD hS
  go_wp2_with fail
  go_ret
  rw[←hR]
  exact⟨rfl,by first | exact HB.out | exact HB.out.drew⟩
 have dc:decide ((s.length:Int)<b)=false:=decide_eq_false hc
 rw[if_neg (by omega)] at hR
 obtain⟨a,rfl⟩: ∃k:Nat,a=k:=⟨a.toNat,by omega⟩
 obtain⟨b,rfl⟩: ∃k:Nat,b=k:=⟨b.toNat,by omega⟩
 have hab:(a:Int)≤(b:Int):=by omega
 have hbl:(b:Int)≤(s.length:Int):=by omega
 have ha0:(0:Int)≤(a:Int):=by omega
 have hb0:(0:Int)≤(b:Int):=by omega
 have hx:=slI_bs s a b
 rw[hR] at hx
 clear ha hb hc
 go_enter Tryz.func37,Tryz.ntmps37
 go_upto_region 1 with fail
 clear hW1 hW2 hD hS
 go_wp2_with fail
 go_ret
 exact⟨by first | rw[hx] | simp[hx],by first | exact HB.out | exact HB.out.drew⟩
abbrev yndV (x:YND) (kv:Value):Value:= .agg #[.int .i64 (x.kind:Int), .int .i64 x.ind, .int .i64 (x.fr:Int), .int .i64 (x.til:Int), .int .i64 x.kf, .int .i64 x.kt, .int .i64 x.rf, .int .i64 x.rt,kv]
theorem yamong_any (s:Stp) (pl:Option Addr) (n cl:Nat) (nv:Value) (hnv: ∃p n c,nv= .slice p n c) (x:YND) (kv:Value) (hkv: ∃p n c,kv= .slice p n c) (w:World) (hn:n≤1073741824) (hncl:n≤cl) (hpl:pl=none→n=0) (hfr:x.fr≤1073741824) (htil:x.til≤1073741824):
  Calls Tryz.prog 36 #[.agg #[.string (bs s), .slice pl n cl,nv],yndV x kv] w fun e w'=>Below w.heap.size w w'∧e= .returned (if min x.til n≤x.fr+1 then .slice none 0 0 else .slice (pl.map fun a=>a.add ((x.fr+1)*10)) (min x.til n-(x.fr+1)) (cl-(x.fr+1))):=by
 obtain⟨R,hR⟩: ∃R:Value,(if min x.til n≤x.fr+1 then .slice none 0 0 else .slice (pl.map fun a=>a.add ((x.fr+1)*10)) (min x.til n-(x.fr+1)) (cl-(x.fr+1)))=R:=⟨_,rfl⟩
 rw[hR]
 have HR:=hid hR
 clear hR
 obtain⟨pn,nn,cn,rfl⟩:=hnv
 obtain⟨pk,nk,ck,rfl⟩:=hkv
 obtain⟨W1,hW1⟩: ∃W,w.alloc (.cells #[.string (bs s), .slice pl n cl, .slice pn nn cn] 26)=W:=⟨_,rfl⟩
 obtain⟨D,hD⟩: ∃D,w.heap.size=D:=⟨_,rfl⟩
 have b1:Below w.heap.size w W1:=by rw[←hW1];exact below_alloc1 _ _
 have h1:W1.heap[D]?=some (.cells #[.string (bs s), .slice pl n cl, .slice pn nn cn] 26):=by rw[←hW1,←hD];exact heap_alloc_new w _
 obtain⟨W2,hW2⟩: ∃W,W1.alloc (.cells #[.int .i64 (x.kind:Int), .int .i64 x.ind, .int .i64 (x.fr:Int), .int .i64 (x.til:Int), .int .i64 x.kf, .int .i64 x.kt, .int .i64 x.rf, .int .i64 x.rt, .slice pk nk ck] 45)=W:=⟨_,rfl⟩
 obtain⟨S,hS⟩: ∃S,W1.heap.size=S:=⟨_,rfl⟩
 have b2:Below W1.heap.size W1 W2:=by rw[←hW2];exact below_alloc1 _ _
 have h2:W2.heap[S]?=some (.cells #[.int .i64 (x.kind:Int), .int .i64 x.ind, .int .i64 (x.fr:Int), .int .i64 (x.til:Int), .int .i64 x.kf, .int .i64 x.kt, .int .i64 x.rf, .int .i64 x.rt, .slice pk nk ck] 45):=by rw[←hW2,←hS];exact heap_alloc_new W1 _
 obtain⟨d0,d1,d2,_⟩:=box3f ((b2.block D (cell_it h1)).trans h1)
 obtain⟨y0,y1,y2,y3,y4,y5,y6,y7,y8⟩:=box9 h2
 have HB:=hid (below_of_new b1 b2)
 clear b1 b2 h1 h2
 go_enter Tryz.func36,Tryz.ntmps36
 go_upto_region 1 with fail
 clear hW1 hW2 hD hS
 obtain⟨f1,hf1⟩: ∃f1,x.fr+1=f1:=⟨_,rfl⟩
 have hf1z:(x.fr:Int)+1=(f1:Int):=by omega
 obtain⟨fr,hfr2⟩: ∃fr,x.fr=fr:=⟨_,rfl⟩
 obtain⟨til,htil2⟩: ∃til,x.til=til:=⟨_,rfl⟩
 rw[htil2] at htil y3
 rw[hfr2] at hf1z hfr y2
 have HX:=hid (And.intro hf1 (And.intro hfr2 htil2))
 clear hf1 hfr2 htil2
 go_region
 all_goals
  obtain⟨tm,htm⟩: ∃tm:Nat,min til n=tm:=⟨_,rfl⟩
  have htmz:min (til:Int) (n:Int)=(tm:Int):=by omega
  have HTM:=hid htm
  by_cases hle:tm≤f1
  ·have dle:decide ((tm:Int)≤(f1:Int))=true:=decide_eq_true (by omega)
   have dle2:decide (tm≤f1)=true:=decide_eq_true hle
   have HLE:=hid hle
   clear htm hle
   go_wp2_with fail
   go_ret
   refine⟨by first | exact HB.out | exact HB.out.drew,?_⟩
   rw[←HR.out,HX.out.1,HX.out.2.2,HTM.out,if_pos HLE.out]
   rfl
  ·have dle:decide ((tm:Int)≤(f1:Int))=false:=decide_eq_false (by omega)
   have dle2:decide (tm≤f1)=false:=decide_eq_false hle
   have h1:(f1:Int)≤(tm:Int):=by omega
   have h2:(tm:Int)≤(cl:Int):=by omega
   have h3:(0:Int)≤(f1:Int):=by omega
   have h4:(0:Int)≤(tm:Int):=by omega
   have h1n:f1≤tm:=by omega
   have h2n:tm≤cl:=by omega
   obtain⟨pa,rfl⟩: ∃a,pl=some a:=by
    cases pl with
    | none=>have:=hpl rfl;omega
    | some a=>exact⟨a,rfl⟩
   have HLE:=hid hle
   clear htm hle
   go_wp2_with fail
   all_goals
    go_ret
    refine⟨by first | exact HB.out | exact HB.out.drew,?_⟩
    rw[←HR.out,HX.out.1,HX.out.2.2,HTM.out,if_neg HLE.out]
    first | rfl | (exfalso;have:=HLE.out;omega)
end Go.Proofs.YtlibkhbachmcgaaGreatDoor
