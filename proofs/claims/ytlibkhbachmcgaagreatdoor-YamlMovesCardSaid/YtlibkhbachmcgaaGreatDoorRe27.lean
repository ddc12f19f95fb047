import Derived.Test.YtlibkhbachmcgaaGreatDoorRe26
import Derived.Test.YtlibkhbachmcgaaGreatDoorRe15
import Derived.Test.YtlibkhbachmcgaaGreatDoorRe24
import Derived.Test.YtlibkhbachmcgaaGreatDoorRe25
set_option maxRecDepth 100000
set_option maxHeartbeats 4000000
namespace Go.Proofs.YtlibkhbachmcgaaGreatDoor
set_option linter.unusedSimpArgs false
set_option linter.unusedVariables false
open Go.RowKit
open Go.Lib hiding intOf
theorem KidsOk.monoP {P P':Nat→Nat→Prop} (h: ∀k m,P k m→P' k m) {hi:Nat}: ∀ {l:List Nat}{a:Nat},KidsOk P l a hi→KidsOk P' l a hi
 | [],a,h1=>h1
 | y::l,a,h1=>by
  obtain⟨e,m,h2,h3⟩:=h1
  exact⟨e,m,h _ _ h2,h3.monoP h⟩
theorem TKY.up {ns:List YND}: ∀ {lv k hi:Nat},TKY ns lv k hi→TKY ns (lv+1) k hi
 | lv+1,k,hi,h=>by
  obtain⟨x,hx,h2⟩:=h
  exact⟨x,hx,h2.monoP (fun k m h=>TKY.up h)⟩
def NdE (t:VT) (b:Bool) (w:World) (e:Ending) (w':World):Prop:=(∃kv iv,e= .returned (.tuple #[vv t kv iv, .bool b])∧VDf w.heap.size w' t.depth t kv iv)∧Below w.heap.size w w'
theorem yNodeD_any (s:Stp) (d:YDoc) (hb:DocB s d) (hi64: ∀l∈d.lines,l.ind≤1099511627776) (B:Nat) (lvv nv:Value) (k m:Nat) (w:World) (hT:TKY d.nodes 32 k m) (hD0:YDocAt B d lvv nv w) (hV:AVar w):
  Calls Tryz.prog 14 #[.agg #[.string (bs s),lvv,nv], .int .i64 (k:Int)] w (NdE (nodeYv s d 32 k) true w):=by
 obtain⟨z,hz,hln,hnd⟩:=id hD0
 have hkl:k<d.nodes.length:=by obtain⟨x,hx,_⟩:=hT;exact(List.getElem?_eq_some_iff.1 hx).1
 have hzl:z.length=d.nodes.length:=by rw[←hz,List.length_map]
 obtain⟨gn,cn,cur,rfl,hcn,_,hgn⟩:=hnd.form (fun e=>by rw[e] at hzl;simp at hzl;omega)
 obtain⟨pl,nl,cl,rfl⟩: ∃p n c,lvv= .slice p n c:=by
  rcases hln.2 with⟨h0,_⟩ | ⟨g,cap,cur,h1,_⟩
  ·exact⟨none,0,0,h0⟩
  ·exact⟨_,_,_,h1⟩
 obtain⟨nz,hnz⟩: ∃nz,z.length=nz:=⟨_,rfl⟩
 rw[hnz] at hD0 ⊢
 have dq1:decide ((k:Int)<0)=false:=decide_eq_false (by omega)
 have dq2:decide ((nz:Int)≤(k:Int))=false:=decide_eq_false (by omega)
 have dq3:decide (nz≤k)=false:=decide_eq_false (by omega)
 obtain⟨W1,hW1⟩: ∃W,w.alloc (.cells #[.string (bs s), .slice pl nl cl, .slice (some ⟨gn,0,none⟩) nz cn] 26)=W:=⟨_,rfl⟩
 obtain⟨D,hDe⟩: ∃D,w.heap.size=D:=⟨_,rfl⟩
 have b1:Below w.heap.size w W1:=by rw[←hW1];exact below_alloc1 _ _
 have h1:W1.heap[D]?=some (.cells #[.string (bs s), .slice pl nl cl, .slice (some ⟨gn,0,none⟩) nz cn] 26):=by rw[←hW1,←hDe];exact heap_alloc_new w _
 obtain⟨W2,hW2⟩: ∃W,W1.alloc (.cells #[.int .i64 0, .string ⟨#[]⟩, .slice none 0 0, .slice none 0 0] 36)=W:=⟨_,rfl⟩
 obtain⟨R,hRe⟩: ∃S,W1.heap.size=S:=⟨_,rfl⟩
 have b2:Below W1.heap.size W1 W2:=by rw[←hW2];exact below_alloc1 _ _
 have h2:W2.heap[R]?=some (.cells #[.int .i64 0, .string (bs []), .slice none 0 0, .slice none 0 0] 36):=by rw[←hW2,←hRe];exact heap_alloc_new W1 _
 have hd2:=(b2.block D (cell_it h1)).trans h1
 have HB2:=hid (below_of_new b1 b2)
 have H2:=hid h2
 have hRw:w.heap.size≤R:=by rw[←hRe];exact b1.size
 have hR2l:R<W2.heap.size:=cell_it h2
 obtain⟨T,hTe⟩: ∃T,nodeYv s d 32 k=T:=⟨_,rfl⟩
 have CN:Hid (∀w',Below W2.heap.size W2 w'→Calls Tryz.prog 35 #[.agg #[.string (bs s), .slice pl nl cl, .slice (some ⟨gn,0,none⟩) nz cn], .int .i64 (k:Int), .int .i64 1] w' (NewE T w')):=hid (fun w' h=>by
  have:=ynode_any s d hb hi64 32 B (.slice pl nl cl) (.slice (some ⟨gn,0,none⟩) nz cn) k m 1 w' hT (hid (by decide)) (Nat.le_refl _) ((hD0.keep HB2.out).keep h) ((hV.keep HB2.out).keep h)
  rw[hTe] at this
  exact this)
 rw[hTe]
 obtain⟨d0,d1,d2,_⟩:=box3f hd2
 clear b1 b2 h1 h2 hd2 hz hln hnd hkl hzl hgn hcn hnz hTe hT hD0 hV
 go_enter Tryz.func14,Tryz.ntmps14
 go_upto_region 1 with fail
 clear hW1 hW2 hDe hRe
 go_wp2_with fail
 refine(CN.out _ (by first | exact Below.refl _ _ | exact(Below.refl _ _).drew)).mono ?_
 rintro e w6 ⟨⟨kv,iv,rfl,hv6⟩,hb6⟩
 have HB6:Hid (Below W2.heap.size W2 w6):=hid (by first | exact hb6 | exact below_of_new (Below.refl _ _).drew hb6)
 obtain⟨pk6,ck6,pi6,ci6,rfl,rfl⟩:=hv6.toVD.form
 have HRP:=hid (putNew (t:=T) HB2.out hRw hR2l hv6 HB6.out H2.out)
 obtain⟨r0,r1,r2,r3,g0,g1,g2,g3⟩:=box4 ((HB6.out.block R hR2l).trans H2.out)
 unfold vv
 clear hv6 hb6 d0 d1 d2
 go_wp2_with fail
 have hWR':(((w6.setCell ⟨R,0,none⟩ (.int .i64 T.kind)).setCell ⟨R,1,none⟩ (.string (bs T.text))).setCell ⟨R,2,none⟩ (.slice pk6 T.keys.length ck6)).setCell ⟨R,3,none⟩ (.slice pi6 T.items.length ci6)=putV w6 R T.kind T.text (.slice pk6 T.keys.length ck6) (.slice pi6 T.items.length ci6):=rfl
 rw[hWR']
 obtain⟨WR,hWR⟩: ∃W,putV w6 R T.kind T.text (.slice pk6 T.keys.length ck6) (.slice pi6 T.items.length ci6)=W:=⟨_,rfl⟩
 rw[hWR] at HRP ⊢
 clear hWR' hWR r0 r1 r2 r3 g0 g1 g2 g3
 obtain⟨d0,d1,d2,d3,_⟩:=box4 HRP.out.2.2
 refine bodyPost_ret (v:= .tuple #[.agg #[.int .i64 T.kind, .string (bs T.text), .slice pk6 T.keys.length ck6, .slice pi6 T.items.length ci6], .bool true]) ?_ rfl ⟨⟨_,_,rfl,HRP.out.1⟩,HRP.out.2.1⟩
 simp[results,Tryz.results14,go_sem,d0,d1,d2,d3]
end Go.Proofs.YtlibkhbachmcgaaGreatDoor
namespace Go.Proofs.YtlibkhbachmcgaaGreatDoor
set_option linter.unusedSimpArgs false
set_option linter.unusedVariables false
open Go.Lib
def DpOk (s:Stp) (lv:Nat) (x:YND):Prop:=x.kind=1→(readY (slI s x.rf x.rt)).1.depth≤lv
def TKD (s:Stp) (ns:List YND):Nat→Nat→Nat→Prop
 | 0,_,_=>False
 | lv+1,k,hi=> ∃x,ns[k]?=some x∧DpOk s (lv+1) x∧KidsOk (TKD s ns lv) x.kids (k+1) hi
theorem TKD.tky {s:Stp}{ns:List YND}: ∀ {lv k hi:Nat},TKD s ns lv k hi→TKY ns lv k hi
 | lv+1,k,hi,⟨x,hx,_,h⟩=>⟨x,hx,h.monoP (fun _ _=>TKD.tky)⟩
theorem TKD.lt {s:Stp}{ns:List YND}{lv k hi:Nat} (h:TKD s ns lv k hi):k<hi:=h.tky.lt
theorem TKD.mono {s:Stp}{ns ns':List YND}: ∀ {lv k hi:Nat},TKD s ns lv k hi→(∀j y,k≤j→j<hi→ns[j]?=some y→ns'[j]?=some y)→TKD s ns' lv k hi
 | lv+1,k,hi,h,hm=>by
  have hkh:=h.lt
  obtain⟨x,hx,hd,h2⟩:=h
  exact⟨x,hm k x (Nat.le_refl _) hkh hx,hd,h2.imp hi (fun k m h=>h.lt) (fun k' m h5 h6 h7=>h7.mono (fun j y h8 h9=>hm j y (by omega) (by omega)))⟩
def TrR (s:Stp) (lv:Nat) (R:YR):Prop:=match R with
 | .ok n st'=>TKD s st'.nodes lv n st'.nodes.length
 | .bad _ _=>True
def VTr (s:Stp) (sp:List (Nat×Nat)) (lv:Nat) (V:YB):Prop:= ∀k kf kt st,WfS s sp st→k+1=st.lines.length→TrR s lv (V k kf kt st)
theorem leaf_tree {s:Stp}{ns:List YND}{x:YND}{lv:Nat} (h0:lv≠0) (hd:DpOk s lv x) (hx:x.kids= []):TKD s (ns++ [x]) lv ns.length (ns++ [x]).length:=by
 cases lv with
 | zero=>exact absurd rfl h0
 | succ lv=>exact⟨x,by simp,hd,by rw[hx];show ns.length+1=_;simp⟩
theorem restM_tree {s:Stp}{lv k:Nat}{kf kt:Int}{st:YS}:TrR s lv (restM s lv k kf kt st):=by
 unfold restM
 split
 ·trivial
 ·rename_i n1 s1 h1
  obtain⟨rfl,rfl,h0,_⟩:=addM_ok h1
  simp only[]
  split
  ·trivial
  ·split
   ·trivial
   ·rename_i hdp
    split
    ·trivial
    ·exact leaf_tree h0 (fun _=>Nat.le_of_not_lt hdp) rfl
theorem literalM_tree {s:Stp}{sp:List (Nat×Nat)}{lv k:Nat}{kf kt:Int}{st:YS}:TrR s lv (literalM s sp lv k kf kt st):=by
 unfold literalM
 split
 ·trivial
 ·rename_i n1 s1 h1
  obtain⟨rfl,rfl,h0,_⟩:=addM_ok h1
  simp only[]
  split
  ·trivial
  ·exact leaf_tree h0 (fun e=>by cases e) rfl
theorem ymValue_tree {s:Stp}{sp:List (Nat×Nat)} (hsp:SpOk s sp) {B:YB}{lv:Nat} (hB:VTr s sp lv B):VTr s sp lv (ymValue s sp B lv):=by
 intro k kf kt st hw hk
 unfold ymValue
 simp only[]
 split
 ·exact literalM_tree
 ·split
  ·have hn:=nextM_ok hsp (k:=k+1) (lines:=st.lines) (by omega) hw.ls (fun i h1 h2=>by omega)
   cases hm:nextM s sp (k+1) st.lines with
   | bad a e=>trivial
   | ok nx ls=>
    rw[hm] at hn
    simp only[] at hn ⊢
    split
    ·rename_i hc
     exact hB nx kf kt ⟨ls,st.nodes,st.total⟩ ⟨hn.ok,hw.tot⟩ (hn.hit hc.1).1.symm
    ·exact restM_tree
  ·exact restM_tree
theorem oneM_tree {s:Stp}{sp:List (Nat×Nat)}{V:YB}{m:Nat} (hV:VTr s sp m V) (map:Bool) (had:List Stp) {k:Nat}{st:YS} (hw:WfS s sp st) (hk:k+1=st.lines.length):TrR s m (oneM s V map had k st).1:=by
 unfold oneM
 split
 ·simp only[]
  split
  ·trivial
  ·split
   ·trivial
   ·exact hV _ _ _ _ hw hk
 ·exact hV _ _ _ _ hw hk
theorem ymOne_tree {s:Stp}{sp:List (Nat×Nat)}{V:YB} (hG:VGood s sp V) {m:Nat} (hV:VTr s sp m V) {map:Bool}{n:Nat}{ind:Int}{had had':List Stp}{k nx:Nat}{st s3:YS} (hw:WfS s sp st) (hk:k+1=st.lines.length) {x:YND} (hx:st.nodes[n]?=some x) (hK:KidsOk (TKD s st.nodes m) x.kids (n+1) st.nodes.length) (h:ymOne s sp V map n ind had k st= .ok nx s3 had'):
  ∃x',s3.nodes[n]?=some x'∧x'.kind=x.kind∧KidsOk (TKD s s3.nodes m) x'.kids (n+1) s3.nodes.length:=by
 have hg:=oneM_good hG map had hw hk
 have ht:=oneM_tree hV map had hw hk
 unfold ymOne at h
 obtain⟨⟨Q,had2⟩,hQ⟩: ∃Q,oneM s V map had k st=Q:=⟨_,rfl⟩
 rw[hQ] at h hg ht
 cases Q with
 | bad a e=>cases h
 | ok kid s2=>
  obtain⟨g1,⟨more,g2n,g2⟩,_,_,_,_⟩:=(show GoodS s sp k st kid s2 from hg)
  have ht:TKD s s2.nodes m kid s2.nodes.length:=ht
  simp only[] at h
  split at h
  ·cases h
  ·split at h
   ·cases h
   ·injection h with e1 e2 e3
    have hnl:=(List.getElem?_eq_some_iff.1 hx).1
    have hx2:s2.nodes[n]?=some x:=by rw[g2,List.getElem?_append_left hnl];exact hx
    have hn2:=(List.getElem?_eq_some_iff.1 hx2).1
    subst e2
    simp only[]
    obtain⟨ns3,hns3⟩: ∃ns3,addKidY n kid s2.nodes=ns3:=⟨_,rfl⟩
    have hset:ns3=s2.nodes.set n { x with kids:=x.kids++ [kid],til:=toOf s2.nodes kid }:=by
     rw[←hns3];unfold addKidY;exact modY_set _ n _ x hx2
    have hl3:ns3.length=s2.nodes.length:=by rw[hset,List.length_set]
    rw[hns3]
    refine⟨{ x with kids:=x.kids++ [kid],til:=toOf s2.nodes kid },by rw[hset,List.getElem?_set_self hn2],rfl,?_⟩
    simp only[]
    have hmono: ∀k' m',n<k'→TKD s s2.nodes m k' m'→TKD s ns3 m k' m':=fun k' m' h1 h2=>h2.mono (fun j y h3 h4 h5=>by rw[hset,List.getElem?_set_ne (by omega)];exact h5)
    refine KidsOk.snoc (k:=kid) ?_ (by rw[hl3];exact hmono _ _ (by omega) ht)
    rw[g1]
    exact hK.imp _ (fun k m h=>TKD.lt h) (fun k' m' h1 h2 h3=>hmono k' m' (by omega) (h3.mono (fun j y h4 h5 h6=>by rw[g2,List.getElem?_append_left (by omega)];exact h6)))
theorem ymLoop_tree {s:Stp}{sp:List (Nat×Nat)} (hsp:SpOk s sp) {V:YB} (hG:VGood s sp V) {m:Nat} (hV:VTr s sp m V) {map:Bool}{n:Nat}{ind kind:Int}: ∀(f:Nat) (had:List Stp) (k:Nat) (st:YS) (x:YND),
  WfS s sp st→(k<sp.length→k+1=st.lines.length)→st.nodes[n]?=some x→x.kind≠1→KidsOk (TKD s st.nodes m) x.kids (n+1) st.nodes.length→TrR s (m+1) (ymLoop s sp V map n ind kind f had k st)
 | 0,had,k,st,x,hw,hk,hx,hx1,hK=>⟨x,hx,fun e=>absurd e hx1,hK⟩
 | f+1,had,k,st,x,hw,hk,hx,hx1,hK=>by
  unfold ymLoop
  split
  ·rename_i hc
   cases ho:ymOne s sp V map n ind had k st with
   | bad a e=>trivial
   | ok nx s2 had'=>
    obtain⟨x',h1,hx1',h2⟩:=ymOne_tree hG hV hw (hk hc.1) hx hK ho
    obtain⟨_,_,_,h3,h4,h5,h6⟩:=ymOne_step hsp hG hw (hk hc.1) hx ho
    exact ymLoop_tree hsp hG hV f had' nx s2 x' h3 h6 h1 (by rw[hx1'];exact hx1) h2
  ·exact⟨x,hx,fun e=>absurd e hx1,hK⟩
theorem ymBlockS_tree {s:Stp}{sp:List (Nat×Nat)} (hsp:SpOk s sp) {V:YB} (lv:Nat) (hG:lv≠0→VGood s sp V) (hV: ∀m,lv=m+1→VTr s sp m V):VTr s sp lv (ymBlockS s sp V lv):=by
 intro k kf kt st hw hk
 unfold ymBlockS
 simp only[]
 split
 ·exact restM_tree
 ·split
  ·trivial
  ·rename_i n1 s1 h1
   obtain⟨rfl,rfl,h0,h4⟩:=addM_ok h1
   obtain⟨m,rfl⟩: ∃m,lv=m+1:=⟨lv-1,by omega⟩
   have htot:=hw.tot
   refine ymLoop_tree hsp (hG h0) (hV m rfl) _ _ _ _ _ ⟨hw.ls,by simp only[List.length_append,List.length_singleton];omega⟩ (fun _=>hk) (by simp;rfl) (by simp only[];split<;>decide) ?_
   show st.nodes.length+1=_
   simp
theorem ymBlock_tree {s:Stp}{sp:List (Nat×Nat)} (hsp:SpOk s sp): ∀lv,VTr s sp lv (ymBlock s sp lv)
 | 0=>ymBlockS_tree hsp 0 (fun h=>absurd rfl h) (fun m h=>by omega)
 | lv+1=>ymBlockS_tree hsp (lv+1) (fun _=>ymValue_good hsp (ymBlock_good hsp lv) lv) (fun m h=>by
   obtain rfl:m=lv:=by omega
   exact ymValue_tree hsp (ymBlock_tree hsp m))
structure DocTr (s:Stp) (d:YDoc):Prop where
 treeD:TKD s d.nodes 32 0 d.nodes.length
 cnt:d.nodes.length≤4096
 lns:d.lines.length≤(spY s).length
 ok:LsOk s (spY s) d.lines
theorem whole_tree {s:Stp}{d:YDoc}{a:Int} (h:ymWhole s (spY s)=(d,a,0)):DocTr s d:=by
 have hsp:=spY_ok s
 have hls:LsOk s (spY s) []:=⟨Nat.zero_le _,fun i hi=>absurd hi (Nat.not_lt_zero _)⟩
 have h1:=nextM_ok hsp (k:=0) (lines:= []) (Nat.le_refl _) hls (fun i _ hi=>absurd hi (Nat.not_lt_zero _))
 unfold ymWhole at h
 cases hN:nextM s (spY s) 0 [] with
 | bad a' e'=>
  rw[hN] at h1 h
  simp only[Prod.mk.injEq] at h
  exact absurd h.2.2 h1.2.2
 | ok k ls=>
  rw[hN] at h1 h
  simp only[] at h1 h
  by_cases hk:k<(spY s).length
  ·rw [if_neg (fun e=>e hk)] at h
   have hw:WfS s (spY s) ⟨ls,[],0⟩:=⟨h1.ok,by simp⟩
   have hg:=ymBlock_good hsp 32 k 0 0 ⟨ls,[],0⟩ hw (h1.hit hk).1.symm
   have ht:=ymBlock_tree hsp 32 k 0 0 ⟨ls,[],0⟩ hw (h1.hit hk).1.symm
   cases hB:ymBlock s (spY s) 32 k 0 0 ⟨ls,[],0⟩ with
   | bad a' e'=>
    rw[hB] at hg h
    simp only[Prod.mk.injEq] at h
    exact absurd h.2.2 (show 0≤a'∧a'≤(s.length:Int)∧e'≠0 from hg).2.2
   | ok n st=>
    rw[hB] at hg ht h
    obtain⟨g1,_,_,g4,g5,g6⟩:=(show GoodS s (spY s) k ⟨ls,[],0⟩ n st from hg)
    have g10:n=0:=g1
    subst g10
    have ht:TKD s st.nodes 32 0 st.nodes.length:=ht
    have h2:=nextM_ok hsp (k:=toOf st.nodes 0) g4.2 g6.ls g5
    simp only[] at h
    cases hN2:nextM s (spY s) (toOf st.nodes 0) st.lines with
    | bad a' e'=>
     rw[hN2] at h2 h
     simp only[Prod.mk.injEq] at h
     exact absurd h.2.2 h2.2.2
    | ok k2 ls2=>
     rw[hN2] at h2 h
     simp only[] at h h2
     split at h
     ·simp only[Prod.mk.injEq] at h
      exact absurd h.2.2 (by decide)
     ·injection h with e1 e2
      subst e1
      exact⟨ht,by have:=g6.tot;simp only[];omega,h2.ok.1,h2.ok⟩
  ·rw[if_pos hk] at h
   injection h with e1 e2
   subst e1
   exact⟨⟨_,rfl,fun _=>by unfold slI;rw[Nat.sub_self,List.take_zero];decide,rfl⟩,by simp,h1.ok.1,h1.ok⟩
theorem DocTr.tree {s:Stp}{d:YDoc} (h:DocTr s d):TKY d.nodes 32 0 d.nodes.length:=h.treeD.tky
theorem TKY.sub {ns:List YND}: ∀ {lv k hi:Nat},TKY ns lv k hi→ ∀j,k≤j→j<hi→ ∃m,TKY ns lv j m
 | lv+1,k,hi,h,j,h1,h2=>by
  by_cases hjk:j=k
  ·subst hjk;exact⟨hi,h⟩
  ·obtain⟨x,hx,hK⟩:=h
   have key: ∀(l:List Nat) (a:Nat),KidsOk (TKY ns lv) l a hi→a≤j→ ∃m,TKY ns lv j m:=by
    intro l
    induction l with
    | nil=>intro a h ha;have:a=hi:=h;omega
    | cons y l ih=>
     intro a h ha
     obtain⟨rfl,m,h3,h4⟩:=h
     by_cases hm:m≤j
     ·exact ih m h4 hm
     ·exact TKY.sub h3 j ha (by omega)
   obtain⟨m,hm⟩:=key _ _ hK (by omega)
   exact⟨m,hm.up⟩
theorem kidsY_le {P:Nat→Nat→Prop} (hlt: ∀k m,P k m→k<m) {hi:Nat}: ∀ {l:List Nat}{a:Nat},KidsOk P l a hi→a+l.length≤hi
 | [],a,h=>Nat.le_of_eq h
 | y::l,a,h=>by
  obtain⟨rfl,m,h2,h3⟩:=h
  have h4:=hlt _ _ h2
  have:=kidsY_le hlt h3
  rw[List.length_cons]
  omega
theorem DocTr.node {s:Stp}{d:YDoc} (h:DocTr s d) {k:Nat} (hk:k<d.nodes.length): ∃m,TKY d.nodes 32 k m∧m≤d.nodes.length:=by
 obtain⟨m,hm⟩:=h.tree.sub k (Nat.zero_le _) hk
 refine⟨m,hm,?_⟩
 have: ∀ {lv k m:Nat},TKY d.nodes lv k m→m≤d.nodes.length:=by
  intro lv
  induction lv with
  | zero=>intro k m h;exact h.elim
  | succ lv ih=>
   intro k m h
   obtain⟨x,hx,hK⟩:=h
   have hkl:=(List.getElem?_eq_some_iff.1 hx).1
   have: ∀(l:List Nat) (a:Nat),a≤d.nodes.length→KidsOk (TKY d.nodes lv) l a m→m≤d.nodes.length:=by
    intro l
    induction l with
    | nil=>intro a ha h;have:a=m:=h;omega
    | cons y l ih2=>
     intro a ha h
     obtain⟨rfl,q,h3,h4⟩:=h
     exact ih2 q (ih h3) h4
   exact this _ _ (by omega) hK
 exact this hm
theorem DocTr.kids {s:Stp}{d:YDoc} (h:DocTr s d) {k:Nat}{x:YND} (hx:d.nodes[k]?=some x):x.kids.length≤4096:=by
 obtain⟨m,hm,hml⟩:=h.node (List.getElem?_eq_some_iff.1 hx).1
 obtain⟨x',hx',hK⟩:=hm
 rw[hx] at hx'
 obtain rfl:=Option.some.inj hx'
 have:=kidsY_le (fun _ _=>TKY.lt) hK
 have:=h.cnt
 omega
def sumSp (sp:List (Nat×Nat)):Nat:=(sp.map fun x=>x.2-x.1+1).sum
theorem sumSp_cons (x:Nat×Nat) (b:List (Nat×Nat)):sumSp (x::b)=(x.2-x.1+1)+sumSp b:=by unfold sumSp;simp
def SpEnd (s:Stp) (sp:List (Nat×Nat)):Prop:=(∀x∈sp,s[x.2]?=none∨s[x.2]?=some 10)∧sumSp sp≤s.length+1
theorem cutSp_cons2 (x:Nat×Nat) {l:List (Nat×Nat)} (h:l≠ []):cutSp (x::l)=(x.1,x.2-1)::cutSp l:=by
 cases l with
 | nil=>exact absurd rfl h
 | cons y r=>rfl
theorem linesL_ne2: ∀(l:Stp) (k pos:Nat),linesL l k pos≠ []
 | [],_,_=>by simp[linesL]
 | c::l,k,pos=>by
  unfold linesL
  split
  ·simp
  ·exact linesL_ne2 l k (pos+1)
theorem cut_ends (s:Stp): ∀(l:Stp) (k pos:Nat),s.drop pos=l→ ∀x∈cutSp (linesL l k pos),s[x.2]?=none∨s[x.2]?=some 10
 | [],k,pos,h,x,hx=>by
  rw[show linesL ([]:Stp) k pos= [(k,pos)] from rfl] at hx
  rw[show cutSp [(k,pos)]= [(k,pos)] from rfl,List.mem_singleton] at hx
  subst hx
  left
  rw[List.getElem?_eq_none_iff]
  exact List.drop_eq_nil_iff.1 h
 | c::l,k,pos,h,x,hx=>by
  have h1:s.drop (pos+1)=l:=by rw[←List.drop_drop,h];rfl
  have h0:s[pos]?=some c:=by
   have:=congrArg List.head? h
   rw[List.head?_drop] at this
   exact this
  unfold linesL at hx
  split at hx
  ·rename_i hc
   rw[cutSp_cons2 _ (linesL_ne2 _ _ _)] at hx
   rcases List.mem_cons.1 hx with e | hx
   ·right
    rw[e]
    show s[pos+1-1]?=_
    rw[Nat.add_sub_cancel,h0,hc]
   ·exact cut_ends s l _ _ h1 x hx
  ·exact cut_ends s l _ _ h1 x hx
theorem cut_sum: ∀(l:Stp) (k pos:Nat),k≤pos→sumSp (cutSp (linesL l k pos))=(pos-k)+l.length+1
 | [],k,pos,h=>by
  rw[show linesL ([]:Stp) k pos= [(k,pos)] from rfl,show cutSp [(k,pos)]= [(k,pos)] from rfl,sumSp_cons]
  rfl
 | c::l,k,pos,h=>by
  unfold linesL
  split
  ·rw[cutSp_cons2 _ (linesL_ne2 _ _ _),sumSp_cons,cut_sum l (pos+1) (pos+1) (Nat.le_refl _),List.length_cons]
   simp only[]
   omega
  ·rw[cut_sum l k (pos+1) (by omega),List.length_cons];omega
theorem spY_end (s:Stp):SpEnd s (spY s):=⟨fun x hx=>cut_ends s s 0 0 (by simp) x hx,by
 have:=cut_sum s 0 0 (Nat.le_refl _)
 unfold spY
 omega⟩
theorem takesG_is (s:Stp): ∀(l:List (Nat×Nat)) (ls ls':List LineR),takesG s l ls= .inl ls'→ls'=ls++l.map (textLine s)∧ ∀x∈l,¬mayA s x<x.2
 | [],ls,ls',h=>by
  injection h with h
  subst h
  exact⟨by simp,fun x hx=>by cases hx⟩
 | x::r,ls,ls',h=>by
  unfold takesG at h
  split at h
  ·cases h
  ·rename_i hx
   obtain⟨h1,h2⟩:=takesG_is s r _ _ h
   refine⟨by rw[h1];simp,fun y hy=>?_⟩
   rcases List.mem_cons.1 hy with e | hy
   ·rw[e];exact hx
   ·exact h2 y hy
theorem bytesI_in {s:Stp}{a b:Int} (h1:0≤a) (h2:a≤b) (h3:b≤(s.length:Int)):bytesI s a b=slI s a b:=by
 unfold bytesI
 rw[if_neg (by omega)]
theorem bytesI_line {s:Stp}{x:Nat×Nat} (h1:x.1≤x.2) (h2:x.2≤s.length):bytesI s (x.1:Int) (x.2:Int)=lineT s x:=by
 rw[bytesI_in (by omega) (by omega) (by omega)]
 unfold slI lineT
 rw[Int.toNat_natCast,Int.toNat_natCast]
theorem lit_ts {s:Stp}{sp:List (Nat×Nat)} (hsp:SpOk s sp) {k:Nat}{ind:Int}{ls ls':List LineR} (more:List LineR) (hk:k+1=ls.length) (ht:takesG s ((sp.drop (k+1)).take (reachM s sp ind k-(k+1))) ls= .inl ls') (hkl:k<sp.length) {x:YND} (hf:x.fr=k) (hti:x.til=reachM s sp ind k):
  litTs s (ls'++more) x=((sp.drop (k+1)).take (reachM s sp ind k-(k+1))).map fun y=>(lineT s y,(spL (lineT s y):Int)):=by
 obtain⟨l,hl⟩: ∃l,(sp.drop (k+1)).take (reachM s sp ind k-(k+1))=l:=⟨_,rfl⟩
 rw[hl] at ht ⊢
 obtain⟨e1,e2⟩:=takesG_is s l ls ls' ht
 have hr:=reachM_le (s:=s) ind hkl
 have hll:l.length=reachM s sp ind k-(k+1):=by rw[←hl,List.length_take,List.length_drop];omega
 have hmem: ∀y∈l,y∈sp:=fun y hy=>List.mem_of_mem_drop (List.mem_of_mem_take (by rw[hl];exact hy))
 have hlines:litLines (ls'++more) x=l.map (textLine s):=by
  unfold litLines
  rw[hf,hti,e1,List.append_assoc,List.take_append,List.drop_append,hk]
  have h1:(ls.take (reachM s sp ind k)).drop ls.length= []:=List.drop_of_length_le (by rw[List.length_take];omega)
  rw[h1,List.nil_append,List.length_take,show ls.length-min (reachM s sp ind k) ls.length=0 by omega,List.drop_zero,show reachM s sp ind k-ls.length=(l.map (textLine s)).length by rw[List.length_map,hll,hk],List.take_left]
 unfold litTs
 rw[hlines,List.map_map]
 refine List.map_congr_left (fun y hy=>?_)
 have hy2:=hsp y (hmem y hy)
 show (bytesI s (y.1:Int) (y.2:Int),(spL (lineT s y):Int))=_
 rw[bytesI_line hy2.1 hy2.2]
end Go.Proofs.YtlibkhbachmcgaaGreatDoor
namespace Go.Proofs.YtlibkhbachmcgaaGreatDoor
set_option linter.unusedSimpArgs false
set_option linter.unusedVariables false
open Go.Lib hiding intOf
theorem linesL_run: ∀(A R:Stp) (k pos:Nat),A.contains 10=false→linesL (A++10::R) k pos=(k,pos+A.length+1)::linesL R (pos+A.length+1) (pos+A.length+1)
 | [],R,k,pos,_=>by
  show linesL (10::R) k pos=(k,pos+1)::linesL R (pos+1) (pos+1)
  conv=>lhs;unfold linesL
  rw[if_pos rfl]
 | c::A,R,k,pos,h=>by
  rw[List.contains_cons,Bool.or_eq_false_iff] at h
  have hc: ¬c=10:=fun e=>by rw[e] at h;simp at h
  rw[List.cons_append]
  conv=>lhs;unfold linesL
  rw[if_neg hc,linesL_run A R k (pos+1) h.2,List.length_cons,show pos+1+A.length+1=pos+(A.length+1)+1 by omega]
theorem linesL_last: ∀(A:Stp) (k pos:Nat),A.contains 10=false→linesL A k pos= [(k,pos+A.length)]
 | [],k,pos,_=>rfl
 | c::A,k,pos,h=>by
  rw[List.contains_cons,Bool.or_eq_false_iff] at h
  have hc: ¬c=10:=fun e=>by rw[e] at h;simp at h
  unfold linesL
  rw[if_neg hc,linesL_last A k (pos+1) h.2,List.length_cons,show pos+1+A.length=pos+(A.length+1) by omega]
theorem linesL_ne': ∀(l:Stp) (k pos:Nat),linesL l k pos≠ []
 | [],_,_=>by simp[linesL]
 | c::l,k,pos=>by
  unfold linesL
  split
  ·simp
  ·exact linesL_ne' l k (pos+1)
theorem cutSp_cons (x:Nat×Nat) {l:List (Nat×Nat)} (h:l≠ []):cutSp (x::l)=(x.1,x.2-1)::cutSp l:=by
 cases l with
 | nil=>exact absurd rfl h
 | cons y r=>rfl
structure LnS (m:Nat) (s s':Stp) (r r':LineR):Prop where
 kind:r'.kind=r.kind
 ind:r'.ind=r.ind+m
 key:slI s' r'.kf r'.kt=slI s r.kf r.kt
 rst:slI s' r'.rf r'.rt=slI s r.rf r.rt
theorem seg_in {s t:Stp}{a:Nat} (hs:(s.drop a).take t.length=t) {i l:Nat} (h:i+l≤t.length):(s.drop (a+i)).take l=(t.drop i).take l:=by
 conv=>rhs;rw[←hs]
 rw[List.drop_take,List.take_take,List.drop_drop,show min l (t.length-i)=l by omega]
theorem slI_in {s t:Stp}{a:Nat} (hs:(s.drop a).take t.length=t) {i j:Nat} (h:i≤j) (hj:j≤t.length):slI s ((a+i:Nat):Int) ((a+j:Nat):Int)=(t.drop i).take (j-i):=by
 unfold slI
 rw[Int.toNat_natCast,Int.toNat_natCast,show a+j-(a+i)=j-i by omega]
 exact seg_in hs (by omega)
theorem lineT_self {s:Stp}{x:Nat×Nat} (h1:x.1≤x.2) (h2:x.2≤s.length):(s.drop x.1).take (lineT s x).length=lineT s x:=by
 rw[lineT_len h1 h2];rfl
theorem lineL_text {s:Stp}{x:Nat×Nat} (h1:x.1≤x.2) (h2:x.2≤s.length):lineL s x.1 x.2=
  if(lineT s x).contains 10 then((noLine,0,1):LineR×Int×Int) else if wrL true (lineT s x)<(lineT s x).length then(noLine,(x.1:Int)+wrL true (lineT s x),2) else
  match coreL ((lineT s x).drop (spL (lineT s x))) with
  | none=>(noLine,(x.1:Int)+spL (lineT s x),2)
  | some c=>(lineOf (x.1:Int) (x.2:Int) (spL (lineT s x)) c,(x.2:Int),0):=by
 unfold lineL
 rw[if_neg (by omega)]
 simp only[Int.toNat_natCast,show ((x.2:Int)-(x.1:Int)).toNat=x.2-x.1 by omega]
 rfl
theorem rep_no10 (m:Nat) (t:Stp):(List.replicate m 32++t).contains 10=t.contains 10:=by
 induction m with
 | zero=>simp
 | succ m ih=>
  rw[List.replicate_succ,List.cons_append,List.contains_cons,ih]
  simp
theorem drop_rep (m k:Nat) (t:Stp):(List.replicate m 32++t).drop (m+k)=t.drop k:=by
 rw[←List.drop_drop]
 congr 1
 have:=List.drop_left (l₁:=List.replicate m (32:UInt8)) (l₂:=t)
 rw[List.length_replicate] at this
 exact this
theorem lineL_sim {s s':Stp}{x x':Nat×Nat}{m:Nat} (h1:x.1≤x.2) (h2:x.2≤s.length) (h1':x'.1≤x'.2) (h2':x'.2≤s'.length) (ht:lineT s' x'=List.replicate m 32++lineT s x):
  (lineL s' x'.1 x'.2).2.2=(lineL s x.1 x.2).2.2∧((lineL s x.1 x.2).2.2=0→LnS m s s' (lineL s x.1 x.2).1 (lineL s' x'.1 x'.2).1):=by
 have hs:=lineT_self h1 h2
 have hs':=lineT_self h1' h2'
 rw[lineL_text h1 h2,lineL_text h1' h2',ht]
 rw[ht] at hs'
 obtain⟨t,htt⟩: ∃t,lineT s x=t:=⟨_,rfl⟩
 rw[htt] at hs hs' ⊢
 rw[rep_no10,wrL_rep,spL_rep,List.length_append,List.length_replicate,drop_rep]
 by_cases h10:t.contains 10=true
 ·rw[if_pos h10,if_pos h10];exact⟨rfl,fun h=>by cases h⟩
 rw[if_neg h10,if_neg h10]
 by_cases hw:wrL true t<t.length
 ·rw[if_pos hw,if_pos (by omega)];exact⟨rfl,fun h=>by cases h⟩
 rw[if_neg hw,if_neg (by omega)]
 cases hc:coreL (t.drop (spL t)) with
 | none=>exact⟨rfl,fun h=>by cases h⟩
 | some c=>
  refine⟨rfl,fun _=>?_⟩
  have hp:=core_parts _ _ hc
  have hsl:=spL_le t
  have hul:(t.drop (spL t)).length=t.length-spL t:=List.length_drop
  have ho:=hp.ord
  rw[hul] at ho
  have hl':(List.replicate m 32++t:Stp).length=m+t.length:=by rw[List.length_append,List.length_replicate]
  have seg: ∀i j:Nat,i≤j→j≤t.length→slI s' ((x'.1+(m+i):Nat):Int) ((x'.1+(m+j):Nat):Int)=slI s ((x.1+i:Nat):Int) ((x.1+j:Nat):Int):=by
   intro i j hij hj
   rw[slI_in hs hij hj,slI_in hs' (i:=m+i) (j:=m+j) (by omega) (by rw[hl'];omega),drop_rep,show m+j-(m+i)=j-i by omega]
  unfold lineOf
  refine⟨rfl,by simp only[];omega,?_,?_⟩
  ·simp only[]
   by_cases h4:c.kind=4
   ·have:=(hp.key h4).2.1
    have h:=seg (spL t) (spL t+c.key) (by omega) (by omega)
    rw[if_pos h4,if_pos h4,if_pos h4,if_pos h4]
    rw[show (x'.1:Int)+((m+spL t:Nat):Int)=((x'.1+(m+spL t):Nat):Int) by omega,show ((x'.1+(m+spL t):Nat):Int)+(c.key:Int)=((x'.1+(m+(spL t+c.key)):Nat):Int) by omega,h]
    congr 1<;>omega
   ·rw[if_neg h4,if_neg h4,if_neg h4,if_neg h4]
    rfl
  ·simp only[]
   have h:=seg (spL t+c.rf) (spL t+c.rt) (by omega) (by omega)
   rw[show (x'.1:Int)+((m+spL t:Nat):Int)+(c.rf:Int)=((x'.1+(m+(spL t+c.rf)):Nat):Int) by omega,show (x'.1:Int)+((m+spL t:Nat):Int)+(c.rt:Int)=((x'.1+(m+(spL t+c.rt)):Nat):Int) by omega,h]
   congr 1<;>omega
def mayT:Nat→Stp→Bool
 | 0,_=>true
 | _+1,[]=>true
 | f+1,c::r=>if badM (decodeL (c::r)) then false else mayT f ((c::r).drop (decodeL (c::r)).2)
theorem dec_good {l:Stp} (hne:l≠ []) (hb:badM (decodeL l)=false):encodeRune ((decodeL l).1:Int)=l.take (decodeL l).2∧(decodeL l).2≤l.length∧1≤(decodeL l).2:=by
 have hg: ¬((decodeL l).1=65533∧(decodeL l).2=1):=by
  intro hh
  unfold badM at hb
  rw[hh.1,hh.2] at hb
  cases hb
 exact⟨encode_decode l hne (by omega),decodeL_le l hne,decodeL_width l⟩
theorem dec_same {l l':Stp} (hne:l≠ []) (hb:badM (decodeL l)=false) (h:l.take (decodeL l).2=l'.take (decodeL l).2):decodeL l'=decodeL l:=by
 obtain⟨h1,h2,h3⟩:=dec_good hne hb
 have hok:=decode_okRune l
 have hle:(encodeRune ((decodeL l).1:Int)).length=(decodeL l).2:=by rw[h1,List.length_take];omega
 have e:l'=encodeRune ((decodeL l).1:Int)++l'.drop (decodeL l).2:=by rw[h1,h,List.take_append_drop]
 rw[e,decode_encode _ hok,hle]
 rfl
theorem dec_line {u w:Stp} (hne:u≠ []) (hw:w= []∨w.head?=some 10):badM (decodeL (u++w))=badM (decodeL u)∧(badM (decodeL u)=false→decodeL (u++w)=decodeL u):=by
 have one:badM (decodeL u)=false→decodeL (u++w)=decodeL u:=fun hb=>by
  obtain⟨_,h2,_⟩:=dec_good hne hb
  refine dec_same hne hb ?_
  rw[List.take_append_of_le_length h2]
 refine⟨?_,one⟩
 cases hb:badM (decodeL u) with
 | false=>rw[one hb,hb]
 | true=>
  apply Classical.byContradiction
  intro hn
  have hb2:badM (decodeL (u++w))=false:=by simpa using hn
  obtain⟨e1,e2,e3⟩:=dec_good (l:=u++w) (by simp[hne]) hb2
  have hok:=decode_okRune (u++w)
  obtain⟨r,n,hd⟩: ∃r n,decodeL (u++w)=(r,n):=⟨_,_,rfl⟩
  rw[hd] at e1 e2 e3 hok
  simp only[] at e1 e2 e3 hok
  have hnl:n≤u.length:=by
   apply Classical.byContradiction
   intro hgt
   rw[List.length_append] at e2
   have hu:=List.length_pos_iff.2 hne
   rcases hw with h0 | h0
   ·rw[h0] at e2;simp at e2;omega
   ·have hr:(128:Int)≤(r:Int):=by
     apply Classical.byContradiction
     intro hlt
     have h1:=encode_one (UInt8.ofNat r) (by rw[UInt8.toNat_ofNat'];omega)
     rw[UInt8.toNat_ofNat',Nat.mod_eq_of_lt (by omega)] at h1
     have hlen:=congrArg List.length e1
     rw[h1,List.length_take,List.length_append] at hlen
     simp only[List.length_singleton] at hlen
     omega
    have hin:(10:UInt8)∈encodeRune (r:Int):=by
     rw[e1]
     refine List.mem_of_getElem? (i:=u.length) ?_
     rw[List.getElem?_take,if_pos (by omega),List.getElem?_append_right (Nat.le_refl _),Nat.sub_self]
     rw[List.head?_eq_getElem?] at h0
     exact h0
    exact absurd (encode_high (r:Int) hok hr _ hin) (by decide)
  have:=dec_same (l:=u++w) (l':=u) (by simp[hne]) hb2 (by rw[hd];rw[List.take_append_of_le_length hnl])
  rw[this,hb2] at hb
  cases hb
theorem may_is (s:Stp) (e:Nat) (hE:s[e]?=none∨s[e]?=some 10) (he:e≤s.length): ∀(f i g:Nat),e≤i+f→e-i≤g→(¬mayGo s e f i<e↔mayT g ((s.drop i).take (e-i))=true)
 | 0,i,g,hf,_=>by
  rw[show e-i=0 by omega,List.take_zero]
  constructor
  ·intro _;cases g<;>rfl
  ·intro _;show ¬i<e;omega
 | f+1,i,g,hf,hg=>by
  unfold mayGo
  by_cases hei:e≤i
  ·rw[if_pos hei,show e-i=0 by omega,List.take_zero]
   constructor
   ·intro _;cases g<;>rfl
   ·intro _;omega
  rw[if_neg hei]
  obtain⟨g1,rfl⟩: ∃g1,g=g1+1:=⟨g-1,by omega⟩
  obtain⟨u,hu⟩: ∃u,(s.drop i).take (e-i)=u:=⟨_,rfl⟩
  have hul:u.length=e-i:=by rw[←hu,List.length_take,List.length_drop];omega
  have hune:u≠ []:=by intro h0;rw[h0] at hul;simp at hul;omega
  have hsp:s.drop i=u++s.drop e:=by
   conv=>lhs;rw[←List.take_append_drop (e-i) (s.drop i)]
   rw[hu,List.drop_drop,show i+(e-i)=e by omega]
  have hw:s.drop e= []∨(s.drop e).head?=some 10:=by
   rcases hE with h | h
   ·left;rw[List.getElem?_eq_none_iff] at h;exact List.drop_of_length_le h
   ·right;rw[List.head?_drop];exact h
  obtain⟨d1,d2⟩:=dec_line hune hw
  rw[hu]
  obtain⟨c,r,hcr⟩: ∃c r,u=c::r:=by
   cases u with
   | nil=>exact absurd rfl hune
   | cons c r=>exact⟨c,r,rfl⟩
  have hmt:mayT (g1+1) u=if badM (decodeL u) then false else mayT g1 (u.drop (decodeL u).2):=by rw[hcr];rfl
  rw[hmt,hsp,d1]
  cases hb:badM (decodeL u) with
  | true=>
   rw[if_pos rfl,if_pos rfl]
   constructor
   ·intro h;omega
   ·intro h;cases h
  | false=>
   rw[if_neg (by simp),if_neg (by simp),d2 hb]
   obtain⟨_,h2,h3⟩:=dec_good hune hb
   have:=may_is s e hE he f (i+(decodeL u).2) g1 (by omega) (by omega)
   rw[this]
   have e2: ∀n:Nat,(s.drop (i+n)).take (e-(i+n))=u.drop n:=by
    intro n
    rw[←hu,List.drop_take,List.drop_drop,show e-i-n=e-(i+n) by omega]
   rw[e2]
def MtB (t:Stp):Bool:=mayT t.length t
theorem may_text {s:Stp}{x:Nat×Nat} (h1:x.1≤x.2) (h2:x.2≤s.length) (hE:s[x.2]?=none∨s[x.2]?=some 10):(¬mayA s x<x.2↔MtB (lineT s x)=true):=by
 have:=may_is s x.2 hE h2 (x.2-x.1) x.1 (lineT s x).length (by omega) (by rw[lineT_len h1 h2];exact Nat.le_refl _)
 exact this
theorem MtB_32 (t:Stp):MtB (32::t)=MtB t:=by
 unfold MtB
 rw[List.length_cons]
 have hd:decodeL (32::t)=(32,1):=decodeL_ascii 32 _ (by decide)
 show (if badM (decodeL (32::t)) then false else mayT t.length ((32::t).drop (decodeL (32::t)).2))=_
 rw[hd]
 rfl
theorem MtB_rep (m:Nat) (t:Stp):MtB (List.replicate m 32++t)=MtB t:=by
 induction m with
 | zero=>rfl
 | succ m ih=>rw[List.replicate_succ,List.cons_append,MtB_32,ih]
def BlL (s:Stp) (sp:List (Nat×Nat)) (j:Nat):Prop:=spL (lineT s (spAt sp j))=(lineT s (spAt sp j)).length
def lnL (s:Stp) (sp:List (Nat×Nat)) (j:Nat):LineR×Int×Int:=lineL s (spAt sp j).1 (spAt sp j).2
structure Sm (m c:Nat) (s s':Stp) (sp sp':List (Nat×Nat)):Prop where
 ok:SpOk s sp
 ok':SpOk s' sp'
 en:SpEnd s sp
 en':SpEnd s' sp'
 len:c+sp.length≤sp'.length
 tx: ∀j,j<sp.length→lineT s' (spAt sp' (c+j))=List.replicate m 32++lineT s (spAt sp j)
 ext: ∀j,c+sp.length≤j→j<sp'.length→(lnL s' sp' j).2.2=0∧contentB (lnL s' sp' j).1=false∧MtB (lineT s' (spAt sp' j))=true
 reach: ∀ind til first,reachG s' ind (sp'.drop (c+sp.length)) (c+sp.length) til first=til∨reachG s' ind (sp'.drop (c+sp.length)) (c+sp.length) til first=sp'.length
section
variable {m c:Nat}{s s':Stp}{sp sp':List (Nat×Nat)}
structure LsS (m c:Nat) (s s':Stp) (sp sp':List (Nat×Nat)) (lines lines':List LineR):Prop where
 le:lines.length≤sp.length
 le':lines'.length≤sp'.length
 at_: ∀j,j<lines.length→c+j<lines'.length∧contentB (lnAt lines' (c+j))=contentB (lnAt lines j)∧(contentB (lnAt lines j)=true→LnS m s s' (lnAt lines j) (lnAt lines' (c+j)))
 fin:lines'.length=c+lines.length∨(lines'.length=sp'.length∧(∀j,lines.length≤j→j<sp.length→BlL s sp j)∧ ∀j,c+lines.length≤j→j<sp'.length→contentB (lnAt lines' j)=false)
def PosS (c:Nat) (s:Stp) (sp sp':List (Nat×Nat)) (lines lines':List LineR) (k k':Nat):Prop:=
 (k'=c+k∧k≤lines.length)∨(k'=sp'.length∧lines'.length=sp'.length∧k≤lines.length∧(∀j,k≤j→j<lines.length→contentB (lnAt lines j)=false)∧ ∀j,lines.length≤j→j<sp.length→BlL s sp j)
def NxS (m c:Nat) (s s':Stp) (sp sp':List (Nat×Nat)) (R R':NX):Prop:=match R,R' with
 | .bad _ e, .bad _ e'=>e'=e
 | .ok nx ls, .ok nx' ls'=>LsS m c s s' sp sp' ls ls'∧((nx<sp.length∧nx'=c+nx∧nx<ls.length∧contentB (lnAt ls nx)=true)∨(nx=sp.length∧nx'=sp'.length∧ls.length=sp.length∧ls'.length=sp'.length))
 | _,_=>False
theorem all32: ∀t:Stp,spL t=t.length→t=List.replicate t.length 32
 | [],_=>rfl
 | c::r,h=>by
  rw[spL_cons] at h
  by_cases hc:c=32
  ·rw[if_pos hc,List.length_cons] at h
   have:=all32 r (by omega)
   rw[List.length_cons,List.replicate_succ,←this,hc]
  ·rw[if_neg hc] at h;simp at h
theorem blank_line {s:Stp}{sp:List (Nat×Nat)} (hsp:SpOk s sp) {j:Nat} (hj:j<sp.length) (h:BlL s sp j):(lnL s sp j).2.2=0∧contentB (lnL s sp j).1=false∧MtB (lineT s (spAt sp j))=true:=by
 have hx:=hsp.at_ j
 unfold BlL at h
 unfold lnL
 rw[lineL_text hx.1 hx.2]
 obtain⟨n,hn⟩: ∃n,(lineT s (spAt sp j)).length=n:=⟨_,rfl⟩
 have e:=all32 _ h
 rw[hn] at e
 have e2:lineT s (spAt sp j)=List.replicate n 32++ []:=by rw[List.append_nil];exact e
 have hm:MtB (List.replicate n 32++ [])=true:=by rw[MtB_rep];rfl
 rw[e2]
 have h10:(List.replicate n 32++ []:Stp).contains 10=false:=by rw[rep_no10];rfl
 have hw:wrL true (List.replicate n 32++ []:Stp)=n:=by rw[wrL_rep];rfl
 have hs:spL (List.replicate n 32++ []:Stp)=n:=by rw[spL_rep];rfl
 have hl:(List.replicate n 32++ []:Stp).length=n:=by simp
 have hd:(List.replicate n 32++ []:Stp).drop n= []:=List.drop_of_length_le (by omega)
 rw[h10,hw,hs,hl,hd,if_neg (by simp),if_neg (by omega)]
 exact⟨rfl,rfl,hm⟩
theorem next_none {s:Stp}{sp:List (Nat×Nat)}: ∀(rest:List (Nat×Nat)) (k:Nat) (lines:List LineR),sp.drop k=rest→k≤lines.length→lines.length≤sp.length→
  (∀j,k≤j→j<lines.length→contentB (lnAt lines j)=false)→(∀j,lines.length≤j→j<sp.length→(lnL s sp j).2.2=0∧contentB (lnL s sp j).1=false)→
  ∃more,nextG s rest k lines= .ok sp.length (lines++more)∧(lines++more).length=sp.length∧ ∀j,lines.length≤j→j<sp.length→contentB (lnAt (lines++more) j)=false
 | [],k,lines,hd,h1,h2,h3,h4=>by
  have hk:=List.drop_eq_nil_iff.1 hd
  refine⟨[],?_,?_,fun j hj1 hj2=>by omega⟩
  ·rw[List.append_nil]
   show NX.ok k lines=_
   rw[show k=sp.length by omega]
  ·rw[List.append_nil];omega
 | x::r,k,lines,hd,h1,h2,h3,h4=>by
  have hk:k<sp.length:=by
   apply Classical.byContradiction
   intro hn
   rw[List.drop_of_length_le (by omega)] at hd
   cases hd
  have hd2:sp.drop (k+1)=r:=by rw[←List.drop_drop,hd];rfl
  have hx:spAt sp k=x:=by
   apply spAt_some
   have:=congrArg List.head? hd
   rw[List.head?_drop] at this
   exact this
  unfold nextG
  by_cases hkl:k<lines.length
  ·rw[lnAt_get hkl]
   simp only[]
   rw[if_neg (by rw[h3 k (Nat.le_refl _) hkl];simp)]
   exact next_none r (k+1) lines hd2 hkl h2 (fun j hj1 hj2=>h3 j (by omega) hj2) h4
  ·have hke:k=lines.length:=by omega
   rw[List.getElem?_eq_none (by omega)]
   simp only[]
   obtain⟨g1,g2⟩:=h4 k (by omega) hk
   unfold lnL at g1 g2
   rw[hx] at g1 g2
   rw[if_neg (by rw[g1];simp),if_neg (by rw[g2];simp)]
   have hnew:lnAt (lines++ [(lineL s x.1 x.2).1]) k=(lineL s x.1 x.2).1:=by rw[hke];exact lnAt_new _ _
   obtain⟨more,m1,m2,m3⟩:=next_none r (k+1) (lines++ [(lineL s x.1 x.2).1]) hd2 (by rw[List.length_append,List.length_singleton];omega) (by rw[List.length_append,List.length_singleton];omega)
    (fun j hj1 hj2=>by rw[List.length_append,List.length_singleton] at hj2;omega) (fun j hj1 hj2=>h4 j (by rw[List.length_append,List.length_singleton] at hj1;omega) hj2)
   refine⟨(lineL s x.1 x.2).1::more,by rw[m1];simp,by rw[←m2];simp,fun j hj1 hj2=>?_⟩
   have e:lines++(lineL s x.1 x.2).1::more=(lines++ [(lineL s x.1 x.2).1])++more:=by simp
   rw[e]
   by_cases hjk:j=k
   ·rw[hjk,lnAt_app (by rw[List.length_append,List.length_singleton];omega),hnew];exact g2
   ·exact m3 j (by rw[List.length_append,List.length_singleton];omega) hj2
theorem Sm.line (H:Sm m c s s' sp sp') {j:Nat} (hj:j<sp.length):(lnL s' sp' (c+j)).2.2=(lnL s sp j).2.2∧((lnL s sp j).2.2=0→LnS m s s' (lnL s sp j).1 (lnL s' sp' (c+j)).1):=
 lineL_sim (H.ok.at_ j).1 (H.ok.at_ j).2 (H.ok'.at_ (c+j)).1 (H.ok'.at_ (c+j)).2 (H.tx j hj)
theorem LnS.content {r r':LineR} (h:LnS m s s' r r'):contentB r'=contentB r:=by unfold contentB;rw[h.kind]
theorem LsS.push {lines lines':List LineR} (h:LsS m c s s' sp sp' lines lines') (hl:lines'.length=c+lines.length) (hs:lines.length<sp.length) (hs':c+lines.length<sp'.length) {r r':LineR} (hr:LnS m s s' r r'):LsS m c s s' sp sp' (lines++ [r]) (lines'++ [r']):=by
 refine⟨by rw[List.length_append,List.length_singleton];omega,by rw[List.length_append,List.length_singleton];omega,fun j hj=>?_, .inl (by rw[List.length_append,List.length_append,List.length_singleton,List.length_singleton];omega)⟩
 rw[List.length_append,List.length_singleton] at hj
 by_cases hj2:j<lines.length
 ·obtain⟨a1,a2,a3⟩:=h.at_ j hj2
  rw[lnAt_app hj2,lnAt_app a1]
  exact⟨by rw[List.length_append];omega,a2,a3⟩
 ·obtain rfl:j=lines.length:=by omega
  rw[lnAt_new,←hl,lnAt_new]
  exact⟨by rw[List.length_append,List.length_singleton];omega,hr.content,fun _=>hr⟩
theorem nextG_sim (H:Sm m c s s' sp sp'): ∀(rest:List (Nat×Nat)) (k:Nat) (lines lines':List LineR),sp.drop k=rest→k≤lines.length→LsS m c s s' sp sp' lines lines'→NxS m c s s' sp sp' (nextG s rest k lines) (nextG s' (sp'.drop (c+k)) (c+k) lines')
 | [],k,lines,lines',hd,hk,hL=>by
  have hkl:=List.drop_eq_nil_iff.1 hd
  have h1:=hL.le
  have h2:=H.len
  have hc: ∀j,c+k≤j→j<lines'.length→contentB (lnAt lines' j)=false:=by
   intro j hj1 hj2
   rcases hL.fin with f | ⟨f1,f2,f3⟩
   ·omega
   ·exact f3 j (by omega) (by omega)
  have hle:c+k≤lines'.length:=by
   rcases hL.fin with f | ⟨f1,_,_⟩<;>omega
  obtain⟨more,m1,m2,m3⟩:=next_none (s:=s') (sp:=sp') (sp'.drop (c+k)) (c+k) lines' rfl hle hL.le' hc (fun j hj1 hj2=>by
   have:=H.ext j (by omega) hj2
   exact⟨this.1,this.2.1⟩)
  rw[m1]
  show LsS m c s s' sp sp' lines (lines'++more)∧_
  refine⟨⟨hL.le,by omega,fun j hj=>?_, .inr ⟨m2,fun j hj1 hj2=>by omega,fun j hj1 hj2=>?_⟩⟩, .inr ⟨by omega,rfl,by omega,m2⟩⟩
  ·obtain⟨a1,a2,a3⟩:=hL.at_ j hj
   rw[lnAt_app a1]
   exact⟨by rw[List.length_append];omega,a2,a3⟩
  ·by_cases hj3:j<lines'.length
   ·rw[lnAt_app hj3];exact hc j (by omega) hj3
   ·exact m3 j (by omega) hj2
 | x ::r,k,lines,lines',hd,hk,hL=>by
  have hks:k<sp.length:=by
   apply Classical.byContradiction
   intro hn
   rw[List.drop_of_length_le (by omega)] at hd
   cases hd
  have hd2:sp.drop (k+1)=r:=by rw[←List.drop_drop,hd];rfl
  have hx:spAt sp k=x:=by
   apply spAt_some
   have:=congrArg List.head? hd
   rw[List.head?_drop] at this
   exact this
  have hlen:=H.len
  have hks':c+k<sp'.length:=by omega
  obtain⟨x',hx'⟩: ∃x',spAt sp' (c+k)=x':=⟨_,rfl⟩
  have hd':sp'.drop (c+k)=x'::sp'.drop (c+(k+1)):=by
   rw[List.drop_eq_getElem_cons hks']
   congr 1
   rw[←hx']
   unfold spAt
   rw[List.getElem?_eq_getElem hks']
   rfl
  rw[hd']
  obtain⟨l1,l2⟩:=H.line hks
  unfold lnL at l1 l2
  rw[hx,hx'] at l1 l2
  have go:=fun ls ls' h1 h2=>nextG_sim H r (k+1) ls ls' hd2 h1 h2
  unfold nextG
  by_cases hkl:k<lines.length
  ·obtain⟨a1,a2,a3⟩:=hL.at_ k hkl
   rw[lnAt_get hkl,lnAt_get a1]
   simp only[]
   rw[a2]
   by_cases hcb:contentB (lnAt lines k)=true
   ·rw[if_pos hcb,if_pos hcb]
    exact⟨hL, .inl ⟨hks,rfl,hkl,hcb⟩⟩
   ·rw[if_neg hcb,if_neg hcb]
    exact go _ _ hkl hL
  ·have hke:k=lines.length:=by omega
   rw[List.getElem?_eq_none (by omega)]
   simp only[]
   rcases hL.fin with f | ⟨f1,f2,f3⟩
   ·rw[List.getElem?_eq_none (by omega)]
    simp only[]
    rw[l1]
    by_cases he:(lineL s x.1 x.2).2.2=0
    ·have hln:=l2 he
     have hp:=hL.push f (by omega) (by omega) hln
     have hct:=hln.content
     simp only[he,ne_eq,not_true_eq_false,if_false,hct]
     by_cases hcb:contentB (lineL s x.1 x.2).1=true
     ·simp only[hcb,if_true]
      refine⟨hp, .inl ⟨hks,rfl,by rw[List.length_append,List.length_singleton];omega,?_⟩⟩
      rw[hke,lnAt_new];exact hcb
     ·simp only[hcb,if_false]
      exact go _ _ (by rw[List.length_append,List.length_singleton];omega) hp
    ·simp only[ne_eq,he,not_false_eq_true,if_true]
     rfl
   ·have hb:=blank_line H.ok hks (f2 k (by omega) hks)
    unfold lnL at hb
    rw[hx] at hb
    rw[lnAt_get (show c+k<lines'.length by omega)]
    simp only[]
    rw[if_neg (by rw[hb.1];simp),if_neg (by rw[hb.2.1];simp),if_neg (by rw[f3 (c+k) (by omega) hks'];simp)]
    refine go _ _ (by rw[List.length_append,List.length_singleton];omega) ⟨by rw[List.length_append,List.length_singleton];omega,hL.le',fun j hj=>?_, .inr ⟨f1,fun j hj1 hj2=>f2 j (by rw[List.length_append,List.length_singleton] at hj1;omega) hj2,fun j hj1 hj2=>f3 j (by rw[List.length_append,List.length_singleton] at hj1;omega) hj2⟩⟩
    rw[List.length_append,List.length_singleton] at hj
    by_cases hj2:j<lines.length
    ·obtain⟨a1,a2,a3⟩:=hL.at_ j hj2
     rw[lnAt_app hj2]
     exact⟨a1,a2,a3⟩
    ·obtain rfl:j=lines.length:=by omega
     rw[lnAt_new,f3 _ (Nat.le_refl _) (by omega),hb.2.1]
     exact⟨by omega,rfl,fun h=>by cases h⟩
theorem next_sim (H:Sm m c s s' sp sp') {k k':Nat}{lines lines':List LineR} (hL:LsS m c s s' sp sp' lines lines') (hP:PosS c s sp sp' lines lines' k k'):NxS m c s s' sp sp' (nextM s sp k lines) (nextM s' sp' k' lines'):=by
 rcases hP with⟨rfl,hk⟩ | ⟨rfl,p1,p2,p3,p4⟩
 ·exact nextG_sim H (sp.drop k) k lines lines' rfl hk hL
 ·unfold nextM
  rw[List.drop_of_length_le (Nat.le_refl _)]
  obtain⟨more,m1,m2,m3⟩:=next_none (s:=s) (sp:=sp) (sp.drop k) k lines rfl p2 hL.le p3 (fun j hj1 hj2=>by
   have:=blank_line H.ok hj2 (p4 j hj1 hj2)
   exact⟨this.1,this.2.1⟩)
  rw[m1]
  show LsS m c s s' sp sp' (lines++more) lines'∧_
  have hlen:=H.len
  have hle:=hL.le
  have hnc: ∀j,c+lines.length≤j→j<sp'.length→contentB (lnAt lines' j)=false:=by
   rcases hL.fin with f | ⟨f1,f2,f3⟩
   ·intro j hj1 hj2;omega
   ·exact f3
  refine⟨⟨by omega,hL.le',fun j hj=>?_, .inr ⟨p1,fun j hj1 hj2=>by omega,fun j hj1 hj2=>hnc j (by rw[m2] at hj1;omega) hj2⟩⟩, .inr ⟨rfl,rfl,m2,p1⟩⟩
  by_cases hj2:j<lines.length
  ·obtain⟨a1,a2,a3⟩:=hL.at_ j hj2
   rw[lnAt_app hj2]
   exact⟨a1,a2,a3⟩
  ·rw[m3 j (by omega) (by omega),hnc (c+j) (by omega) (by omega)]
   exact⟨by omega,rfl,fun h=>by cases h⟩
end
end Go.Proofs.YtlibkhbachmcgaaGreatDoor
