import Derived.Test.YtaifnmjjpddikaaGreatDoorRf26
import Derived.Test.YtaifnmjjpddikaaGreatDoorRf13
import Derived.Test.YtaifnmjjpddikaaGreatDoorRf24
import Derived.Test.YtaifnmjjpddikaaGreatDoorRf22
set_option maxRecDepth 100000
set_option maxHeartbeats 4000000
namespace Go.Proofs.YtaifnmjjpddikaaGreatDoor
set_option linter.unusedVariables false
set_option linter.unusedSimpArgs false
section
open Go.RowKit
open Go.Lib hiding intOf
theorem cX.monoP {P P':Nat->Nat->Prop} (h: ∀k m,P k m->P' k m) {hi:Nat}: ∀ {l:List Nat}{a:Nat},cX P l a hi->cX P' l a hi
 | [],a,h1=>h1
 | y::l,a,h1=>by
  obtain⟨e,m,h2,h3⟩:=h1;exact⟨e,m,h _ _ h2,h3.monoP h⟩
theorem dM.up {ns:List aM}: ∀ {lv k hi:Nat},dM ns lv k hi->dM ns (lv+1) k hi
 | lv+1,k,hi,h=>by
  obtain⟨x,hx,h2⟩:=h;exact⟨x,hx,h2.monoP (λk m h=>dM.up h)⟩
def Mh (t:VT) (b:Bool) (w:World) (e:Ending) (w':World):Prop:=(∃kv iv,e= .returned (.tuple #[vv t kv iv, .bool b])/\eU w.heap.size w' t.depth t kv iv)/\Below w.heap.size w w'
theorem Mi (s:aA) (d:dG) (hb:rF s d) (hi64: ∀l∈d.lines,l.ind<=1099511627776) (B:Nat) (lvv nv:Value) (k m:Nat) (w:World) (hT:dM d.nodes 32 k m) (hD0:eY B d lvv nv w) (hV:cA w):
  Calls Tryz.prog 13 #[.agg #[.string (bs s),lvv,nv], .int .i64 (k:Int)] w (Mh (bH s d 32 k) true w):=by
 obtain⟨z,hz,hln,hnd⟩:=id hD0;have hkl:k<d.nodes.length:=by obtain⟨x,hx,_⟩:=hT;exact(aQ.1 hx).1
 have hzl:z.length=d.nodes.length:=by rw[<-hz,bU]
 obtain⟨gn,cn,cur,rfl,hcn,_,hgn⟩:=hnd.form (λe=>by rw[e] at hzl;simp at hzl;omega);obtain⟨pl,nl,cl,rfl⟩: ∃p n c,lvv= .slice p n c:=by
  rcases hln.2 with⟨h0,_⟩ | ⟨g,cap,cur,h1,_⟩
  ·exact⟨none,0,0,h0⟩
  ·exact⟨_,_,_,h1⟩
 obtain⟨nz,hnz⟩:=exQ<|z.length;rw[hnz] at hD0 ⊢;have dq1:decide ((k:Int)<0)=false:=aJ (by omega);have dq2:decide ((nz:Int)<=(k:Int))=false:=aJ (by omega);have dq3:decide (nz<=k)=false:=aJ (by omega);obtain⟨W1,hW1⟩:=exQ<|w.alloc (.cells #[.string (bs s), .slice pl nl cl, .slice (some ⟨gn,0,none⟩) nz cn] 36);obtain⟨D,hDe⟩:=exQ<|w.heap.size;have b1:Below w.heap.size w W1:=by rw[<-hW1];exact aH _ _
 have h1:W1.heap[D]?=some (.cells #[.string (bs s), .slice pl nl cl, .slice (some ⟨gn,0,none⟩) nz cn] 36):=by rw[<-hW1,<-hDe];exact heap_alloc_new w _
 obtain⟨W2,hW2⟩:=exQ<|W1.alloc (.cells #[.int .i64 0, .string ⟨#[]⟩, .slice none 0 0, .slice none 0 0] 26);obtain⟨R,hRe⟩:=exQ<|W1.heap.size;have b2:Below W1.heap.size W1 W2:=by rw[<-hW2];exact aH _ _
 have h2:W2.heap[R]?=some (.cells #[.int .i64 0, .string (bs []), .slice none 0 0, .slice none 0 0] 26):=by rw[<-hW2,<-hRe];exact heap_alloc_new W1 _
 have hd2:=(b2.block D (aF h1)).trans h1;have HB2:=hid (aC b1 b2);have H2:=hid h2;have hRw:w.heap.size<=R:=by rw[<-hRe];exact b1.size
 have hR2l:R<W2.heap.size:=aF h2;obtain⟨T,hTe⟩:=exQ<|bH s d 32 k;have CN:Hid (∀w',Below W2.heap.size W2 w'->Calls Tryz.prog 24 #[.agg #[.string (bs s), .slice pl nl cl, .slice (some ⟨gn,0,none⟩) nz cn], .int .i64 (k:Int), .int .i64 1] w' (jI T w')):=hid (λw' h=>by have:=Mg s d hb hi64 32 B (.slice pl nl cl) (.slice (some ⟨gn,0,none⟩) nz cn) k m 1 w' hT (hid (by decide)) (aE _) ((hD0.keep HB2.out).keep h) ((hV.keep HB2.out).keep h);rw[hTe] at this;exact this);rw[hTe];obtain⟨d0,d1,d2,_⟩:=gQ hd2;clear b1 b2 h1 h2 hd2 hz hln hnd hkl hzl hgn hcn hnz hTe hT hD0 hV;go_enter Tryz.func13,Tryz.ntmps13;go_upto_region 1 with fail;clear hW1 hW2 hDe hRe;go_wp2_with fail;refine(CN.out _ (by first | exact aB _ _ | exact(aB _ _).drew)).mono ?_;rintro e w6 ⟨⟨kv,iv,rfl,hv6⟩,hb6⟩;have HB6:Hid (Below W2.heap.size W2 w6):=hid (by first | exact hb6 | exact aC (aB _ _).drew hb6);obtain⟨pk6,ck6,pi6,ci6,rfl,rfl⟩:=hv6.toVD.form;have HRP:=hid (iQ (t:=T) HB2.out hRw hR2l hv6 HB6.out H2.out);obtain⟨r0,r1,r2,r3,g0,g1,g2,g3⟩:=bC ((HB6.out.block R hR2l).trans H2.out);unfold vv;clear hv6 hb6 d0 d1 d2;go_wp2_with fail;have hWR':(((w6.setCell ⟨R,0,none⟩ (.int .i64 T.kind)).setCell ⟨R,1,none⟩ (.string (bs T.text))).setCell ⟨R,2,none⟩ (.slice pk6 T.keys.length ck6)).setCell ⟨R,3,none⟩ (.slice pi6 T.items.length ci6)=bF w6 R T.kind T.text (.slice pk6 T.keys.length ck6) (.slice pi6 T.items.length ci6):=rfl;rw[hWR'];obtain⟨WR,hWR⟩:=exQ<|bF w6 R T.kind T.text (.slice pk6 T.keys.length ck6) (.slice pi6 T.items.length ci6);rw[hWR] at HRP ⊢;clear hWR' hWR r0 r1 r2 r3 g0 g1 g2 g3;obtain⟨d0,d1,d2,d3,_⟩:=bC HRP.out.2.2;refine bodyPost_ret (v:= .tuple #[.agg #[.int .i64 T.kind, .string (bs T.text), .slice pk6 T.keys.length ck6, .slice pi6 T.items.length ci6], .bool true]) ?_ rfl ⟨⟨_,_,rfl,HRP.out.1⟩,HRP.out.2.1⟩;simp[results,Tryz.results13,go_sem,d0,d1,d2,d3]
end
section
open Go.Lib
def Mj (s:aA) (lv:Nat) (x:aM):Prop:=x.kind=1->(jJ (eH s x.rf x.rt)).1.depth<=lv
def iH (s:aA) (ns:List aM):Nat->Nat->Nat->Prop
 | 0,_,_=>False
 | lv+1,k,hi=> ∃x,ns[k]?=some x/\Mj s (lv+1) x/\cX (iH s ns lv) x.kids (k+1) hi
theorem iH.tky {s:aA}{ns:List aM}: ∀ {lv k hi:Nat},iH s ns lv k hi->dM ns lv k hi
 | lv+1,k,hi,⟨x,hx,_,h⟩=>⟨x,hx,h.monoP (λ_ _=>iH.tky)⟩
theorem iH.lt {s:aA}{ns:List aM}{lv k hi:Nat} (h:iH s ns lv k hi):k<hi:=h.tky.lt
theorem iH.mono {s:aA}{ns ns':List aM}: ∀ {lv k hi:Nat},iH s ns lv k hi->(∀j y,k<=j->j<hi->ns[j]?=some y->ns'[j]?=some y)->iH s ns' lv k hi
 | lv+1,k,hi,h,hm=>by
  have hkh:=h.lt;obtain⟨x,hx,hd,h2⟩:=h;exact⟨x,hm k x (aE _) hkh hx,hd,h2.imp hi (λk m h=>h.lt) (λk' m h5 h6 h7=>h7.mono (λj y h8 h9=>hm j y (by omega) (by omega)))⟩
def wW (s:aA) (lv:Nat) (R:YR):Prop:=match R with
 | .ok n st'=>iH s st'.nodes lv n st'.nodes.length
 | .bad _ _=>True
def rG (s:aA) (sp:List (Nat×Nat)) (lv:Nat) (V:YB):Prop:= ∀k kf kt st,dZ s sp st->k+1=st.lines.length->wW s lv (V k kf kt st)
theorem Mk {s:aA}{ns:List aM}{x:aM}{lv:Nat} (h0:lv≠0) (hd:Mj s lv x) (hx:x.kids= []):iH s (ns++ [x]) lv ns.length (ns++ [x]).length:=by
 cases lv with
 | zero=>exact absurd rfl h0
 | succ lv=>exact⟨x,by simp,hd,by rw[hx];show ns.length+1=_;simp⟩
theorem Dq {s:aA}{lv k:Nat}{kf kt:Int}{st:YS}:wW s lv (iZ s lv k kf kt st):=by
 unfold iZ;split
 ·trivial
 ·rename_i n1 s1 h1;obtain⟨rfl,rfl,h0,_⟩:=pB h1;simp only[];split
  ·trivial
  ·split
   ·trivial
   ·rename_i hdp;split
    ·trivial
    ·exact Mk h0 (λ_=>Nat.le_of_not_lt hdp) rfl
theorem Zv {s:aA}{sp:List (Nat×Nat)}{lv k:Nat}{kf kt:Int}{st:YS}:wW s lv (nB s sp lv k kf kt st):=by
 unfold nB;split
 ·trivial
 ·rename_i n1 s1 h1;obtain⟨rfl,rfl,h0,_⟩:=pB h1;simp only[];split
  ·trivial
  ·exact Mk h0 (λe=>by cases e) rfl
theorem Zw {s:aA}{sp:List (Nat×Nat)} (hsp:eJ s sp) {B:YB}{lv:Nat} (hB:rG s sp lv B):rG s sp lv (oZ s sp B lv):=by
 intro k kf kt st hw hk;unfold oZ;simp only[];split
 ·exact Zv
 ·split
  ·have hn:=nD hsp (k:=k+1) (lines:=st.lines) (by omega) hw.ls (λi h1 h2=>by omega);cases hm:gA s sp (k+1) st.lines with
   | bad a e=>trivial
   | ok nx ls=>
    rw[hm] at hn;simp only[] at hn ⊢;split
    ·rename_i hc;exact hB nx kf kt ⟨ls,st.nodes,st.total⟩ ⟨hn.ok,hw.tot⟩ (hn.hit hc.1).1.symm
    ·exact Dq
  ·exact Dq
theorem Zx {s:aA}{sp:List (Nat×Nat)}{V:YB}{m:Nat} (hV:rG s sp m V) (map:Bool) (had:List aA) {k:Nat}{st:YS} (hw:dZ s sp st) (hk:k+1=st.lines.length):wW s m (gB s V map had k st).1:=by
 unfold gB;split
 ·simp only[];split
  ·trivial
  ·split
   ·trivial
   ·exact hV _ _ _ _ hw hk
 ·exact hV _ _ _ _ hw hk
theorem Zy {s:aA}{sp:List (Nat×Nat)}{V:YB} (hG:gO s sp V) {m:Nat} (hV:rG s sp m V) {map:Bool}{n:Nat}{ind:Int}{had had':List aA}{k nx:Nat}{st s3:YS} (hw:dZ s sp st) (hk:k+1=st.lines.length) {x:aM} (hx:st.nodes[n]?=some x) (hK:cX (iH s st.nodes m) x.kids (n+1) st.nodes.length) (h:iF s sp V map n ind had k st= .ok nx s3 had'):
  ∃x',s3.nodes[n]?=some x'/\x'.kind=x.kind/\cX (iH s s3.nodes m) x'.kids (n+1) s3.nodes.length:=by
 have hg:=wJ hG map had hw hk;have ht:=Zx hV map had hw hk;unfold iF at h;obtain⟨⟨Q,had2⟩,hQ⟩:=exQ<|gB s V map had k st;rw[hQ] at h hg ht;cases Q with
 | bad a e=>cases h
 | ok kid s2=>
  obtain⟨g1,⟨more,g2n,g2⟩,_,_,_,_⟩:=(show lG s sp k st kid s2 from hg);have ht:iH s s2.nodes m kid s2.nodes.length:=ht;simp only[] at h;split at h
  ·cases h
  ·split at h
   ·cases h
   ·injection h with e1 e2 e3;have hnl:=(aQ.1 hx).1;have hx2:s2.nodes[n]?=some x:=by rw[g2,mE hnl];exact hx
    have hn2:=(aQ.1 hx2).1;subst e2;simp only[];obtain⟨ns3,hns3⟩:=exQ<|lS n kid s2.nodes;have hset:ns3=s2.nodes.set n { x with kids:=x.kids++ [kid],til:=fS s2.nodes kid }:=by
     rw[<-hns3];unfold lS;exact wI _ n _ x hx2
    have hl3:ns3.length=s2.nodes.length:=(by rw[hset,List.length_set]);rw[hns3];refine⟨{ x with kids:=x.kids++ [kid],til:=fS s2.nodes kid },by rw[hset,List.getElem?_set_self hn2],rfl,?_⟩;simp only[];have hmono: ∀k' m',n<k'->iH s s2.nodes m k' m'->iH s ns3 m k' m':=λk' m' h1 h2=>h2.mono (λj y h3 h4 h5=>by rw[hset,List.getElem?_set_ne (by omega)];exact h5);refine cX.snoc (k:=kid) ?_ (by rw[hl3];exact hmono _ _ (by omega) ht);rw[g1];exact hK.imp _ (λk m h=>iH.lt h) (λk' m' h1 h2 h3=>hmono k' m' (by omega) (h3.mono (λj y h4 h5 h6=>by rw[g2,mE (by omega)];exact h6)))
theorem Ml {s:aA}{sp:List (Nat×Nat)} (hsp:eJ s sp) {V:YB} (hG:gO s sp V) {m:Nat} (hV:rG s sp m V) {map:Bool}{n:Nat}{ind kind:Int}: ∀(f:Nat) (had:List aA) (k:Nat) (st:YS) (x:aM),
  dZ s sp st->(k<sp.length->k+1=st.lines.length)->st.nodes[n]?=some x->x.kind≠1->cX (iH s st.nodes m) x.kids (n+1) st.nodes.length->wW s (m+1) (kP s sp V map n ind kind f had k st)
 | 0,had,k,st,x,hw,hk,hx,hx1,hK=>⟨x,hx,λe=>absurd e hx1,hK⟩
 | f+1,had,k,st,x,hw,hk,hx,hx1,hK=>by
  unfold kP;split
  ·rename_i hc;cases ho:iF s sp V map n ind had k st with
   | bad a e=>trivial
   | ok nx s2 had'=>
    obtain⟨x',h1,hx1',h2⟩:=Zy hG hV hw (hk hc.1) hx hK ho;obtain⟨_,_,_,h3,h4,h5,h6⟩:=Lt hsp hG hw (hk hc.1) hx ho;exact Ml hsp hG hV f had' nx s2 x' h3 h6 h1 (by rw[hx1'];exact hx1) h2
  ·exact⟨x,hx,λe=>absurd e hx1,hK⟩
theorem Mm {s:aA}{sp:List (Nat×Nat)} (hsp:eJ s sp) {V:YB} (lv:Nat) (hG:lv≠0->gO s sp V) (hV: ∀m,lv=m+1->rG s sp m V):rG s sp lv (lT s sp V lv):=by
 intro k kf kt st hw hk;unfold lT;simp only[];split
 ·exact Dq
 ·split
  ·trivial
  ·rename_i n1 s1 h1;obtain⟨rfl,rfl,h0,h4⟩:=pB h1;obtain⟨m,rfl⟩: ∃m,lv=m+1:=⟨lv-1,by omega⟩;have htot:=hw.tot;refine Ml hsp (hG h0) (hV m rfl) _ _ _ _ _ ⟨hw.ls,by simp only[aS,eD];omega⟩ (λ_=>hk) (by simp;rfl) (by simp only[];split<;>decide) ?_;show st.nodes.length+1=_;simp
theorem Mn {s:aA}{sp:List (Nat×Nat)} (hsp:eJ s sp): ∀lv,rG s sp lv (nC s sp lv)
 | 0=>Mm hsp 0 (λh=>absurd rfl h) (λm h=>by omega)
 | lv+1=>Mm hsp (lv+1) (λ_=>Cu hsp (sS hsp lv) lv) (λm h=>by obtain rfl:m=lv:=(by omega);exact Zw hsp (Mn hsp m))
structure tB (s:aA) (d:dG):Prop where
 treeD:iH s d.nodes 32 0 d.nodes.length
 cnt:d.nodes.length<=4096
 lns:d.lines.length<=(fT s).length
 ok:lF s (fT s) d.lines
theorem Zz {s:aA}{d:dG}{a:Int} (h:kQ s (fT s)=(d,a,0)):tB s d:=by
 have hsp:=Ki s;have hls:lF s (fT s) []:=⟨cN _,λi hi=>absurd hi (pU _)⟩;have h1:=nD hsp (k:=0) (lines:= []) (aE _) hls (λi _ hi=>absurd hi (pU _));unfold kQ at h;cases hN:gA s (fT s) 0 [] with
 | bad a' e'=>
  rw[hN] at h1 h;simp only[Prod.mk.injEq] at h;exact absurd h.2.2 h1.2.2
 | ok k ls=>
  rw[hN] at h1 h;simp only[] at h1 h;by_cases hk:k<(fT s).length
  ·rw [if_neg (λe=>e hk)] at h;have hw:dZ s (fT s) ⟨ls,[],0⟩:=⟨h1.ok,by simp⟩;have hg:=sS hsp 32 k 0 0 ⟨ls,[],0⟩ hw (h1.hit hk).1.symm;have ht:=Mn hsp 32 k 0 0 ⟨ls,[],0⟩ hw (h1.hit hk).1.symm;cases hB:nC s (fT s) 32 k 0 0 ⟨ls,[],0⟩ with
   | bad a' e'=>
    rw[hB] at hg h;simp only[Prod.mk.injEq] at h;exact absurd h.2.2 (show 0<=a'/\a'<=(s.length:Int)/\e'≠0 from hg).2.2
   | ok n st=>
    rw[hB] at hg ht h;obtain⟨g1,_,_,g4,g5,g6⟩:=(show lG s (fT s) k ⟨ls,[],0⟩ n st from hg);have g10:n=0:=g1;subst g10;have ht:iH s st.nodes 32 0 st.nodes.length:=ht;have h2:=nD hsp (k:=fS st.nodes 0) g4.2 g6.ls g5;simp only[] at h;cases hN2:gA s (fT s) (fS st.nodes 0) st.lines with
    | bad a' e'=>
     rw[hN2] at h2 h;simp only[Prod.mk.injEq] at h;exact absurd h.2.2 h2.2.2
    | ok k2 ls2=>
     rw[hN2] at h2 h;simp only[] at h h2;split at h
     ·simp only[Prod.mk.injEq] at h;exact absurd h.2.2 (by decide)
     ·injection h with e1 e2;subst e1;exact⟨ht,by have:=g6.tot;simp only[];omega,h2.ok.1,h2.ok⟩
  ·rw[if_pos hk] at h;injection h with e1 e2;subst e1;exact⟨⟨_,rfl,λ_=>by unfold eH;rw[Nat.sub_self,List.take_zero];decide,rfl⟩,by simp,h1.ok.1,h1.ok⟩
theorem tB.tree {s:aA}{d:dG} (h:tB s d):dM d.nodes 32 0 d.nodes.length:=h.treeD.tky
theorem dM.sub {ns:List aM}: ∀ {lv k hi:Nat},dM ns lv k hi-> ∀j,k<=j->j<hi-> ∃m,dM ns lv j m
 | lv+1,k,hi,h,j,h1,h2=>by
  by_cases hjk:j=k
  ·subst hjk;exact⟨hi,h⟩
  ·obtain⟨x,hx,hK⟩:=h;have key: ∀(l:List Nat) (a:Nat),cX (dM ns lv) l a hi->a<=j-> ∃m,dM ns lv j m:=by
    intro l
    induction l with
    | nil=>intro a h ha;have:a=hi:=h;omega
    | cons y l ih=>
     intro a h ha;obtain⟨rfl,m,h3,h4⟩:=h;by_cases hm:m<=j
     ·exact ih m h4 hm
     ·exact dM.sub h3 j ha (by omega)
   obtain⟨m,hm⟩:=key _ _ hK (by omega);exact⟨m,hm.up⟩
theorem Mo {P:Nat->Nat->Prop} (hlt: ∀k m,P k m->k<m) {hi:Nat}: ∀ {l:List Nat}{a:Nat},cX P l a hi->a+l.length<=hi
 | [],a,h=>nU h
 | y::l,a,h=>by
  obtain⟨rfl,m,h2,h3⟩:=h;have h4:=hlt _ _ h2;have:=Mo hlt h3;rw[aT];omega
theorem tB.node {s:aA}{d:dG} (h:tB s d) {k:Nat} (hk:k<d.nodes.length): ∃m,dM d.nodes 32 k m/\m<=d.nodes.length:=by
 obtain⟨m,hm⟩:=h.tree.sub k (cN _) hk;refine⟨m,hm,?_⟩;have: ∀ {lv k m:Nat},dM d.nodes lv k m->m<=d.nodes.length:=by
  intro lv
  induction lv with
  | zero=>intro k m h;exact h.elim
  | succ lv ih=>
   intro k m h;obtain⟨x,hx,hK⟩:=h;have hkl:=(aQ.1 hx).1;have: ∀(l:List Nat) (a:Nat),a<=d.nodes.length->cX (dM d.nodes lv) l a m->m<=d.nodes.length:=by
    intro l
    induction l with
    | nil=>intro a ha h;have:a=m:=h;omega
    | cons y l ih2=>
     intro a ha h;obtain⟨rfl,q,h3,h4⟩:=h;exact ih2 q (ih h3) h4
   exact this _ _ (by omega) hK
 exact this hm
theorem tB.kids {s:aA}{d:dG} (h:tB s d) {k:Nat}{x:aM} (hx:d.nodes[k]?=some x):x.kids.length<=4096:=by
 obtain⟨m,hm,hml⟩:=h.node (aQ.1 hx).1;obtain⟨x',hx',hK⟩:=hm;rw[hx] at hx';obtain rfl:=bD hx';have:=Mo (λ_ _=>dM.lt) hK;have:=h.cnt;omega
end
section
open Go.RowKit
open Go.Lib hiding intOf
def lV:Nat->VT->Prop
 | 0,_=>True
 | n+1,t=>t.keys.length<=1073741824/\t.items.length<=1073741824/\ ∀x∈t.items,lV n x
def Mp (t t2:VT) (e:Ending):Prop:= ∃b:Bool,e= .returned (.bool b)/\(t=t2->b=true)
def Dr (n:Nat):Prop:= ∀(t t2:VT) (kv iv kv2 iv2:Value) (w:World),VD w n t kv iv->VD w n t2 kv2 iv2->lV n t->lV n t2->Calls Tryz.prog 8 #[vv t kv iv,vv t2 kv2 iv2] w λe w'=>Mp t t2 e/\Below w.heap.size w w'
theorem aAa (n:Nat) (IH:Dr n):Dr (n+1):=by
 intro t t2 kv iv kv2 iv2 w h h' hbk hbk2;obtain⟨m',hm,⟨pk,ck,rfl,hck,hlies⟩,p,c,rfl,hlc,hit⟩:=h.parts;obtain rfl:n=m':=by omega
 obtain⟨m2,hm2,⟨pk2,ck2,rfl,hck2,hlies2⟩,p2,c2,rfl,hlc2,hit2⟩:=h'.parts;obtain rfl:n=m2:=by omega
 obtain⟨X,hX⟩:=exQ<|w.heap.size;obtain⟨W1,hW1⟩:=exQ<|w.alloc (.cells #[.int .i64 t.kind, .string (bs t.text), .slice pk t.keys.length ck, .slice p t.items.length c] 26);obtain⟨X2,hX2⟩:=exQ<|W1.heap.size;obtain⟨W2,hW2⟩:=exQ<|W1.alloc (.cells #[.int .i64 t2.kind, .string (bs t2.text), .slice pk2 t2.keys.length ck2, .slice p2 t2.items.length c2] 26);have hB1:Below w.heap.size w W1:=by rw[<-hW1];exact aH _ _
 have hB12:Below W1.heap.size W1 W2:=by rw[<-hW2];exact aH _ _
 have HB2:=hid (aC hB1 hB12);have HXB:Hid (cR W2 X t (.slice pk t.keys.length ck) (.slice p t.items.length c)):=hid (cR.keep (by rw[<-hW1,<-hX];exact cR.new w t _ _) hB12);have HXB2:Hid (cR W2 X2 t2 (.slice pk2 t2.keys.length ck2) (.slice p2 t2.items.length c2)):=hid (by rw[<-hW2,<-hX2];exact cR.new W1 t2 _ _);have HIT:=hid (hit.keep HB2.out);have HIT2:=hid (hit2.keep HB2.out);have HSL:=hid (hlies.keep HB2.out);have HSL2:=hid (hlies2.keep HB2.out);obtain⟨k1,hk1⟩:=exQ<|t.kind;obtain⟨k2,hk2⟩:=exQ<|t2.kind;obtain⟨x1,hx1⟩:=exQ<|t.text;obtain⟨x2,hx2⟩:=exQ<|t2.text;obtain⟨n1,hn1⟩:=exQ<|t.keys.length;obtain⟨n2,hn2⟩:=exQ<|t2.keys.length;obtain⟨i1,hi1⟩:=exQ<|t.items.length;obtain⟨i2,hi2⟩:=exQ<|t2.items.length;unfold cR at HXB HXB2;unfold vv;rw[hk1,hx1,hn1,hi1] at hW1 HXB;rw[hk2,hx2,hn2,hi2] at hW2 HXB2;rw[hk1,hk2,hx1,hx2,hn1,hn2,hi1,hi2];have HN:=hid (aI hn1 (aI hn2 (aI hi1 hi2)));have HBK:Hid (n1<=1073741824/\i1<=1073741824/\n2<=1073741824/\i2<=1073741824):=hid (by rw[<-hn1,<-hn2,<-hi1,<-hi2];exact⟨hbk.1,hbk.2.1,hbk2.1,hbk2.2.1⟩);have HLN:Hid ((∀x∈t.items,lV n x)/\ ∀x∈t2.items,lV n x):=hid ⟨hbk.2.2,hbk2.2.2⟩;have HKX:=hid (aI hk1 (aI hk2 (aI hx1 hx2)));clear hit hlies h hm hB1 hB12 hit2 hlies2 h' hm2 hk1 hk2 hx1 hx2 hn1 hn2 hi1 hi2 hbk hbk2 hck hck2 hlc hlc2;have hq:=HBK.out;have HXC:Hid (∀w',Below W2.heap.size W2 w'->(w'.cell? ⟨X,0,none⟩=some (.int .i64 k1)/\w'.cell? ⟨X,1,none⟩=some (.string (bs x1))/\w'.cell? ⟨X,2,none⟩=some (.slice pk n1 ck)/\w'.cell? ⟨X,3,none⟩=some (.slice p i1 c))/\w'.cell? ⟨X2,0,none⟩=some (.int .i64 k2)/\w'.cell? ⟨X2,1,none⟩=some (.string (bs x2))/\w'.cell? ⟨X2,2,none⟩=some (.slice pk2 n2 ck2)/\w'.cell? ⟨X2,3,none⟩=some (.slice p2 i2 c2)):=hid (λw' h=>by obtain⟨e0,e1,e2,e3,_⟩:=bC ((h.block X (aF HXB.out)).trans HXB.out);obtain⟨f0,f1,f2,f3,_⟩:=bC ((h.block X2 (aF HXB2.out)).trans HXB2.out);exact⟨⟨e0,e1,e2,e3⟩,f0,f1,f2,f3⟩);have HEND:Hid (∀(b:Bool) w',(t=t2->b=true)->Below W2.heap.size W2 w'->Mp t t2 (.returned (.bool b))/\Below w.heap.size w w'):=hid (λb w' hb h=>⟨⟨b,rfl,hb⟩,aC HB2.out h⟩);go_enter Tryz.func8,Tryz.ntmps8;go_upto_region 1 with fail;clear hW1 hW2 hX2;obtain⟨⟨b0,b1,b2,b3⟩,d0,d1,d2,d3⟩:=HXC.out W2 (aB _ _);by_cases hk:k1=k2;rotate_left
 ·have HNE:=hid hk;have ek:(k1 !=k2)=true:=by simpa using hk
  have ekb:(k1==k2)=false:=by simpa using hk
  go_wp2_with fail;go_ret;exact HEND.out _ _ (λe=>absurd (by rw[<-HKX.out.1,<-HKX.out.2.1,e]) HNE.out) (by first | exact aB _ _ | exact(aB _ _).drew)
 have ek:(k1 !=k2)=false:=by simpa using hk
 have ekb:(k1==k2)=true:=by simpa using hk
 obtain⟨q1,et⟩:=exQ ((bs x1).toList==(bs x2).toList);have et2:((bs x1).toList !=(bs x2).toList)=!q1:=by rw[<-et];rfl
 have HET:=hid et;cases q1 with
 | false=>
  clear hk;go_wp2_with fail;go_ret;exact HEND.out _ _ (λe=>by have:=HET.out;rw[<-HKX.out.2.2.1,<-HKX.out.2.2.2,e] at this;simp at this) (by first | exact aB _ _ | exact(aB _ _).drew)
 | true=>
 by_cases hn:n1=n2;rotate_left
 ·have HNE:=hid hn;have el:((n1:Int) !=(n2:Int))=true:=by simp;omega
  have el2:(n1 !=n2)=true:=by simpa using hn
  have el3:((n1:Int)==(n2:Int))=false:=by simp;omega
  have el4:(n1==n2)=false:=by simpa using hn
  clear hk;go_wp2_with fail;go_ret;exact HEND.out _ _ (λe=>absurd (by rw[<-HN.out.1,<-HN.out.2.1,e]) HNE.out) (by first | exact aB _ _ | exact(aB _ _).drew)
 by_cases hi:i1=i2;rotate_left
 ·have HNE:=hid hi;have ei:((i1:Int) !=(i2:Int))=true:=by simp;omega
  have ei2:(i1 !=i2)=true:=by simpa using hi
  have ei3:((i1:Int)==(i2:Int))=false:=by simp;omega
  have ei4:(i1==i2)=false:=by simpa using hi
  clear hk;subst hn;go_wp2_with fail;go_ret;exact HEND.out _ _ (λe=>absurd (by rw[<-HN.out.2.2.1,<-HN.out.2.2.2,e]) HNE.out) (by first | exact aB _ _ | exact(aB _ _).drew)
 subst hn hi;clear hk;go_wp2_with fail;clear b0 b1 b2 b3 d0 d1 d2 d3;go_loopw [5] (λs5 wr=> ∃i:Nat,s5= .int .i64 (i:Int)/\i<=n1/\Hid (Below W2.heap.size W2 wr)) (λs5 _=>n1-(RowKit.intOf s5).toNat)
 case atStart=>exact⟨0,rfl,cN _,hid (by first | exact aB _ _ | exact(aB _ _).drew)⟩
 case round=>
  obtain⟨i,rfl,hi,HBr⟩:=hrel;obtain⟨⟨b0,b1,b2,b3⟩,d0,d1,d2,d3⟩:=HXC.out wr HBr.out;by_cases hil:i<n1
  ·obtain⟨x,hx⟩: ∃x,t.keys[i]?=some x:=⟨_,bJ (by rw[HN.out.1];exact hil)⟩;obtain⟨y,hy⟩: ∃x,t2.keys[i]?=some x:=⟨_,bJ (by rw[HN.out.2.1];exact hil)⟩;have hi1:(i:Int)<(n1:Int):=(by omega);have dk:decide ((i:Int)<(n1:Int))=true:=aN hi1;obtain⟨g,o,rfl,cx⟩:=(HSL.out.keep HBr.out).at_ hx;obtain⟨g2,o2,rfl,cx2⟩:=(HSL2.out.keep HBr.out).at_ hy;obtain⟨q,ex⟩:=exQ ((bs x).toList==(bs y).toList);have ex2:((bs x).toList !=(bs y).toList)=!q:=by rw[<-ex];rfl
   have HET:=hid ex;have HXY:=hid (aI hx hy);have hi0:(0:Int)<=(i:Int):=(by omega);clear hx hy;go_upto_region 6 with fail;go_region
   all_goals
    cases q with
    | false=>
     go_wp2_with fail;go_ret;exact HEND.out _ _ (λe=>by have h1:=HET.out;have h2:=HXY.out;rw[e,h2.2] at h2;rw[bD h2.1] at h1;simp at h1) (by first | exact HBr.out | exact HBr.out.drew)
    | true=>
     go_wp2_with fail;go_roundw
     case rel=>exact⟨i+1,by go_num,by omega,by first | exact HBr | exact hid (below_drewN HBr.out _)⟩
     case measure=>simp[RowKit.intOf];omega
  ·have dk:decide ((i:Int)<(n1:Int))=false:=aJ (by omega);go_wp2_with fail;clear b0 b1 b2 b3 d0 d1 d2 d3;go_loopw [6,7] (λs6 s7 wq=> ∃i:Nat,s6= .int .i64 (i:Int)/\i<=i1/\Hid (Below W2.heap.size W2 wq)) (λs6 _ _=>i1-(RowKit.intOf s6).toNat)
   case atStart=>exact⟨0,rfl,cN _,HBr⟩
   case round=>
    obtain⟨j,rfl,hj,HBq⟩:=hrel;obtain⟨⟨b0,b1,b2,b3⟩,d0,d1,d2,d3⟩:=HXC.out wr HBq.out;by_cases hjl:j<i1
    ·obtain⟨x,hx⟩: ∃x,t.items[j]?=some x:=⟨_,bJ (by rw[HN.out.2.2.1];exact hjl)⟩;obtain⟨y,hy⟩: ∃x,t2.items[j]?=some x:=⟨_,bJ (by rw[HN.out.2.2.2];exact hjl)⟩;have hj1:(j:Int)<(i1:Int):=(by omega);have dk2:decide ((j:Int)<(i1:Int))=true:=aN hj1;have HXY:=hid (aI hx hy);obtain⟨g,o,kv',iv',rfl,hg,n0,n1',n2,n3,hvd⟩:=HIT.out j x hx;obtain⟨pk3,ck3,px,cx,rfl,rfl⟩:=hvd.form;obtain⟨g2,o2,kv'',iv'',rfl,hg2,z0,z1,z2,z3,hvd2⟩:=HIT2.out j y hy;obtain⟨pk4,ck4,px2,cx2,rfl,rfl⟩:=hvd2.form;have m0:wr.cell? ⟨g,o+j*4,none⟩=some (.int .i64 x.kind):=by rw[HBq.out.cell (p:=⟨g,_,none⟩) hg];exact n0
     have m1:wr.cell? ⟨g,o+j*4+1,none⟩=some (.string (bs x.text)):=by rw[HBq.out.cell (p:=⟨g,_,none⟩) hg];exact n1'
     have m2:wr.cell? ⟨g,o+j*4+2,none⟩=some (.slice pk3 x.keys.length ck3):=by rw[HBq.out.cell (p:=⟨g,_,none⟩) hg];exact n2
     have m3:wr.cell? ⟨g,o+j*4+3,none⟩=some (.slice px x.items.length cx):=by rw[HBq.out.cell (p:=⟨g,_,none⟩) hg];exact n3
     have q0:wr.cell? ⟨g2,o2+j*4,none⟩=some (.int .i64 y.kind):=by rw[HBq.out.cell (p:=⟨g2,_,none⟩) hg2];exact z0
     have q1:wr.cell? ⟨g2,o2+j*4+1,none⟩=some (.string (bs y.text)):=by rw[HBq.out.cell (p:=⟨g2,_,none⟩) hg2];exact z1
     have q2:wr.cell? ⟨g2,o2+j*4+2,none⟩=some (.slice pk4 y.keys.length ck4):=by rw[HBq.out.cell (p:=⟨g2,_,none⟩) hg2];exact z2
     have q3:wr.cell? ⟨g2,o2+j*4+3,none⟩=some (.slice px2 y.items.length cx2):=by rw[HBq.out.cell (p:=⟨g2,_,none⟩) hg2];exact z3
     have HC:=hid (IH x y _ _ _ _ wr.drew ((hvd.keep HBq.out).keep (aB _ _).drew) ((hvd2.keep HBq.out).keep (aB _ _).drew) (HLN.out.1 x (aX hx)) (HLN.out.2 y (aX hy)));unfold vv at HC;have hj0:(0:Int)<=(j:Int):=(by omega);clear hx hy n0 n1' n2 n3 z0 z1 z2 z3 hvd hvd2 hg hg2;go_upto_region 11 with fail;go_region_with (go_at_call 8;(refine HC.out.mono ?_);rintro e w6 ⟨⟨bq,rfl,hbq⟩,hb6⟩)
     all_goals
      have HB6:=hid (aC HBq.out (aC (aB _ _).drew hb6));have HBQ:=hid hbq;clear hbq hb6 b0 b1 b2 b3 d0 d1 d2 d3 m0 m1 m2 m3 q0 q1 q2 q3;cases bq with
      | false=>
       have HBQ:Hid (x=y->False):=hid (λe=>by cases HBQ.out e);go_wp2_with fail;go_ret;exact HEND.out _ _ (λe=>by have h2:=HXY.out;rw[e,h2.2] at h2;exact(HBQ.out (bD h2.1).symm).elim) (by first | exact HB6.out | exact HB6.out.drew)
      | true=>
       go_wp2_with fail;go_roundw
       case rel=>exact⟨j+1,by go_num,by omega,by first | exact HB6 | exact hid (below_drewN HB6.out _)⟩
       case measure=>simp[RowKit.intOf];omega
    ·have dk2:decide ((j:Int)<(i1:Int))=false:=aJ (by omega);go_wp2_with fail;go_ret;exact HEND.out _ _ (λ_=>rfl) (by first | exact HBq.out | exact HBq.out.drew)
theorem Mq: ∀n,Dr n
 | 0=>λ_ _ _ _ _ _ _ h _ _ _=>h.elim
 | n+1=>aAa n (Mq n)
end
section
open Go.Lib hiding intOf
theorem Mr {s:aA} (h:s.length<=65536):gN s=kQ s (fT s):=by unfold gN;rw[if_neg (by omega)]
def jY (M:Nat) (ns:List aM):Prop:= ∀x∈ns,x.fr<=M/\x.til<=M
def Ds (M:Nat) (R:YR):Prop:= ∀n st,R= .ok n st->jY M st.nodes
def qK (M:Nat) (V:YB):Prop:= ∀k kf kt st,k<M->jY M st.nodes->Ds M (V k kf kt st)
theorem jY.snoc {M:Nat}{ns:List aM}{x:aM} (h:jY M ns) (hx:x.fr<=M/\x.til<=M):jY M (ns++ [x]):=by
 intro y hy;rcases pP.1 hy with h1 | h1
 ·exact h y h1
 ·rw[kH.1 h1];exact hx
theorem jY.til {M:Nat}{ns:List aM} (h:jY M ns) (k:Nat):fS ns k<=M:=by
 unfold fS;split
 ·rename_i x hx;exact(h x (aX hx)).2
 ·exact cN _
theorem jY.mod {M:Nat}{f:aM->aM} (hf: ∀x:aM,x.fr<=M/\x.til<=M->(f x).fr<=M/\(f x).til<=M): ∀ {n:Nat}{ns:List aM},jY M ns->jY M (qE f n ns)
 | _,[],h=>by unfold qE;exact h
 | 0,x::l,h=>λy hy=>by
  rcases dN.1 hy with e | e
  ·rw[e];exact hf x (h x (iB ..))
  ·exact h y (List.mem_cons_of_mem _ e)
 | n+1,x::l,h=>λy hy=>by
  rcases dN.1 hy with e | e
  ·rw[e];exact h x (iB ..)
  ·exact jY.mod hf (n:=n) (ns:=l) (λz hz=>h z (List.mem_cons_of_mem _ hz)) y e
theorem Dt {s:aA}{ind:Int}{M:Nat}: ∀(r:List (Nat×Nat)) (i til first:Nat),til<=M->i+r.length<=M->mL s ind r i til first<=M
 | [],_,_,_,h,_=>h
 | x::r,i,til,first,h,h2=>by
  rw[aT] at h2;unfold mL;split
  ·exact Dt r _ _ _ h (by omega)
  ·split
   ·exact h
   ·exact Dt r _ _ _ (by omega) (by omega)
theorem Du {s:aA}{lv M:Nat}:qK M (iZ s lv):=by
 intro k kf kt st hk h n st' e;unfold iZ at e;split at e
 ·cases e
 ·rename_i n1 s1 h1;obtain⟨rfl,rfl,_,_⟩:=pB h1;simp only[] at e;split at e
  ·cases e
  ·split at e
   ·cases e
   ·split at e
    ·cases e
    ·injection e with e1 e2;subst e2;exact h.snoc ⟨by simp only[];omega,by simp only[];omega⟩
theorem aAb {s:aA}{sp:List (Nat×Nat)}{lv:Nat}:qK sp.length (nB s sp lv):=by
 intro k kf kt st hk h n st' e;unfold nB at e;split at e
 ·cases e
 ·rename_i n1 s1 h1;obtain⟨rfl,rfl,_,_⟩:=pB h1;simp only[] at e;split at e
  ·cases e
  ·injection e with e1 e2;subst e2;refine h.snoc ⟨by simp only[];omega,?_⟩;exact Dt _ _ _ _ (by omega) (by rw[aV];omega)
theorem aAc {s:aA}{sp:List (Nat×Nat)}{B:YB}{lv:Nat} (hB:qK sp.length B):qK sp.length (oZ s sp B lv):=by
 intro k kf kt st hk h;unfold oZ;simp only[];split
 ·exact aAb k kf kt st hk h
 ·split
  ·split
   ·intro n st' e;cases e
   ·rename_i nx ls hm;split
    ·rename_i hc;exact hB nx kf kt ⟨ls,st.nodes,st.total⟩ hc.1 h
    ·exact Du k kf kt _ hk h
  ·exact Du k kf kt _ hk h
theorem aAd {s:aA}{sp:List (Nat×Nat)}{V:YB} (hV:qK sp.length V) {map:Bool}{n:Nat}{ind:Int}{had had':List aA}{k nx:Nat}{st s3:YS} (hk:k<sp.length) (hN:jY sp.length st.nodes) (h:iF s sp V map n ind had k st= .ok nx s3 had'):jY sp.length s3.nodes:=by
 have ho:Ds sp.length (gB s V map had k st).1:=by
  unfold gB;split
  ·simp only[];split
   ·intro n st' e;cases e
   ·split
    ·intro n st' e;cases e
    ·exact hV _ _ _ _ hk hN
  ·exact hV _ _ _ _ hk hN
 unfold iF at h;obtain⟨⟨Q,had2⟩,hQ⟩:=exQ<|gB s V map had k st;rw[hQ] at h ho;cases Q with
 | bad a e=>cases h
 | ok kid s2=>
  have h2:=ho kid s2 rfl;simp only[] at h;split at h
  ·cases h
  ·split at h
   ·cases h
   ·injection h with e1 e2 e3;subst e2;exact jY.mod (f:=λx=> { x with kids:=x.kids++ [kid],til:=fS s2.nodes kid }) (λx hx=>⟨hx.1,h2.til kid⟩) h2
theorem Ms {s:aA}{sp:List (Nat×Nat)}{V:YB} (hV:qK sp.length V) {map:Bool}{n:Nat}{ind kind:Int}: ∀(f:Nat) (had:List aA) (k:Nat) (st:YS),jY sp.length st.nodes->Ds sp.length (kP s sp V map n ind kind f had k st)
 | 0,had,k,st,h=>λn st' e=>by
  injection e with e1 e2;subst e2;exact h
 | f+1,had,k,st,h=>by
  unfold kP;split
  ·rename_i hc;cases ho:iF s sp V map n ind had k st with
   | bad a e=>intro n st' e;cases e
   | ok nx s2 had'=>exact Ms hV f had' nx s2 (aAd hV hc.1 h ho)
  ·intro n st' e;injection e with e1 e2;subst e2;exact h
theorem Mt {s:aA}{sp:List (Nat×Nat)}{V:YB} (lv:Nat) (hV:qK sp.length V):qK sp.length (lT s sp V lv):=by
 intro k kf kt st hk h;unfold lT;simp only[];split
 ·exact Du k kf kt st hk h
 ·split
  ·intro n st' e;cases e
  ·rename_i n1 s1 h1;obtain⟨rfl,rfl,_,_⟩:=pB h1;exact Ms hV _ _ _ _ (h.snoc ⟨by simp only[];omega,by simp only[];omega⟩)
theorem Mu {s:aA}{sp:List (Nat×Nat)}: ∀lv,qK sp.length (nC s sp lv)
 | 0=>Mt 0 (λ_ _ _ _ _ _ n st' e=>by cases e)
 | lv+1=>Mt (lv+1) (aAc (Mu lv))
theorem aAe {s:aA}{d:dG}{a er:Int} (h:kQ s (fT s)=(d,a,er)):jY (fT s).length d.nodes:=by
 have hb:=Mu (s:=s) (sp:=fT s) 32;unfold kQ at h;split at h
 ·injection h with e1 e2;subst e1;intro x hx;cases hx
 ·rename_i k ls hm;split at h
  ·injection h with e1 e2;subst e1;intro x hx;rw[kH.1 hx];exact⟨cN _,cN _⟩
  ·rename_i hk;have h1:=hb k 0 0 ⟨ls,[],0⟩ (by omega) (λx hx=>by cases hx)
   revert h
   split
   ·intro h;injection h with e1 e2;subst e1;intro x hx;cases hx
   ·rename_i n st hB;have h2:=h1 n st hB;split
    ·intro h;injection h with e1 e2;subst e1;intro x hx;cases hx
    ·split
     ·intro h;injection h with e1 e2;subst e1;intro x hx;cases hx
     ·intro h;injection h with e1 e2;subst e1;exact h2
theorem uL (n:Nat) {t:VT} (h1:t.keys.length<=1073741824) (h2:t.items= []):lV n t:=by
 cases n with
 | zero=>trivial
 | succ n=>exact⟨h1,by rw[h2];exact cN _,λx hx=>by rw[h2] at hx;cases hx⟩
theorem Dv {txt:aA}{ns:List aD} (hN:ns.length<=65536): ∀(lv k m n:Nat),dJ ns lv k m->lV n (bG txt ns lv k)
 | 0,_,_,_,h=>h.elim
 | lv+1,k,m,0,h=>trivial
 | lv+1,k,m,n+1,h=>by
  obtain⟨x,hx⟩: ∃x,ns[k]?=some x:=by obtain⟨x,hx,_⟩:=h;exact⟨x,hx⟩
  have hl:=Jl h hx hN;have he:bG txt ns (lv+1) k= .mk (x.kind:Int) (mD x.kind (dE txt (x.sf,x.st))) (if x.kind=6 then x.kids.map (eT txt ns) else []) (x.kids.map (bG txt ns lv)):=by rw[bG,hx]
  rw[he];refine⟨?_,?_,λy hy=>?_⟩
  ·show (if x.kind=6 then x.kids.map (eT txt ns) else []).length<=_;split
   ·rw[bU];omega
   ·exact cN _
  ·show (x.kids.map (bG txt ns lv)).length<=_;rw[bU];omega
  ·obtain⟨q,hq,rfl⟩:=qS.1 (show y∈x.kids.map (bG txt ns lv) from hy);obtain⟨m2,hm2⟩:=(h.kid hx hq).1;exact Dv hN lv q m2 n hm2
theorem aAf (t:aA) (n:Nat):lV n (jJ t).1:=by
 have hr: ∀t,lV n (mW t):=λt=>by
  unfold mW
  repeat' split
  all_goals exact uL n (cN _) rfl
 have hz:lV n dL:=uL n (cN _) rfl;cases t with
 | nil=>exact hr []
 | cons c r=>
  unfold jJ;simp only[];split
  ·split
   ·exact hz
   ·exact uL n (cN _) rfl
  ·split
   ·unfold eX;split
    ·exact hz
    ·rename_i he;obtain⟨_,_,_,ns,_,_,hp⟩:=uZ (s:=c::r) (by omega);have hf:=xY (c::r);have ht:=tP hp;rw[hp] at hf;rw[hp];exact Dv hf 32 0 _ n ht
   ·split
    ·exact hr _
    ·exact hz
theorem Mv {s:aA}{d:dG} (hk: ∀(k:Nat) (x:aM),d.nodes[k]?=some x->x.kids.length<=4096): ∀(lv k n:Nat),lV n (bH s d lv k)
 | _,_,0=>trivial
 | 0,_,n+1=>uL (n+1) (cN _) rfl
 | lv +1,k,n+1=>by
  unfold bH;split
  ·exact uL (n+1) (cN _) rfl
  ·rename_i x hx;have hl:=hk k x hx;split
   ·exact aAf _ _
   ·split
    ·exact uL (n+1) (cN _) rfl
    ·refine⟨?_,?_,λy hy=>?_⟩
     ·show (if x.kind=3 then x.kids.map (pI s d.nodes) else []).length<=_;split
      ·rw[bU];omega
      ·exact cN _
     ·show (x.kids.map (bH s d lv)).length<=_;rw[bU];omega
     ·obtain⟨q,hq,rfl⟩:=qS.1 (show y∈x.kids.map (bH s d lv) from hy);exact Mv hk lv q n
structure aAg (s:aA) (d:dG):Prop where
 b:rF s d
 i: ∀l∈d.lines,l.ind<=1099511627776
 t:dM d.nodes 32 0 d.nodes.length
 c:d.nodes.length<=4096
 l: ∀n,lV n (bH s d 32 0)
theorem aAh {s:aA}{d:dG}{a:Int} (hs:s.length<=65536) (h:gN s=(d,a,0)):aAg s d:=by
 rw[Mr hs] at h;have hT:=Zz h;have hB:=aAe h;have hsl:(fT s).length<=s.length+1:=by
  unfold fT;rw[Ck];exact(sM s 0 0).1
 have hl:d.lines.length<=s.length+1:=aW hT.lns hsl;have hi: ∀l∈d.lines,0<=l.ind/\l.ind<=(s.length:Int):=by
  intro l hl;obtain⟨j,hj,e⟩:=List.mem_iff_getElem.1 hl;have h1:=(hT.ok.2 j hj).ind;rw[show aZ d.lines j=l by unfold aZ;rw[bJ hj,e];rfl] at h1;omega
 refine⟨⟨hs,by omega,by have:=hT.cnt;omega,λx hx=>?_,λl hl=>(hi l hl).1⟩,λl hl=>by have:=(hi l hl).2;omega,hT.tree,hT.cnt,λn=>Mv (λk x hx=>hT.kids hx) 32 0 n⟩;obtain⟨j,hj,e⟩:=List.mem_iff_getElem.1 hx;have hxj:d.nodes[j]?=some x:=by rw[bJ hj,e]
 have h1:=hB x hx;have h2:=hT.kids hxj;exact⟨by omega,by omega,by omega⟩
end
section
open Go.RowKit
open Go.Lib hiding intOf
def rH (s:aA):VT:=if(gN s).2.2=0 then bH s (gN s).1 32 0 else dL
theorem eY.formsR {B:Nat}{d:dG}{lv nv:Value}{w:World} (h:eY B d lv nv w):(∃p c,lv= .slice p d.lines.length c)/\ ∃p c,nv= .slice p d.nodes.length c:=by
 obtain⟨z,hz,h1,h2⟩:=h;have hzl:z.length=d.nodes.length:=by rw[<-hz,bU]
 constructor
 ·rcases h1.2 with⟨h3,h4⟩ | ⟨g,cap,cur,h3,_⟩
  ·exact⟨none,0,by rw[h3,h4]⟩
  ·exact⟨_,_,h3⟩
 ·rw[<-hzl];rcases h2.row.2 with⟨h3,h4⟩ | ⟨g,cap,cur,h3,_⟩
  ·exact⟨none,0,by rw[h3,h4]⟩
  ·exact⟨_,_,h3⟩
theorem aAi {s:aA}{d:dG}{n:Int} (h:gN s=(d,n,0)):s.length<=65536:=by
 unfold gN at h;split at h
 ·simp at h
 ·omega
theorem Dw (s:aA) (w:World) (hV:cA w):
  Calls Tryz.prog 7 #[.string (bs s)] w (mX (rH s) (gN s).2.1 (gN s).2.2 w):=by
 obtain⟨R,hR⟩:=exQ<|w.heap.size;obtain⟨W1,hW1⟩:=exQ<|w.alloc (.cells #[.int .i64 0, .string ⟨#[]⟩, .slice none 0 0, .slice none 0 0] 26);have HB1:Hid (Below w.heap.size w W1):=hid (by rw[<-hW1];exact aH _ _);have HR1:Hid (W1.heap[R]?=some (.cells #[.int .i64 0, .string (bs []), .slice none 0 0, .slice none 0 0] 26)):=hid (by rw[<-hW1,<-hR];exact heap_alloc_new w _);have HRl:=hid (aF HR1.out);have HV:=hid (hV.keep HB1.out);obtain⟨T,hT⟩:=exQ<|rH s;rw[hT];unfold rH at hT;obtain⟨⟨d,n,er⟩,hP⟩:=exQ<|gN s;have CP:=hid (Mb s W1 HV.out);rw[hP] at CP hT ⊢;have HP:=hid hP;simp only[] at hT ⊢;clear hV hP;go_enter Tryz.func7,Tryz.ntmps7;go_upto_region 1 with fail;clear hW1;go_wp2_with fail;refine CP.out.mono ?_;rintro e w2 ⟨tx,lv,nv,rfl,htx,hd,hb⟩;simp only[] at htx;obtain⟨⟨pl,cl,hpl⟩,pn,cn,hpn⟩:=hd.formsR;obtain⟨nl,hnl⟩:=exQ<|d.lines.length;obtain⟨nn,hnn⟩:=exQ<|d.nodes.length;simp only[] at hpl hpn;rw[hnl] at hpl;rw[hnn] at hpn;subst hpl hpn;have HB2:=hid hb;have HD2:=hid hd;have HTX:=hid htx;simp only[];clear hd hb htx hnl hnn CP;obtain⟨D,hDe⟩:=exQ<|w2.heap.size;have b3:=aH w2 (.cells #[.string tx, .slice pl nl cl, .slice pn nn cn] 36);have x3:=heap_alloc_new w2 (.cells #[.string tx, .slice pl nl cl, .slice pn nn cn] 36);obtain⟨w3,hw3⟩:=exQ<|w2.alloc (.cells #[.string tx, .slice pl nl cl, .slice pn nn cn] 36);rw[hw3] at b3 x3;rw[hDe] at x3;have HB23:=hid b3;have HB3:Hid (Below W1.heap.size W1 w3):=hid (aC HB2.out b3);by_cases h0:er=0;rotate_left
 ·rw[if_neg h0] at hT;subst hT;have d0:(er !=0)=true:=by simpa using h0
  have HPN:=hid (iQ (t:=dL) HB1.out (by rw[hR];exact aE _) HRl.out (oQ _ _ _ _) HB3.out HR1.out);obtain⟨r0,r1,r2,r3,f0,f1,f2,f3⟩:=bC ((HB3.out.block R HRl.out).trans HR1.out);clear h0 b3 x3;go_wp2_with fail;clear hw3 hDe;obtain⟨WF,hWF⟩:=exQ<|bF w3 R dL.kind dL.text (.slice none 0 0) (.slice none 0 0);rw[hWF] at HPN;have hWF':(((w3.setCell ⟨R,0,none⟩ (.int .i64 0)).setCell ⟨R,1,none⟩ (.string ⟨#[]⟩)).setCell ⟨R,2,none⟩ (.slice none 0 0)).setCell ⟨R,3,none⟩ (.slice none 0 0)=WF:=hWF;rw[hWF'];clear hWF hWF' r0 r1 r2 r3 f0 f1 f2 f3;obtain⟨d0,d1,d2,d3,_⟩:=bC HPN.out.2.2;refine bodyPost_ret (v:= .tuple #[vv dL (.slice none 0 0) (.slice none 0 0), .int .i64 n, .int .i64 er]) ?_ rfl ⟨⟨_,_,rfl,HPN.out.1⟩,HPN.out.2.1⟩;simp[results,Tryz.results7,go_sem,d0,d1,d2,d3,vv]
 subst h0;rw[if_pos rfl] at hT;have htx:=HTX.out;rw[if_pos rfl] at htx;subst htx;have HQ:=hid (aAh (aAi HP.out) HP.out);have CN:Hid (∀w',Below w3.heap.size w3 w'->Calls Tryz.prog 13 #[.agg #[.string (bs s), .slice pl nl cl, .slice pn nn cn], .int .i64 0] w' (Mh T true w')):=hid (λw' h=>by have:=Mi s d HQ.out.b HQ.out.i _ _ _ 0 _ w' HQ.out.t ((HD2.out.keep HB23.out).keep h) ((HV.out.keep HB3.out).keep h);rw[hT] at this;exact this);obtain⟨c0,c1,c2,_⟩:=gQ x3;clear b3 x3 hT;go_wp2_with fail;refine(CN.out _ (by first | exact aB _ _ | exact(aB _ _).drew)).mono ?_;rintro e w4 ⟨⟨kv,iv,rfl,hv⟩,hb⟩;obtain⟨pk,ck,pi,ci,hkv,hiv⟩:=hv.form;obtain⟨nk,hnk⟩:=exQ<|T.keys.length;obtain⟨ni,hni⟩:=exQ<|T.items.length;obtain⟨tk,htk⟩:=exQ<|T.kind;obtain⟨tt,htt⟩:=exQ<|T.text;rw[hnk] at hkv;rw[hni] at hiv;subst hkv hiv;unfold vv;rw[htk,htt];have HB34:Hid (Below w3.heap.size w3 w4):=hid (by first | exact hb | exact aC (aB _ _).drew hb);have HV4:Hid (eU W1.heap.size w4 T.depth T (.slice pk nk ck) (.slice pi ni ci)):=hid (hv.mono (ok':=λq=>W1.heap.size<=q) (λq hq _=>aW HB3.out.size hq));have HTT:=hid (aI htk htt);clear hv hb c0 c1 c2 CN hw3 hDe htk htt hnk hni;obtain⟨V,hVe⟩:=exQ<|w4.heap.size;have b5:=aH w4 (.cells #[.int .i64 tk, .string (bs tt), .slice pk nk ck, .slice pi ni ci] 26);have x5:=heap_alloc_new w4 (.cells #[.int .i64 tk, .string (bs tt), .slice pk nk ck, .slice pi ni ci] 26);obtain⟨w5,hw5⟩:=exQ<|w4.alloc (.cells #[.int .i64 tk, .string (bs tt), .slice pk nk ck, .slice pi ni ci] 26);rw[hw5] at b5 x5;rw[hVe] at x5;have HB5:Hid (Below W1.heap.size W1 w5):=hid (aC HB3.out (aC HB34.out b5));have HPN:=hid (iQ HB1.out (by rw[hR];exact aE _) HRl.out (HV4.out.keep b5) HB5.out HR1.out);rw[HTT.out.1,HTT.out.2] at HPN;obtain⟨r0,r1,r2,r3,f0,f1,f2,f3⟩:=bC ((HB5.out.block R HRl.out).trans HR1.out);obtain⟨q0,q1,q2,q3,_⟩:=bC x5;clear b5 x5;go_wp2_with fail;clear hw5 hVe;obtain⟨WF,hWF⟩:=exQ<|bF w5 R tk tt (.slice pk nk ck) (.slice pi ni ci);rw[hWF] at HPN;have hWF':(((w5.setCell ⟨R,0,none⟩ (.int .i64 tk)).setCell ⟨R,1,none⟩ (.string (bs tt))).setCell ⟨R,2,none⟩ (.slice pk nk ck)).setCell ⟨R,3,none⟩ (.slice pi ni ci)=WF:=hWF;rw[hWF'];clear hWF hWF' r0 r1 r2 r3 f0 f1 f2 f3 q0 q1 q2 q3;obtain⟨d0,d1,d2,d3,_⟩:=bC HPN.out.2.2;refine bodyPost_ret (v:= .tuple #[vv T (.slice pk nk ck) (.slice pi ni ci), .int .i64 n, .int .i64 0]) ?_ rfl ⟨⟨_,_,rfl,HPN.out.1⟩,HPN.out.2.1⟩;simp[results,Tryz.results7,go_sem,d0,d1,d2,d3,vv,HTT.out.1,HTT.out.2]
theorem aAj (w:World):Calls Tryz.prog 53 #[.int .i64 1] w λe w'=>e= .returned (.func (.func 6) #[] #[])/\Below w.heap.size w w':=by
 go_enter Tryz.func53,Tryz.ntmps53;go_wp2_with fail;go_ret;exact⟨rfl,by first | exact aB _ _ | exact(aB _ _).drew⟩
theorem aAk (w:World):Calls Tryz.prog 53 #[.int .i64 2] w λe w'=>e= .returned (.func (.func 7) #[] #[])/\Below w.heap.size w w':=by
 go_enter Tryz.func53,Tryz.ntmps53;go_wp2_with fail;go_ret;exact⟨rfl,by first | exact aB _ _ | exact(aB _ _).drew⟩
theorem Mw (F:FuncId) (n:Int) (s:aA) (t:VT) (a er:Int) (w:World)
  (hent: ∀(args:Array Value) (w:World),(callFunc F args).run Tryz.prog w= .ok (.enter F args) w)
  (hr: ∀w:World,Calls Tryz.prog 53 #[.int .i64 n] w λe w'=>e= .returned (.func (.func F) #[] #[])/\Below w.heap.size w w')
  (hF: ∀w',Below w.heap.size w w'->Calls Tryz.prog F #[.string (bs s)] w' (mX t a er w')):
  Calls Tryz.prog 25 #[.int .i64 n, .string (bs s)] w (mX t a er w):=by
 obtain⟨R,hR⟩:=exQ<|w.heap.size;obtain⟨W1,hW1⟩:=exQ<|w.alloc (.cells #[.int .i64 0, .string ⟨#[]⟩, .slice none 0 0, .slice none 0 0] 26);have HB1:Hid (Below w.heap.size w W1):=hid (by rw[<-hW1];exact aH _ _);have HR1:Hid (W1.heap[R]?=some (.cells #[.int .i64 0, .string (bs []), .slice none 0 0, .slice none 0 0] 26)):=hid (by rw[<-hW1,<-hR];exact heap_alloc_new w _);have HRl:=hid (aF HR1.out);have CR:=hid (hr W1);have CF:=hid hF;clear hr hF;go_enter Tryz.func25,Tryz.ntmps25;go_upto_region 1 with fail;clear hW1;go_wp2_with fail;refine CR.out.mono ?_;rintro e w2 ⟨rfl,hb2⟩;have HB2:Hid (Below W1.heap.size W1 w2):=hid hb2;have hcal:=hent #[.string (bs s)] w2;clear hb2;go_wp2_with fail;refine(CF.out _ (by first | exact aC HB1.out HB2.out | exact(aC HB1.out HB2.out).drew)).mono ?_;rintro e w3 ⟨⟨kv,iv,rfl,hv⟩,hb⟩;obtain⟨pk,ck,pi,ci,hkv,hiv⟩:=hv.form;obtain⟨nk,hnk⟩:=exQ<|t.keys.length;obtain⟨ni,hni⟩:=exQ<|t.items.length;obtain⟨tk,htk⟩:=exQ<|t.kind;obtain⟨tt,htt⟩:=exQ<|t.text;rw[hnk] at hkv;rw[hni] at hiv;subst hkv hiv;unfold vv;rw[htk,htt];have HB3:Hid (Below W1.heap.size W1 w3):=hid (by first | exact aC HB2.out hb | exact aC HB2.out.drew hb);have HV3:Hid (eU W1.heap.size w3 t.depth t (.slice pk nk ck) (.slice pi ni ci)):=hid (hv.mono (ok':=λq=>W1.heap.size<=q) (λq hq _=>by have:=HB2.out.size;first | exact aW this hq | exact aW HB2.out.drew.size hq));have HPN:=hid (iQ HB1.out (by rw[hR];exact aE _) HRl.out HV3.out HB3.out HR1.out);have HTT:=hid (aI htk htt);rw[htk,htt] at HPN;obtain⟨r0,r1,r2,r3,f0,f1,f2,f3⟩:=bC ((HB3.out.block R HRl.out).trans HR1.out);clear hv hb hcal htk htt hnk hni;go_wp2_with fail;obtain⟨WF,hWF⟩:=exQ<|bF w3 R tk tt (.slice pk nk ck) (.slice pi ni ci);rw[hWF] at HPN;have hWF':(((w3.setCell ⟨R,0,none⟩ (.int .i64 tk)).setCell ⟨R,1,none⟩ (.string (bs tt))).setCell ⟨R,2,none⟩ (.slice pk nk ck)).setCell ⟨R,3,none⟩ (.slice pi ni ci)=WF:=hWF;rw[hWF'];clear hWF hWF' r0 r1 r2 r3 f0 f1 f2 f3;obtain⟨d0,d1,d2,d3,_⟩:=bC HPN.out.2.2;refine bodyPost_ret (v:= .tuple #[vv t (.slice pk nk ck) (.slice pi ni ci), .int .i64 a, .int .i64 er]) ?_ rfl ⟨⟨_,_,rfl,HPN.out.1⟩,HPN.out.2.1⟩;simp[results,Tryz.results25,go_sem,d0,d1,d2,d3,vv,HTT.out.1,HTT.out.2]
theorem aAl (s:aA) (w:World) (hs:s.length<=1073741824) (hV:cA w):Calls Tryz.prog 25 #[.int .i64 1, .string (bs s)] w (mX (eX s).1 (eX s).2.1 (eX s).2.2 w):=
 Mw _ 1 s _ _ _ w (wS Tryz.func6 (of_decide_eq_false (by kernel_rfl)) (by kernel_rfl)) aAj (λw' h=>Jp s w' hs (hV.keep h))
theorem aAm (s:aA) (w:World) (hV:cA w):Calls Tryz.prog 25 #[.int .i64 2, .string (bs s)] w (mX (rH s) (gN s).2.1 (gN s).2.2 w):=
 Mw _ 2 s _ _ _ w (wS Tryz.func7 (of_decide_eq_false (by kernel_rfl)) (by kernel_rfl)) aAk (λw' h=>Dw s w' (hV.keep h))
def qL (s:aA):Int×Bool:=if(eX s).2.2=0 then(1,true) else if(gN s).2.2=0 then(2,true) else(0,false)
theorem aAn (s:aA) (w:World) (hs:s.length<=1073741824) (hV:cA w):
  Calls Tryz.prog 14 #[.string (bs s)] w λe w'=>e= .returned (.tuple #[.int .i64 (qL s).1, .bool (qL s).2])/\Below w.heap.size w w':=by
 have HV:=hid hV;have CJ:Hid (∀w',Below w.heap.size w w'->Calls Tryz.prog 25 #[.int .i64 1, .string (bs s)] w' (mX (eX s).1 (eX s).2.1 (eX s).2.2 w')):=hid (λw' h=>aAl s w' hs (HV.out.keep h));have CY:Hid (∀w',Below w.heap.size w w'->Calls Tryz.prog 25 #[.int .i64 2, .string (bs s)] w' (mX (rH s) (gN s).2.1 (gN s).2.2 w')):=hid (λw' h=>aAm s w' (HV.out.keep h));obtain⟨G,hG⟩:=exQ<|qL s;rw[hG];unfold qL at hG;obtain⟨⟨t1,a1,e1⟩,h1⟩:=exQ<|eX s;rw[h1] at CJ hG;obtain⟨⟨t2,a2,e2⟩,h2⟩:=exQ<|gN s;rw[h2] at CY hG;obtain⟨T2,hT2⟩:=exQ<|rH s;rw[hT2] at CY;simp only[] at CJ CY hG;clear h1 h2 hT2 hV;go_enter Tryz.func14,Tryz.ntmps14;go_wp2_with fail;go_loopw [4] (λs4 wr=> ∃f:Nat,s4= .int .i64 (f:Int)/\(f=1\/(f=2/\e1≠0)\/(f=3/\e1≠0/\e2≠0))/\Hid (Below w.heap.size w wr)) (λs4 _=>4-(RowKit.intOf s4).toNat)
 case atStart=>exact⟨1,rfl, .inl rfl,hid (by first | exact aB _ _ | exact(aB _ _).drew)⟩
 case round=>
  obtain⟨f,rfl,hf,HBr⟩:=hrel;rcases hf with rfl | ⟨rfl,hn1⟩ | ⟨rfl,hn1,hn2⟩
  ·go_wp2_with fail;refine(CJ.out _ (by first | exact HBr.out | exact HBr.out.drew)).mono ?_;rintro e w3 ⟨⟨kv,iv,rfl,hv⟩,hb⟩;obtain⟨pk,ck,pi,ci,rfl,rfl⟩:=hv.form;have HB3:Hid (Below w.heap.size w w3):=hid (by first | exact aC HBr.out hb | exact aC HBr.out.drew hb);unfold vv;clear hv hb;obtain⟨X,hXe⟩:=exQ<|w3.heap.size;have b5:=aH w3 (.cells #[.int .i64 t1.kind, .string (bs t1.text), .slice pk t1.keys.length ck, .slice pi t1.items.length ci] 26);obtain⟨w5,hw5⟩:=exQ<|w3.alloc (.cells #[.int .i64 t1.kind, .string (bs t1.text), .slice pk t1.keys.length ck, .slice pi t1.items.length ci] 26);rw[hw5] at b5;have HB5:=hid (aC HB3.out b5);clear b5;by_cases he:e1=0
   ·rw[if_pos he] at hG;subst he hG;go_wp2_with fail;clear hw5 hXe;go_ret2;exact⟨rfl,by first | exact HB5.out | exact HB5.out.drew⟩
   ·have de:(e1==0)=false:=aG.2 he;have HE:=hid he;clear he;go_wp2_with fail;clear hw5 hXe;go_roundw
    ·exact⟨2,rfl, .inr (.inl ⟨rfl,HE.out⟩),by first | exact HB5 | exact hid HB5.out.drew⟩
    ·simp[RowKit.intOf]
  ·rw[if_neg hn1] at hG;have HN:=hid hn1;clear hn1;go_wp2_with fail;refine(CY.out _ (by first | exact HBr.out | exact HBr.out.drew)).mono ?_;rintro e w3 ⟨⟨kv,iv,rfl,hv⟩,hb⟩;obtain⟨pk,ck,pi,ci,rfl,rfl⟩:=hv.form;have HB3:Hid (Below w.heap.size w w3):=hid (by first | exact aC HBr.out hb | exact aC HBr.out.drew hb);unfold vv;clear hv hb;obtain⟨X,hXe⟩:=exQ<|w3.heap.size;have b5:=aH w3 (.cells #[.int .i64 T2.kind, .string (bs T2.text), .slice pk T2.keys.length ck, .slice pi T2.items.length ci] 26);obtain⟨w5,hw5⟩:=exQ<|w3.alloc (.cells #[.int .i64 T2.kind, .string (bs T2.text), .slice pk T2.keys.length ck, .slice pi T2.items.length ci] 26);rw[hw5] at b5;have HB5:=hid (aC HB3.out b5);clear b5;by_cases he:e2=0
   ·rw[if_pos he] at hG;subst he hG;go_wp2_with fail;clear hw5 hXe;go_ret2;exact⟨rfl,by first | exact HB5.out | exact HB5.out.drew⟩
   ·have de:(e2==0)=false:=aG.2 he;have HE:=hid he;clear he;go_wp2_with fail;clear hw5 hXe;go_roundw
    ·exact⟨3,rfl, .inr (.inr ⟨rfl,HN.out,HE.out⟩),by first | exact HB5 | exact hid HB5.out.drew⟩
    ·simp[RowKit.intOf]
  ·rw[if_neg hn1,if_neg hn2] at hG;subst hG;clear hn1 hn2;go_wp2_with fail;go_ret2;exact⟨rfl,by first | exact HBr.out | exact HBr.out.drew⟩
end
end Go.Proofs.YtaifnmjjpddikaaGreatDoor
