import Derived.Test.YtaifnmjjpddikaaGreatDoorRl25
import Derived.Test.YtaifnmjjpddikaaGreatDoorRl12
import Derived.Test.YtaifnmjjpddikaaGreatDoorRl23
import Derived.Test.YtaifnmjjpddikaaGreatDoorRl21
set_option maxRecDepth 100000
set_option maxHeartbeats 4000000
namespace Go.Proofs.YtaifnmjjpddikaaGreatDoor
set_option linter.unusedVariables false
set_option linter.unusedSimpArgs false
section
open Go.RowKit
open Go.Lib hiding intOf
theorem cO.monoP {P P':Nat->Nat->Prop} (h: ∀k m,P k m->P' k m) {hi:Nat}: ∀ {l:List Nat}{a:Nat},cO P l a hi->cO P' l a hi
 | [],a,h1=>h1
 | y::l,a,h1=>by
  obtain⟨e,m,h2,h3⟩:=h1;exact⟨e,m,h _ _ h2,h3.monoP h⟩
theorem eB.up {ns:List aG}: ∀ {lv k hi:Nat},eB ns lv k hi->eB ns (lv+1) k hi
 | lv+1,k,hi,h=>by
  obtain⟨x,hx,h2⟩:=h;exact⟨x,hx,h2.monoP (λk m h=>eB.up h)⟩
def My (t:VT) (b:Bool) (w:World) (e:Ending) (w':World):Prop:=(∃kv iv,e= .returned (.tuple #[vv t kv iv, .bool b])/\eZ w.heap.size w' t.depth t kv iv)/\Below w.heap.size w w'
theorem Ej (s:aA) (d:cF) (hb:rT s d) (hi64: ∀l∈d.lines,l.ind<=1099511627776) (B:Nat) (lvv nv:Value) (k m:Nat) (w:World) (hT:eB d.nodes 32 k m) (hD0:fE B d lvv nv w) (hV:bU w):
  Calls Tryz.prog 13 #[.agg #[.string (bs s),lvv,nv], .int .i64 (k:Int)] w (My (aN s d 32 k) true w):=by
 obtain⟨z,S,I,F⟩:=id hD0;have O:k<d.nodes.length:=by obtain⟨x,U,_⟩:=hT;exact(aR.1 U).1
 have A:z.length=d.nodes.length:=by rw[<-S,bK]
 obtain⟨gn,cn,cur,rfl,L,_,P⟩:=F.form (λe=>by rw[e] at A;simp at A;omega);obtain⟨pl,nl,cl,rfl⟩: ∃p n c,lvv= .slice p n c:=by
  rcases I.2 with⟨V,_⟩ | ⟨g,cap,cur,E,_⟩
  ·exact⟨none,0,0,V⟩
  ·exact⟨_,_,_,E⟩
 obtain⟨nz,C⟩:=exQ<|z.length;rw[C] at hD0 ⊢;have dq1:decide ((k:Int)<0)=false:=aH (by omega);have dq2:decide ((nz:Int)<=(k:Int))=false:=aH (by omega);have dq3:decide (nz<=k)=false:=aH (by omega);obtain⟨W1,r⟩:=exQ<|w.alloc (.cells #[.string (bs s), .slice pl nl cl, .slice (some ⟨gn,0,none⟩) nz cn] 36);obtain⟨D,G⟩:=exQ<|w.heap.size;have b1:Below w.heap.size w W1:=by rw[<-r];exact aI _ _
 have E:W1.heap[D]?=some (.cells #[.string (bs s), .slice pl nl cl, .slice (some ⟨gn,0,none⟩) nz cn] 36):=by rw[<-r,<-G];exact heap_alloc_new w _
 obtain⟨W2,q⟩:=exQ<|W1.alloc (.cells #[.int .i64 0, .string ⟨#[]⟩, .slice none 0 0, .slice none 0 0] 26);obtain⟨R,y⟩:=exQ<|W1.heap.size;have b2:Below W1.heap.size W1 W2:=by rw[<-q];exact aI _ _
 have M:W2.heap[R]?=some (.cells #[.int .i64 0, .string (bs []), .slice none 0 0, .slice none 0 0] 26):=by rw[<-q,<-y];exact heap_alloc_new W1 _
 have K:=(b2.block D (aF E)).trans E;have i:=hid (aC b1 b2);have Q:=hid M;have N:w.heap.size<=R:=by rw[<-y];exact b1.size
 have f:R<W2.heap.size:=aF M;obtain⟨T,o⟩:=exQ<|aN s d 32 k;have CN:Hid (∀w',Below W2.heap.size W2 w'->Calls Tryz.prog 24 #[.agg #[.string (bs s), .slice pl nl cl, .slice (some ⟨gn,0,none⟩) nz cn], .int .i64 (k:Int), .int .i64 1] w' (jN T w')):=hid (λw' h=>by have:=Mx s d hb hi64 32 B (.slice pl nl cl) (.slice (some ⟨gn,0,none⟩) nz cn) k m 1 w' hT (hid (by decide)) (aE _) ((hD0.keep i.out).keep h) ((hV.keep i.out).keep h);rw[o] at this;exact this);rw[o];obtain⟨d0,d1,d2,_⟩:=gJ K;clear b1 b2 E M K S I F O A P L C o hT hD0 hV;go_enter Tryz.func13,Tryz.ntmps13;go_upto_region 1 with fail;clear r q G y;go_wp2_with fail;refine(CN.out _ (by first | exact aB _ _ | exact(aB _ _).drew)).mono ?_;rintro e w6 ⟨⟨kv,iv,rfl,j⟩,u⟩;have H:Hid (Below W2.heap.size W2 w6):=hid (by first | exact u | exact aC (aB _ _).drew u);obtain⟨pk6,ck6,pi6,ci6,rfl,rfl⟩:=j.toVD.form;have a:=hid (iT (t:=T) i.out N f j H.out Q.out);obtain⟨r0,r1,r2,r3,g0,g1,g2,g3⟩:=bC ((H.out.block R f).trans Q.out);unfold vv;clear j u d0 d1 d2;go_wp2_with fail;have b:(((w6.setCell ⟨R,0,none⟩ (.int .i64 T.kind)).setCell ⟨R,1,none⟩ (.string (bs T.text))).setCell ⟨R,2,none⟩ (.slice pk6 T.keys.length ck6)).setCell ⟨R,3,none⟩ (.slice pi6 T.items.length ci6)=bG w6 R T.kind T.text (.slice pk6 T.keys.length ck6) (.slice pi6 T.items.length ci6):=rfl;rw[b];obtain⟨WR,J⟩:=exQ<|bG w6 R T.kind T.text (.slice pk6 T.keys.length ck6) (.slice pi6 T.items.length ci6);rw[J] at a ⊢;clear b J r0 r1 r2 r3 g0 g1 g2 g3;obtain⟨d0,d1,d2,d3,_⟩:=bC a.out.2.2;refine bodyPost_ret (v:= .tuple #[.agg #[.int .i64 T.kind, .string (bs T.text), .slice pk6 T.keys.length ck6, .slice pi6 T.items.length ci6], .bool true]) ?_ rfl ⟨⟨_,_,rfl,a.out.1⟩,a.out.2.1⟩;simp[results,Tryz.results13,go_sem,d0,d1,d2,d3]
end
section
open Go.Lib
def Mz (s:aA) (lv:Nat) (x:aG):Prop:=x.kind=1->(fP (dG s x.rf x.rt)).1.depth<=lv
def dL (s:aA) (ns:List aG):Nat->Nat->Nat->Prop
 | 0,_,_=>False
 | lv+1,k,hi=> ∃x,ns[k]?=some x/\Mz s (lv+1) x/\cO (dL s ns lv) x.kids (k+1) hi
theorem dL.tky {s:aA}{ns:List aG}: ∀ {lv k hi:Nat},dL s ns lv k hi->eB ns lv k hi
 | lv+1,k,hi,⟨x,hx,_,h⟩=>⟨x,hx,h.monoP (λ_ _=>dL.tky)⟩
theorem dL.lt {s:aA}{ns:List aG}{lv k hi:Nat} (h:dL s ns lv k hi):k<hi:=h.tky.lt
theorem dL.mono {s:aA}{ns ns':List aG}: ∀ {lv k hi:Nat},dL s ns lv k hi->(∀j y,k<=j->j<hi->ns[j]?=some y->ns'[j]?=some y)->dL s ns' lv k hi
 | lv+1,k,hi,h,hm=>by
  have hkh:=h.lt;obtain⟨x,b,d,c⟩:=h;exact⟨x,hm k x (aE _) hkh b,d,c.imp hi (λk m h=>h.lt) (λk' m h5 h6 a=>a.mono (λj y h8 h9=>hm j y (by omega) (by omega)))⟩
def xI (s:aA) (lv:Nat) (R:YR):Prop:=match R with
 | .ok n st'=>dL s st'.nodes lv n st'.nodes.length
 | .bad _ _=>True
def rU (s:aA) (sp:List (Nat×Nat)) (lv:Nat) (V:YB):Prop:= ∀k kf kt st,dI s sp st->k+1=st.lines.length->xI s lv (V k kf kt st)
theorem Na {s:aA}{ns:List aG}{x:aG}{lv:Nat} (h0:lv≠0) (hd:Mz s lv x) (hx:x.kids= []):dL s (ns++ [x]) lv ns.length (ns++ [x]).length:=by
 cases lv with
 | zero=>exact absurd rfl h0
 | succ lv=>exact⟨x,by simp,hd,by rw[hx];show ns.length+1=_;simp⟩
theorem Ek {s:aA}{lv k:Nat}{kf kt:Int}{st:YS}:xI s lv (iU s lv k kf kt st):=by
 unfold iU;split
 ·trivial
 ·rename_i n1 s1 b;obtain⟨rfl,rfl,c,_⟩:=mL b;simp only[];split
  ·trivial
  ·split
   ·trivial
   ·rename_i a;split
    ·trivial
    ·exact Na c (λ_=>Nat.le_of_not_lt a) rfl
theorem aAw {s:aA}{sp:List (Nat×Nat)}{lv k:Nat}{kf kt:Int}{st:YS}:xI s lv (mK s sp lv k kf kt st):=by
 unfold mK;split
 ·trivial
 ·rename_i n1 s1 a;obtain⟨rfl,rfl,b,_⟩:=mL a;simp only[];split
  ·trivial
  ·exact Na b (λe=>by cases e) rfl
theorem aAx {s:aA}{sp:List (Nat×Nat)} (hsp:dH s sp) {B:YB}{lv:Nat} (hB:rU s sp lv B):rU s sp lv (nD s sp B lv):=by
 intro k kf kt st c hk;unfold nD;simp only[];split
 ·exact aAw
 ·split
  ·have b:=lC hsp (k:=k+1) (lines:=st.lines) (by omega) c.ls (λi h1 h2=>by omega);cases hm:gH s sp (k+1) st.lines with
   | bad a e=>trivial
   | ok nx ls=>
    rw[hm] at b;simp only[] at b ⊢;split
    ·rename_i d;exact hB nx kf kt ⟨ls,st.nodes,st.total⟩ ⟨b.ok,c.tot⟩ (b.hit d.1).1.symm
    ·exact Ek
  ·exact Ek
theorem aAy {s:aA}{sp:List (Nat×Nat)}{V:YB}{m:Nat} (hV:rU s sp m V) (map:Bool) (had:List aA) {k:Nat}{st:YS} (hw:dI s sp st) (hk:k+1=st.lines.length):xI s m (fQ s V map had k st).1:=by
 unfold fQ;split
 ·simp only[];split
  ·trivial
  ·split
   ·trivial
   ·exact hV _ _ _ _ hw hk
 ·exact hV _ _ _ _ hw hk
theorem aAz {s:aA}{sp:List (Nat×Nat)}{V:YB} (hG:gA s sp V) {m:Nat} (hV:rU s sp m V) {map:Bool}{n:Nat}{ind:Int}{had had':List aA}{k nx:Nat}{st s3:YS} (hw:dI s sp st) (hk:k+1=st.lines.length) {x:aG} (hx:st.nodes[n]?=some x) (hK:cO (dL s st.nodes m) x.kids (n+1) st.nodes.length) (h:gM s sp V map n ind had k st= .ok nx s3 had'):
  ∃x',s3.nodes[n]?=some x'/\x'.kind=x.kind/\cO (dL s s3.nodes m) x'.kids (n+1) s3.nodes.length:=by
 have q:=uZ hG map had hw hk;have g:=aAy hV map had hw hk;unfold gM at h;obtain⟨⟨Q,had2⟩,z⟩:=exQ<|fQ s V map had k st;rw[z] at h q g;cases Q with
 | bad a e=>cases h
 | ok kid s2=>
  obtain⟨g1,⟨more,g2n,g2⟩,_,_,_,_⟩:=(show kM s sp k st kid s2 from q);have g:dL s s2.nodes m kid s2.nodes.length:=g;simp only[] at h;split at h
  ·cases h
  ·split at h
   ·cases h
   ·injection h with e1 e2 e3;have l:=(aR.1 hx).1;have f:s2.nodes[n]?=some x:=by rw[g2,kP l];exact hx
    have i:=(aR.1 f).1;subst e2;simp only[];obtain⟨ns3,d⟩:=exQ<|kK n kid s2.nodes;have b:ns3=s2.nodes.set n { x with kids:=x.kids++ [kid],til:=fA s2.nodes kid }:=by
     rw[<-d];unfold kK;exact uY _ n _ x f
    have o:ns3.length=s2.nodes.length:=(by rw[b,List.length_set]);rw[d];refine⟨{ x with kids:=x.kids++ [kid],til:=fA s2.nodes kid },by rw[b,List.getElem?_set_self i],rfl,?_⟩;simp only[];have c: ∀k' m',n<k'->dL s s2.nodes m k' m'->dL s ns3 m k' m':=λk' m' w r=>r.mono (λj y t v p=>by rw[b,List.getElem?_set_ne (by omega)];exact p);refine cO.snoc (k:=kid) ?_ (by rw[o];exact c _ _ (by omega) g);rw[g1];exact hK.imp _ (λk m h=>dL.lt h) (λk' m' w r t=>c k' m' (by omega) (t.mono (λj y v p u=>by rw[g2,kP (by omega)];exact u)))
theorem Nb {s:aA}{sp:List (Nat×Nat)} (hsp:dH s sp) {V:YB} (hG:gA s sp V) {m:Nat} (hV:rU s sp m V) {map:Bool}{n:Nat}{ind kind:Int}: ∀(f:Nat) (had:List aA) (k:Nat) (st:YS) (x:aG),
  dI s sp st->(k<sp.length->k+1=st.lines.length)->st.nodes[n]?=some x->x.kind≠1->cO (dL s st.nodes m) x.kids (n+1) st.nodes.length->xI s (m+1) (jQ s sp V map n ind kind f had k st)
 | 0,had,k,st,x,hw,hk,hx,hx1,hK=>⟨x,hx,λe=>absurd e hx1,hK⟩
 | f+1,had,k,st,x,hw,hk,hx,hx1,hK=>by
  unfold jQ;split
  ·rename_i hc;cases ho:gM s sp V map n ind had k st with
   | bad a e=>trivial
   | ok nx s2 had'=>
    obtain⟨x',h1,hx1',h2⟩:=aAz hG hV hw (hk hc.1) hx hK ho;obtain⟨_,_,_,c,h4,h5,b⟩:=Dy hsp hG hw (hk hc.1) hx ho;exact Nb hsp hG hV f had' nx s2 x' c b h1 (by rw[hx1'];exact hx1) h2
  ·exact⟨x,hx,λe=>absurd e hx1,hK⟩
theorem Nc {s:aA}{sp:List (Nat×Nat)} (hsp:dH s sp) {V:YB} (lv:Nat) (hG:lv≠0->gA s sp V) (hV: ∀m,lv=m+1->rU s sp m V):rU s sp lv (lR s sp V lv):=by
 intro k kf kt st a b;unfold lR;simp only[];split
 ·exact Ek
 ·split
  ·trivial
  ·rename_i n1 s1 c;obtain⟨rfl,rfl,d,h4⟩:=mL c;obtain⟨m,rfl⟩: ∃m,lv=m+1:=⟨lv-1,by omega⟩;have htot:=a.tot;refine Nb hsp (hG d) (hV m rfl) _ _ _ _ _ ⟨a.ls,by simp only[aW,dU];omega⟩ (λ_=>b) (by simp;rfl) (by simp only[];split<;>decide) ?_;show st.nodes.length+1=_;simp
theorem Nd {s:aA}{sp:List (Nat×Nat)} (hsp:dH s sp): ∀lv,rU s sp lv (oD s sp lv)
 | 0=>Nc hsp 0 (λh=>absurd rfl h) (λm h=>by omega)
 | lv+1=>Nc hsp (lv+1) (λ_=>zH hsp (qT hsp lv) lv) (λm h=>by obtain rfl:m=lv:=(by omega);exact aAx hsp (Nd hsp m))
structure pV (s:aA) (d:cF):Prop where
 treeD:dL s d.nodes 32 0 d.nodes.length
 cnt:d.nodes.length<=4096
 lns:d.lines.length<=(dX s).length
 ok:lB s (dX s) d.lines
theorem Nf {s:aA}{d:cF}{a:Int} (h:kL s (dX s)=(d,a,0)):pV s d:=by
 have c:=De s;have m:lB s (dX s) []:=⟨bM _,λi l=>absurd l (pA _)⟩;have b:=lC c (k:=0) (lines:= []) (aE _) m (λi _ l=>absurd l (pA _));unfold kL at h;cases hN:gH s (dX s) 0 [] with
 | bad a' e'=>
  rw[hN] at b h;simp only[Prod.mk.injEq] at h;exact absurd h.2.2 b.2.2
 | ok k ls=>
  rw[hN] at b h;simp only[] at b h;by_cases hk:k<(dX s).length
  ·rw [if_neg (λe=>e hk)] at h;have o:dI s (dX s) ⟨ls,[],0⟩:=⟨b.ok,by simp⟩;have j:=qT c 32 k 0 0 ⟨ls,[],0⟩ o (b.hit hk).1.symm;have g:=Nd c 32 k 0 0 ⟨ls,[],0⟩ o (b.hit hk).1.symm;cases hB:oD s (dX s) 32 k 0 0 ⟨ls,[],0⟩ with
   | bad a' e'=>
    rw[hB] at j h;simp only[Prod.mk.injEq] at h;exact absurd h.2.2 (show 0<=a'/\a'<=(s.length:Int)/\e'≠0 from j).2.2
   | ok n st=>
    rw[hB] at j g h;obtain⟨g1,_,_,g4,g5,g6⟩:=(show kM s (dX s) k ⟨ls,[],0⟩ n st from j);have g10:n=0:=g1;subst g10;have g:dL s st.nodes 32 0 st.nodes.length:=g;have f:=lC c (k:=fA st.nodes 0) g4.2 g6.ls g5;simp only[] at h;cases hN2:gH s (dX s) (fA st.nodes 0) st.lines with
    | bad a' e'=>
     rw[hN2] at f h;simp only[Prod.mk.injEq] at h;exact absurd h.2.2 f.2.2
    | ok k2 ls2=>
     rw[hN2] at f h;simp only[] at h f;split at h
     ·simp only[Prod.mk.injEq] at h;exact absurd h.2.2 (by decide)
     ·injection h with e1 e2;subst e1;exact⟨g,by have:=g6.tot;simp only[];omega,f.ok.1,f.ok⟩
  ·rw[if_pos hk] at h;injection h with e1 e2;subst e1;exact⟨⟨_,rfl,λ_=>by unfold dG;rw[Nat.sub_self,List.take_zero];decide,rfl⟩,by simp,b.ok.1,b.ok⟩
theorem pV.tree {s:aA}{d:cF} (h:pV s d):eB d.nodes 32 0 d.nodes.length:=h.treeD.tky
theorem eB.sub {ns:List aG}: ∀ {lv k hi:Nat},eB ns lv k hi-> ∀j,k<=j->j<hi-> ∃m,eB ns lv j m
 | lv+1,k,hi,h,j,h1,h2=>by
  by_cases hjk:j=k
  ·subst hjk;exact⟨hi,h⟩
  ·obtain⟨x,hx,hK⟩:=h;have key: ∀(l:List Nat) (a:Nat),cO (eB ns lv) l a hi->a<=j-> ∃m,eB ns lv j m:=by
    intro l
    induction l with
    | nil=>intro a h c;have:a=hi:=h;omega
    | cons y l ih=>
     intro a h c;obtain⟨rfl,m,e,d⟩:=h;by_cases b:m<=j
     ·exact ih m d b
     ·exact eB.sub e j c (by omega)
   obtain⟨m,b⟩:=key _ _ hK (by omega);exact⟨m,b.up⟩
theorem Ng {P:Nat->Nat->Prop} (hlt: ∀k m,P k m->k<m) {hi:Nat}: ∀ {l:List Nat}{a:Nat},cO P l a hi->a+l.length<=hi
 | [],a,h=>nQ h
 | y::l,a,h=>by
  obtain⟨rfl,m,h2,h3⟩:=h;have h4:=hlt _ _ h2;have:=Ng hlt h3;rw[aV];omega
theorem pV.node {s:aA}{d:cF} (h:pV s d) {k:Nat} (hk:k<d.nodes.length): ∃m,eB d.nodes 32 k m/\m<=d.nodes.length:=by
 obtain⟨m,b⟩:=h.tree.sub k (bM _) hk;refine⟨m,b,?_⟩;have: ∀ {lv k m:Nat},eB d.nodes lv k m->m<=d.nodes.length:=by
  intro lv
  induction lv with
  | zero=>intro k m h;exact h.elim
  | succ lv ih=>
   intro k m h;obtain⟨x,i,g⟩:=h;have hkl:=(aR.1 i).1;have: ∀(l:List Nat) (a:Nat),a<=d.nodes.length->cO (eB d.nodes lv) l a m->m<=d.nodes.length:=by
    intro l
    induction l with
    | nil=>intro a e h;have:a=m:=h;omega
    | cons y l ih2=>
     intro a e h;obtain⟨rfl,q,f,c⟩:=h;exact ih2 q (ih f) c
   exact this _ _ (by omega) g
 exact this b
theorem pV.kids {s:aA}{d:cF} (h:pV s d) {k:Nat}{x:aG} (hx:d.nodes[k]?=some x):x.kids.length<=4096:=by
 obtain⟨m,b,hml⟩:=h.node (aR.1 hx).1;obtain⟨x',a,c⟩:=b;rw[hx] at a;obtain rfl:=bD a;have:=Ng (λ_ _=>eB.lt) c;have:=h.cnt;omega
end
section
open Go.RowKit
open Go.Lib hiding intOf
def mN:Nat->VT->Prop
 | 0,_=>True
 | n+1,t=>t.keys.length<=1073741824/\t.items.length<=1073741824/\ ∀x∈t.items,mN n x
def Nh (t t2:VT) (e:Ending):Prop:= ∃b:Bool,e= .returned (.bool b)/\(t=t2->b=true)
def Em (n:Nat):Prop:= ∀(t t2:VT) (kv iv kv2 iv2:Value) (w:World),VD w n t kv iv->VD w n t2 kv2 iv2->mN n t->mN n t2->Calls Tryz.prog 8 #[vv t kv iv,vv t2 kv2 iv2] w λe w'=>Nh t t2 e/\Below w.heap.size w w'
theorem aAA (n:Nat) (IH:Em n):Em (n+1):=by
 intro t t2 kv iv kv2 iv2 w h h' F l;obtain⟨m',hm,⟨pk,ck,rfl,al,v⟩,p,c,rfl,ao,aa⟩:=h.parts;obtain rfl:n=m':=by omega
 obtain⟨m2,ar,⟨pk2,ck2,rfl,ai,m⟩,p2,c2,rfl,ah,S⟩:=h'.parts;obtain rfl:n=m2:=by omega
 obtain⟨X,hX⟩:=exQ<|w.heap.size;obtain⟨W1,I⟩:=exQ<|w.alloc (.cells #[.int .i64 t.kind, .string (bs t.text), .slice pk t.keys.length ck, .slice p t.items.length c] 26);obtain⟨X2,aj⟩:=exQ<|W1.heap.size;obtain⟨W2,H⟩:=exQ<|W1.alloc (.cells #[.int .i64 t2.kind, .string (bs t2.text), .slice pk2 t2.keys.length ck2, .slice p2 t2.items.length c2] 26);have ag:Below w.heap.size w W1:=by rw[<-I];exact aI _ _
 have E:Below W1.heap.size W1 W2:=by rw[<-H];exact aI _ _
 have D:=hid (aC ag E);have N:Hid (cV W2 X t (.slice pk t.keys.length ck) (.slice p t.items.length c)):=hid (cV.keep (by rw[<-I,<-hX];exact cV.new w t _ _) E);have r:Hid (cV W2 X2 t2 (.slice pk2 t2.keys.length ck2) (.slice p2 t2.items.length c2)):=hid (by rw[<-H,<-aj];exact cV.new W1 t2 _ _);have an:=hid (aa.keep D.out);have ae:=hid (S.keep D.out);have aq:=hid (v.keep D.out);have ad:=hid (m.keep D.out);obtain⟨k1,O⟩:=exQ<|t.kind;obtain⟨k2,L⟩:=exQ<|t2.kind;obtain⟨x1,G⟩:=exQ<|t.text;obtain⟨x2,K⟩:=exQ<|t2.text;obtain⟨n1,B⟩:=exQ<|t.keys.length;obtain⟨n2,z⟩:=exQ<|t2.keys.length;obtain⟨i1,k⟩:=exQ<|t.items.length;obtain⟨i2,C⟩:=exQ<|t2.items.length;unfold cV at N r;unfold vv;rw[O,G,B,k] at I N;rw[L,K,z,C] at H r;rw[O,L,G,K,B,z,k,C];have Q:=hid (aJ B (aJ z (aJ k C)));have am:Hid (n1<=1073741824/\i1<=1073741824/\n2<=1073741824/\i2<=1073741824):=hid (by rw[<-B,<-z,<-k,<-C];exact⟨F.1,F.2.1,l.1,l.2.1⟩);have ab:Hid ((∀x∈t.items,mN n x)/\ ∀x∈t2.items,mN n x):=hid ⟨F.2.2,l.2.2⟩;have M:=hid (aJ O (aJ L (aJ G K)));clear aa v h hm ag E S m h' ar O L G K B z k C F l al ai ao ah;have hq:=am.out;have Z:Hid (∀w',Below W2.heap.size W2 w'->(w'.cell? ⟨X,0,none⟩=some (.int .i64 k1)/\w'.cell? ⟨X,1,none⟩=some (.string (bs x1))/\w'.cell? ⟨X,2,none⟩=some (.slice pk n1 ck)/\w'.cell? ⟨X,3,none⟩=some (.slice p i1 c))/\w'.cell? ⟨X2,0,none⟩=some (.int .i64 k2)/\w'.cell? ⟨X2,1,none⟩=some (.string (bs x2))/\w'.cell? ⟨X2,2,none⟩=some (.slice pk2 n2 ck2)/\w'.cell? ⟨X2,3,none⟩=some (.slice p2 i2 c2)):=hid (λw' h=>by obtain⟨e0,e1,e2,e3,_⟩:=bC ((h.block X (aF N.out)).trans N.out);obtain⟨f0,f1,f2,f3,_⟩:=bC ((h.block X2 (aF r.out)).trans r.out);exact⟨⟨e0,e1,e2,e3⟩,f0,f1,f2,f3⟩);have d:Hid (∀(b:Bool) w',(t=t2->b=true)->Below W2.heap.size W2 w'->Nh t t2 (.returned (.bool b))/\Below w.heap.size w w'):=hid (λb w' hb h=>⟨⟨b,rfl,hb⟩,aC D.out h⟩);go_enter Tryz.func8,Tryz.ntmps8;go_upto_region 1 with fail;clear I H aj;obtain⟨⟨b0,b1,b2,b3⟩,d0,d1,d2,d3⟩:=Z.out W2 (aB _ _);by_cases hk:k1=k2;rotate_left
 ·have s:=hid hk;have ek:(k1 !=k2)=true:=by simpa using hk
  have ekb:(k1==k2)=false:=by simpa using hk
  go_wp2_with fail;go_ret;exact d.out _ _ (λe=>absurd (by rw[<-M.out.1,<-M.out.2.1,e]) s.out) (by first | exact aB _ _ | exact(aB _ _).drew)
 have ek:(k1 !=k2)=false:=by simpa using hk
 have ekb:(k1==k2)=true:=by simpa using hk
 obtain⟨q1,et⟩:=exQ ((bs x1).toList==(bs x2).toList);have et2:((bs x1).toList !=(bs x2).toList)=!q1:=by rw[<-et];rfl
 have W:=hid et;cases q1 with
 | false=>
  clear hk;go_wp2_with fail;go_ret;exact d.out _ _ (λe=>by have:=W.out;rw[<-M.out.2.2.1,<-M.out.2.2.2,e] at this;simp at this) (by first | exact aB _ _ | exact(aB _ _).drew)
 | true=>
 by_cases hn:n1=n2;rotate_left
 ·have s:=hid hn;have el:((n1:Int) !=(n2:Int))=true:=by simp;omega
  have el2:(n1 !=n2)=true:=by simpa using hn
  have el3:((n1:Int)==(n2:Int))=false:=by simp;omega
  have el4:(n1==n2)=false:=by simpa using hn
  clear hk;go_wp2_with fail;go_ret;exact d.out _ _ (λe=>absurd (by rw[<-Q.out.1,<-Q.out.2.1,e]) s.out) (by first | exact aB _ _ | exact(aB _ _).drew)
 by_cases hi:i1=i2;rotate_left
 ·have s:=hid hi;have ei:((i1:Int) !=(i2:Int))=true:=by simp;omega
  have ei2:(i1 !=i2)=true:=by simpa using hi
  have ei3:((i1:Int)==(i2:Int))=false:=by simp;omega
  have ei4:(i1==i2)=false:=by simpa using hi
  clear hk;subst hn;go_wp2_with fail;go_ret;exact d.out _ _ (λe=>absurd (by rw[<-Q.out.2.2.1,<-Q.out.2.2.2,e]) s.out) (by first | exact aB _ _ | exact(aB _ _).drew)
 subst hn hi;clear hk;go_wp2_with fail;clear b0 b1 b2 b3 d0 d1 d2 d3;go_loopw [5] (λs5 wr=> ∃i:Nat,s5= .int .i64 (i:Int)/\i<=n1/\Hid (Below W2.heap.size W2 wr)) (λs5 _=>n1-(RowKit.intOf s5).toNat)
 case atStart=>exact⟨0,rfl,bM _,hid (by first | exact aB _ _ | exact(aB _ _).drew)⟩
 case round=>
  obtain⟨i,rfl,hi,f⟩:=hrel;obtain⟨⟨b0,b1,b2,b3⟩,d0,d1,d2,d3⟩:=Z.out wr f.out;by_cases hil:i<n1
  ·obtain⟨x,R⟩: ∃x,t.keys[i]?=some x:=⟨_,bE (by rw[Q.out.1];exact hil)⟩;obtain⟨y,P⟩: ∃x,t2.keys[i]?=some x:=⟨_,bE (by rw[Q.out.2.1];exact hil)⟩;have k:(i:Int)<(n1:Int):=(by omega);have dk:decide ((i:Int)<(n1:Int))=true:=aM k;obtain⟨g,o,rfl,cx⟩:=(aq.out.keep f.out).at_ R;obtain⟨g2,o2,rfl,cx2⟩:=(ad.out.keep f.out).at_ P;obtain⟨q,ex⟩:=exQ ((bs x).toList==(bs y).toList);have ex2:((bs x).toList !=(bs y).toList)=!q:=by rw[<-ex];rfl
   have W:=hid ex;have Y:=hid (aJ R P);have hi0:(0:Int)<=(i:Int):=(by omega);clear R P;go_upto_region 6 with fail;go_region
   all_goals
    cases q with
    | false=>
     go_wp2_with fail;go_ret;exact d.out _ _ (λe=>by have h1:=W.out;have V:=Y.out;rw[e,V.2] at V;rw[bD V.1] at h1;simp at h1) (by first | exact f.out | exact f.out.drew)
    | true=>
     go_wp2_with fail;go_roundw
     case rel=>exact⟨i+1,by go_num,by omega,by first | exact f | exact hid (below_drewN f.out _)⟩
     case measure=>simp[RowKit.intOf];omega
  ·have dk:decide ((i:Int)<(n1:Int))=false:=aH (by omega);go_wp2_with fail;clear b0 b1 b2 b3 d0 d1 d2 d3;go_loopw [6,7] (λs6 s7 wq=> ∃i:Nat,s6= .int .i64 (i:Int)/\i<=i1/\Hid (Below W2.heap.size W2 wq)) (λs6 _ _=>i1-(RowKit.intOf s6).toNat)
   case atStart=>exact⟨0,rfl,bM _,f⟩
   case round=>
    obtain⟨j,rfl,hj,a⟩:=hrel;obtain⟨⟨b0,b1,b2,b3⟩,d0,d1,d2,d3⟩:=Z.out wr a.out;by_cases hjl:j<i1
    ·obtain⟨x,R⟩: ∃x,t.items[j]?=some x:=⟨_,bE (by rw[Q.out.2.2.1];exact hjl)⟩;obtain⟨y,P⟩: ∃x,t2.items[j]?=some x:=⟨_,bE (by rw[Q.out.2.2.2];exact hjl)⟩;have ap:(j:Int)<(i1:Int):=(by omega);have dk2:decide ((j:Int)<(i1:Int))=true:=aM ap;have Y:=hid (aJ R P);obtain⟨g,o,kv',iv',rfl,hg,n0,n1',n2,n3,U⟩:=an.out j x R;obtain⟨pk3,ck3,px,cx,rfl,rfl⟩:=U.form;obtain⟨g2,o2,kv'',iv'',rfl,A,z0,z1,z2,z3,u⟩:=ae.out j y P;obtain⟨pk4,ck4,px2,cx2,rfl,rfl⟩:=u.form;have m0:wr.cell? ⟨g,o+j*4,none⟩=some (.int .i64 x.kind):=by rw[a.out.cell (p:=⟨g,_,none⟩) hg];exact n0
     have m1:wr.cell? ⟨g,o+j*4+1,none⟩=some (.string (bs x.text)):=by rw[a.out.cell (p:=⟨g,_,none⟩) hg];exact n1'
     have m2:wr.cell? ⟨g,o+j*4+2,none⟩=some (.slice pk3 x.keys.length ck3):=by rw[a.out.cell (p:=⟨g,_,none⟩) hg];exact n2
     have m3:wr.cell? ⟨g,o+j*4+3,none⟩=some (.slice px x.items.length cx):=by rw[a.out.cell (p:=⟨g,_,none⟩) hg];exact n3
     have q0:wr.cell? ⟨g2,o2+j*4,none⟩=some (.int .i64 y.kind):=by rw[a.out.cell (p:=⟨g2,_,none⟩) A];exact z0
     have q1:wr.cell? ⟨g2,o2+j*4+1,none⟩=some (.string (bs y.text)):=by rw[a.out.cell (p:=⟨g2,_,none⟩) A];exact z1
     have q2:wr.cell? ⟨g2,o2+j*4+2,none⟩=some (.slice pk4 y.keys.length ck4):=by rw[a.out.cell (p:=⟨g2,_,none⟩) A];exact z2
     have q3:wr.cell? ⟨g2,o2+j*4+3,none⟩=some (.slice px2 y.items.length cx2):=by rw[a.out.cell (p:=⟨g2,_,none⟩) A];exact z3
     have HC:=hid (IH x y _ _ _ _ wr.drew ((U.keep a.out).keep (aB _ _).drew) ((u.keep a.out).keep (aB _ _).drew) (ab.out.1 x (aX R)) (ab.out.2 y (aX P)));unfold vv at HC;have hj0:(0:Int)<=(j:Int):=(by omega);clear R P n0 n1' n2 n3 z0 z1 z2 z3 U u hg A;go_upto_region 11 with fail;go_region_with (go_at_call 8;(refine HC.out.mono ?_);rintro e w6 ⟨⟨bq,rfl,af⟩,ak⟩)
     all_goals
      have J:=hid (aC a.out (aC (aB _ _).drew ak));have T:=hid af;clear af ak b0 b1 b2 b3 d0 d1 d2 d3 m0 m1 m2 m3 q0 q1 q2 q3;cases bq with
      | false=>
       have T:Hid (x=y->False):=hid (λe=>by cases T.out e);go_wp2_with fail;go_ret;exact d.out _ _ (λe=>by have V:=Y.out;rw[e,V.2] at V;exact(T.out (bD V.1).symm).elim) (by first | exact J.out | exact J.out.drew)
      | true=>
       go_wp2_with fail;go_roundw
       case rel=>exact⟨j+1,by go_num,by omega,by first | exact J | exact hid (below_drewN J.out _)⟩
       case measure=>simp[RowKit.intOf];omega
    ·have dk2:decide ((j:Int)<(i1:Int))=false:=aH (by omega);go_wp2_with fail;go_ret;exact d.out _ _ (λ_=>rfl) (by first | exact a.out | exact a.out.drew)
theorem Ni: ∀n,Em n
 | 0=>λ_ _ _ _ _ _ _ h _ _ _=>h.elim
 | n+1=>aAA n (Ni n)
end
section
open Go.Lib hiding intOf
theorem Nj {s:aA} (h:s.length<=65536):gI s=kL s (dX s):=by unfold gI;rw[if_neg (by omega)]
def kN (M:Nat) (ns:List aG):Prop:= ∀x∈ns,x.fr<=M/\x.til<=M
def En (M:Nat) (R:YR):Prop:= ∀n st,R= .ok n st->kN M st.nodes
def qV (M:Nat) (V:YB):Prop:= ∀k kf kt st,k<M->kN M st.nodes->En M (V k kf kt st)
theorem kN.snoc {M:Nat}{ns:List aG}{x:aG} (h:kN M ns) (hx:x.fr<=M/\x.til<=M):kN M (ns++ [x]):=by
 intro y b;rcases nN.1 b with a | a
 ·exact h y a
 ·rw[iQ.1 a];exact hx
theorem kN.til {M:Nat}{ns:List aG} (h:kN M ns) (k:Nat):fA ns k<=M:=by
 unfold fA;split
 ·rename_i x a;exact(h x (aX a)).2
 ·exact bM _
theorem kN.mod {M:Nat}{f:aG->aG} (hf: ∀x:aG,x.fr<=M/\x.til<=M->(f x).fr<=M/\(f x).til<=M): ∀ {n:Nat}{ns:List aG},kN M ns->kN M (oC f n ns)
 | _,[],h=>by unfold oC;exact h
 | 0,x::l,h=>λy hy=>by
  rcases dC.1 hy with e | e
  ·rw[e];exact hf x (h x (gS ..))
  ·exact h y (List.mem_cons_of_mem _ e)
 | n+1,x::l,h=>λy hy=>by
  rcases dC.1 hy with e | e
  ·rw[e];exact h x (gS ..)
  ·exact kN.mod hf (n:=n) (ns:=l) (λz hz=>h z (List.mem_cons_of_mem _ hz)) y e
theorem Eo {s:aA}{ind:Int}{M:Nat}: ∀(r:List (Nat×Nat)) (i til first:Nat),til<=M->i+r.length<=M->lO s ind r i til first<=M
 | [],_,_,_,h,_=>h
 | x::r,i,til,first,h,h2=>by
  rw[aV] at h2;unfold lO;split
  ·exact Eo r _ _ _ h (by omega)
  ·split
   ·exact h
   ·exact Eo r _ _ _ (by omega) (by omega)
theorem Ep {s:aA}{lv M:Nat}:qV M (iU s lv):=by
 intro k kf kt st hk h n st' e;unfold iU at e;split at e
 ·cases e
 ·rename_i n1 s1 a;obtain⟨rfl,rfl,_,_⟩:=mL a;simp only[] at e;split at e
  ·cases e
  ·split at e
   ·cases e
   ·split at e
    ·cases e
    ·injection e with e1 e2;subst e2;exact h.snoc ⟨by simp only[];omega,by simp only[];omega⟩
theorem aAB {s:aA}{sp:List (Nat×Nat)}{lv:Nat}:qV sp.length (mK s sp lv):=by
 intro k kf kt st hk h n st' e;unfold mK at e;split at e
 ·cases e
 ·rename_i n1 s1 a;obtain⟨rfl,rfl,_,_⟩:=mL a;simp only[] at e;split at e
  ·cases e
  ·injection e with e1 e2;subst e2;refine h.snoc ⟨by simp only[];omega,?_⟩;exact Eo _ _ _ _ (by omega) (by rw[bB];omega)
theorem aAC {s:aA}{sp:List (Nat×Nat)}{B:YB}{lv:Nat} (hB:qV sp.length B):qV sp.length (nD s sp B lv):=by
 intro k kf kt st a h;unfold nD;simp only[];split
 ·exact aAB k kf kt st a h
 ·split
  ·split
   ·intro n st' e;cases e
   ·rename_i nx ls hm;split
    ·rename_i b;exact hB nx kf kt ⟨ls,st.nodes,st.total⟩ b.1 h
    ·exact Ep k kf kt _ a h
  ·exact Ep k kf kt _ a h
theorem aAD {s:aA}{sp:List (Nat×Nat)}{V:YB} (hV:qV sp.length V) {map:Bool}{n:Nat}{ind:Int}{had had':List aA}{k nx:Nat}{st s3:YS} (hk:k<sp.length) (hN:kN sp.length st.nodes) (h:gM s sp V map n ind had k st= .ok nx s3 had'):kN sp.length s3.nodes:=by
 have b:En sp.length (fQ s V map had k st).1:=by
  unfold fQ;split
  ·simp only[];split
   ·intro n st' e;cases e
   ·split
    ·intro n st' e;cases e
    ·exact hV _ _ _ _ hk hN
  ·exact hV _ _ _ _ hk hN
 unfold gM at h;obtain⟨⟨Q,had2⟩,g⟩:=exQ<|fQ s V map had k st;rw[g] at h b;cases Q with
 | bad a e=>cases h
 | ok kid s2=>
  have c:=b kid s2 rfl;simp only[] at h;split at h
  ·cases h
  ·split at h
   ·cases h
   ·injection h with e1 e2 e3;subst e2;exact kN.mod (f:=λx=> { x with kids:=x.kids++ [kid],til:=fA s2.nodes kid }) (λx d=>⟨d.1,c.til kid⟩) c
theorem Nk {s:aA}{sp:List (Nat×Nat)}{V:YB} (hV:qV sp.length V) {map:Bool}{n:Nat}{ind kind:Int}: ∀(f:Nat) (had:List aA) (k:Nat) (st:YS),kN sp.length st.nodes->En sp.length (jQ s sp V map n ind kind f had k st)
 | 0,had,k,st,h=>λn st' e=>by
  injection e with e1 e2;subst e2;exact h
 | f+1,had,k,st,h=>by
  unfold jQ;split
  ·rename_i hc;cases ho:gM s sp V map n ind had k st with
   | bad a e=>intro n st' e;cases e
   | ok nx s2 had'=>exact Nk hV f had' nx s2 (aAD hV hc.1 h ho)
  ·intro n st' e;injection e with e1 e2;subst e2;exact h
theorem Nl {s:aA}{sp:List (Nat×Nat)}{V:YB} (lv:Nat) (hV:qV sp.length V):qV sp.length (lR s sp V lv):=by
 intro k kf kt st a h;unfold lR;simp only[];split
 ·exact Ep k kf kt st a h
 ·split
  ·intro n st' e;cases e
  ·rename_i n1 s1 b;obtain⟨rfl,rfl,_,_⟩:=mL b;exact Nk hV _ _ _ _ (h.snoc ⟨by simp only[];omega,by simp only[];omega⟩)
theorem Nm {s:aA}{sp:List (Nat×Nat)}: ∀lv,qV sp.length (oD s sp lv)
 | 0=>Nl 0 (λ_ _ _ _ _ _ n st' e=>by cases e)
 | lv+1=>Nl (lv+1) (aAC (Nm lv))
theorem aAE {s:aA}{d:cF}{a er:Int} (h:kL s (dX s)=(d,a,er)):kN (dX s).length d.nodes:=by
 have e:=Nm (s:=s) (sp:=dX s) 32;unfold kL at h;split at h
 ·injection h with e1 e2;subst e1;intro x b;cases b
 ·rename_i k ls hm;split at h
  ·injection h with e1 e2;subst e1;intro x b;rw[iQ.1 b];exact⟨bM _,bM _⟩
  ·rename_i hk;have f:=e k 0 0 ⟨ls,[],0⟩ (by omega) (λx b=>by cases b)
   revert h
   split
   ·intro h;injection h with e1 e2;subst e1;intro x b;cases b
   ·rename_i n st c;have g:=f n st c;split
    ·intro h;injection h with e1 e2;subst e1;intro x b;cases b
    ·split
     ·intro h;injection h with e1 e2;subst e1;intro x b;cases b
     ·intro h;injection h with e1 e2;subst e1;exact g
theorem vC (n:Nat) {t:VT} (h1:t.keys.length<=1073741824) (h2:t.items= []):mN n t:=by
 cases n with
 | zero=>trivial
 | succ n=>exact⟨h1,by rw[h2];exact bM _,λx a=>by rw[h2] at a;cases a⟩
theorem Nn {txt:aA}{ns:List aD} (hN:ns.length<=65536): ∀(lv k m n:Nat),dT ns lv k m->mN n (bN txt ns lv k)
 | 0,_,_,_,h=>h.elim
 | lv+1,k,m,0,h=>trivial
 | lv+1,k,m,n+1,h=>by
  obtain⟨x,hx⟩: ∃x,ns[k]?=some x:=by obtain⟨x,hx,_⟩:=h;exact⟨x,hx⟩
  have hl:=Kn h hx hN;have d:bN txt ns (lv+1) k= .mk (x.kind:Int) (mD x.kind (cZ txt (x.sf,x.st))) (if x.kind=6 then x.kids.map (cE txt ns) else []) (x.kids.map (bN txt ns lv)):=by rw[bN,hx]
  rw[d];refine⟨?_,?_,λy c=>?_⟩
  ·show (if x.kind=6 then x.kids.map (cE txt ns) else []).length<=_;split
   ·rw[bK];omega
   ·exact bM _
  ·show (x.kids.map (bN txt ns lv)).length<=_;rw[bK];omega
  ·obtain⟨q,b,rfl⟩:=oQ.1 (show y∈x.kids.map (bN txt ns lv) from c);obtain⟨m2,a⟩:=(h.kid hx b).1;exact Nn hN lv q m2 n a
theorem aAF (t:aA) (n:Nat):mN n (fP t).1:=by
 have e: ∀t,mN n (kI t):=λt=>by
  unfold kI
  repeat' split
  all_goals exact vC n (bM _) rfl
 have b:mN n dP:=vC n (bM _) rfl;cases t with
 | nil=>exact e []
 | cons c r=>
  unfold fP;simp only[];split
  ·split
   ·exact b
   ·exact vC n (bM _) rfl
  ·split
   ·unfold fK;split
    ·exact b
    ·rename_i he;obtain⟨_,_,_,ns,_,_,a⟩:=Av (s:=c::r) (by omega);have d:=Ch (c::r);have f:=vV a;rw[a] at d;rw[a];exact Nn d 32 0 _ n f
   ·split
    ·exact e _
    ·exact b
theorem No {s:aA}{d:cF} (hk: ∀(k:Nat) (x:aG),d.nodes[k]?=some x->x.kids.length<=4096): ∀(lv k n:Nat),mN n (aN s d lv k)
 | _,_,0=>trivial
 | 0,_,n+1=>vC (n+1) (bM _) rfl
 | lv +1,k,n+1=>by
  unfold aN;split
  ·exact vC (n+1) (bM _) rfl
  ·rename_i x hx;have hl:=hk k x hx;split
   ·exact aAF _ _
   ·split
    ·exact vC (n+1) (bM _) rfl
    ·refine⟨?_,?_,λy a=>?_⟩
     ·show (if x.kind=3 then x.kids.map (cX s d.nodes) else []).length<=_;split
      ·rw[bK];omega
      ·exact bM _
     ·show (x.kids.map (aN s d lv)).length<=_;rw[bK];omega
     ·obtain⟨q,hq,rfl⟩:=oQ.1 (show y∈x.kids.map (aN s d lv) from a);exact No hk lv q n
structure aAG (s:aA) (d:cF):Prop where
 b:rT s d
 i: ∀l∈d.lines,l.ind<=1099511627776
 t:eB d.nodes 32 0 d.nodes.length
 c:d.nodes.length<=4096
 l: ∀n,mN n (aN s d 32 0)
theorem Np {s:aA}{d:cF}{a:Int} (hs:s.length<=65536) (h:gI s=(d,a,0)):aAG s d:=by
 rw[Nj hs] at h;have b:=Nf h;have q:=aAE h;have i:(dX s).length<=s.length+1:=by
  unfold dX;rw[yZ];exact(rS s 0 0).1
 have c:d.lines.length<=s.length+1:=aY b.lns i;have o: ∀l∈d.lines,0<=l.ind/\l.ind<=(s.length:Int):=by
  intro l c;obtain⟨j,f,e⟩:=List.mem_iff_getElem.1 c;have p:=(b.ok.2 j f).ind;rw[show aU d.lines j=l by unfold aU;rw[bE f,e];rfl] at p;omega
 refine⟨⟨hs,by omega,by have:=b.cnt;omega,λx g=>?_,λl c=>(o l c).1⟩,λl c=>by have:=(o l c).2;omega,b.tree,b.cnt,λn=>No (λk x g=>b.kids g) 32 0 n⟩;obtain⟨j,f,e⟩:=List.mem_iff_getElem.1 g;have m:d.nodes[j]?=some x:=by rw[bE f,e]
 have p:=q x g;have h2:=b.kids m;exact⟨by omega,by omega,by omega⟩
end
section
open Go.RowKit
open Go.Lib hiding intOf
def qW (s:aA):VT:=if(gI s).2.2=0 then aN s (gI s).1 32 0 else dP
theorem fE.formsR {B:Nat}{d:cF}{lv nv:Value}{w:World} (h:fE B d lv nv w):(∃p c,lv= .slice p d.lines.length c)/\ ∃p c,nv= .slice p d.nodes.length c:=by
 obtain⟨z,f,i,j⟩:=h;have e:z.length=d.nodes.length:=by rw[<-f,bK]
 constructor
 ·rcases i.2 with⟨a,b⟩ | ⟨g,cap,cur,a,_⟩
  ·exact⟨none,0,by rw[a,b]⟩
  ·exact⟨_,_,a⟩
 ·rw[<-e];rcases j.row.2 with⟨a,b⟩ | ⟨g,cap,cur,a,_⟩
  ·exact⟨none,0,by rw[a,b]⟩
  ·exact⟨_,_,a⟩
theorem aAH {s:aA}{d:cF}{n:Int} (h:gI s=(d,n,0)):s.length<=65536:=by
 unfold gI at h;split at h
 ·simp at h
 ·omega
theorem Er (s:aA) (w:World) (hV:bU w):
  Calls Tryz.prog 7 #[.string (bs s)] w (qN (qW s) (gI s).2.1 (gI s).2.2 w):=by
 obtain⟨R,Z⟩:=exQ<|w.heap.size;obtain⟨W1,z⟩:=exQ<|w.alloc (.cells #[.int .i64 0, .string ⟨#[]⟩, .slice none 0 0, .slice none 0 0] 26);have u:Hid (Below w.heap.size w W1):=hid (by rw[<-z];exact aI _ _);have j:Hid (W1.heap[R]?=some (.cells #[.int .i64 0, .string (bs []), .slice none 0 0, .slice none 0 0] 26)):=hid (by rw[<-z,<-Z];exact heap_alloc_new w _);have l:=hid (aF j.out);have HV:=hid (hV.keep u.out);obtain⟨T,m⟩:=exQ<|qW s;rw[m];unfold qW at m;obtain⟨⟨d,n,er⟩,hP⟩:=exQ<|gI s;have CP:=hid (Ed s W1 HV.out);rw[hP] at CP m ⊢;have HP:=hid hP;simp only[] at m ⊢;clear hV hP;go_enter Tryz.func7,Tryz.ntmps7;go_upto_region 1 with fail;clear z;go_wp2_with fail;refine CP.out.mono ?_;rintro e w2 ⟨tx,lv,nv,rfl,g,W,C⟩;simp only[] at g;obtain⟨⟨pl,cl,r⟩,pn,cn,B⟩:=W.formsR;obtain⟨nl,H⟩:=exQ<|d.lines.length;obtain⟨nn,J⟩:=exQ<|d.nodes.length;simp only[] at r B;rw[H] at r;rw[J] at B;subst r B;have P:=hid C;have Q:=hid W;have X:=hid g;simp only[];clear W C g H J CP;obtain⟨D,A⟩:=exQ<|w2.heap.size;have b3:=aI w2 (.cells #[.string tx, .slice pl nl cl, .slice pn nn cn] 36);have x3:=heap_alloc_new w2 (.cells #[.string tx, .slice pl nl cl, .slice pn nn cn] 36);obtain⟨w3,p⟩:=exQ<|w2.alloc (.cells #[.string tx, .slice pl nl cl, .slice pn nn cn] 36);rw[p] at b3 x3;rw[A] at x3;have F:=hid b3;have k:Hid (Below W1.heap.size W1 w3):=hid (aC P.out b3);by_cases h0:er=0;rotate_left
 ·rw[if_neg h0] at m;subst m;have d0:(er !=0)=true:=by simpa using h0
  have a:=hid (iT (t:=dP) u.out (by rw[Z];exact aE _) l.out (pL _ _ _ _) k.out j.out);obtain⟨r0,r1,r2,r3,f0,f1,f2,f3⟩:=bC ((k.out.block R l.out).trans j.out);clear h0 b3 x3;go_wp2_with fail;clear p A;obtain⟨WF,f⟩:=exQ<|bG w3 R dP.kind dP.text (.slice none 0 0) (.slice none 0 0);rw[f] at a;have c:(((w3.setCell ⟨R,0,none⟩ (.int .i64 0)).setCell ⟨R,1,none⟩ (.string ⟨#[]⟩)).setCell ⟨R,2,none⟩ (.slice none 0 0)).setCell ⟨R,3,none⟩ (.slice none 0 0)=WF:=f;rw[c];clear f c r0 r1 r2 r3 f0 f1 f2 f3;obtain⟨d0,d1,d2,d3,_⟩:=bC a.out.2.2;refine bodyPost_ret (v:= .tuple #[vv dP (.slice none 0 0) (.slice none 0 0), .int .i64 n, .int .i64 er]) ?_ rfl ⟨⟨_,_,rfl,a.out.1⟩,a.out.2.1⟩;simp[results,Tryz.results7,go_sem,d0,d1,d2,d3,vv]
 subst h0;rw[if_pos rfl] at m;have g:=X.out;rw[if_pos rfl] at g;subst g;have S:=hid (Np (aAH HP.out) HP.out);have CN:Hid (∀w',Below w3.heap.size w3 w'->Calls Tryz.prog 13 #[.agg #[.string (bs s), .slice pl nl cl, .slice pn nn cn], .int .i64 0] w' (My T true w')):=hid (λw' h=>by have:=Ej s d S.out.b S.out.i _ _ _ 0 _ w' S.out.t ((Q.out.keep F.out).keep h) ((HV.out.keep k.out).keep h);rw[m] at this;exact this);obtain⟨c0,c1,c2,_⟩:=gJ x3;clear b3 x3 m;go_wp2_with fail;refine(CN.out _ (by first | exact aB _ _ | exact(aB _ _).drew)).mono ?_;rintro e w4 ⟨⟨kv,iv,rfl,Y⟩,C⟩;obtain⟨pk,ck,pi,ci,K,E⟩:=Y.form;obtain⟨nk,M⟩:=exQ<|T.keys.length;obtain⟨ni,N⟩:=exQ<|T.items.length;obtain⟨tk,x⟩:=exQ<|T.kind;obtain⟨tt,y⟩:=exQ<|T.text;rw[M] at K;rw[N] at E;subst K E;unfold vv;rw[x,y];have I:Hid (Below w3.heap.size w3 w4):=hid (by first | exact C | exact aC (aB _ _).drew C);have U:Hid (eZ W1.heap.size w4 T.depth T (.slice pk nk ck) (.slice pi ni ci)):=hid (Y.mono (ok':=λq=>W1.heap.size<=q) (λq hq _=>aY k.out.size hq));have o:=hid (aJ x y);clear Y C c0 c1 c2 CN p A x y M N;obtain⟨V,L⟩:=exQ<|w4.heap.size;have b5:=aI w4 (.cells #[.int .i64 tk, .string (bs tt), .slice pk nk ck, .slice pi ni ci] 26);have x5:=heap_alloc_new w4 (.cells #[.int .i64 tk, .string (bs tt), .slice pk nk ck, .slice pi ni ci] 26);obtain⟨w5,G⟩:=exQ<|w4.alloc (.cells #[.int .i64 tk, .string (bs tt), .slice pk nk ck, .slice pi ni ci] 26);rw[G] at b5 x5;rw[L] at x5;have O:Hid (Below W1.heap.size W1 w5):=hid (aC k.out (aC I.out b5));have a:=hid (iT u.out (by rw[Z];exact aE _) l.out (U.out.keep b5) O.out j.out);rw[o.out.1,o.out.2] at a;obtain⟨r0,r1,r2,r3,f0,f1,f2,f3⟩:=bC ((O.out.block R l.out).trans j.out);obtain⟨q0,q1,q2,q3,_⟩:=bC x5;clear b5 x5;go_wp2_with fail;clear G L;obtain⟨WF,f⟩:=exQ<|bG w5 R tk tt (.slice pk nk ck) (.slice pi ni ci);rw[f] at a;have c:(((w5.setCell ⟨R,0,none⟩ (.int .i64 tk)).setCell ⟨R,1,none⟩ (.string (bs tt))).setCell ⟨R,2,none⟩ (.slice pk nk ck)).setCell ⟨R,3,none⟩ (.slice pi ni ci)=WF:=f;rw[c];clear f c r0 r1 r2 r3 f0 f1 f2 f3 q0 q1 q2 q3;obtain⟨d0,d1,d2,d3,_⟩:=bC a.out.2.2;refine bodyPost_ret (v:= .tuple #[vv T (.slice pk nk ck) (.slice pi ni ci), .int .i64 n, .int .i64 0]) ?_ rfl ⟨⟨_,_,rfl,a.out.1⟩,a.out.2.1⟩;simp[results,Tryz.results7,go_sem,d0,d1,d2,d3,vv,o.out.1,o.out.2]
theorem aAI (w:World):Calls Tryz.prog 53 #[.int .i64 1] w λe w'=>e= .returned (.func (.func 6) #[] #[])/\Below w.heap.size w w':=by
 go_enter Tryz.func53,Tryz.ntmps53;go_wp2_with fail;go_ret;exact⟨rfl,by first | exact aB _ _ | exact(aB _ _).drew⟩
theorem aAJ (w:World):Calls Tryz.prog 53 #[.int .i64 2] w λe w'=>e= .returned (.func (.func 7) #[] #[])/\Below w.heap.size w w':=by
 go_enter Tryz.func53,Tryz.ntmps53;go_wp2_with fail;go_ret;exact⟨rfl,by first | exact aB _ _ | exact(aB _ _).drew⟩
theorem Nq (F:FuncId) (n:Int) (s:aA) (t:VT) (a er:Int) (w:World)
  (hent: ∀(args:Array Value) (w:World),(callFunc F args).run Tryz.prog w= .ok (.enter F args) w)
  (hr: ∀w:World,Calls Tryz.prog 53 #[.int .i64 n] w λe w'=>e= .returned (.func (.func F) #[] #[])/\Below w.heap.size w w')
  (hF: ∀w',Below w.heap.size w w'->Calls Tryz.prog F #[.string (bs s)] w' (qN t a er w')):
  Calls Tryz.prog 25 #[.int .i64 n, .string (bs s)] w (qN t a er w):=by
 obtain⟨R,E⟩:=exQ<|w.heap.size;obtain⟨W1,i⟩:=exQ<|w.alloc (.cells #[.int .i64 0, .string ⟨#[]⟩, .slice none 0 0, .slice none 0 0] 26);have j:Hid (Below w.heap.size w W1):=hid (by rw[<-i];exact aI _ _);have k:Hid (W1.heap[R]?=some (.cells #[.int .i64 0, .string (bs []), .slice none 0 0, .slice none 0 0] 26)):=hid (by rw[<-i,<-E];exact heap_alloc_new w _);have l:=hid (aF k.out);have CR:=hid (hr W1);have CF:=hid hF;clear hr hF;go_enter Tryz.func25,Tryz.ntmps25;go_upto_region 1 with fail;clear i;go_wp2_with fail;refine CR.out.mono ?_;rintro e w2 ⟨rfl,x⟩;have b:Hid (Below W1.heap.size W1 w2):=hid x;have p:=hent #[.string (bs s)] w2;clear x;go_wp2_with fail;refine(CF.out _ (by first | exact aC j.out b.out | exact(aC j.out b.out).drew)).mono ?_;rintro e w3 ⟨⟨kv,iv,rfl,C⟩,B⟩;obtain⟨pk,ck,pi,ci,m,o⟩:=C.form;obtain⟨nk,r⟩:=exQ<|t.keys.length;obtain⟨ni,u⟩:=exQ<|t.items.length;obtain⟨tk,f⟩:=exQ<|t.kind;obtain⟨tt,d⟩:=exQ<|t.text;rw[r] at m;rw[u] at o;subst m o;unfold vv;rw[f,d];have z:Hid (Below W1.heap.size W1 w3):=hid (by first | exact aC b.out B | exact aC b.out.drew B);have A:Hid (eZ W1.heap.size w3 t.depth t (.slice pk nk ck) (.slice pi ni ci)):=hid (C.mono (ok':=λq=>W1.heap.size<=q) (λq D _=>by have:=b.out.size;first | exact aY this D | exact aY b.out.drew.size D));have c:=hid (iT j.out (by rw[E];exact aE _) l.out A.out z.out k.out);have y:=hid (aJ f d);rw[f,d] at c;obtain⟨r0,r1,r2,r3,f0,f1,f2,f3⟩:=bC ((z.out.block R l.out).trans k.out);clear C B p f d r u;go_wp2_with fail;obtain⟨WF,h⟩:=exQ<|bG w3 R tk tt (.slice pk nk ck) (.slice pi ni ci);rw[h] at c;have g:(((w3.setCell ⟨R,0,none⟩ (.int .i64 tk)).setCell ⟨R,1,none⟩ (.string (bs tt))).setCell ⟨R,2,none⟩ (.slice pk nk ck)).setCell ⟨R,3,none⟩ (.slice pi ni ci)=WF:=h;rw[g];clear h g r0 r1 r2 r3 f0 f1 f2 f3;obtain⟨d0,d1,d2,d3,_⟩:=bC c.out.2.2;refine bodyPost_ret (v:= .tuple #[vv t (.slice pk nk ck) (.slice pi ni ci), .int .i64 a, .int .i64 er]) ?_ rfl ⟨⟨_,_,rfl,c.out.1⟩,c.out.2.1⟩;simp[results,Tryz.results25,go_sem,d0,d1,d2,d3,vv,y.out.1,y.out.2]
theorem aAK (s:aA) (w:World) (hs:s.length<=1073741824) (hV:bU w):Calls Tryz.prog 25 #[.int .i64 1, .string (bs s)] w (qN (fK s).1 (fK s).2.1 (fK s).2.2 w):=
 Nq _ 1 s _ _ _ w (xF Tryz.func6 (of_decide_eq_false (by kernel_rfl)) (by kernel_rfl)) aAI (λw' h=>Kr s w' hs (hV.keep h))
theorem aAL (s:aA) (w:World) (hV:bU w):Calls Tryz.prog 25 #[.int .i64 2, .string (bs s)] w (qN (qW s) (gI s).2.1 (gI s).2.2 w):=
 Nq _ 2 s _ _ _ w (xF Tryz.func7 (of_decide_eq_false (by kernel_rfl)) (by kernel_rfl)) aAJ (λw' h=>Er s w' (hV.keep h))
def qX (s:aA):Int×Bool:=if(fK s).2.2=0 then(1,true) else if(gI s).2.2=0 then(2,true) else(0,false)
theorem aAM (s:aA) (w:World) (hs:s.length<=1073741824) (hV:bU w):
  Calls Tryz.prog 14 #[.string (bs s)] w λe w'=>e= .returned (.tuple #[.int .i64 (qX s).1, .bool (qX s).2])/\Below w.heap.size w w':=by
 have q:=hid hV;have CJ:Hid (∀w',Below w.heap.size w w'->Calls Tryz.prog 25 #[.int .i64 1, .string (bs s)] w' (qN (fK s).1 (fK s).2.1 (fK s).2.2 w')):=hid (λw' h=>aAK s w' hs (q.out.keep h));have CY:Hid (∀w',Below w.heap.size w w'->Calls Tryz.prog 25 #[.int .i64 2, .string (bs s)] w' (qN (qW s) (gI s).2.1 (gI s).2.2 w')):=hid (λw' h=>aAL s w' (q.out.keep h));obtain⟨G,g⟩:=exQ<|qX s;rw[g];unfold qX at g;obtain⟨⟨t1,a1,e1⟩,r⟩:=exQ<|fK s;rw[r] at CJ g;obtain⟨⟨t2,a2,e2⟩,p⟩:=exQ<|gI s;rw[p] at CY g;obtain⟨T2,m⟩:=exQ<|qW s;rw[m] at CY;simp only[] at CJ CY g;clear r p m hV;go_enter Tryz.func14,Tryz.ntmps14;go_wp2_with fail;go_loopw [4] (λs4 wr=> ∃f:Nat,s4= .int .i64 (f:Int)/\(f=1\/(f=2/\e1≠0)\/(f=3/\e1≠0/\e2≠0))/\Hid (Below w.heap.size w wr)) (λs4 _=>4-(RowKit.intOf s4).toNat)
 case atStart=>exact⟨1,rfl, .inl rfl,hid (by first | exact aB _ _ | exact(aB _ _).drew)⟩
 case round=>
  obtain⟨f,rfl,t,a⟩:=hrel;rcases t with rfl | ⟨rfl,d⟩ | ⟨rfl,d,n⟩
  ·go_wp2_with fail;refine(CJ.out _ (by first | exact a.out | exact a.out.drew)).mono ?_;rintro e w3 ⟨⟨kv,iv,rfl,l⟩,j⟩;obtain⟨pk,ck,pi,ci,rfl,rfl⟩:=l.form;have k:Hid (Below w.heap.size w w3):=hid (by first | exact aC a.out j | exact aC a.out.drew j);unfold vv;clear l j;obtain⟨X,i⟩:=exQ<|w3.heap.size;have b5:=aI w3 (.cells #[.int .i64 t1.kind, .string (bs t1.text), .slice pk t1.keys.length ck, .slice pi t1.items.length ci] 26);obtain⟨w5,c⟩:=exQ<|w3.alloc (.cells #[.int .i64 t1.kind, .string (bs t1.text), .slice pk t1.keys.length ck, .slice pi t1.items.length ci] 26);rw[c] at b5;have b:=hid (aC k.out b5);clear b5;by_cases he:e1=0
   ·rw[if_pos he] at g;subst he g;go_wp2_with fail;clear c i;go_ret2;exact⟨rfl,by first | exact b.out | exact b.out.drew⟩
   ·have de:(e1==0)=false:=aK.2 he;have o:=hid he;clear he;go_wp2_with fail;clear c i;go_roundw
    ·exact⟨2,rfl, .inr (.inl ⟨rfl,o.out⟩),by first | exact b | exact hid b.out.drew⟩
    ·simp[RowKit.intOf]
  ·rw[if_neg d] at g;have u:=hid d;clear d;go_wp2_with fail;refine(CY.out _ (by first | exact a.out | exact a.out.drew)).mono ?_;rintro e w3 ⟨⟨kv,iv,rfl,l⟩,j⟩;obtain⟨pk,ck,pi,ci,rfl,rfl⟩:=l.form;have k:Hid (Below w.heap.size w w3):=hid (by first | exact aC a.out j | exact aC a.out.drew j);unfold vv;clear l j;obtain⟨X,i⟩:=exQ<|w3.heap.size;have b5:=aI w3 (.cells #[.int .i64 T2.kind, .string (bs T2.text), .slice pk T2.keys.length ck, .slice pi T2.items.length ci] 26);obtain⟨w5,c⟩:=exQ<|w3.alloc (.cells #[.int .i64 T2.kind, .string (bs T2.text), .slice pk T2.keys.length ck, .slice pi T2.items.length ci] 26);rw[c] at b5;have b:=hid (aC k.out b5);clear b5;by_cases he:e2=0
   ·rw[if_pos he] at g;subst he g;go_wp2_with fail;clear c i;go_ret2;exact⟨rfl,by first | exact b.out | exact b.out.drew⟩
   ·have de:(e2==0)=false:=aK.2 he;have o:=hid he;clear he;go_wp2_with fail;clear c i;go_roundw
    ·exact⟨3,rfl, .inr (.inr ⟨rfl,u.out,o.out⟩),by first | exact b | exact hid b.out.drew⟩
    ·simp[RowKit.intOf]
  ·rw[if_neg d,if_neg n] at g;subst g;clear d n;go_wp2_with fail;go_ret2;exact⟨rfl,by first | exact a.out | exact a.out.drew⟩
end
end Go.Proofs.YtaifnmjjpddikaaGreatDoor
