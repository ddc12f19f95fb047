import Derived.Test.YtjnooaljcgkfpaaGreatDoorBk29
import Derived.Test.YtjnooaljcgkfpaaGreatDoorBk13
import Derived.Test.YtjnooaljcgkfpaaGreatDoorBk27
import Derived.Test.YtjnooaljcgkfpaaGreatDoorBk20
set_option maxRecDepth 100000
set_option maxHeartbeats 4000000
namespace Go.Proofs.YtjnooaljcgkfpaaGreatDoor
set_option linter.unusedVariables false
set_option linter.unusedSimpArgs false
section
open Go.RowKit
open Go.Lib hiding intOf
theorem dP.monoP {P P':Nat->Nat->Prop} (h: ∀k m,P k m->P' k m) {hi:Nat}: ∀ {l:List Nat}{a:Nat},dP P l a hi->dP P' l a hi
 | [],a,h1=>h1
 | y::l,a,h1=>by
  obtain⟨e,m,h2,h3⟩:=h1;exact⟨e,m,h _ _ h2,h3.monoP h⟩
theorem eM.up {ns:List aM}: ∀ {lv k hi:Nat},eM ns lv k hi->eM ns (lv+1) k hi
 | lv+1,k,hi,h=>by
  obtain⟨x,hx,h2⟩:=h;exact⟨x,hx,h2.monoP (λk m h=>eM.up h)⟩
def Sh (t:VT) (b:Bool) (w:World) (e:Ending) (w':World):Prop:=(∃kv iv,e= .returned (.tuple #[vv t kv iv, .bool b])/\jP w.heap.size w' t.depth t kv iv)/\Below w.heap.size w w'
theorem aEc (s:aA) (d:fS) (hb:uS s d) (hi64: ∀l∈d.lines,l.ind<=1099511627776) (B:Nat) (lvv nv:Value) (k m:Nat) (w:World) (hT:eM d.nodes 32 k m) (hD0:iX B d lvv nv w) (hV:cG w):
  Calls Tryz.prog 24 #[.agg #[.string (bs s),lvv,nv], .int .i64 (k:Int)] w (Sh (bE s d 32 k) true w):=by
 obtain⟨z,Q,H,K⟩:=id hD0;have N:k<d.nodes.length:=by obtain⟨x,V,_⟩:=hT;exact(aP.1 V).1
 have y:z.length=d.nodes.length:=by rw[<-Q,cA]
 obtain⟨gn,cn,cur,rfl,P,_,L⟩:=K.form (λe=>by rw[e] at y;simp at y;omega);obtain⟨pl,nl,cl,rfl⟩: ∃p n c,lvv= .slice p n c:=by
  rcases H.2 with⟨U,_⟩ | ⟨g,cap,cur,F,_⟩
  ·exact⟨none,0,0,U⟩
  ·exact⟨_,_,_,F⟩
 obtain⟨nz,J⟩:=exQ<|z.length;rw[J] at hD0 ⊢;have dq1:decide ((k:Int)<0)=false:=aJ (by omega);have dq2:decide ((nz:Int)<=(k:Int))=false:=aJ (by omega);have dq3:decide (nz<=k)=false:=aJ (by omega);obtain⟨W1,A⟩:=exQ<|w.alloc (.cells #[.string (bs s), .slice pl nl cl, .slice (some ⟨gn,0,none⟩) nz cn] 45);obtain⟨D,I⟩:=exQ<|w.heap.size;have b1:Below w.heap.size w W1:=by rw[<-A];exact aH _ _
 have F:W1.heap[D]?=some (.cells #[.string (bs s), .slice pl nl cl, .slice (some ⟨gn,0,none⟩) nz cn] 45):=by rw[<-A,<-I];exact heap_alloc_new w _
 obtain⟨W2,r⟩:=exQ<|W1.alloc (.cells #[.int .i64 0, .string ⟨#[]⟩, .slice none 0 0, .slice none 0 0] 25);obtain⟨R,u⟩:=exQ<|W1.heap.size;have b2:Below W1.heap.size W1 W2:=by rw[<-r];exact aH _ _
 have M:W2.heap[R]?=some (.cells #[.int .i64 0, .string (bs []), .slice none 0 0, .slice none 0 0] 25):=by rw[<-r,<-u];exact heap_alloc_new W1 _
 have G:=(b2.block D (aE F)).trans F;have q:=hid (aC b1 b2);have S:=hid M;have O:w.heap.size<=R:=by rw[<-u];exact b1.size
 have f:R<W2.heap.size:=aE M;obtain⟨T,i⟩:=exQ<|bE s d 32 k;have CN:Hid (∀w',Below W2.heap.size W2 w'->Calls Tryz.prog 45 #[.agg #[.string (bs s), .slice pl nl cl, .slice (some ⟨gn,0,none⟩) nz cn], .int .i64 (k:Int), .int .i64 1] w' (oQ T w')):=hid (λw' h=>by have:=Sg s d hb hi64 32 B (.slice pl nl cl) (.slice (some ⟨gn,0,none⟩) nz cn) k m 1 w' hT (hid (by decide)) (aD _) ((hD0.keep q.out).keep h) ((hV.keep q.out).keep h);rw[i] at this;exact this);rw[i];obtain⟨d0,d1,d2,_⟩:=kS G;clear b1 b2 F M G Q H K N y L P J i hT hD0 hV;go_enter Tryz.func24,Tryz.ntmps24;go_upto_region 1 with fail;clear A r I u;go_wp2_with fail;refine(CN.out _ (by first | exact aB _ _ | exact(aB _ _).drew)).mono ?_;rintro e w6 ⟨⟨kv,iv,rfl,o⟩,j⟩;have C:Hid (Below W2.heap.size W2 w6):=hid (by first | exact j | exact aC (aB _ _).drew j);obtain⟨pk6,ck6,pi6,ci6,rfl,rfl⟩:=o.toVD.form;have a:=hid (mK (t:=T) q.out O f o C.out S.out);obtain⟨r0,r1,r2,r3,g0,g1,g2,g3⟩:=cF ((C.out.block R f).trans S.out);unfold vv;clear o j d0 d1 d2;go_wp2_with fail;have b:(((w6.setCell ⟨R,0,none⟩ (.int .i64 T.kind)).setCell ⟨R,1,none⟩ (.string (bs T.text))).setCell ⟨R,2,none⟩ (.slice pk6 T.keys.length ck6)).setCell ⟨R,3,none⟩ (.slice pi6 T.items.length ci6)=bL w6 R T.kind T.text (.slice pk6 T.keys.length ck6) (.slice pi6 T.items.length ci6):=rfl;rw[b];obtain⟨WR,E⟩:=exQ<|bL w6 R T.kind T.text (.slice pk6 T.keys.length ck6) (.slice pi6 T.items.length ci6);rw[E] at a ⊢;clear b E r0 r1 r2 r3 g0 g1 g2 g3;obtain⟨d0,d1,d2,d3,_⟩:=cF a.out.2.2;refine bodyPost_ret (v:= .tuple #[.agg #[.int .i64 T.kind, .string (bs T.text), .slice pk6 T.keys.length ck6, .slice pi6 T.items.length ci6], .bool true]) ?_ rfl ⟨⟨_,_,rfl,a.out.1⟩,a.out.2.1⟩;simp[results,Tryz.results24,go_sem,d0,d1,d2,d3]
end
section
open Go.Lib
def Si (s:aA) (lv:Nat) (x:aM):Prop:=x.kind=1->(iU (fD s x.rf x.rt)).1.depth<=lv
def jI (s:aA) (ns:List aM):Nat->Nat->Nat->Prop
 | 0,_,_=>False
 | lv+1,k,hi=> ∃x,ns[k]?=some x/\Si s (lv+1) x/\dP (jI s ns lv) x.kids (k+1) hi
theorem jI.tky {s:aA}{ns:List aM}: ∀ {lv k hi:Nat},jI s ns lv k hi->eM ns lv k hi
 | lv+1,k,hi,⟨x,hx,_,h⟩=>⟨x,hx,h.monoP (λ_ _=>jI.tky)⟩
theorem jI.lt {s:aA}{ns:List aM}{lv k hi:Nat} (h:jI s ns lv k hi):k<hi:=h.tky.lt
theorem jI.mono {s:aA}{ns ns':List aM}: ∀ {lv k hi:Nat},jI s ns lv k hi->(∀j y,k<=j->j<hi->ns[j]?=some y->ns'[j]?=some y)->jI s ns' lv k hi
 | lv+1,k,hi,h,hm=>by
  have hkh:=h.lt;obtain⟨x,d,b,a⟩:=h;exact⟨x,hm k x (aD _) hkh d,b,a.imp hi (λk m h=>h.lt) (λk' m h5 h6 c=>c.mono (λj y h8 h9=>hm j y (by omega) (by omega)))⟩
def zH (s:aA) (lv:Nat) (R:YR):Prop:=match R with
 | .ok n st'=>jI s st'.nodes lv n st'.nodes.length
 | .bad _ _=>True
def tB (s:aA) (sp:List (Nat×Nat)) (lv:Nat) (V:YB):Prop:= ∀k kf kt st,eL s sp st->k+1=st.lines.length->zH s lv (V k kf kt st)
theorem Sj {s:aA}{ns:List aM}{x:aM}{lv:Nat} (h0:lv≠0) (hd:Si s lv x) (hx:x.kids= []):jI s (ns++ [x]) lv ns.length (ns++ [x]).length:=by
 cases lv with
 | zero=>exact absurd rfl h0
 | succ lv=>exact⟨x,by simp,hd,by rw[hx];show ns.length+1=_;simp⟩
theorem Hl {s:aA}{lv k:Nat}{kf kt:Int}{st:YS}:zH s lv (kB s lv k kf kt st):=by
 unfold kB;split
 ·trivial
 ·rename_i n1 s1 b;obtain⟨rfl,rfl,c,_⟩:=qM b;simp only[];split
  ·trivial
  ·split
   ·trivial
   ·rename_i a;split
    ·trivial
    ·exact Sj c (λ_=>Nat.le_of_not_lt a) rfl
theorem aEd {s:aA}{sp:List (Nat×Nat)}{lv k:Nat}{kf kt:Int}{st:YS}:zH s lv (oU s sp lv k kf kt st):=by
 unfold oU;split
 ·trivial
 ·rename_i n1 s1 a;obtain⟨rfl,rfl,b,_⟩:=qM a;simp only[];split
  ·trivial
  ·exact Sj b (λe=>by cases e) rfl
theorem aEe {s:aA}{sp:List (Nat×Nat)} (hsp:eS s sp) {B:YB}{lv:Nat} (hB:tB s sp lv B):tB s sp lv (lI s sp B lv):=by
 intro k kf kt st c hk;unfold lI;simp only[];split
 ·exact aEd
 ·split
  ·have b:=oV hsp (k:=k+1) (lines:=st.lines) (by omega) c.ls (λi h1 h2=>by omega);cases hm:gA s sp (k+1) st.lines with
   | bad a e=>trivial
   | ok nx ls=>
    rw[hm] at b;simp only[] at b ⊢;split
    ·rename_i d;exact hB nx kf kt ⟨ls,st.nodes,st.total⟩ ⟨b.ok,c.tot⟩ (b.hit d.1).1.symm
    ·exact Hl
  ·exact Hl
theorem aEf {s:aA}{sp:List (Nat×Nat)}{V:YB}{m:Nat} (hV:tB s sp m V) (map:Bool) (had:List aA) {k:Nat}{st:YS} (hw:eL s sp st) (hk:k+1=st.lines.length):zH s m (gC s V map had k st).1:=by
 unfold gC;split
 ·simp only[];split
  ·trivial
  ·split
   ·trivial
   ·exact hV _ _ _ _ hw hk
 ·exact hV _ _ _ _ hw hk
theorem aEg {s:aA}{sp:List (Nat×Nat)}{V:YB} (hG:iD s sp V) {m:Nat} (hV:tB s sp m V) {map:Bool}{n:Nat}{ind:Int}{had had':List aA}{k nx:Nat}{st s3:YS} (hw:eL s sp st) (hk:k+1=st.lines.length) {x:aM} (hx:st.nodes[n]?=some x) (hK:dP (jI s st.nodes m) x.kids (n+1) st.nodes.length) (h:iC s sp V map n ind had k st= .ok nx s3 had'):
  ∃x',s3.nodes[n]?=some x'/\x'.kind=x.kind/\dP (jI s s3.nodes m) x'.kids (n+1) s3.nodes.length:=by
 have r:=yI hG map had hw hk;have g:=aEf hV map had hw hk;unfold iC at h;obtain⟨⟨Q,had2⟩,w⟩:=exQ<|gC s V map had k st;rw[w] at h r g;cases Q with
 | bad a e=>cases h
 | ok kid s2=>
  obtain⟨g1,⟨more,g2n,g2⟩,_,_,_,_⟩:=(show mO s sp k st kid s2 from r);have g:jI s s2.nodes m kid s2.nodes.length:=g;simp only[] at h;split at h
  ·cases h
  ·split at h
   ·cases h
   ·injection h with e1 e2 e3;have l:=(aP.1 hx).1;have f:s2.nodes[n]?=some x:=by rw[g2,oL l];exact hx
    have i:=(aP.1 f).1;subst e2;simp only[];obtain⟨ns3,d⟩:=exQ<|mL n kid s2.nodes;have c:ns3=s2.nodes.set n { x with kids:=x.kids++ [kid],til:=gB s2.nodes kid }:=by
     rw[<-d];unfold mL;exact yH _ n _ x f
    have o:ns3.length=s2.nodes.length:=(by rw[c,List.length_set]);rw[d];refine⟨{ x with kids:=x.kids++ [kid],til:=gB s2.nodes kid },by rw[c,List.getElem?_set_self i],rfl,?_⟩;simp only[];have b: ∀k' m',n<k'->jI s s2.nodes m k' m'->jI s ns3 m k' m':=λk' m' v p=>p.mono (λj y t z q=>by rw[c,List.getElem?_set_ne (by omega)];exact q);refine dP.snoc (k:=kid) ?_ (by rw[o];exact b _ _ (by omega) g);rw[g1];exact hK.imp _ (λk m h=>jI.lt h) (λk' m' v p t=>b k' m' (by omega) (t.mono (λj y z q u=>by rw[g2,oL (by omega)];exact u)))
theorem Sk {s:aA}{sp:List (Nat×Nat)} (hsp:eS s sp) {V:YB} (hG:iD s sp V) {m:Nat} (hV:tB s sp m V) {map:Bool}{n:Nat}{ind kind:Int}: ∀(f:Nat) (had:List aA) (k:Nat) (st:YS) (x:aM),
  eL s sp st->(k<sp.length->k+1=st.lines.length)->st.nodes[n]?=some x->x.kind≠1->dP (jI s st.nodes m) x.kids (n+1) st.nodes.length->zH s (m+1) (kO s sp V map n ind kind f had k st)
 | 0,had,k,st,x,hw,hk,hx,hx1,hK=>⟨x,hx,λe=>absurd e hx1,hK⟩
 | f+1,had,k,st,x,hw,hk,hx,hx1,hK=>by
  unfold kO;split
  ·rename_i hc;cases ho:iC s sp V map n ind had k st with
   | bad a e=>trivial
   | ok nx s2 had'=>
    obtain⟨x',h1,hx1',h2⟩:=aEg hG hV hw (hk hc.1) hx hK ho;obtain⟨_,_,_,b,h4,h5,c⟩:=Qn hsp hG hw (hk hc.1) hx ho;exact Sk hsp hG hV f had' nx s2 x' b c h1 (by rw[hx1'];exact hx1) h2
  ·exact⟨x,hx,λe=>absurd e hx1,hK⟩
theorem Sl {s:aA}{sp:List (Nat×Nat)} (hsp:eS s sp) {V:YB} (lv:Nat) (hG:lv≠0->iD s sp V) (hV: ∀m,lv=m+1->tB s sp m V):tB s sp lv (mM s sp V lv):=by
 intro k kf kt st a d;unfold mM;simp only[];split
 ·exact Hl
 ·split
  ·trivial
  ·rename_i n1 s1 b;obtain⟨rfl,rfl,c,h4⟩:=qM b;obtain⟨m,rfl⟩: ∃m,lv=m+1:=⟨lv-1,by omega⟩;have htot:=a.tot;refine Sk hsp (hG c) (hV m rfl) _ _ _ _ _ ⟨a.ls,by simp only[aI,dQ];omega⟩ (λ_=>d) (by simp;rfl) (by simp only[];split<;>decide) ?_;show st.nodes.length+1=_;simp
theorem Sm {s:aA}{sp:List (Nat×Nat)} (hsp:eS s sp): ∀lv,tB s sp lv (kC s sp lv)
 | 0=>Sl hsp 0 (λh=>absurd rfl h) (λm h=>by omega)
 | lv+1=>Sl hsp (lv+1) (λ_=>Fv hsp (uE hsp lv) lv) (λm h=>by obtain rfl:m=lv:=(by omega);exact aEe hsp (Sm hsp m))
structure uT (s:aA) (d:fS):Prop where
 treeD:jI s d.nodes 32 0 d.nodes.length
 cnt:d.nodes.length<=4096
 lns:d.lines.length<=(gM s).length
 ok:mN s (gM s) d.lines
theorem aEh {s:aA}{d:fS}{a:Int} (h:mA s (gM s)=(d,a,0)):uT s d:=by
 have c:=Nw s;have m:mN s (gM s) []:=⟨cH _,λi l=>absurd l (tN _)⟩;have b:=oV c (k:=0) (lines:= []) (aD _) m (λi _ l=>absurd l (tN _));unfold mA at h;cases hN:gA s (gM s) 0 [] with
 | bad a' e'=>
  rw[hN] at b h;simp only[Prod.mk.injEq] at h;exact absurd h.2.2 b.2.2
 | ok k ls=>
  rw[hN] at b h;simp only[] at b h;by_cases hk:k<(gM s).length
  ·rw [if_neg (λe=>e hk)] at h;have o:eL s (gM s) ⟨ls,[],0⟩:=⟨b.ok,by simp⟩;have g:=uE c 32 k 0 0 ⟨ls,[],0⟩ o (b.hit hk).1.symm;have j:=Sm c 32 k 0 0 ⟨ls,[],0⟩ o (b.hit hk).1.symm;cases hB:kC s (gM s) 32 k 0 0 ⟨ls,[],0⟩ with
   | bad a' e'=>
    rw[hB] at g h;simp only[Prod.mk.injEq] at h;exact absurd h.2.2 (show 0<=a'/\a'<=(s.length:Int)/\e'≠0 from g).2.2
   | ok n st=>
    rw[hB] at g j h;obtain⟨g1,_,_,g4,g5,g6⟩:=(show mO s (gM s) k ⟨ls,[],0⟩ n st from g);have g10:n=0:=g1;subst g10;have j:jI s st.nodes 32 0 st.nodes.length:=j;have f:=oV c (k:=gB st.nodes 0) g4.2 g6.ls g5;simp only[] at h;cases hN2:gA s (gM s) (gB st.nodes 0) st.lines with
    | bad a' e'=>
     rw[hN2] at f h;simp only[Prod.mk.injEq] at h;exact absurd h.2.2 f.2.2
    | ok k2 ls2=>
     rw[hN2] at f h;simp only[] at h f;split at h
     ·simp only[Prod.mk.injEq] at h;exact absurd h.2.2 (by decide)
     ·injection h with e1 e2;subst e1;exact⟨j,by have:=g6.tot;simp only[];omega,f.ok.1,f.ok⟩
  ·rw[if_pos hk] at h;injection h with e1 e2;subst e1;exact⟨⟨_,rfl,λ_=>by unfold fD;rw[Nat.sub_self,List.take_zero];decide,rfl⟩,by simp,b.ok.1,b.ok⟩
theorem uT.tree {s:aA}{d:fS} (h:uT s d):eM d.nodes 32 0 d.nodes.length:=h.treeD.tky
theorem eM.sub {ns:List aM}: ∀ {lv k hi:Nat},eM ns lv k hi-> ∀j,k<=j->j<hi-> ∃m,eM ns lv j m
 | lv+1,k,hi,h,j,h1,h2=>by
  by_cases hjk:j=k
  ·subst hjk;exact⟨hi,h⟩
  ·obtain⟨x,hx,hK⟩:=h;have key: ∀(l:List Nat) (a:Nat),dP (eM ns lv) l a hi->a<=j-> ∃m,eM ns lv j m:=by
    intro l
    induction l with
    | nil=>intro a h c;have:a=hi:=h;omega
    | cons y l ih=>
     intro a h c;obtain⟨rfl,m,d,e⟩:=h;by_cases b:m<=j
     ·exact ih m e b
     ·exact eM.sub d j c (by omega)
   obtain⟨m,b⟩:=key _ _ hK (by omega);exact⟨m,b.up⟩
theorem Sn {P:Nat->Nat->Prop} (hlt: ∀k m,P k m->k<m) {hi:Nat}: ∀ {l:List Nat}{a:Nat},dP P l a hi->a+l.length<=hi
 | [],a,h=>pN h
 | y::l,a,h=>by
  obtain⟨rfl,m,h2,h3⟩:=h;have h4:=hlt _ _ h2;have:=Sn hlt h3;rw[aL];omega
theorem uT.node {s:aA}{d:fS} (h:uT s d) {k:Nat} (hk:k<d.nodes.length): ∃m,eM d.nodes 32 k m/\m<=d.nodes.length:=by
 obtain⟨m,b⟩:=h.tree.sub k (cH _) hk;refine⟨m,b,?_⟩;have: ∀ {lv k m:Nat},eM d.nodes lv k m->m<=d.nodes.length:=by
  intro lv
  induction lv with
  | zero=>intro k m h;exact h.elim
  | succ lv ih=>
   intro k m h;obtain⟨x,i,e⟩:=h;have hkl:=(aP.1 i).1;have: ∀(l:List Nat) (a:Nat),a<=d.nodes.length->dP (eM d.nodes lv) l a m->m<=d.nodes.length:=by
    intro l
    induction l with
    | nil=>intro a c h;have:a=m:=h;omega
    | cons y l ih2=>
     intro a c h;obtain⟨rfl,q,g,f⟩:=h;exact ih2 q (ih g) f
   exact this _ _ (by omega) e
 exact this b
theorem uT.kids {s:aA}{d:fS} (h:uT s d) {k:Nat}{x:aM} (hx:d.nodes[k]?=some x):x.kids.length<=4096:=by
 obtain⟨m,b,hml⟩:=h.node (aP.1 hx).1;obtain⟨x',a,c⟩:=b;rw[hx] at a;obtain rfl:=bC a;have:=Sn (λ_ _=>eM.lt) c;have:=h.cnt;omega
end
section
open Go.RowKit
open Go.Lib hiding intOf
def nN:Nat->VT->Prop
 | 0,_=>True
 | n+1,t=>t.keys.length<=1073741824/\t.items.length<=1073741824/\ ∀x∈t.items,nN n x
def So (t t2:VT) (e:Ending):Prop:= ∃b:Bool,e= .returned (.bool b)/\(t=t2->b=true)
def Hm (n:Nat):Prop:= ∀(t t2:VT) (kv iv kv2 iv2:Value) (w:World),VD w n t kv iv->VD w n t2 kv2 iv2->nN n t->nN n t2->Calls Tryz.prog 9 #[vv t kv iv,vv t2 kv2 iv2] w λe w'=>So t t2 e/\Below w.heap.size w w'
theorem aEi (n:Nat) (IH:Hm n):Hm (n+1):=by
 intro t t2 kv iv kv2 iv2 w h h' J r;obtain⟨m',hm,⟨pk,ck,rfl,am,z⟩,p,c,rfl,ao,aa⟩:=h.parts;obtain rfl:n=m':=by omega
 obtain⟨m2,an,⟨pk2,ck2,rfl,ak,m⟩,p2,c2,rfl,ab,R⟩:=h'.parts;obtain rfl:n=m2:=by omega
 obtain⟨X,hX⟩:=exQ<|w.heap.size;obtain⟨W1,K⟩:=exQ<|w.alloc (.cells #[.int .i64 t.kind, .string (bs t.text), .slice pk t.keys.length ck, .slice p t.items.length c] 25);obtain⟨X2,af⟩:=exQ<|W1.heap.size;obtain⟨W2,N⟩:=exQ<|W1.alloc (.cells #[.int .i64 t2.kind, .string (bs t2.text), .slice pk2 t2.keys.length ck2, .slice p2 t2.items.length c2] 25);have ag:Below w.heap.size w W1:=by rw[<-K];exact aH _ _
 have A:Below W1.heap.size W1 W2:=by rw[<-N];exact aH _ _
 have C:=hid (aC ag A);have M:Hid (bF W2 X t (.slice pk t.keys.length ck) (.slice p t.items.length c)):=hid (bF.keep (by rw[<-K,<-hX];exact bF.new w t _ _) A);have l:Hid (bF W2 X2 t2 (.slice pk2 t2.keys.length ck2) (.slice p2 t2.items.length c2)):=hid (by rw[<-N,<-af];exact bF.new W1 t2 _ _);have ar:=hid (aa.keep C.out);have ad:=hid (R.keep C.out);have al:=hid (z.keep C.out);have ah:=hid (m.keep C.out);obtain⟨k1,O⟩:=exQ<|t.kind;obtain⟨k2,G⟩:=exQ<|t2.kind;obtain⟨x1,F⟩:=exQ<|t.text;obtain⟨x2,H⟩:=exQ<|t2.text;obtain⟨n1,B⟩:=exQ<|t.keys.length;obtain⟨n2,D⟩:=exQ<|t2.keys.length;obtain⟨i1,k⟩:=exQ<|t.items.length;obtain⟨i2,s⟩:=exQ<|t2.items.length;unfold bF at M l;unfold vv;rw[O,F,B,k] at K M;rw[G,H,D,s] at N l;rw[O,G,F,H,B,D,k,s];have P:=hid (aT B (aT D (aT k s)));have aq:Hid (n1<=1073741824/\i1<=1073741824/\n2<=1073741824/\i2<=1073741824):=hid (by rw[<-B,<-D,<-k,<-s];exact⟨J.1,J.2.1,r.1,r.2.1⟩);have ai:Hid ((∀x∈t.items,nN n x)/\ ∀x∈t2.items,nN n x):=hid ⟨J.2.2,r.2.2⟩;have I:=hid (aT O (aT G (aT F H)));clear aa z h hm ag A R m h' an O G F H B D k s J r am ak ao ab;have hq:=aq.out;have W:Hid (∀w',Below W2.heap.size W2 w'->(w'.cell? ⟨X,0,none⟩=some (.int .i64 k1)/\w'.cell? ⟨X,1,none⟩=some (.string (bs x1))/\w'.cell? ⟨X,2,none⟩=some (.slice pk n1 ck)/\w'.cell? ⟨X,3,none⟩=some (.slice p i1 c))/\w'.cell? ⟨X2,0,none⟩=some (.int .i64 k2)/\w'.cell? ⟨X2,1,none⟩=some (.string (bs x2))/\w'.cell? ⟨X2,2,none⟩=some (.slice pk2 n2 ck2)/\w'.cell? ⟨X2,3,none⟩=some (.slice p2 i2 c2)):=hid (λw' h=>by obtain⟨e0,e1,e2,e3,_⟩:=cF ((h.block X (aE M.out)).trans M.out);obtain⟨f0,f1,f2,f3,_⟩:=cF ((h.block X2 (aE l.out)).trans l.out);exact⟨⟨e0,e1,e2,e3⟩,f0,f1,f2,f3⟩);have d:Hid (∀(b:Bool) w',(t=t2->b=true)->Below W2.heap.size W2 w'->So t t2 (.returned (.bool b))/\Below w.heap.size w w'):=hid (λb w' hb h=>⟨⟨b,rfl,hb⟩,aC C.out h⟩);go_enter Tryz.func9,Tryz.ntmps9;go_upto_region 1 with fail;clear K N af;obtain⟨⟨b0,b1,b2,b3⟩,d0,d1,d2,d3⟩:=W.out W2 (aB _ _);by_cases hk:k1=k2;rotate_left
 ·have u:=hid hk;have ek:(k1 !=k2)=true:=by simpa using hk
  have ekb:(k1==k2)=false:=by simpa using hk
  go_wp2_with fail;go_ret;exact d.out _ _ (λe=>absurd (by rw[<-I.out.1,<-I.out.2.1,e]) u.out) (by first | exact aB _ _ | exact(aB _ _).drew)
 have ek:(k1 !=k2)=false:=by simpa using hk
 have ekb:(k1==k2)=true:=by simpa using hk
 obtain⟨q1,et⟩:=exQ ((bs x1).toList==(bs x2).toList);have et2:((bs x1).toList !=(bs x2).toList)=!q1:=by rw[<-et];rfl
 have Y:=hid et;cases q1 with
 | false=>
  clear hk;go_wp2_with fail;go_ret;exact d.out _ _ (λe=>by have:=Y.out;rw[<-I.out.2.2.1,<-I.out.2.2.2,e] at this;simp at this) (by first | exact aB _ _ | exact(aB _ _).drew)
 | true=>
 by_cases hn:n1=n2;rotate_left
 ·have u:=hid hn;have el:((n1:Int) !=(n2:Int))=true:=by simp;omega
  have el2:(n1 !=n2)=true:=by simpa using hn
  have el3:((n1:Int)==(n2:Int))=false:=by simp;omega
  have el4:(n1==n2)=false:=by simpa using hn
  clear hk;go_wp2_with fail;go_ret;exact d.out _ _ (λe=>absurd (by rw[<-P.out.1,<-P.out.2.1,e]) u.out) (by first | exact aB _ _ | exact(aB _ _).drew)
 by_cases hi:i1=i2;rotate_left
 ·have u:=hid hi;have ei:((i1:Int) !=(i2:Int))=true:=by simp;omega
  have ei2:(i1 !=i2)=true:=by simpa using hi
  have ei3:((i1:Int)==(i2:Int))=false:=by simp;omega
  have ei4:(i1==i2)=false:=by simpa using hi
  clear hk;subst hn;go_wp2_with fail;go_ret;exact d.out _ _ (λe=>absurd (by rw[<-P.out.2.2.1,<-P.out.2.2.2,e]) u.out) (by first | exact aB _ _ | exact(aB _ _).drew)
 subst hn hi;clear hk;go_wp2_with fail;clear b0 b1 b2 b3 d0 d1 d2 d3;go_loopw [5] (λs5 wr=> ∃i:Nat,s5= .int .i64 (i:Int)/\i<=n1/\Hid (Below W2.heap.size W2 wr)) (λs5 _=>n1-(RowKit.intOf s5).toNat)
 case atStart=>exact⟨0,rfl,cH _,hid (by first | exact aB _ _ | exact(aB _ _).drew)⟩
 case round=>
  obtain⟨i,rfl,hi,f⟩:=hrel;obtain⟨⟨b0,b1,b2,b3⟩,d0,d1,d2,d3⟩:=W.out wr f.out;by_cases hil:i<n1
  ·obtain⟨x,S⟩: ∃x,t.keys[i]?=some x:=⟨_,bH (by rw[P.out.1];exact hil)⟩;obtain⟨y,Q⟩: ∃x,t2.keys[i]?=some x:=⟨_,bH (by rw[P.out.2.1];exact hil)⟩;have k:(i:Int)<(n1:Int):=(by omega);have dk:decide ((i:Int)<(n1:Int))=true:=aN k;obtain⟨g,o,rfl,cx⟩:=(al.out.keep f.out).at_ S;obtain⟨g2,o2,rfl,cx2⟩:=(ah.out.keep f.out).at_ Q;obtain⟨q,ex⟩:=exQ ((bs x).toList==(bs y).toList);have ex2:((bs x).toList !=(bs y).toList)=!q:=by rw[<-ex];rfl
   have Y:=hid ex;have U:=hid (aT S Q);have hi0:(0:Int)<=(i:Int):=(by omega);clear S Q;go_upto_region 6 with fail;go_region
   all_goals
    cases q with
    | false=>
     go_wp2_with fail;go_ret;exact d.out _ _ (λe=>by have h1:=Y.out;have T:=U.out;rw[e,T.2] at T;rw[bC T.1] at h1;simp at h1) (by first | exact f.out | exact f.out.drew)
    | true=>
     go_wp2_with fail;go_roundw
     case rel=>exact⟨i+1,by go_num,by omega,by first | exact f | exact hid (below_drewN f.out _)⟩
     case measure=>simp[RowKit.intOf];omega
  ·have dk:decide ((i:Int)<(n1:Int))=false:=aJ (by omega);go_wp2_with fail;clear b0 b1 b2 b3 d0 d1 d2 d3;go_loopw [6,7] (λs6 s7 wq=> ∃i:Nat,s6= .int .i64 (i:Int)/\i<=i1/\Hid (Below W2.heap.size W2 wq)) (λs6 _ _=>i1-(RowKit.intOf s6).toNat)
   case atStart=>exact⟨0,rfl,cH _,f⟩
   case round=>
    obtain⟨j,rfl,hj,a⟩:=hrel;obtain⟨⟨b0,b1,b2,b3⟩,d0,d1,d2,d3⟩:=W.out wr a.out;by_cases hjl:j<i1
    ·obtain⟨x,S⟩: ∃x,t.items[j]?=some x:=⟨_,bH (by rw[P.out.2.2.1];exact hjl)⟩;obtain⟨y,Q⟩: ∃x,t2.items[j]?=some x:=⟨_,bH (by rw[P.out.2.2.2];exact hjl)⟩;have ap:(j:Int)<(i1:Int):=(by omega);have dk2:decide ((j:Int)<(i1:Int))=true:=aN ap;have U:=hid (aT S Q);obtain⟨g,o,kv',iv',rfl,hg,n0,n1',n2,n3,Z⟩:=ar.out j x S;obtain⟨pk3,ck3,px,cx,rfl,rfl⟩:=Z.form;obtain⟨g2,o2,kv'',iv'',rfl,E,z0,z1,z2,z3,v⟩:=ad.out j y Q;obtain⟨pk4,ck4,px2,cx2,rfl,rfl⟩:=v.form;have m0:wr.cell? ⟨g,o+j*4,none⟩=some (.int .i64 x.kind):=by rw[a.out.cell (p:=⟨g,_,none⟩) hg];exact n0
     have m1:wr.cell? ⟨g,o+j*4+1,none⟩=some (.string (bs x.text)):=by rw[a.out.cell (p:=⟨g,_,none⟩) hg];exact n1'
     have m2:wr.cell? ⟨g,o+j*4+2,none⟩=some (.slice pk3 x.keys.length ck3):=by rw[a.out.cell (p:=⟨g,_,none⟩) hg];exact n2
     have m3:wr.cell? ⟨g,o+j*4+3,none⟩=some (.slice px x.items.length cx):=by rw[a.out.cell (p:=⟨g,_,none⟩) hg];exact n3
     have q0:wr.cell? ⟨g2,o2+j*4,none⟩=some (.int .i64 y.kind):=by rw[a.out.cell (p:=⟨g2,_,none⟩) E];exact z0
     have q1:wr.cell? ⟨g2,o2+j*4+1,none⟩=some (.string (bs y.text)):=by rw[a.out.cell (p:=⟨g2,_,none⟩) E];exact z1
     have q2:wr.cell? ⟨g2,o2+j*4+2,none⟩=some (.slice pk4 y.keys.length ck4):=by rw[a.out.cell (p:=⟨g2,_,none⟩) E];exact z2
     have q3:wr.cell? ⟨g2,o2+j*4+3,none⟩=some (.slice px2 y.items.length cx2):=by rw[a.out.cell (p:=⟨g2,_,none⟩) E];exact z3
     have HC:=hid (IH x y _ _ _ _ wr.drew ((Z.keep a.out).keep (aB _ _).drew) ((v.keep a.out).keep (aB _ _).drew) (ai.out.1 x (bA S)) (ai.out.2 y (bA Q)));unfold vv at HC;have hj0:(0:Int)<=(j:Int):=(by omega);clear S Q n0 n1' n2 n3 z0 z1 z2 z3 Z v hg E;go_upto_region 11 with fail;go_region_with (go_at_call 9;(refine HC.out.mono ?_);rintro e w6 ⟨⟨bq,rfl,ae⟩,aj⟩)
     all_goals
      have L:=hid (aC a.out (aC (aB _ _).drew aj));have V:=hid ae;clear ae aj b0 b1 b2 b3 d0 d1 d2 d3 m0 m1 m2 m3 q0 q1 q2 q3;cases bq with
      | false=>
       have V:Hid (x=y->False):=hid (λe=>by cases V.out e);go_wp2_with fail;go_ret;exact d.out _ _ (λe=>by have T:=U.out;rw[e,T.2] at T;exact(V.out (bC T.1).symm).elim) (by first | exact L.out | exact L.out.drew)
      | true=>
       go_wp2_with fail;go_roundw
       case rel=>exact⟨j+1,by go_num,by omega,by first | exact L | exact hid (below_drewN L.out _)⟩
       case measure=>simp[RowKit.intOf];omega
    ·have dk2:decide ((j:Int)<(i1:Int))=false:=aJ (by omega);go_wp2_with fail;go_ret;exact d.out _ _ (λ_=>rfl) (by first | exact a.out | exact a.out.drew)
theorem Sq: ∀n,Hm n
 | 0=>λ_ _ _ _ _ _ _ h _ _ _=>h.elim
 | n+1=>aEi n (Sq n)
end
section
open Go.Lib hiding intOf
theorem aEj {s:aA} (h:s.length<=65536):jF s=mA s (gM s):=by unfold jF;rw[if_neg (by omega)]
def lL (M:Nat) (ns:List aM):Prop:= ∀x∈ns,x.fr<=M/\x.til<=M
def Hn (M:Nat) (R:YR):Prop:= ∀n st,R= .ok n st->lL M st.nodes
def rT (M:Nat) (V:YB):Prop:= ∀k kf kt st,k<M->lL M st.nodes->Hn M (V k kf kt st)
theorem lL.snoc {M:Nat}{ns:List aM}{x:aM} (h:lL M ns) (hx:x.fr<=M/\x.til<=M):lL M (ns++ [x]):=by
 intro y b;rcases mZ.1 b with a | a
 ·exact h y a
 ·rw[jX.1 a];exact hx
theorem lL.til {M:Nat}{ns:List aM} (h:lL M ns) (k:Nat):gB ns k<=M:=by
 unfold gB;split
 ·rename_i x a;exact(h x (bA a)).2
 ·exact cH _
theorem lL.mod {M:Nat}{f:aM->aM} (hf: ∀x:aM,x.fr<=M/\x.til<=M->(f x).fr<=M/\(f x).til<=M): ∀ {n:Nat}{ns:List aM},lL M ns->lL M (rK f n ns)
 | _,[],h=>by unfold rK;exact h
 | 0,x::l,h=>λy hy=>by
  rcases eV.1 hy with e | e
  ·rw[e];exact hf x (h x (fV ..))
  ·exact h y (List.mem_cons_of_mem _ e)
 | n+1,x::l,h=>λy hy=>by
  rcases eV.1 hy with e | e
  ·rw[e];exact h x (fV ..)
  ·exact lL.mod hf (n:=n) (ns:=l) (λz hz=>h z (List.mem_cons_of_mem _ hz)) y e
theorem Ho {s:aA}{ind:Int}{M:Nat}: ∀(r:List (Nat×Nat)) (i til first:Nat),til<=M->i+r.length<=M->oD s ind r i til first<=M
 | [],_,_,_,h,_=>h
 | x::r,i,til,first,h,h2=>by
  rw[aL] at h2;unfold oD;split
  ·exact Ho r _ _ _ h (by omega)
  ·split
   ·exact h
   ·exact Ho r _ _ _ (by omega) (by omega)
theorem Hp {s:aA}{lv M:Nat}:rT M (kB s lv):=by
 intro k kf kt st hk h n st' e;unfold kB at e;split at e
 ·cases e
 ·rename_i n1 s1 a;obtain⟨rfl,rfl,_,_⟩:=qM a;simp only[] at e;split at e
  ·cases e
  ·split at e
   ·cases e
   ·split at e
    ·cases e
    ·injection e with e1 e2;subst e2;exact h.snoc ⟨by simp only[];omega,by simp only[];omega⟩
theorem aEk {s:aA}{sp:List (Nat×Nat)}{lv:Nat}:rT sp.length (oU s sp lv):=by
 intro k kf kt st hk h n st' e;unfold oU at e;split at e
 ·cases e
 ·rename_i n1 s1 a;obtain⟨rfl,rfl,_,_⟩:=qM a;simp only[] at e;split at e
  ·cases e
  ·injection e with e1 e2;subst e2;refine h.snoc ⟨by simp only[];omega,?_⟩;exact Ho _ _ _ _ (by omega) (by rw[aZ];omega)
theorem aEl {s:aA}{sp:List (Nat×Nat)}{B:YB}{lv:Nat} (hB:rT sp.length B):rT sp.length (lI s sp B lv):=by
 intro k kf kt st a h;unfold lI;simp only[];split
 ·exact aEk k kf kt st a h
 ·split
  ·split
   ·intro n st' e;cases e
   ·rename_i nx ls hm;split
    ·rename_i b;exact hB nx kf kt ⟨ls,st.nodes,st.total⟩ b.1 h
    ·exact Hp k kf kt _ a h
  ·exact Hp k kf kt _ a h
theorem aEm {s:aA}{sp:List (Nat×Nat)}{V:YB} (hV:rT sp.length V) {map:Bool}{n:Nat}{ind:Int}{had had':List aA}{k nx:Nat}{st s3:YS} (hk:k<sp.length) (hN:lL sp.length st.nodes) (h:iC s sp V map n ind had k st= .ok nx s3 had'):lL sp.length s3.nodes:=by
 have b:Hn sp.length (gC s V map had k st).1:=by
  unfold gC;split
  ·simp only[];split
   ·intro n st' e;cases e
   ·split
    ·intro n st' e;cases e
    ·exact hV _ _ _ _ hk hN
  ·exact hV _ _ _ _ hk hN
 unfold iC at h;obtain⟨⟨Q,had2⟩,g⟩:=exQ<|gC s V map had k st;rw[g] at h b;cases Q with
 | bad a e=>cases h
 | ok kid s2=>
  have c:=b kid s2 rfl;simp only[] at h;split at h
  ·cases h
  ·split at h
   ·cases h
   ·injection h with e1 e2 e3;subst e2;exact lL.mod (f:=λx=> { x with kids:=x.kids++ [kid],til:=gB s2.nodes kid }) (λx d=>⟨d.1,c.til kid⟩) c
theorem Sr {s:aA}{sp:List (Nat×Nat)}{V:YB} (hV:rT sp.length V) {map:Bool}{n:Nat}{ind kind:Int}: ∀(f:Nat) (had:List aA) (k:Nat) (st:YS),lL sp.length st.nodes->Hn sp.length (kO s sp V map n ind kind f had k st)
 | 0,had,k,st,h=>λn st' e=>by
  injection e with e1 e2;subst e2;exact h
 | f+1,had,k,st,h=>by
  unfold kO;split
  ·rename_i hc;cases ho:iC s sp V map n ind had k st with
   | bad a e=>intro n st' e;cases e
   | ok nx s2 had'=>exact Sr hV f had' nx s2 (aEm hV hc.1 h ho)
  ·intro n st' e;injection e with e1 e2;subst e2;exact h
theorem Ss {s:aA}{sp:List (Nat×Nat)}{V:YB} (lv:Nat) (hV:rT sp.length V):rT sp.length (mM s sp V lv):=by
 intro k kf kt st b h;unfold mM;simp only[];split
 ·exact Hp k kf kt st b h
 ·split
  ·intro n st' e;cases e
  ·rename_i n1 s1 a;obtain⟨rfl,rfl,_,_⟩:=qM a;exact Sr hV _ _ _ _ (h.snoc ⟨by simp only[];omega,by simp only[];omega⟩)
theorem St {s:aA}{sp:List (Nat×Nat)}: ∀lv,rT sp.length (kC s sp lv)
 | 0=>Ss 0 (λ_ _ _ _ _ _ n st' e=>by cases e)
 | lv+1=>Ss (lv+1) (aEl (St lv))
theorem aEn {s:aA}{d:fS}{a er:Int} (h:mA s (gM s)=(d,a,er)):lL (gM s).length d.nodes:=by
 have f:=St (s:=s) (sp:=gM s) 32;unfold mA at h;split at h
 ·injection h with e1 e2;subst e1;intro x b;cases b
 ·rename_i k ls hm;split at h
  ·injection h with e1 e2;subst e1;intro x b;rw[jX.1 b];exact⟨cH _,cH _⟩
  ·rename_i hk;have c:=f k 0 0 ⟨ls,[],0⟩ (by omega) (λx b=>by cases b)
   revert h
   split
   ·intro h;injection h with e1 e2;subst e1;intro x b;cases b
   ·rename_i n st g;have e:=c n st g;split
    ·intro h;injection h with e1 e2;subst e1;intro x b;cases b
    ·split
     ·intro h;injection h with e1 e2;subst e1;intro x b;cases b
     ·intro h;injection h with e1 e2;subst e1;exact e
theorem wK (n:Nat) {t:VT} (h1:t.keys.length<=1073741824) (h2:t.items= []):nN n t:=by
 cases n with
 | zero=>trivial
 | succ n=>exact⟨h1,by rw[h2];exact cH _,λx a=>by rw[h2] at a;cases a⟩
theorem Su {txt:aA}{ns:List aF} (hN:ns.length<=65536): ∀(lv k m n:Nat),eK ns lv k m->nN n (bQ txt ns lv k)
 | 0,_,_,_,h=>h.elim
 | lv+1,k,m,0,h=>trivial
 | lv+1,k,m,n+1,h=>by
  obtain⟨x,hx⟩: ∃x,ns[k]?=some x:=by obtain⟨x,hx,_⟩:=h;exact⟨x,hx⟩
  have hl:=Nb h hx hN;have c:bQ txt ns (lv+1) k= .mk (x.kind:Int) (pM x.kind (gZ txt (x.sf,x.st))) (if x.kind=6 then x.kids.map (fY txt ns) else []) (x.kids.map (bQ txt ns lv)):=by rw[bQ,hx]
  rw[c];refine⟨?_,?_,λy d=>?_⟩
  ·show (if x.kind=6 then x.kids.map (fY txt ns) else []).length<=_;split
   ·rw[cA];omega
   ·exact cH _
  ·show (x.kids.map (bQ txt ns lv)).length<=_;rw[cA];omega
  ·obtain⟨q,b,rfl⟩:=pJ.1 (show y∈x.kids.map (bQ txt ns lv) from d);obtain⟨m2,a⟩:=(h.kid hx b).1;exact Su hN lv q m2 n a
theorem aEo (t:aA) (n:Nat):nN n (iU t).1:=by
 have d: ∀t,nN n (lG t):=λt=>by
  unfold lG
  repeat' split
  all_goals exact wK n (cH _) rfl
 have a:nN n gQ:=wK n (cH _) rfl;cases t with
 | nil=>exact d []
 | cons c r=>
  unfold iU;simp only[];split
  ·split
   ·exact a
   ·exact wK n (cH _) rfl
  ·split
   ·unfold nH;split
    ·exact a
    ·rename_i he;obtain⟨_,_,_,ns,_,_,b⟩:=Jn (s:=c::r) (by omega);have e:=Em (c::r);have f:=Di b;rw[b] at e;rw[b];exact Su e 32 0 _ n f
   ·split
    ·exact d _
    ·exact a
theorem Sv {s:aA}{d:fS} (hk: ∀(k:Nat) (x:aM),d.nodes[k]?=some x->x.kids.length<=4096): ∀(lv k n:Nat),nN n (bE s d lv k)
 | _,_,0=>trivial
 | 0,_,n+1=>wK (n+1) (cH _) rfl
 | lv +1,k,n+1=>by
  unfold bE;split
  ·exact wK (n+1) (cH _) rfl
  ·rename_i x hx;have hl:=hk k x hx;split
   ·exact aEo _ _
   ·split
    ·exact wK (n+1) (cH _) rfl
    ·refine⟨?_,?_,λy a=>?_⟩
     ·show (if x.kind=3 then x.kids.map (nJ s d.nodes) else []).length<=_;split
      ·rw[cA];omega
      ·exact cH _
     ·show (x.kids.map (bE s d lv)).length<=_;rw[cA];omega
     ·obtain⟨q,hq,rfl⟩:=pJ.1 (show y∈x.kids.map (bE s d lv) from a);exact Sv hk lv q n
structure aEp (s:aA) (d:fS):Prop where
 b:uS s d
 i: ∀l∈d.lines,l.ind<=1099511627776
 t:eM d.nodes 32 0 d.nodes.length
 c:d.nodes.length<=4096
 l: ∀n,nN n (bE s d 32 0)
theorem aEq {s:aA}{d:fS}{a:Int} (hs:s.length<=65536) (h:jF s=(d,a,0)):aEp s d:=by
 rw[aEj hs] at h;have b:=aEh h;have q:=aEn h;have m:(gM s).length<=s.length+1:=by
  unfold gM;rw[Fo];exact(sX s 0 0).1
 have c:d.lines.length<=s.length+1:=aV b.lns m;have p: ∀l∈d.lines,0<=l.ind/\l.ind<=(s.length:Int):=by
  intro l c;obtain⟨j,f,e⟩:=List.mem_iff_getElem.1 c;have o:=(b.ok.2 j f).ind;rw[show aR d.lines j=l by unfold aR;rw[bH f,e];rfl] at o;omega
 refine⟨⟨hs,by omega,by have:=b.cnt;omega,λx g=>?_,λl c=>(p l c).1⟩,λl c=>by have:=(p l c).2;omega,b.tree,b.cnt,λn=>Sv (λk x g=>b.kids g) 32 0 n⟩;obtain⟨j,f,e⟩:=List.mem_iff_getElem.1 g;have i:d.nodes[j]?=some x:=by rw[bH f,e]
 have o:=q x g;have h2:=b.kids i;exact⟨by omega,by omega,by omega⟩
end
section
open Go.RowKit
open Go.Lib hiding intOf
def rU (s:aA):VT:=if(jF s).2.2=0 then bE s (jF s).1 32 0 else gQ
theorem iX.formsR {B:Nat}{d:fS}{lv nv:Value}{w:World} (h:iX B d lv nv w):(∃p c,lv= .slice p d.lines.length c)/\ ∃p c,nv= .slice p d.nodes.length c:=by
 obtain⟨z,f,i,j⟩:=h;have e:z.length=d.nodes.length:=by rw[<-f,cA]
 constructor
 ·rcases i.2 with⟨a,b⟩ | ⟨g,cap,cur,a,_⟩
  ·exact⟨none,0,by rw[a,b]⟩
  ·exact⟨_,_,a⟩
 ·rw[<-e];rcases j.row.2 with⟨a,b⟩ | ⟨g,cap,cur,a,_⟩
  ·exact⟨none,0,by rw[a,b]⟩
  ·exact⟨_,_,a⟩
theorem aEr {s:aA}{d:fS}{n:Int} (h:jF s=(d,n,0)):s.length<=65536:=by
 unfold jF at h;split at h
 ·simp at h
 ·omega
theorem aEs (s:aA) (w:World) (hV:cG w):
  Calls Tryz.prog 8 #[.string (bs s)] w (Fe (rU s) (jF s).2.1 (jF s).2.2 w):=by
 obtain⟨R,X⟩:=exQ<|w.heap.size;obtain⟨W1,A⟩:=exQ<|w.alloc (.cells #[.int .i64 0, .string ⟨#[]⟩, .slice none 0 0, .slice none 0 0] 25);have B:Hid (Below w.heap.size w W1):=hid (by rw[<-A];exact aH _ _);have k:Hid (W1.heap[R]?=some (.cells #[.int .i64 0, .string (bs []), .slice none 0 0, .slice none 0 0] 25)):=hid (by rw[<-A,<-X];exact heap_alloc_new w _);have m:=hid (aE k.out);have HV:=hid (hV.keep B.out);obtain⟨T,o⟩:=exQ<|rU s;rw[o];unfold rU at o;obtain⟨⟨d,n,er⟩,hP⟩:=exQ<|jF s;have CP:=hid (aDM s W1 HV.out);rw[hP] at CP o ⊢;have HP:=hid hP;simp only[] at o ⊢;clear hV hP;go_enter Tryz.func8,Tryz.ntmps8;go_upto_region 1 with fail;clear A;go_wp2_with fail;refine CP.out.mono ?_;rintro e w2 ⟨tx,lv,nv,rfl,g,Q,C⟩;simp only[] at g;obtain⟨⟨pl,cl,r⟩,pn,cn,x⟩:=Q.formsR;obtain⟨nl,I⟩:=exQ<|d.lines.length;obtain⟨nn,F⟩:=exQ<|d.nodes.length;simp only[] at r x;rw[I] at r;rw[F] at x;subst r x;have Y:=hid C;have W:=hid Q;have Z:=hid g;simp only[];clear Q C g I F CP;obtain⟨D,u⟩:=exQ<|w2.heap.size;have b3:=aH w2 (.cells #[.string tx, .slice pl nl cl, .slice pn nn cn] 45);have x3:=heap_alloc_new w2 (.cells #[.string tx, .slice pl nl cl, .slice pn nn cn] 45);obtain⟨w3,z⟩:=exQ<|w2.alloc (.cells #[.string tx, .slice pl nl cl, .slice pn nn cn] 45);rw[z] at b3 x3;rw[u] at x3;have E:=hid b3;have j:Hid (Below W1.heap.size W1 w3):=hid (aC Y.out b3);by_cases h0:er=0;rotate_left
 ·rw[if_neg h0] at o;subst o;have d0:(er !=0)=true:=by simpa using h0
  have a:=hid (mK (t:=gQ) B.out (by rw[X];exact aD _) m.out (sV _ _ _ _) j.out k.out);obtain⟨r0,r1,r2,r3,f0,f1,f2,f3⟩:=cF ((j.out.block R m.out).trans k.out);clear h0 b3 x3;go_wp2_with fail;clear z u;obtain⟨WF,f⟩:=exQ<|bL w3 R gQ.kind gQ.text (.slice none 0 0) (.slice none 0 0);rw[f] at a;have c:(((w3.setCell ⟨R,0,none⟩ (.int .i64 0)).setCell ⟨R,1,none⟩ (.string ⟨#[]⟩)).setCell ⟨R,2,none⟩ (.slice none 0 0)).setCell ⟨R,3,none⟩ (.slice none 0 0)=WF:=f;rw[c];clear f c r0 r1 r2 r3 f0 f1 f2 f3;obtain⟨d0,d1,d2,d3,_⟩:=cF a.out.2.2;refine bodyPost_ret (v:= .tuple #[vv gQ (.slice none 0 0) (.slice none 0 0), .int .i64 n, .int .i64 er]) ?_ rfl ⟨⟨_,_,rfl,a.out.1⟩,a.out.2.1⟩;simp[results,Tryz.results8,go_sem,d0,d1,d2,d3,vv]
 subst h0;rw[if_pos rfl] at o;have g:=Z.out;rw[if_pos rfl] at g;subst g;have U:=hid (aEq (aEr HP.out) HP.out);have CN:Hid (∀w',Below w3.heap.size w3 w'->Calls Tryz.prog 24 #[.agg #[.string (bs s), .slice pl nl cl, .slice pn nn cn], .int .i64 0] w' (Sh T true w')):=hid (λw' h=>by have:=aEc s d U.out.b U.out.i _ _ _ 0 _ w' U.out.t ((W.out.keep E.out).keep h) ((HV.out.keep j.out).keep h);rw[o] at this;exact this);obtain⟨c0,c1,c2,_⟩:=kS x3;clear b3 x3 o;go_wp2_with fail;refine(CN.out _ (by first | exact aB _ _ | exact(aB _ _).drew)).mono ?_;rintro e w4 ⟨⟨kv,iv,rfl,P⟩,C⟩;obtain⟨pk,ck,pi,ci,J,G⟩:=P.form;obtain⟨nk,O⟩:=exQ<|T.keys.length;obtain⟨ni,H⟩:=exQ<|T.items.length;obtain⟨tk,y⟩:=exQ<|T.kind;obtain⟨tt,p⟩:=exQ<|T.text;rw[O] at J;rw[H] at G;subst J G;unfold vv;rw[y,p];have K:Hid (Below w3.heap.size w3 w4):=hid (by first | exact C | exact aC (aB _ _).drew C);have S:Hid (jP W1.heap.size w4 T.depth T (.slice pk nk ck) (.slice pi ni ci)):=hid (P.mono (ok':=λq=>W1.heap.size<=q) (λq hq _=>aV j.out.size hq));have l:=hid (aT y p);clear P C c0 c1 c2 CN z u y p O H;obtain⟨V,M⟩:=exQ<|w4.heap.size;have b5:=aH w4 (.cells #[.int .i64 tk, .string (bs tt), .slice pk nk ck, .slice pi ni ci] 25);have x5:=heap_alloc_new w4 (.cells #[.int .i64 tk, .string (bs tt), .slice pk nk ck, .slice pi ni ci] 25);obtain⟨w5,L⟩:=exQ<|w4.alloc (.cells #[.int .i64 tk, .string (bs tt), .slice pk nk ck, .slice pi ni ci] 25);rw[L] at b5 x5;rw[M] at x5;have N:Hid (Below W1.heap.size W1 w5):=hid (aC j.out (aC K.out b5));have a:=hid (mK B.out (by rw[X];exact aD _) m.out (S.out.keep b5) N.out k.out);rw[l.out.1,l.out.2] at a;obtain⟨r0,r1,r2,r3,f0,f1,f2,f3⟩:=cF ((N.out.block R m.out).trans k.out);obtain⟨q0,q1,q2,q3,_⟩:=cF x5;clear b5 x5;go_wp2_with fail;clear L M;obtain⟨WF,f⟩:=exQ<|bL w5 R tk tt (.slice pk nk ck) (.slice pi ni ci);rw[f] at a;have c:(((w5.setCell ⟨R,0,none⟩ (.int .i64 tk)).setCell ⟨R,1,none⟩ (.string (bs tt))).setCell ⟨R,2,none⟩ (.slice pk nk ck)).setCell ⟨R,3,none⟩ (.slice pi ni ci)=WF:=f;rw[c];clear f c r0 r1 r2 r3 f0 f1 f2 f3 q0 q1 q2 q3;obtain⟨d0,d1,d2,d3,_⟩:=cF a.out.2.2;refine bodyPost_ret (v:= .tuple #[vv T (.slice pk nk ck) (.slice pi ni ci), .int .i64 n, .int .i64 0]) ?_ rfl ⟨⟨_,_,rfl,a.out.1⟩,a.out.2.1⟩;simp[results,Tryz.results8,go_sem,d0,d1,d2,d3,vv,l.out.1,l.out.2]
end
section
open Go.Lib hiding intOf
mutual
theorem aEt: ∀(t:VT) (hd:aA) (h:Nat×Nat) (ind:Nat),cY t=true->rQ hd h-> ∀x∈gN t hd ind,(10:UInt8) ∉ x
 | .mk k s ks [],hd,h,ind,hR,hH,x,hx=>by
  rw[gN] at hx;simp only[List.isEmpty_nil,if_true] at hx;rw[jX.1 hx];exact(hH.core ind _ (yU hR rfl).tx).not
 | .mk k s ks (y::ys),hd,h,ind,hR,hH,x,hx=>by
  rw[gN,if_neg (by simp)] at hx;rcases eV.1 hx with rfl | hx
  ·exact(hH.bare ind).not
  ·obtain⟨_,hkind⟩:=Bt hR;refine Hq (y::ys) (decide (k=6)) [] ks (ind+2) (λz a=>yW hR a) (λb=>?_) x hx;have h6:=of_decide_eq_true b;rcases hkind with⟨e,_⟩ | ⟨_,c⟩
   ·omega
   ·exact c
theorem Hq: ∀(xs:List VT) (map:Bool) (had ks:List aA) (ind:Nat),(∀x∈xs,cY x=true)->(map=true->mF had ks=true/\ks.length=xs.length)-> ∀x∈cJ xs map ks ind,(10:UInt8) ∉ x
 | [],map,had,ks,ind,_,_,x,hx=>by cases hx
 | y::ys,map,had,ks,ind,hR,hk,x,hx=>by
  rw[cJ] at hx;rcases mZ.1 hx with hx | hx
  ·exact aEt y _ _ ind (hR y (fV ..)) (wF (λhm=>(qQ (hk hm)).1)) x hx
  ·exact Hq ys map (ks.headD []::had) ks.tail ind (λz hz=>hR z (List.mem_cons_of_mem _ hz)) (λhm=>(qQ (hk hm)).2.2.1) x hx
end
theorem aEu {l:List aA} (h: ∀x∈l,(10:UInt8) ∉ x):gM (aX l)=cM l 0:=Pz l 0 h
theorem aEv {l:List aA}{new:List aM}{n:Nat}{t:VT}{kf kt:Int}{e:Nat} (h:wH l new n t kf kt e):gB new 0=e:=by
 obtain⟨⟨x,r,rfl,_,_,a⟩,_⟩:=h;exact a
theorem Sw {l:List aA}{t:VT}{x:aA}{n:Nat}{c:kL} (hno: ∀x∈l,(10:UInt8) ∉ x) (hz:l[0]?=some x) (hx:gT x n c) (hs:(aX l).length<=65536) (hd:t.depth<=32) {new:List aM}{tot m:Nat} (hB:kC (aX l) (cM l 0) 32 0 0 0 ⟨cR l 1,[],0⟩= .ok 0 ⟨cR l m,new,tot⟩) (hm:m=l.length\/m=l.length+1) (hN:wH l new 0 t 0 0 l.length):
  (jF (aX l)).2=(((aX l).length:Int),0)/\rU (aX l)=t:=by
 have hP:jF (aX l)=(⟨cR l (l.length+1),new⟩,((aX l).length:Int),0):=by
  unfold jF;rw[if_neg (by omega),aEu hno];unfold mA;have a:=Gq (m:=0) hz hx (.inl rfl);rw[show ([]:List aO)=cR l 0 from rfl,a];simp only[];rw[if_neg (by rw[rO];omega)];rw[show cR l (0+1)=cR l 1 from rfl,hB];simp only[];rw[aEv hN,Qg l hm];simp only[];rw[if_neg (by rw[rO];omega)]
 unfold rU;rw[hP];refine⟨rfl,?_⟩;simp only[];rw[if_pos trivial];have:=hN.2 [] [] (cR l (l.length+1)) 32 rfl hd
 rwa [eE,List.append_nil] at this
theorem Sx {t:VT} (h:cY t=true):t.size<=4096/\t.depth<=32:=by
 unfold cY at h;simp only[bV,eA] at h;exact h.1
theorem aEw {t:VT} (hR:cY t=true) (hne:t.items≠ []) (hs:(aX (cJ t.items (decide (t.kind=6)) t.keys 0)).length<=65536):
  (jF (aX (cJ t.items (decide (t.kind=6)) t.keys 0))).2=(((aX (cJ t.items (decide (t.kind=6)) t.keys 0)).length:Int),0)/\rU (aX (cJ t.items (decide (t.kind=6)) t.keys 0))=t:=by
 obtain⟨hz1,b⟩:=Sx hR;obtain⟨new,h,i⟩:=Qu (l:=cJ t.items (decide (t.kind=6)) t.keys 0) (ind:=0) (lv:=31) (k:=0) (R:= []) (tot:=0) (Gr t.items) hR hne 0 0 [] hs (by rw[List.append_nil];rfl) (.inl (by rw[Nat.zero_add])) b (by omega);simp only[Nat.zero_add] at h i;obtain⟨k,s,ks,it⟩:=t;cases it with
 | nil=>exact absurd rfl hne
 | cons y ys=>
  obtain⟨_,a⟩:=Bt hR;have d:decide (k=6)=true->mF [] ks=true/\ks.length=(y::ys).length:=λf=>by
   have h6:=of_decide_eq_true f;rcases a with⟨e,_⟩ | ⟨_,d⟩
   ·omega
   ·exact d
  obtain⟨z,c,r,m,g,_,_⟩:=yV (yW hR (fV ..)) (wF (λf=>(qQ (d f)).1)) 0;exact Sw (Hq (y::ys) (decide (k=6)) [] ks 0 (λz j=>yW hR j) d) (by show (cJ (y::ys) (decide (k=6)) ks 0)[0]?=some z;rw[cJ,m];rfl) g hs b h (.inr rfl) i
theorem aEx {t:VT} (hR:cY t=true) (h0:t.items= []) (hs:(aX [(cZ t).1]).length<=65536):
  (jF (aX [(cZ t).1])).2=(((aX [(cZ t).1]).length:Int),0)/\rU (aX [(cZ t).1])=t:=by
 obtain⟨hz1,d⟩:=Sx hR;have c:=yU hR h0;have f:=aCx _ c.tx c.hd.1 c.hd.2;have e: [(cZ t).1][0]?=some (cZ t).1:=rfl;obtain⟨e1,e2,_,e4⟩:=uK e f (jY 0);simp only[Nat.zero_add] at e1 e2;obtain⟨x,g,h⟩:=Qs (lv:=32) hR h0 e (ln:=cR [(cZ t).1] 1) (a:=0) (b:=(cZ t).1.length) e1 e2 (cH _) (aD _) (by rw[List.drop_zero,Nat.sub_zero,List.take_length]) hs 0 0 [] 0 d (by omega);refine Sw (l:= [(cZ t).1]) (λy i=>by rw[jX.1 i];exact f.not) e f hs d (new:= [x]) (tot:=t.size) (m:=1) ?_ (.inl rfl) h;rw[Nat.zero_add] at g;rw[kC];unfold mM;simp only[];rw[show (aR (cR [(cZ t).1] 1) 0).kind=5 from e4,if_pos rfl];exact g
end
end Go.Proofs.YtjnooaljcgkfpaaGreatDoor
