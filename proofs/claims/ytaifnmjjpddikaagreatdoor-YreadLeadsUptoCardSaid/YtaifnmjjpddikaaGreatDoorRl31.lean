import Derived.Test.YtaifnmjjpddikaaGreatDoorRl29
import Derived.Test.YtaifnmjjpddikaaGreatDoorRl30
import Derived.Test.YtaifnmjjpddikaaGreatDoorRl5
set_option maxRecDepth 100000
set_option maxHeartbeats 8000000
namespace Go.Proofs.YtaifnmjjpddikaaGreatDoor
set_option linter.unusedVariables false
set_option linter.unusedSimpArgs false
section
open Go.RowKit Go.Shelf
open Go.Lib hiding intOf
attribute [local go_sem] Oper.semAt_some
def jT (c:jK) (ys:List WE):jK:=ys.foldl (λ_ x=>x.2) c
theorem Pt (c:jK) (ys:List WE) (x:WE):jT c (ys++ [x])=x.2:=by unfold jT;rw[List.foldl_append];rfl
theorem Pu {w0:World}: ∀(path:List aA) (t:VT) (ys:List WE) (kv iv:Value),(∃n,VD w0 n t kv iv)->lF w0 path t ys->ys.length<=path.length/\(ys.length=path.length↔(gC path t).isSome=true)/\(∀y,gC path t=some y->(jT (t,kv,iv) ys).1=y)/\ ∃n,VD w0 n (jT (t,kv,iv) ys).1 (jT (t,kv,iv) ys).2.1 (jT (t,kv,iv) ys).2.2
 | [],t,ys,kv,iv,hv,h=>by
  have h:ys= []:=h;subst h;exact⟨aE _,⟨λ_=>rfl,λ_=>rfl⟩,λy e=>bD e,hv⟩
 | st::r,t,ys,kv,iv,hv,h=>by
  rw[lF] at h;rw[gC];by_cases hc:0<=jR t st
  ·rw[if_pos hc] at h;obtain⟨x,kx,ix,rest,n,g,a,rfl,i⟩:=h;obtain⟨h1,b,f,c⟩:=Pu r x rest kx ix ⟨n,a⟩ i;rw[if_pos hc,g];exact⟨by simp only[aV];omega,⟨λe=>b.1 (by simpa using e),λe=>by simp[b.2 e]⟩,f,c⟩
  ·rw[if_neg hc] at h;subst h;rw[if_neg hc];exact⟨bM _,⟨(λe=>by cases e),(λe=>by cases e)⟩,(λy e=>by cases e),hv⟩
def mO (w:World) (c0:jK) (pre:List WE) (W:World):Prop:=
 (∃n,VD w n (jT c0 pre).1 (jT c0 pre).2.1 (jT c0 pre).2.2)/\cV W w.heap.size (jT c0 pre).1 (jT c0 pre).2.1 (jT c0 pre).2.2/\
 (∃vO,Boxed W (w.heap.size+2) 60 vO/\W.ownsRow w.heap.size 3 1 vO pre.length (pX pre))/\W.heap[w.heap.size+1]?=some (.cells #[.int .i64 0, .string (bs []), .slice none 0 0, .slice none 0 0] 26)/\Below w.heap.size w W/\(∃cs,W.heap[w.heap.size+3]?=some (.cells cs 26))/\ ∃cs,W.heap[w.heap.size+4]?=some (.cells cs 23)
theorem mO.same {w A C:World}{c0:jK}{pre:List WE} (h:mO w c0 pre A) (hb: ∀i o,A.heap[i]?=some o->o.isCells=true->i≠w.heap.size+3->C.heap[i]?=some o) (hv: ∀cs,A.heap[w.heap.size+3]?=some (.cells cs 26)-> ∃cs',C.heap[w.heap.size+3]?=some (.cells cs' 26)) (hB:Below w.heap.size w C):mO w c0 pre C:=by
 obtain⟨j,n,⟨vO,f,b⟩,k,h6,⟨cs,c⟩,cp,l⟩:=h;refine⟨j,hb _ _ n rfl (by omega),⟨vO,hb _ _ f rfl (by omega),b.1,?_⟩,hb _ _ k rfl (by omega),hB,hv cs c,_,hb _ _ l rfl (by omega)⟩;rcases b.2 with e | ⟨g,cap,cu,rfl,m,a,e⟩
 ·exact .inl e
 ·refine .inr ⟨g,cap,cu,rfl,m,hb _ _ a rfl (λe2=>?_),e⟩;rw[e2,c] at a;injection a with a;injection a with _ a;exact absurd a (by decide)
theorem mO.ok {w A C:World}{c0:jK}{pre:List WE} (h:mO w c0 pre A) (ho:Ez (w.heap.size+3) A C):mO w c0 pre C:=by
 have f:=h.2.2.2.2.1;rcases ho with j | ⟨k,t,kv,iv,rfl⟩
 ·have g: ∀i o,A.heap[i]?=some o->C.heap[i]?=some o:=λi o a=>(j.block i (aF a) (by simp)).trans a;exact h.same (λi o a _ _=>g i o a) (λcs c=>⟨cs,g _ _ c⟩) (f.grown j f.size (λk e=>by cases e))
 ·refine h.same (λi o a _ b=>(qL b).trans a) (λcs c=>?_) (pK f (by omega));unfold bG;exact⟨_,fO (fO (fO (fO c _ _) _ _) _ _) _ _⟩
theorem mO.obj {w A:World}{c0:jK}{pre:List WE}{l:Nat}{o o':Obj} (h:mO w c0 pre A) (hl:w.heap.size<=l) (ho:A.heap[l]?=some o) (hc:o.isCells=false):mO w c0 pre (A.putObj l o'):=by
 have c: ∀(i:Nat) (u:Obj),A.heap[i]?=some u->u.isCells=true->(A.putObj l o').heap[i]?=some u:=λi u a b=>by
  rw[World.putObj_heap_other (λe=>by rw[e,ho] at a;cases a;rw[hc] at b;cases b)];exact a
 exact h.same (λi u a b _=>c i u a b) (λcs f=>⟨cs,c _ _ f rfl⟩) (h.2.2.2.2.1.grown (grownBy_putObj' A l o') h.2.2.2.2.1.size (λk e=>by cases e;omega))
theorem mO.alloc {w A:World}{c0:jK}{pre:List WE} (o:Obj) (h:mO w c0 pre A):mO w c0 pre (A.alloc o):=h.ok (.inl (World.grownBy_alloc A o _))
def Pv (w:World) (path:List aA) (t:VT) (e:Ending) (w':World):Prop:= ∃p n c x kx ix,e= .returned (.tuple #[.slice p n c,vv x kx ix, .bool (gC path t).isSome])/\(∀y,gC path t=some y->x=y)/\(∃n,VD w n x kx ix)/\Below w.heap.size w w'
theorem aCw (m:Nat) (t:VT) (kv iv:Value) (path:List aA) (pv:Value) (w:World) (h:VD w m t kv iv) (hev:cB kZ t=true) (hbk:t.bulk<=1073741824) (hp:SV w pv path) (hpl:path.length<=1073741824) (hV:cM w):
  Calls Tryz.prog 22 #[vv t kv iv,pv] w (Pv w path t):=by
 obtain⟨pk,ck,pi,ci,rfl,rfl⟩:=h.form;obtain⟨pp,cp,rfl,a2,ai⟩:=hp;refine(callsIn_wide (n:=9)).1 ?_;refine callsIn_of_wp_marks Tryz.func22 rfl trivial ?_ rfl;simp only[Tryz.ntmps22,List.size_toArray,aV,gY,Nat.reduceAdd,Nat.reduceSub,Array.replicate_succ,Array.replicate_zero,List.push_toArray,List.append_toArray,jJ,jW];have HP:=hid (aJ h (aJ hev (aJ hbk (aJ ai hV))));unfold vv;clear h hev hbk ai hV a2;obtain⟨W0,M⟩:=exQ (((((w.alloc (.cells #[.int .i64 t.kind, .string (bs t.text), .slice pk t.keys.length ck, .slice pi t.items.length ci] 26)).alloc (.cells #[.int .i64 0, .string ⟨#[]⟩, .slice none 0 0, .slice none 0 0] 26)).alloc (.cells #[.slice none 0 0] 60)).alloc (.cells #[.int .i64 t.kind, .string (bs t.text), .slice pk t.keys.length ck, .slice pi t.items.length ci] 26)).alloc (.cells #[.slice pp path.length cp] 23));have aC:W0.heap.size=w.heap.size+5:=by rw[<-M];simp
 have af:Below w.heap.size w W0:=by
  rw[<-M];exact(((((aB _ w).alloc (aE _) _).alloc (by simp) _).alloc (by simp;omega) _).alloc (by simp;omega) _).alloc (by simp;omega) _
 have K: ∀(A:World) (o:Obj) (i:Nat) (u:Obj),A.heap[i]?=some u->(A.alloc o).heap[i]?=some u:=λA o i u G=>by rw[Below.heap_alloc _ _ _ (aF G)];exact G
 have k0:W0.heap[w.heap.size]?=some (.cells #[.int .i64 t.kind, .string (bs t.text), .slice pk t.keys.length ck, .slice pi t.items.length ci] 26):=by
  rw[<-M];exact K _ _ _ _ (K _ _ _ _ (K _ _ _ _ (K _ _ _ _ (heap_alloc_new w _))))
 have k1:W0.heap[w.heap.size+1]?=some (.cells #[.int .i64 0, .string (bs []), .slice none 0 0, .slice none 0 0] 26):=by
  have:=heap_alloc_new (w.alloc (.cells #[.int .i64 t.kind, .string (bs t.text), .slice pk t.keys.length ck, .slice pi t.items.length ci] 26)) (.cells #[.int .i64 0, .string ⟨#[]⟩, .slice none 0 0, .slice none 0 0] 26);rw[kT] at this;rw[<-M];exact K _ _ _ _ (K _ _ _ _ (K _ _ _ _ this))
 have k2:W0.heap[w.heap.size+2]?=some (.cells #[.slice none 0 0] 60):=by
  have:=heap_alloc_new ((w.alloc (.cells #[.int .i64 t.kind, .string (bs t.text), .slice pk t.keys.length ck, .slice pi t.items.length ci] 26)).alloc (.cells #[.int .i64 0, .string ⟨#[]⟩, .slice none 0 0, .slice none 0 0] 26)) (.cells #[.slice none 0 0] 60);simp only[kT,Nat.add_assoc,Nat.reduceAdd] at this;rw[<-M];exact K _ _ _ _ (K _ _ _ _ this)
 have k3:W0.heap[w.heap.size+3]?=some (.cells #[.int .i64 t.kind, .string (bs t.text), .slice pk t.keys.length ck, .slice pi t.items.length ci] 26):=by
  have:=heap_alloc_new (((w.alloc (.cells #[.int .i64 t.kind, .string (bs t.text), .slice pk t.keys.length ck, .slice pi t.items.length ci] 26)).alloc (.cells #[.int .i64 0, .string ⟨#[]⟩, .slice none 0 0, .slice none 0 0] 26)).alloc (.cells #[.slice none 0 0] 60)) (.cells #[.int .i64 t.kind, .string (bs t.text), .slice pk t.keys.length ck, .slice pi t.items.length ci] 26);simp only[kT,Nat.add_assoc,Nat.reduceAdd] at this;rw[<-M];exact K _ _ _ _ this
 have k4:W0.heap[w.heap.size+4]?=some (.cells #[.slice pp path.length cp] 23):=by
  have:=heap_alloc_new ((((w.alloc (.cells #[.int .i64 t.kind, .string (bs t.text), .slice pk t.keys.length ck, .slice pi t.items.length ci] 26)).alloc (.cells #[.int .i64 0, .string ⟨#[]⟩, .slice none 0 0, .slice none 0 0] 26)).alloc (.cells #[.slice none 0 0] 60)).alloc (.cells #[.int .i64 t.kind, .string (bs t.text), .slice pk t.keys.length ck, .slice pi t.items.length ci] 26)) (.cells #[.slice pp path.length cp] 23);simp only[kT,Nat.add_assoc,Nat.reduceAdd] at this;rw[<-M];exact this
 have HK:=hid (aJ aC (aJ af (aJ k0 (aJ k1 (aJ k2 (aJ k3 k4))))));have HC:=hid (aBJ t (.slice pk t.keys.length ck) (.slice pi t.items.length ci) (.slice pp path.length cp));unfold vv at HC;clear aC af k0 k1 k2 k3 k4 K;gi_wp2_with fail;refine⟨trivial,?_⟩;refine(callsIn_wide.2 (HC.out _ ⟨_,_,_,_,rfl,rfl⟩ ⟨_,_,_,rfl⟩)).mono ?_;rintro e w' ⟨rfl,rfl⟩;gi_wp2_with fail;simp only[kT,Nat.add_assoc,Nat.reduceAdd] at M ⊢
 try rw[M]
 clear M HC;have an:Tryz.prog.follows .mixedOrders=true:=by kernel_rfl
 obtain⟨aC,af,k0,k1,k2,k3,k4⟩:=HK.out;refine aBG (gf:=86) (lb:= #[.pointer (some ⟨w.heap.size+4,0,none⟩), .pointer (some ⟨w.heap.size+3,0,none⟩)]) rfl (enters_of Tryz.func86 (by kernel_rfl) rfl)
  (α:=WE) (encs:=zZ) (λ_=>rfl) (S:=λys=>lF w path t ys) (Px:=λpre x=>pre.length<path.length/\ ∃k,VD w k x.2.1 x.2.2.1 x.2.2.2) (Ok:=Ez (w.heap.size+3)) (Kp:=Oc w.heap.size (w.heap.size+3) (w.heap.size+4)) ?ok ?seq ?kt ?kb
  (mO w (t, .slice pk t.keys.length ck, .slice pi t.items.length ci)) ?i ?ip ?ia ?start ?body ?done
 case ok=>
  rintro A C (h | ⟨k,t',kv',iv',rfl⟩) i G hl
  ·exact h.block i hl (by simp)
  ·exact qL (by omega)
 case seq=>
  intro l J W hW hJ hY h0;exact aBN 8 (by omega) l (w.heap.size+3) (w.heap.size+4) w t _ _ m path pp cp HP.out.1 HP.out.2.1 HP.out.2.2.1 HP.out.2.2.2.1 hpl HP.out.2.2.2.2 (by omega) (by omega) J hJ (λpre x W1 hj hb hl hv=>hY pre x W1 hj ⟨hl,hv⟩) W (af.trans (hW.mono (by omega))) ((hW.block _ (by omega)).trans k3) ((hW.block _ (by omega)).trans k4) h0
 case kt=>
  rintro A B C ⟨h1,h2,h3⟩ ⟨g1,g2,g3⟩;exact⟨g1.trans h1,g2.trans h2,h3.trans g3⟩
 case kb=>
  intro W l o o' hl O hc;exact⟨World.putObj_heap_other (by omega),World.putObj_heap_other (by omega),(aB _ W).grown (grownBy_putObj' W l o') (by have:=aF O;omega) (λk e=>by cases e;omega)⟩
 case i=>exact λpre A C h O=>h.ok O
 case ip=>exact λpre A l o o' h hl O hc=>h.obj (by omega) O hc
 case ia=>exact λpre A o h=>h.alloc o
 case start=>exact⟨⟨m,HP.out.1⟩,k0,⟨_,k2,World.ownsRow_nil _ _ _ _⟩,k1,af,⟨_,k3⟩,_,k4⟩
 case body=>
  rintro l pre ⟨k,x,kx,ix⟩ W hl hlt hI ⟨hpr,nx,aD⟩;simp only[] at aD;obtain⟨pkx,ckx,pix,cix,rfl,rfl⟩:=aD.form;dsimp only[zZ,vv];gi_wp2_with fail;obtain⟨hn0,U,⟨vO,ak,F⟩,Z,R,⟨cs,Q⟩,cs4,P⟩:=hI;obtain⟨Wa,ad⟩:=exQ<|W.alloc (.cells #[.int .i64 x.kind, .string (bs x.text), .slice pkx x.keys.length ckx, .slice pix x.items.length cix] 26);have ar: ∀i u,W.heap[i]?=some u->Wa.heap[i]?=some u:=λi u G=>by rw[<-ad,Below.heap_alloc _ _ _ (aF G)];exact G
  have aQ:Wa.heap[W.heap.size]?=some (.cells #[.int .i64 x.kind, .string (bs x.text), .slice pkx x.keys.length ckx, .slice pix x.items.length cix] 26):=by rw[<-ad];exact heap_alloc_new W _
  have au:Below w.heap.size W Wa:=by rw[<-ad];exact(aB _ W).alloc R.size _
  have ao:Wa.ownsRow w.heap.size 3 1 vO pre.length (pX pre):=by rw[<-ad];exact F.alloc _
  have aP:KeepsOthers W Wa:=by rw[<-ad];exact KeepsOthers.alloc _ _
  try rw[ad]
  refine⟨aP.from _,⟨(ar _ _ Q).trans Q.symm,(ar _ _ P).trans P.symm,au⟩,λo o' O hc=>?_⟩;obtain⟨WB,aj⟩:=exQ<|Wa.putObj l o';have N: ∀(i:Nat) (cs:Array Value) (T:TypeId),W.heap[i]?=some (Obj.cells cs T)->WB.heap[i]?=some (Obj.cells cs T):=λi cs T G=>by
   have h1:=ar _ _ G;rw[<-aj,World.putObj_heap_other (λe=>by rw[e,O] at h1;cases h1;cases hc)];exact h1
  have ah:WB.heap[W.heap.size]?=some (.cells #[.int .i64 x.kind, .string (bs x.text), .slice pkx x.keys.length ckx, .slice pix x.items.length cix] 26):=by
   rw[<-aj,World.putObj_heap_other (by omega)];exact aQ
  have aS:Below w.heap.size W WB:=au.trans (by rw[<-aj];exact(aB _ Wa).grown (grownBy_putObj' Wa l o') (by have:=au.size;have:=R.size;omega) (λk e=>by cases e;omega));have aa:WB.ownsRow w.heap.size 3 1 vO pre.length (pX pre):=by rw[<-aj];exact ownsRow_putObj ao o' O hc
  rw[aj];have b4:=N _ _ _ P;obtain⟨X,hX⟩:=exQ<|W.heap.size;obtain⟨n0,ab⟩:=exQ<|w.heap.size;have hsW:n0+5<=X:=by have:=R.size;omega
  rw[hX] at ah;rw[ab] at aa b4;rw[ab];have b2:=N _ _ _ ak;have b0:=N _ _ _ U;have b1:=N _ _ _ Z;have b3:=N _ _ _ Q;rw[ab] at b0 b1 b2 b3;have aY:BH n0 WB.drew (n0+2) n0 [X,n0+3,n0+4,n0+1]:=by
   refine⟨⟨by omega,by omega,aE _,by have:=aF ah;show n0<=WB.heap.size;omega⟩,λi G=>?_⟩;simp only[dC,List.not_mem_nil,or_false] at G;rcases G with rfl|rfl|rfl|rfl
   ·exact⟨by omega,by omega,_,_,ah,by decide⟩
   ·exact⟨by omega,by omega,_,_,b3,by decide⟩
   ·exact⟨by omega,by omega,_,_,b4,by decide⟩
   ·exact⟨by omega,by omega,_,_,b1,by decide⟩
  have am:=hid aY;have aX:=hid ah;gi_upto_region 5 with fail;refine aBP an (by kernel_rfl) [15,16,17,18,19] 27 rfl (by kernel_rfl) (by kernel_rfl) rfl n0 (n0+2) n0 [X,n0+3,n0+4,n0+1] vO pre k x (.slice pkx x.keys.length ckx) (.slice pix x.items.length cix) #[.int .i64 (jT (t, .slice pk t.keys.length ck, .slice pi t.items.length ci) pre).1.kind, .string (bs (jT (t, .slice pk t.keys.length ck, .slice pi t.items.length ci) pre).1.text),(jT (t, .slice pk t.keys.length ck, .slice pi t.items.length ci) pre).2.1,(jT (t, .slice pk t.keys.length ck, .slice pi t.items.length ci) pre).2.2] (λiz=>match iz with | 0=>vO | 1=> .int .i64 k | 4=> .agg #[.int .i64 x.kind, .string (bs x.text), .slice pkx x.keys.length ckx, .slice pix x.items.length cix] | _=>undef) aa b2 b0 ?_ ?_
  ·intro d a w' iq o' O G r E s R' hR;have ay:iq<7:=(cJ.1 O).1;have q2:a.tmps[2]?.getD undef= .pointer (some ⟨n0,0,none⟩):=bA E 2 (by decide);have q7:a.tmps[7]?.getD undef= .pointer (some ⟨n0+2,0,none⟩):=bA E 7 (by decide);have q8:a.tmps[8]?.getD undef= .int .i64 k:=bA E 8 (by decide);have q9:a.tmps[9]?.getD undef= .pointer (some ⟨X,0,none⟩):=by rw[<-hX];exact bA E 9 (by decide)
   clear E;have ha:=r;have z:=O;have aL:iq=0\/iq=2\/iq=3\/iq=4\/iq=5\/iq=6\/iq=1:=(by omega);clear ay b0 b1 b2 b3 b4 N ah aS aa ar aQ au ao aP Q P Z U ak F;rcases aL with rfl|rfl|rfl|rfl|rfl|rfl|rfl<;>simp only[eC,dV,cH,cN] at O<;>subst O<;>(try simp[Region.binds] at r)
   ·have H:=s.bO;rw[s.early (f:=7) (i:=0) (j:=5) (by kernel_rfl) G] at H;have x0:w'.cell? ⟨n0+2,0,none⟩=some vO:=(by simp[World.cell?,H]);go_simp;exact hR _ _ (s.pure z ha (by decide) rfl)
   ·have c16:=s.g 1 16 (by decide) (by simp[r]);go_simp;exact hR _ _ (s.build z ha am.out)
   ·have h5:=s.early (f:=7) (i:=3) (j:=5) (by kernel_rfl) G;have c15:=s.g 0 15 (by decide) (by simp[r]);obtain⟨Y,e1,e2,e3⟩:=s.tmp (by simp[r]) G;obtain⟨i0,a4,a5,a3,aZ⟩:=info_parts Tryz.infoInt;refine Bg (.tmp 15) (.tmp 17) 60 rfl n0 3 i0 _ 1 8 Tryz.underlying60 a4 a5 a3 aZ rfl (by decide) w' vO pre.length (pX pre) (by show a.tmps.getD 15 undef=_;rw[aO];exact c15) (s.row0 G) (some ⟨Y,0,none⟩) 1 1 [.int .i64 k] e1 (.inr ⟨_,rfl,by decide,rfl,λj u hj=>?_,λu hu=>?_⟩) (by unfold maxLen;omega) (by omega) (by have:=s.bel.size;have:=am.out.ne.2.2.2;omega) (λv' w2 g1 g2 g3 g4=>hR _ _ (s.app z ha am.out G h5 g1 g2 g3))
    ·have a1:j=0:=by have:=(aR.1 hj).1;simp at this;exact this
     subst a1;rw[oV];simp at hj;subst hj;simp[World.cell?,e3]
    ·rw[iQ.1 hu];rfl
   ·have H:=(s.oth X (by simp)).trans aX.out;obtain⟨x0,x1,x2,x3,_⟩:=bC H;go_simp;exact hR _ _ (s.pure z ha (by decide) rfl)
   ·have h3:d 3=true:=(by simp[r]);have hr:=s.row1 h3;obtain⟨g,cap,hg⟩:=ownsRow_succ hr;have H:=s.bO;rw[G] at H;have x0:w'.cell? ⟨n0+2,0,none⟩=some vO:=(by simp[World.cell?,H]);have f0:w'.frozen? ⟨n0+2,0,none⟩=false:=(by simp[World.frozen?,H]);have hg:a.tmps.getD 18 undef= .slice (some ⟨g,0,none⟩) (pre.length+1) cap:=hg;have c18:a.tmps[18]?.getD undef= .slice (some ⟨g,0,none⟩) (pre.length+1) cap:=by rw[<-aO];exact hg
    have aq:=s.set5 z ha am.out h3 undef;rw[hg] at aq;clear hr hg;go_simp;exact hR undef _ aq
   ·have c19:=s.g 4 19 (by decide) (by simp[r]);have H:=s.bL;rw[G] at H;obtain⟨x0,x1,x2,x3,f0,f1,f2,f3⟩:=bC H;have aq:=s.set6 rfl z ha am.out G undef;go_simp;exact hR undef _ aq
   ·go_simp;exact hR _ _ (s.pure z ha (by decide) rfl)
  ·intro v wz h1 h2 h3 h4 h5 h6;subst ab;refine⟨rfl,h6.from _,⟨⟨nx,by rw[Pt];exact aD⟩,by rw[Pt];exact h3,⟨_,h2,by unfold pX;rw[aW,mZ];exact h1⟩,?_,R.trans (aS.trans h5),⟨_,(h4 _ (by simp)).trans (N _ _ _ Q)⟩,_,(h4 _ (by simp)).trans (N _ _ _ P)⟩,h4 _ (by simp),h4 _ (by simp),h5⟩;exact(h4 _ (by simp)).trans (N _ _ _ Z)
 case done=>
  rintro D ys W hD hS hI hK;obtain⟨g1,g2,g3,g4⟩:=Pu path t ys (.slice pk t.keys.length ck) (.slice pi t.items.length ci) ⟨m,HP.out.1⟩ hS;obtain⟨⟨nn,ap⟩,U,⟨vO,ak,F⟩,Z,R,⟨cs,Q⟩,cs4,P⟩:=hI;obtain⟨⟨x,kx,ix⟩,hx⟩:=exQ<|jT (t, .slice pk t.keys.length ck, .slice pi t.items.length ci) ys;rw[hx] at g3 g4 ap U;simp only[] at g3 g4 ap U;obtain⟨pkx,ckx,pix,cix,rfl,rfl⟩:=ap.form;obtain⟨po,co,rfl⟩: ∃p c,vO= .slice p ys.length c:=by
   rcases F.2 with⟨e1,e2⟩ | ⟨g,cap,cu,e1,_⟩
   ·exact⟨none,0,by rw[e1,e2]⟩
   ·exact⟨_,_,e1⟩
  obtain⟨b,hb⟩:=exQ<|(gC path t).isSome;have hbe:((ys.length:Int)==(path.length:Int))=b:=by
   rw[<-hb];cases hw:(gC path t).isSome with
   | true=>rw[g2.2 hw];exact beq_self_eq_true _
   | false=>exact aK.2 (λe=>by have:=g2.1 (by omega);rw[hw] at this;cases this)
  have HE:Hid ((∀y,gC path t=some y->x=y)/\(∃n,VD w n x (.slice pkx x.keys.length ckx) (.slice pix x.items.length cix))/\(gC path t).isSome=b):=hid ⟨g3,⟨_,ap⟩,hb⟩;obtain⟨b0,b1,b2,b3,_⟩:=bC U;obtain⟨r0,r1,r2,r3,f0,f1,f2,f3⟩:=bC Z;have ag:=ak.cell;have HM:=hid (aJ R (aJ Z (aJ hK hD)));clear g1 g2 g3 g4 ap U ak F Z R Q P hb hS hx hK hD k0 k1 k2 k3 k4 af;gi_wp2_with fail;refine wpIn_wide.2 ?_;obtain⟨Wd,V⟩:=exQ<|W.drew;obtain⟨SA,av⟩: ∃S:World->Prop,(λw'=>w'.cell? ⟨w.heap.size+2,0,none⟩=some (.slice po ys.length co)/\w'.cell? ⟨w.heap.size,0,none⟩=some (.int .i64 x.kind)/\w'.cell? ⟨w.heap.size,1,none⟩=some (.string (bs x.text))/\w'.cell? ⟨w.heap.size,2,none⟩=some (.slice pkx x.keys.length ckx)/\w'.cell? ⟨w.heap.size,3,none⟩=some (.slice pix x.items.length cix))=S:=⟨_,rfl⟩;have aw:Hid (SA Wd):=hid (by rw[<-av,<-V];exact⟨ag,b0,b1,b2,b3⟩);have az:Hid (Wd.heap[w.heap.size+1]?=some (.cells #[.int .i64 0, .string (bs []), .slice none 0 0, .slice none 0 0] 26)):=hid (by rw[<-V];exact HM.out.2.1);clear ag b0 b1 b2 b3 r0 r1 r2 r3 f0 f1 f2 f3;have an:Tryz.prog.follows .mixedOrders=true:=by kernel_rfl
  refine lD an [some 20,some 21,some 22,some 23,some 24,some 25,some 26,some 4,none,some 6] [20,21,22,23,24,25,26,4,6] [8] 1000000 (λ_ _=>True) 27 rfl (by kernel_rfl) (by kernel_rfl) (by kernel_rfl) (λiz=>match iz with | 0=> .slice po ys.length co | 1=> .agg #[.int .i64 x.kind, .string (bs x.text), .slice pkx x.keys.length ckx, .slice pix x.items.length cix] | 2=> .slice po ys.length co | 3=> .int .i64 (ys.length:Int) | 4=> .slice pp path.length cp | 5=> .int .i64 (path.length:Int) | 6=> .bool b | 7=> .slice po ys.length co | 9=> .bool b | _=>undef) SA (λk _ w'=>match k with | 0=>w'=Wd | _=>w'=bG Wd (w.heap.size+1) x.kind x.text (.slice pkx x.keys.length ckx) (.slice pix x.items.length cix)) (by rw[V];exact aw.out) V ?_ ?_
  ·intro d a w' iq o' O G r E s R' hR;have ay:iq<10:=(cJ.1 O).1;have q1:a.tmps[1]?.getD undef= .slice pp path.length cp:=bA E 1 (by decide);have q2:a.tmps[2]?.getD undef= .pointer (some ⟨w.heap.size,0,none⟩):=bA E 2 (by decide);have q5:a.tmps[5]?.getD undef= .pointer (some ⟨w.heap.size+1,0,none⟩):=bA E 5 (by decide);have q7:a.tmps[7]?.getD undef= .pointer (some ⟨w.heap.size+2,0,none⟩):=bA E 7 (by decide);have hc:=s.all [(0,20),(1,21),(2,22),(3,23),(4,24),(5,25),(6,26)] (by decide);dsimp only[fC] at hc;clear E;have ha:=r;have z:=O;have aL:iq=8\/iq=3\/iq=4\/iq=5\/iq=6\/iq=7\/iq=9\/iq=0\/iq=1\/iq=2:=(by omega);clear ay;rcases aL with rfl|rfl|rfl|rfl|rfl|rfl|rfl|rfl|rfl|rfl<;>simp only[eC,dV,cH,cN] at O<;>subst O<;>(try simp[Region.binds] at r)
   ·have c21:=s.g 1 21 rfl (by decide) (by decide) (by decide) (by simp[r]);have aG:=s.at2 (j:=0) rfl G (.inl rfl);have aG:w'=Wd:=aG;subst aG;obtain⟨r0,r1,r2,r3,f0,f1,f2,f3⟩:=bC az.out;go_simp;exact hR undef _ (s.eff2 (by kernel_rfl) (by decide) 0 z ha rfl G (.inl rfl) rfl (by decide) (λ_ _ _=>trivial) (λh=>absurd rfl h) rfl)
   iterate 6 (go_simp;exact hR _ _ (s.pure (by kernel_rfl) z ha rfl (by decide) (by decide) (by decide) rfl))
   all_goals
    have aT:SA w':=by
     obtain⟨q,_,_,ae⟩:=s.ph;cases q with
     | zero=>
      have ae:w'=Wd:=ae;rw[ae];exact aw.out
     | succ q=>
      have ae:w'=bG Wd (w.heap.size+1) x.kind x.text (.slice pkx x.keys.length ckx) (.slice pix x.items.length cix):=ae;have al: ∀g,g≠w.heap.size+1->w'.heap[g]?=Wd.heap[g]?:=λg hg=>by
       rw[ae];unfold bG;rw[cP _ ⟨w.heap.size+1,3,none⟩ _ g hg,cP _ ⟨w.heap.size+1,2,none⟩ _ g hg,cP _ ⟨w.heap.size+1,1,none⟩ _ g hg,cP _ ⟨w.heap.size+1,0,none⟩ _ g hg]
      have h0:=aw.out;rw[<-av] at h0 ⊢;obtain⟨ag,b0,b1,b2,b3⟩:=h0;exact⟨by rw[eY (al _ (by omega))];exact ag,by rw[eY (al _ (by omega))];exact b0,by rw[eY (al _ (by omega))];exact b1,by rw[eY (al _ (by omega))];exact b2,by rw[eY (al _ (by omega))];exact b3⟩
    rw[<-av] at aT;obtain⟨ag,b0,b1,b2,b3⟩:=aT;go_simp;exact hR _ _ (s.pure (by kernel_rfl) z ha rfl (by decide) (by decide) (by decide) rfl)
  intro v wz aH ax;have ax:wz=bG Wd (w.heap.size+1) x.kind x.text (.slice pkx x.keys.length ckx) (.slice pix x.items.length cix):=ax;subst ax;have v4:v 4= .slice po ys.length co:=aH 7 (by decide) (by decide) (by decide) (by decide);have v6:v 6= .bool b:=aH 9 (by decide) (by decide) (by decide) (by decide);simp only[cC,eJ,dO,eK,v4,v6];clear aH v4 v6;have aI:(bG Wd (w.heap.size+1) x.kind x.text (.slice pkx x.keys.length ckx) (.slice pix x.items.length cix)).heap[D]?=some (.deferred (some [])):=by
   rw[qL (by have:=HM.out.2.2.2;omega),<-V];exact HM.out.2.2.1
  have aU:=rQ (k:=x.kind) (t:=x.text) (kv:= .slice pkx x.keys.length ckx) (iv:= .slice pix x.items.length cix) az.out;have aN:Below w.heap.size w (bG Wd (w.heap.size+1) x.kind x.text (.slice pkx x.keys.length ckx) (.slice pix x.items.length cix)):=pK (by rw[<-V];exact HM.out.1.drew) (by omega);obtain⟨WF,aM⟩:=exQ<|bG Wd (w.heap.size+1) x.kind x.text (.slice pkx x.keys.length ckx) (.slice pix x.items.length cix);rw[aM] at aI aU aN ⊢;have hDz:w.heap.size+5<=D:=by have:=HM.out.2.2.2;omega
  clear aM V av aw az;gi_wp2_with fail;refine⟨by simp, .inl ⟨_,_,rfl,run_takeDeferred aI,?_⟩⟩;have a0:(WF.putObj D (.deferred none)).heap[w.heap.size+1]?=some (.cells #[.int .i64 x.kind, .string (bs x.text), .slice pkx x.keys.length ckx, .slice pix x.items.length cix] 26):=by
   rw[World.putObj_heap_other (by omega)];exact aU
  have dB2:Below w.heap.size w (WF.putObj D (.deferred none)):=aN.trans (belowK_b (w:=w) (aE _) WF D _ _ (by omega) aI rfl rfl);obtain⟨d0,d1,d2,d3,_⟩:=bC a0;refine⟨.tuple #[.slice po ys.length co,vv x (.slice pkx x.keys.length ckx) (.slice pix x.items.length cix), .bool b],?_,?_⟩
  ·simp[results,Tryz.results22,go_sem,d0,d1,d2,d3,vv]
  ·exact⟨_,_,_,_,_,_,by rw[HE.out.2.2],HE.out.1,HE.out.2.1,dB2⟩
end
section
open Go.RowKit
open Go.Lib hiding intOf
structure jG (t:VT):Prop where
 o:pW t=true
 h:nF t
 b:t.bulk<=1073741824
theorem jG.ev {t:VT} (h:jG t):cB kZ t=true:=by
 have:=h.o;unfold pW at this;rw[cT] at this;exact this.2
theorem jG.item {t x:VT} (h:jG t) (hx:x∈t.items):jG x:=by
 have a:=h.o;unfold pW at a;simp only[cT,kQ] at a;have e1:=Sk hx;have e2:=Hv hx;have e3:=uB hx;have e4:=Od h.ev hx;have hb:=h.b;have hs:dR t.items+1=t.size/\dN t.items+1=t.depth/\dS t.items<=t.bulk:=by
  cases t with
  | mk k s ks l=>rw[VT.size,VT.depth,VT.bulk];exact⟨rfl,rfl,by show dS l<=_;omega⟩
 refine⟨?_,h.h.sub x hx,by omega⟩;unfold pW;rw[e4,aM (by omega),aM (by omega)];rfl
theorem jG.walk: ∀ {p:List aA}{t x:VT},jG t->gC p t=some x->jG x
 | [],t,x,h,e=>by
  obtain rfl:t=x:=bD e;exact h
 | st::r,t,x,h,e=>by
  rw[gC] at e;split at e
  ·split at e
   ·rename_i y a;exact jG.walk (h.item (aX a)) e
   ·cases e
  ·cases e
def lV (p:List aA) (t:VT):Option VT:=if nG p=true then gC p t else none
def Ft (o:Option VT) (w:World) (e:Ending) (w':World):Prop:=(∃kv iv,e= .returned (.tuple #[vv (o.getD dP) kv iv, .bool o.isSome])/\eZ w.heap.size w' (o.getD dP).depth (o.getD dP) kv iv)/\Below w.heap.size w w'
theorem Fu (n:Nat) (t:VT) (kv iv:Value) (path:List aA) (pv:Value) (w:World) (h:VD w n t kv iv) (hG:jG t) (hp:SV w pv path) (hpl:path.length<=1073741824) (hps: ∀x∈path,x.length<=1073741824) (hV:bU w):
  Calls Tryz.prog 12 #[vv t kv iv,pv] w (Ft (lV path t) w):=by
 obtain⟨pk,ck,p,c,rfl,rfl⟩:=h.form;obtain⟨X,hX⟩:=exQ<|w.heap.size;obtain⟨W1,N⟩:=exQ<|w.alloc (.cells #[.int .i64 t.kind, .string (bs t.text), .slice pk t.keys.length ck, .slice p t.items.length c] 26);obtain⟨R,hR⟩:=exQ<|W1.heap.size;obtain⟨W2,B⟩:=exQ<|W1.alloc (.cells #[.int .i64 0, .string ⟨#[]⟩, .slice none 0 0, .slice none 0 0] 26);have G:Below w.heap.size w W1:=by rw[<-N];exact aI _ _
 have s:Below W1.heap.size W1 W2:=by rw[<-B];exact aI _ _
 have j:=hid (aC G s);have H:Hid (cV W2 X t (.slice pk t.keys.length ck) (.slice p t.items.length c)):=hid (cV.keep (by rw[<-N,<-hX];exact cV.new w t _ _) s);have m:Hid (W2.heap[R]?=some (.cells #[.int .i64 0, .string (bs []), .slice none 0 0, .slice none 0 0] 26)):=hid (by rw[<-B,<-hR];exact heap_alloc_new W1 _);have ad:w.heap.size<=R:=by rw[<-hR];exact G.size
 have V:R<W2.heap.size:=by rw[<-B,<-hR];simp
 have k:=hid (aJ ad V);have M:=h.keep j.out;have E:=hp.keep j.out;have P:=hid (Ns n t _ _ W2 M hG.b (hV.keep j.out).1.1 hG.h);have W:Hid (∀w',Below W2.heap.size W2 w'->Calls Tryz.prog 19 #[pv] w' λe w2=>e= .returned (.bool (nG path))/\Below w'.heap.size w' w2):=hid (λw' D=>Nt pv path w' (E.keep D) hpl hps ((hV.keep j.out).keep D).tabs);have T:Hid (∀w',Below W2.heap.size W2 w'->Calls Tryz.prog 22 #[vv t (.slice pk t.keys.length ck) (.slice p t.items.length c),pv] w' (Pv w' path t)):=hid (λw' D=>aCw n t _ _ path pv w' (M.keep D) hG.ev hG.b (E.keep D) hpl ((hV.keep j.out).keep D).2);have ag:Hid (∀(x:VT) (kx ix:Value) (q:Nat) w',jG x->Below W2.heap.size W2 w'->VD w' q x kx ix->Calls Tryz.prog 23 #[vv x kx ix] w' (jN x w')):=hid (λx kx ix q w' C D hv=>aBH q x kx ix w' hv C.b ((hV.keep j.out).keep D).1.1 C.h C.o);have HG:=hid hG;obtain⟨pa,na,ca,rfl⟩: ∃a b c,pv= .slice a b c:=by
  obtain⟨a,b,e,_⟩:=hp;exact⟨_,_,_,e⟩
 rw[hG.o] at P;unfold vv at P T ⊢;obtain⟨O,l⟩:=exQ<|lV path t;rw[l];unfold lV at l;obtain⟨y,hy⟩:=exQ<|nG path;rw[hy] at W l;have HO:=hid l;clear h hV G s ad V hG M E hp hps hpl l hy;go_enter Tryz.func12,Tryz.ntmps12;go_upto_region 1 with fail;clear N B hR hX;obtain⟨b0,b1,b2,b3⟩:=H.out.cells;go_wp2_with fail;refine P.out.mono ?_;rintro e w3 ⟨rfl,Y⟩;have A:=hid Y;clear Y b0 b1 b2 b3;obtain⟨b0,b1,b2,b3⟩:=(H.out.keep A.out).cells;go_wp2_with fail;refine(W.out _ (by first | exact A.out | exact A.out.drew)).mono ?_;rintro e w4 ⟨rfl,Q⟩;have r:Hid (Below W2.heap.size W2 w4):=hid (by first | exact aC A.out Q | exact aC A.out.drew Q);clear Q b0 b1 b2 b3;obtain⟨b0,b1,b2,b3⟩:=(H.out.keep r.out).cells;cases y with
 | false=>
  have l:=HO.out;rw[if_neg (by simp)] at l;subst l;have f:=hid (iT (t:=dP) j.out k.out.1 k.out.2 (pL _ w4 0 []) r.out m.out);obtain⟨r0,r1,r2,r3,f0,f1,f2,f3⟩:=bC ((r.out.block R k.out.2).trans m.out);clear b0 b1 b2 b3;go_wp2_with fail;obtain⟨WF,i⟩:=exQ<|bG w4 R dP.kind dP.text (.slice none 0 0) (.slice none 0 0);rw[i] at f;have g:(((w4.setCell ⟨R,0,none⟩ (.int .i64 0)).setCell ⟨R,1,none⟩ (.string ⟨#[]⟩)).setCell ⟨R,2,none⟩ (.slice none 0 0)).setCell ⟨R,3,none⟩ (.slice none 0 0)=WF:=i;rw[g];clear i g r0 r1 r2 r3 f0 f1 f2 f3;obtain⟨d0,d1,d2,d3,_⟩:=bC f.out.2.2;refine bodyPost_ret (v:= .tuple #[vv dP (.slice none 0 0) (.slice none 0 0), .bool false]) ?_ rfl ⟨⟨_,_,rfl,f.out.1⟩,f.out.2.1⟩;simp[results,Tryz.results12,go_sem,d0,d1,d2,d3,vv]
 | true=>
  have l:=HO.out;rw[if_pos rfl] at l;have HC:=hid (T.out w4 r.out);go_wp2_with fail;refine HC.out.mono ?_;rintro e w5 ⟨q1,q2,q3,x,kx,ix,rfl,C,⟨nx,K⟩,S⟩;obtain⟨pkx,ckx,pix,cix,rfl,rfl⟩:=K.form;unfold vv;rw[l] at C;rw[l];have ai:Hid (Below W2.heap.size W2 w5):=hid (aC r.out S);have af:Hid (VD w5 nx x (.slice pkx x.keys.length ckx) (.slice pix x.items.length cix)):=hid (K.keep S);obtain⟨Z,hZ⟩:=exQ<|w5.heap.size;have b6:=aI w5 (.cells #[.int .i64 x.kind, .string (bs x.text), .slice pkx x.keys.length ckx, .slice pix x.items.length cix] 26);have x6:=heap_alloc_new w5 (.cells #[.int .i64 x.kind, .string (bs x.text), .slice pkx x.keys.length ckx, .slice pix x.items.length cix] 26);obtain⟨w6,J⟩:=exQ<|w5.alloc (.cells #[.int .i64 x.kind, .string (bs x.text), .slice pkx x.keys.length ckx, .slice pix x.items.length cix] 26);rw[J] at b6 x6;rw[hZ] at x6;have u:Hid (Below W2.heap.size W2 w6):=hid (aC ai.out b6);have ab:=hid (af.out.keep b6);clear b0 b1 b2 b3 K S;obtain⟨b0,b1,b2,b3,_⟩:=bC x6;clear b6 x6;cases O with
  | none=>
   have f:=hid (iT (t:=dP) j.out k.out.1 k.out.2 (pL _ w6 0 []) u.out m.out);obtain⟨r0,r1,r2,r3,f0,f1,f2,f3⟩:=bC ((u.out.block R k.out.2).trans m.out);have hn:(none:Option VT).isSome=false:=rfl;rw[hn];clear b0 b1 b2 b3 l C;go_wp2_with fail;clear J hZ;obtain⟨WF,i⟩:=exQ<|bG w6 R dP.kind dP.text (.slice none 0 0) (.slice none 0 0);rw[i] at f;have g:(((w6.setCell ⟨R,0,none⟩ (.int .i64 0)).setCell ⟨R,1,none⟩ (.string ⟨#[]⟩)).setCell ⟨R,2,none⟩ (.slice none 0 0)).setCell ⟨R,3,none⟩ (.slice none 0 0)=WF:=i;rw[g];clear i g r0 r1 r2 r3 f0 f1 f2 f3;obtain⟨d0,d1,d2,d3,_⟩:=bC f.out.2.2;refine bodyPost_ret (v:= .tuple #[vv dP (.slice none 0 0) (.slice none 0 0), .bool false]) ?_ rfl ⟨⟨_,_,rfl,f.out.1⟩,f.out.2.1⟩;simp[results,Tryz.results12,go_sem,d0,d1,d2,d3,vv]
  | some z=>
   obtain rfl:x=z:=C z rfl;have ae:=hid (ag.out x _ _ nx w6 (HG.out.walk l) u.out ab.out);have hn:(some x:Option VT).isSome=true:=rfl;rw[hn];unfold vv at ae;clear l C;go_wp2_with fail;refine ae.out.mono ?_;rintro e w7 ⟨⟨kv7,iv7,rfl,F⟩,U⟩;obtain⟨u1,u2,u3,u4,rfl,rfl⟩:=F.form;have aa:Hid (Below W2.heap.size W2 w7):=hid (aC u.out U);have ah:Hid (eZ W2.heap.size w7 x.depth x (.slice u1 x.keys.length u2) (.slice u3 x.items.length u4)):=hid (F.mono (λq hq _=>aY u.out.size hq));have f:=hid (iT j.out k.out.1 k.out.2 ah.out aa.out m.out);obtain⟨r0,r1,r2,r3,f0,f1,f2,f3⟩:=bC ((aa.out.block R k.out.2).trans m.out);clear F U b0 b1 b2 b3;unfold vv;go_wp2_with fail;clear J hZ;obtain⟨WF,i⟩:=exQ<|bG w7 R x.kind x.text (.slice u1 x.keys.length u2) (.slice u3 x.items.length u4);rw[i] at f;have g:(((w7.setCell ⟨R,0,none⟩ (.int .i64 x.kind)).setCell ⟨R,1,none⟩ (.string (bs x.text))).setCell ⟨R,2,none⟩ (.slice u1 x.keys.length u2)).setCell ⟨R,3,none⟩ (.slice u3 x.items.length u4)=WF:=i;rw[g];clear i g r0 r1 r2 r3 f0 f1 f2 f3;obtain⟨d0,d1,d2,d3,_⟩:=bC f.out.2.2;refine bodyPost_ret (v:= .tuple #[vv x (.slice u1 x.keys.length u2) (.slice u3 x.items.length u4), .bool true]) ?_ rfl ⟨⟨_,_,rfl,f.out.1⟩,f.out.2.1⟩;simp[results,Tryz.results12,go_sem,d0,d1,d2,d3,vv]
end
section
open Go.RowKit
theorem aCx {v:Nat->Value}{k j:Nat}{x:Value} (h:j≠k):bP v (some k) x j=v j:=if_neg h
theorem aCy {v:Nat->Value}{k:Nat}{x:Value}:bP v (some k) x k=x:=if_pos rfl
structure oL (ops:Array Oper) (L:List (Nat×Nat)) (Pd:Nat->Value->World->Prop) (I:World->Prop) (d:Nat->Bool) (v:Nat->Value) (w':World):Prop where
 clo:nT ops d
 at_: ∀p∈L,d p.1=true->Pd p.1 (v p.2) w'
 inv:I w'
section
variable {ops:Array Oper}{L:List (Nat×Nat)}{Pd:Nat->Value->World->Prop}{I:World->Prop}{d:Nat->Bool}{v:Nat->Value}{w' w2:World}
theorem oL.step (h:oL ops L Pd I d v w') {i q:Nat}{o:Oper} (hL:L.all (λa=>L.all λb=>(a.1==b.1)==(a.2==b.2))=true) (ho:ops[i]?=some o) (hall: ∀e∈o.after,Region.binds .any e=true->d e.on=true) (hm:(i,q)∈L) (hk: ∀p y,Pd p y w'->Pd p y w2) (hI:I w2) {y:Value} (hy:Pd i y w2):oL ops L Pd I (bF d i) (bP v (some q) y) w2:=by
 refine⟨h.clo.step ho hall,λp f g=>?_,hI⟩;have c:=fH.1 (fH.1 hL _ hm) p f;by_cases e:p.1=i
 ·have e2:q=p.2:=by simpa [e] using c
  rw[<-e2,aCy,e];exact hy
 ·have e2:p.2≠q:=λe2=>e (Eq.symm (show i=p.1 by simpa [e2] using c));rw[aCx e2];rw[aS e] at g;exact hk _ _ (h.at_ p f g)
theorem oL.set (h:oL ops L Pd I d v w') {i:Nat}{o:Oper} (hL:L.all (λa=>a.1 !=i)=true) (ho:ops[i]?=some o) (hall: ∀e∈o.after,Region.binds .any e=true->d e.on=true) (hk: ∀p y,Pd p y w'->Pd p y w2) (hI:I w2) (y:Value):oL ops L Pd I (bF d i) (bP v none y) w2:=by
 refine⟨h.clo.step ho hall,λp b c=>?_,hI⟩;have f:=fH.1 hL p b;rw[aS (by simpa using f)] at c;exact hk _ _ (h.at_ p b c)
theorem oL.g {a:Array Value} (h:oL ops L Pd I d (λk=>a.getD k undef) w') (i q:Nat) (hm:(i,q)∈L) (hd:d i=true):Pd i (a[q]?.getD undef) w':=by
 have:=h.at_ _ hm hd;rw[<-aO];exact this
end
theorem aCz {P:Program}{ops:Array Oper}{Q:Exit->Act->World->Prop}{id:Nat}{a0:Act}{wB:World} (hm:P.follows .mixedOrders=true) (K:List Nat) (n:Nat) (hn:a0.tmps.size=n) (hback:oU ops=true) (hdst:nR ops K n=true) (L:List (Nat×Nat)) (hLn:L.all (λp=>decide (p.1<ops.size))=true) (Pd:Nat->Value->World->Prop) (I:World->Prop) (h0:I wB.drew)
  (hs: ∀(d:Nat->Bool) (a:Act) (w:World) (i:Nat) (o:Oper),ops[i]?=some o->d i=false->(∀e∈o.after,Region.binds .any e=true->d e.on=true)->(∀k,k ∉ K->a.tmps.getD k undef=a0.tmps.getD k undef)->oL ops L Pd I d (λk=>a.tmps.getD k undef) w->
   ∀R:Act->World->Prop,(∀x' w',oL ops L Pd I (bF d i) (bP (λk=>a.tmps.getD k undef) o.dst x') w'->R (a.put o.dst x') w')->o.wp P a w R Q)
  (hd: ∀(v:Nat->Value) (w:World),(∀p∈L,Pd p.1 (v p.2) w)->I w->Q .normal { a0 with tmps:=cC a0.tmps v K } w):(Code.region id ops true).wp P Q a0 wB:=by
 refine uF hm K n hn hback hdst (λd v w'=>oL ops L Pd I d v w') ?_ hs (λv w h=>hd v w (λp b=>h.at_ p b ?_) h.inv)
 ·exact⟨λ_ _ _ h=>Bool.noConfusion h,λ_ _ h=>Bool.noConfusion h,h0⟩
 ·exact fH.1 hLn p b
end
end Go.Proofs.YtaifnmjjpddikaaGreatDoor
