import Derived.Test.YtaifnmjjpddikaaGreatDoorRl31
import Derived.Test.YtaifnmjjpddikaaGreatDoorRl30
import Derived.Test.YtaifnmjjpddikaaGreatDoorRl26
set_option maxRecDepth 100000
set_option maxHeartbeats 8000000
namespace Go.Proofs.YtaifnmjjpddikaaGreatDoor
set_option linter.unusedVariables false
set_option linter.unusedSimpArgs false
section
open Go.RowKit
open Go.Lib hiding intOf
structure Fv (s:aA) (d:cF):Prop where
 b:rT s d
 i: ∀l∈d.lines,l.ind<=1099511627776
 t: ∀k,k<d.nodes.length-> ∃m,eB d.nodes 32 k m
 g: ∀k,k<d.nodes.length->jG (aN s d 32 k)
 k: ∀x∈d.nodes,∀q∈x.kids,q<d.nodes.length
 n:0<d.nodes.length
def Fw (o:Option (Nat×Nat)):Ending:=match o with
 | some q=> .returned (.tuple #[.int .i64 (q.1:Int), .int .i64 (q.2:Int), .bool true])
 | none=> .returned (.tuple #[.int .i64 0, .int .i64 0, .bool false])
def tR (s:aA) (d:cF) (p:List aA):Option (Nat×Nat):=if nG p=true then nI s d p 0 0 else none
theorem Pw {p:List aA} (h:nG p=true) (i:Nat):nG (p.drop i)=true:=by
 unfold nG at h ⊢;simp only[cT,kQ,fH] at h ⊢;exact⟨by rw[bB];omega,λx a=>h.2 x (List.mem_of_mem_drop a)⟩
theorem nP.drop {w:World}{g o:Nat}{l:List aA} (h:nP w (some ⟨g,o,none⟩) l) (i:Nat):nP w (some ⟨g,o+i,none⟩) (l.drop i):=by
 rcases h with h | ⟨g',o',e,f,c⟩
 ·exact .inl (by rw[h,List.drop_nil])
 ·injection e with e;injection e with e1 e2;subst e1 e2;exact .inr ⟨_,_,rfl,f,λj x a=>by rw[mP] at a;rw[Nat.add_assoc];exact c _ _ a⟩
def atL:List (Nat×Nat):= [(0,52),(1,53),(2,54),(3,55),(4,56),(5,51),(6,57),(7,58),(8,13),(10,14)]
def Fx (y:Value):Prop:= ∃k t p1 n1 c1 p2 n2 c2,y= .agg #[.int .i64 k, .string t, .slice p1 n1 c1, .slice p2 n2 c2]
def oM (W0:World) (tv pv cv:Value) (i:Nat) (b:Bool):Nat->Value->World->Prop
 | 0,y,_=>y=tv
 | 1,y,_=>y=pv
 | 2,y,_=>y= .int .i64 (i:Int)
 | 3,y,_=>y=cv
 | 4,y,_=> ∃u,Fx u/\y= .tuple #[u, .bool b]
 | 5,y,_=> ∃u,Fx u/\y= .tuple #[u, .bool b]
 | 6,y,_=>Fx y
 | 7,y,_=>y= .bool b
 | 8,y,w=> ∃Y cs,y= .pointer (some ⟨Y,0,none⟩)/\W0.heap.size<=Y/\w.heap[Y]?=some (.cells cs 26)/\cs.size=4
 | 10,y,_=>y= .bool b
 | _,_,_=>True
theorem oM.keep {W0 w w2:World}{tv pv cv:Value}{i:Nat}{b:Bool} (hk: ∀(q:Nat) (cs:Array Value),W0.heap.size<=q->w.heap[q]?=some (Obj.cells cs 26)->cs.size=4-> ∃cs',w2.heap[q]?=some (Obj.cells cs' 26)/\cs'.size=4): ∀(k:Nat) (y:Value),oM W0 tv pv cv i b k y w->oM W0 tv pv cv i b k y w2
 | 0,_,h=>h
 | 1,_,h=>h
 | 2,_,h=>h
 | 3,_,h=>h
 | 4,_,h=>h
 | 5,_,h=>h
 | 6,_,h=>h
 | 7,_,h=>h
 | 8,_,⟨Y,cs,h1,h2,h3,h4⟩=>by
  obtain⟨cs',h5,h6⟩:=hk Y cs h2 h3 h4;exact⟨Y,cs',h1,h2,h5,h6⟩
 | 9,_,_=>trivial
 | 10,_,h=>h
 | _+11,_,_=>trivial
theorem oM.below {W0 w w2:World}{tv pv cv:Value}{i:Nat}{b:Bool} (hb:Below w.heap.size w w2): ∀(k:Nat) (y:Value),oM W0 tv pv cv i b k y w->oM W0 tv pv cv i b k y w2:=oM.keep (λq cs _ a c=>⟨cs,(hb.block q (aF a)).trans a,c⟩)
theorem Ag {w:World}{Y i:Nat}{u:Value}{q:Nat}{cs:Array Value} (h:w.heap[q]?=some (Obj.cells cs 26)) (hs:cs.size=4): ∃cs',(w.setCell ⟨Y,i,none⟩ u).heap[q]?=some (Obj.cells cs' 26)/\cs'.size=4:=by
 by_cases e:q=Y
 ·subst e;exact⟨_,fO h i u,by rw[Array.size_setIfInBounds];exact hs⟩
 ·exact⟨cs,(cP _ ⟨Y,i,none⟩ _ q e).trans h,hs⟩
theorem aCB {w:World}{Y a b c e:Nat}{u1 u2 u3 u4:Value}{q:Nat}{cs:Array Value} (h:w.heap[q]?=some (Obj.cells cs 26)) (hs:cs.size=4): ∃cs',((((w.setCell ⟨Y,a,none⟩ u1).setCell ⟨Y,b,none⟩ u2).setCell ⟨Y,c,none⟩ u3).setCell ⟨Y,e,none⟩ u4).heap[q]?=some (Obj.cells cs' 26)/\cs'.size=4:=by
 obtain⟨c1,g,s1⟩:=Ag (Y:=Y) (i:=a) (u:=u1) h hs;obtain⟨c2,j,s2⟩:=Ag (Y:=Y) (i:=b) (u:=u2) g s1;obtain⟨c3,f,s3⟩:=Ag (Y:=Y) (i:=c) (u:=u3) j s2;exact Ag f s3
theorem Py (B:Nat) (s:aA) (d:cF) (lv:Value) (gn n cn:Nat) (path:List aA) (pv:Value) (w:World) (h:fE B d lv (.slice (some ⟨gn,0,none⟩) n cn) w) (hA:Fv s d) (hp:SV w pv path) (hpl:path.length<=1073741824) (hps: ∀x∈path,x.length<=1073741824) (hV:bU w):
  Calls Tryz.prog 11 #[.agg #[.string (bs s),lv, .slice (some ⟨gn,0,none⟩) n cn],pv] w λe w'=>e=Fw (tR s d path)/\Below w.heap.size w w':=by
 obtain⟨D,aE⟩:=exQ<|w.heap.size;have b3:=aI w (.cells #[.string (bs s),lv, .slice (some ⟨gn,0,none⟩) n cn] 36);have x3:=heap_alloc_new w (.cells #[.string (bs s),lv, .slice (some ⟨gn,0,none⟩) n cn] 36);obtain⟨w3,ar⟩:=exQ<|w.alloc (.cells #[.string (bs s),lv, .slice (some ⟨gn,0,none⟩) n cn] 36);rw[ar] at b3 x3;rw[aE] at x3;have H:=hid b3;have aW:=hid x3;have h3:=h.keep b3;have aa:n=d.nodes.length:=by
  obtain⟨x,hx⟩: ∃x,d.nodes[0]?=some x:=⟨_,bE hA.n⟩;exact(h.nodeAt hx).1
 have hnp:0<n:=by rw[aa];exact hA.n
 have aS:n<=131072:=by rw[aa];exact hA.b.nds
 have CR:=hid (Nt pv path w3 (hp.keep b3) hpl hps (hV.keep b3).tabs);obtain⟨pa,ca,rfl,S,K⟩:=hp.keep b3;have HA:=hid hA;have HD:=hid h3;have HV:=hid (hV.keep b3);have HP:=hid (aJ K (aJ S hps));have HN:=hid aa;obtain⟨y,hy⟩:=exQ<|nG path;obtain⟨O,hO⟩:=exQ<|tR s d path;rw[hO];unfold tR at hO;rw[hy] at CR hO;obtain⟨na,ai⟩:=exQ<|path.length;have I:=hid ai;rw[ai] at CR hpl ⊢;have HY:=hid hy;have dn:((n:Int)==0)=false:=aK.2 (by omega);obtain⟨c0,c1,c2,_⟩:=gJ x3;clear b3 x3 h h3 hp hV hA K S hps aa hy ai;go_enter Tryz.func11,Tryz.ntmps11;go_upto_region 1 with fail;clear ar aE;go_wp2_with fail;refine CR.out.mono ?_;rintro e w4 ⟨rfl,ap⟩;have ag:=hid ap;clear ap c0 c1 c2 CR;cases y with
 | false=>
  rw[if_neg (by simp)] at hO;subst hO;go_wp2_with fail;go_ret3;exact⟨rfl,by first | exact aC H.out ag.out | exact(aC H.out ag.out).drew⟩
 | true=>
  rw[if_pos rfl] at hO;have ah:Hid (nI s d (path.drop 0) 0 0=O/\Below w3.heap.size w3 w4):=hid ⟨by rw[List.drop_zero];exact hO,ag.out⟩;have HC:Hid (∀w',Below w3.heap.size w3 w'->w'.cell? ⟨D,0,none⟩=some (.string (bs s))/\w'.cell? ⟨D,1,none⟩=some lv/\w'.cell? ⟨D,2,none⟩=some (.slice (some ⟨gn,0,none⟩) n cn)):=hid (λw' G=>by obtain⟨c0,c1,c2,_⟩:=gJ aW.out;exact⟨bH c0 G,bH c1 G,bH c2 G⟩);clear hO;go_wp2_with fail;go_loopw [7,28] (λs7 s28 wr=> ∃(k i:Nat),s7= .int .i64 (k:Int)/\s28= .int .i64 (i:Int)/\k<n/\i<=na/\Hid (nI s d (path.drop i) k i=O/\Below w3.heap.size w3 wr)) (λ_ s28 _=>na-(RowKit.intOf s28).toNat)
  case atStart=>exact⟨0,0,rfl,rfl,by omega,bM _,by first | exact ah | exact hid ⟨ah.out.1,ah.out.2.drew⟩⟩
  case round=>
   obtain⟨k,i,rfl,rfl,hk,hi,F⟩:=hrel;obtain⟨c0,c1,c2⟩:=HC.out wr F.out.2;by_cases hil:i<na
   ·obtain⟨st,R⟩: ∃st,path[i]?=some st:=⟨_,bE (by have:=I.out;omega)⟩;obtain⟨g,o,rfl,cst⟩:=HP.out.1.at_ R;have cst:=bH cst F.out.2;obtain⟨x,hx⟩: ∃x,d.nodes[k]?=some x:=⟨_,bE (by have:=HN.out;omega)⟩;have L:=HD.out.keep F.out.2;obtain⟨aZ,pk,ck,J,aQ⟩:=L.nodeAt hx;clear aZ aQ;have y0:=J 0 _ (by omega) rfl;simp only[Nat.add_zero] at y0;have aL:nI s d (path.drop i) k i=(if x.kind≠2/\x.kind≠3 then(if(gC (path.drop i) (aN s d 32 k)).isSome then some (k,i) else none) else match lU s d.nodes x st with
      | none=>none
      | some q=>nI s d (path.drop (i+1)) q (i+1)):=by
     obtain⟨a0,he⟩:=aR.1 R;rw[iH a0,he,nI,hx];rfl
    have A:=F.out.1;rw[aL] at A;have di:decide ((i:Int)<(na:Int))=true:=aM (by omega);have i0:(0:Int)<=(i:Int):=(by omega);have i1:(i:Int)<(na:Int):=(by omega);have k0:(0:Int)<=(k:Int):=(by omega);have k1:(k:Int)<(n:Int):=(by omega);have HX:=hid (aJ R hx);clear R hx J aL;by_cases hkd:x.kind≠2/\x.kind≠3
    ·rw[if_pos hkd] at A;have g1:((x.kind:Int) !=2)=true:=gD.2 (by omega);have g2:((x.kind:Int) !=3)=true:=gD.2 (by omega);have g3:((x.kind:Int)==2)=false:=aK.2 (by omega);have g4:((x.kind:Int)==3)=false:=aK.2 (by omega);obtain⟨m,au⟩:=HA.out.t k (by have:=HN.out;omega);have CN:=hid (Ej s d HA.out.b HA.out.i _ _ _ k m wr au L (HV.out.keep F.out.2));have az:=hid (HA.out.g k (by have:=HN.out;omega));obtain⟨T,hT⟩:=exQ<|aN s d 32 k;rw[hT] at CN az A;obtain⟨b,G⟩:=exQ<|(gC (path.drop i) T).isSome;rw[G] at A;have W:=hid A;have aT:=hid G;clear hkd au L hT G A;go_wp2_with fail;refine CN.out.mono ?_;rintro e w5 ⟨⟨kv,iv,rfl,hv⟩,z⟩;obtain⟨pkT,ckT,piT,ciT,rfl,rfl⟩:=hv.form;have r:=hid (aC F.out.2 z);have aG:=hid hv.toVD;obtain⟨Z,hZ⟩:=exQ<|w5.heap.size;have b6:=aI w5 (.cells #[.int .i64 T.kind, .string (bs T.text), .slice pkT T.keys.length ckT, .slice piT T.items.length ciT] 26);have x6:=heap_alloc_new w5 (.cells #[.int .i64 T.kind, .string (bs T.text), .slice pkT T.keys.length ckT, .slice piT T.items.length ciT] 26);obtain⟨w6,an⟩:=exQ<|w5.alloc (.cells #[.int .i64 T.kind, .string (bs T.text), .slice pkT T.keys.length ckT, .slice piT T.items.length ciT] 26);rw[an] at b6 x6;rw[hZ] at x6;have ao:=hid (aC r.out b6);have ae:=hid (aG.out.keep b6);have aj:=hid x6;clear hv z b6 x6 c0 c1 c2 cst y0;unfold vv;go_upto_region 10 with fail;clear an hZ;have S:=HP.out.2.1;have CF:Hid (∀w',Below w6.heap.size w6 w'->Calls Tryz.prog 12 #[.agg #[.int .i64 T.kind, .string (bs T.text), .slice pkT T.keys.length ckT, .slice piT T.items.length ciT], .slice (some ⟨g,o+i,none⟩) (na-i) (ca-i)] w' (Ft (lV (path.drop i) T) w')):=hid (λw' G=>by have ay:=aC ao.out G;have:=Fu _ T _ _ (path.drop i) (.slice (some ⟨g,o+i,none⟩) (na-i) (ca-i)) w' (ae.out.keep G) az.out ⟨_,_,by rw[bB,I.out],by rw[bB];omega,(HP.out.1.drop i).keep ay⟩ (by rw[bB];have:=I.out;omega) (λx hx=>HP.out.2.2 x (List.mem_of_mem_drop hx)) (HV.out.keep ay);exact this);have aD:(lV (path.drop i) T).isSome=b:=by
      unfold lV;rw[if_pos (Pw HY.out i)];exact aT.out
     have aY:=hid aD;clear aD S;obtain⟨W0,af⟩:=exQ<|w6.drew;have al:Hid (Below w6.heap.size w6 W0):=hid (by rw[<-af];exact(aB _ _).drew);have av:Tryz.prog.follows .mixedOrders=true:=(by kernel_rfl);have hci:i<ca:=by have:=HP.out.2.1;have:=I.out;omega
     have hin:i<=na:=(by omega);have hina:na<=ca:=by have:=HP.out.2.1;have:=I.out;omega
     refine aCz av [52,53,54,55,56,51,57,58,13,14] 88 rfl (by kernel_rfl) (by kernel_rfl) atL (by kernel_rfl) (oM W0 (.agg #[.int .i64 T.kind, .string (bs T.text), .slice pkT T.keys.length ckT, .slice piT T.items.length ciT]) (.slice (some ⟨g,o,none⟩) na ca) (.slice (some ⟨g,o+i,none⟩) (na-i) (ca-i)) i b) (λw'=>Below W0.heap.size W0 w') (by rw[af];exact aB _ _) ?_ ?_
     ·intro d' a w' iq o' ho hi2 j U E R' P;have aP:iq<11:=(cJ.1 ho).1;have q1:a.tmps[1]?.getD undef= .slice (some ⟨g,o,none⟩) na ca:=bA U 1 (by decide);have q8:a.tmps[8]?.getD undef= .int .i64 (i:Int):=bA U 8 (by decide);have q11:a.tmps[11]?.getD undef= .pointer (some ⟨Z,0,none⟩):=bA U 11 (by decide);clear U;have N:=j;have C:=ho;have f:=E.inv;have ak:iq=0\/iq=3\/iq=4\/iq=5\/iq=6\/iq=7\/iq=8\/iq=9\/iq=10\/iq=1\/iq=2:=(by omega);clear aP;rcases ak with rfl|rfl|rfl|rfl|rfl|rfl|rfl|rfl|rfl|rfl|rfl<;>simp only[eC,dV,cH,cN] at ho<;>subst ho<;>(try simp[Region.binds] at j)
      ·have G:=aC al.out f;obtain⟨b0,b1,b2,b3,_⟩:=bC ((G.block Z (aF aj.out)).trans aj.out);clear G;go_simp;exact P _ _ (E.step (by decide) C N (by decide) (λ_ _ h=>h) f rfl)
      ·have c53:a.tmps[53]?.getD undef= .slice (some ⟨g,o,none⟩) na ca:=E.g 1 53 (by decide) (by simp[j]);have c54:a.tmps[54]?.getD undef= .int .i64 (i:Int):=E.g 2 54 (by decide) (by simp[j]);go_simp;rw[if_neg (show ¬ca=i by omega)];exact P _ _ (E.step (by decide) C N (by decide) (λ_ _ h=>h) f rfl)
      ·have c52:a.tmps[52]?.getD undef= .agg #[.int .i64 T.kind, .string (bs T.text), .slice pkT T.keys.length ckT, .slice piT T.items.length ciT]:=E.g 0 52 (by decide) (by simp[j]);have c55:a.tmps[55]?.getD undef= .slice (some ⟨g,o+i,none⟩) (na-i) (ca-i):=E.g 3 55 (by decide) (by simp[j]);go_simp;go_at_call 12;refine(CF.out w' (aC al.out f)).mono ?_;rintro e w7 ⟨⟨kx,ix,rfl,aO⟩,aq⟩;obtain⟨u1,u2,u3,u4,rfl,rfl⟩:=aO.form;exact P _ _ (E.step (by decide) C N (by decide) (oM.below aq) (aC f aq) ⟨_,⟨_,_,_,_,_,_,_,_,rfl⟩,by rw[aY.out];rfl⟩)
      ·obtain⟨u,hu,c56⟩:=E.g 4 56 (by decide) (by simp[j]);go_simp;exact P _ _ (E.step (by decide) C N (by decide) (λ_ _ h=>h) f ⟨u,hu,rfl⟩)
      ·obtain⟨u,hu,c51⟩:=E.g 5 51 (by decide) (by simp[j]);go_simp;exact P _ _ (E.step (by decide) C N (by decide) (λ_ _ h=>h) f hu)
      ·obtain⟨u,hu,c51⟩:=E.g 5 51 (by decide) (by simp[j]);go_simp;exact P _ _ (E.step (by decide) C N (by decide) (λ_ _ h=>h) f rfl)
      ·have ax:=aI w' (.cells #[.int .i64 0, .string ⟨#[]⟩, .slice none 0 0, .slice none 0 0] 26);go_simp;exact P _ _ (E.step (by decide) C N (by decide) (oM.below ax) (aC f ax) ⟨_,_,rfl,f.size,heap_alloc_new w' _,rfl⟩)
      ·obtain⟨k',t',p1,n1,c1',p2,n2,c2',c57⟩:=E.g 6 57 (by decide) (by simp[j]);obtain⟨Y,cs,c13,hY,aU,ak⟩:=E.g 8 13 (by decide) (by simp[j]);obtain⟨e0,e1,e2,e3,rfl⟩: ∃a b c e,cs= #[a,b,c,e]:=by
        obtain⟨l⟩:=cs
        match l,ak with
        | [a,b,c,e],_=>exact⟨a,b,c,e,rfl⟩
       obtain⟨x0,x1,x2,x3,f0,f1,f2,f3⟩:=bC aU;go_simp;exact P undef _ (E.set (by decide) C N (oM.keep (λq cs hq a1 a2=>aCB a1 a2)) ((((f.setCell (p:=⟨Y,0,none⟩) hY _).setCell (p:=⟨Y,1,none⟩) hY _).setCell (p:=⟨Y,2,none⟩) hY _).setCell (p:=⟨Y,3,none⟩) hY _) undef)
      ·have c58:a.tmps[58]?.getD undef= .bool b:=E.g 7 58 (by decide) (by simp[j]);go_simp;exact P _ _ (E.step (by decide) C N (by decide) (λ_ _ h=>h) f rfl)
      iterate 2 (go_simp;exact P _ _ (E.step (by decide) C N (by decide) (λ_ _ h=>h) f rfl))
     intro v wz hv aw;have v14:v 14= .bool b:=hv (10,14) (by decide);have V:=hid (aC H.out (aC ao.out (aC al.out aw)));simp only[cC,eJ,dO,eK,v14];clear hv aw v14 af aj ae aG CF;have A:=W.out;cases b with
     | false=>
      rw[if_neg (by simp)] at A;subst A;go_wp2_with fail;go_ret3;exact⟨rfl,by first | exact V.out | exact V.out.drew⟩
     | true=>
      rw[if_pos rfl] at A;subst A;go_wp2_with fail;go_ret3;exact⟨rfl,by first | exact V.out | exact V.out.drew⟩
    ·rw[if_neg hkd] at A;have CS:=hid (aBq B s d lv gn n cn k x st wr L HX.out.2 (HA.out.k x (aX HX.out.2)) (HA.out.b.nd x (aX HX.out.2)).2.2 aS HA.out.b.txt (HV.out.keep F.out.2));have aV:x.kind=2\/x.kind=3:=by
      by_cases e:x.kind=2
      ·exact .inl e
      ·exact .inr (Classical.byContradiction λe3=>hkd ⟨e,e3⟩)
     have M: ∀q,lU s d.nodes x st=some q->q<n:=λq hq=>by
      rw[HN.out];refine HA.out.k x (aX HX.out.2) q ?_;unfold lU at hq;split at hq
      ·split at hq
       ·exact aX hq
       ·cases hq
      ·exact List.mem_of_find?_eq_some hq
     obtain⟨Q,hQ⟩:=exQ<|lU s d.nodes x st;rw[hQ] at CS A M;obtain⟨kd,ad⟩: ∃kd:Int,(x.kind:Int)=kd:=⟨_,rfl⟩;rw[ad] at y0;have ab:kd=2\/kd=3:=(by omega);have W:=hid A;clear hkd L hQ A aV ad;cases Q with
     | none=>
      have A:=W.out;have A:none=O:=A;subst A;have CS:Hid (Calls Tryz.prog 20 #[.agg #[.string (bs s),lv, .slice (some ⟨gn,0,none⟩) n cn], .int .i64 (k:Int), .string (bs st)] wr λe w'=>e= .returned (.tuple #[.int .i64 0, .bool false])/\Below wr.heap.size wr w'):=CS;rcases ab with rfl|rfl
      ·go_wp2_with fail;refine CS.out.mono ?_;rintro e w5 ⟨rfl,z⟩;have r:=hid (aC H.out (aC F.out.2 z));clear z c0 c1 c2 cst y0;go_wp2_with fail;go_ret3;exact⟨rfl,by first | exact r.out | exact r.out.drew⟩
      ·go_wp2_with fail;refine CS.out.mono ?_;rintro e w5 ⟨rfl,z⟩;have r:=hid (aC H.out (aC F.out.2 z));clear z c0 c1 c2 cst y0;go_wp2_with fail;go_ret3;exact⟨rfl,by first | exact r.out | exact r.out.drew⟩
     | some q=>
      have A:Hid (nI s d (path.drop (i+1)) q (i+1)=O):=W;have am:=M q rfl;have CS:Hid (Calls Tryz.prog 20 #[.agg #[.string (bs s),lv, .slice (some ⟨gn,0,none⟩) n cn], .int .i64 (k:Int), .string (bs st)] wr λe w'=>e= .returned (.tuple #[.int .i64 (q:Int), .bool true])/\Below wr.heap.size wr w'):=CS;have e1:decide ((q:Int)<0)=false:=aH (by omega);have e2:decide ((n:Int)<=(q:Int))=false:=aH (by omega);have e3:decide (n<=q)=false:=aH (by omega);clear M;rcases ab with rfl|rfl
      ·go_wp2_with fail;refine CS.out.mono ?_;rintro e w5 ⟨rfl,z⟩;have r:=hid (aC F.out.2 z);obtain⟨c0,c1,c2⟩:=HC.out w5 r.out;clear z cst y0;go_wp2_with fail;go_roundw
       case rel=>exact⟨q,i+1,rfl,by go_num,am,by omega,hid ⟨A.out,by first | exact r.out | exact r.out.drew⟩⟩
       case measure=>simp[RowKit.intOf];omega
      ·go_wp2_with fail;refine CS.out.mono ?_;rintro e w5 ⟨rfl,z⟩;have r:=hid (aC F.out.2 z);obtain⟨c0,c1,c2⟩:=HC.out w5 r.out;clear z cst y0;go_wp2_with fail;go_roundw
       case rel=>exact⟨q,i+1,rfl,by go_num,am,by omega,hid ⟨A.out,by first | exact r.out | exact r.out.drew⟩⟩
       case measure=>simp[RowKit.intOf];omega
   ·have di:decide ((i:Int)<(na:Int))=false:=aH (by omega);have A:=F.out.1;rw[List.drop_eq_nil_of_le (by have:=I.out;omega)] at A;have A:some (k,i)=O:=A;obtain rfl:i=na:=(by omega);subst A;have r:=hid (aC H.out F.out.2);clear c0 c1 c2;go_wp2_with fail;go_ret3;exact⟨rfl,by first | exact r.out | exact r.out.drew⟩
end
section
open Go.Lib hiding intOf
mutual
theorem Fy {p q:VT->Bool} (h: ∀x,p x=true->q x=true): ∀t,cB p t=true->cB q t=true
 | .mk k s ks l,e=>by
  rw[cB,cT] at e ⊢;exact⟨h _ e.1,Pz h l e.2⟩
theorem Pz {p q:VT->Bool} (h: ∀x,p x=true->q x=true): ∀l,jY p l=true->jY q l=true
 | [],_=>rfl
 | x::l,e=>by
  rw[jY,cT] at e ⊢;exact⟨Fy h x e.1,Pz h l e.2⟩
end
theorem aCC {t:VT} (h:uR t=true) (hb:t.bulk<=1073741824):jG t:=by
 unfold uR at h;rw[cT] at h;have key:(∀t:VT,cB kF t=true->cB kZ t=true/\cB (λt=>decide (t.kind≠7)) t=true):=by
  intro t c;exact⟨Fy (λx a=>by unfold kF at a;rw[cT] at a;exact a.2) t c,Fy (λx a=>by unfold kF at a;rw[cT] at a;simpa using a.1) t c⟩
 obtain⟨e,f⟩:=key t h.2;refine⟨?_,f,hb⟩;unfold pW;rw[h.1,e];rfl
theorem Qa {s:aA}{d:cF}{a:Int} (hs:s.length<=4096) (h:gI s=(d,a,0)):Fv s d/\rV s d/\pV s d:=by
 have j:=Np (by omega) h;rw[Nj (by omega)] at h;have f:=Nf h;have e:=(aCm h).1;have g:=Pe e f;exact⟨⟨j.b,j.i,λk c=>by obtain⟨m,l,_⟩:=f.node c;exact⟨m,l⟩,λk c=>aCC (g.1 k c) (aCs hs e f c),λx n=>(e.nd x n).kid,g.2.2⟩,e,f⟩
theorem aCD {s:aA}{d:cF}{a:Int} (hs:s.length<=4096) (h:gI s=(d,a,0)) (p:List aA):
  match tR s d p with
  | none=>lV p (aN s d 32 0)=none
  | some q=>q.1<d.nodes.length/\q.2<=p.length/\ ∃x,lV p (aN s d 32 0)=some x/\lV (p.drop q.2) (aN s d 32 q.1)=some x:=by
 obtain⟨_,c,e⟩:=Qa hs h;unfold tR lV;by_cases hp:nG p=true
 ·rw[if_pos hp,if_pos hp];have:=Ps c p 32 0 d.nodes.length 0 (aE _) e.treeD;cases hA:nI s d p 0 0 with
  | none=>rw[hA] at this;exact this
  | some q=>
   rw[hA] at this;obtain⟨a1,a2,a3,x,a4,a5⟩:=this;simp only[] at a1 a2 a3 a4 a5 ⊢;rw[if_pos (Pw hp _)];exact⟨a3,by omega,x,a4,by rw[Nat.sub_zero] at a5;exact a5⟩
 ·rw[if_neg hp,if_neg hp]
end
section
open Go.RowKit
open Go.Lib hiding intOf
def qA:aA:= [97,58,32,91,49,44,32,50,93]
def tS:cF:=⟨[⟨4,0,9,0,0,1,3,9,0,0⟩],[⟨3,0,0,1,0,0,0,0,[1]⟩,⟨1,0,0,1,0,1,3,9,[]⟩]⟩
theorem aCE:gI qA=(tS,9,0):=by kernel_rfl
theorem aCF:tR qA tS [[97],[49]]=some (1,1):=by kernel_rfl
theorem aCG:qX [91,49,93]=(1,true):=by kernel_rfl
theorem aCH:qX [97,58,32,49]=(2,true):=by kernel_rfl
theorem aCI:qX [97,58,32,98,58,32,99]=(0,false):=by kernel_rfl
theorem Qb:(gI [45,32,49]).2.2=0/\(qW [45,32,49]).items.length=1:=by decide+kernel
theorem aCJ {t:VT} (h:(pW t&&cB (λt=>decide (t.kind≠7)) t&&decide (t.bulk<=1073741824))=true):jG t:=by
 simp only[cT,kQ] at h;exact⟨h.1.1,by unfold nF;simpa using h.1.2,h.2⟩
theorem aCK:Fv qA tS where
 b:=⟨by decide,by decide,by decide,by decide,by decide⟩
 i:=by decide
 t:=λk a=>by
  have c:eB tS.nodes 31 1 2:=⟨_,rfl,rfl⟩;have a:k<2:=a;have:k=0\/k=1:=by omega
  rcases this with rfl|rfl
  ·exact⟨2,_,rfl,rfl,2,c,rfl⟩
  ·exact⟨2,_,rfl,rfl⟩
 g:=λk a=>by
  have a:k<2:=a;have:k=0\/k=1:=by omega
  rcases this with rfl|rfl<;>exact aCJ (by kernel_rfl)
 k:=by decide
 n:=by decide
theorem aCL (w:World) (hV:bU w):
  Calls Tryz.prog 5 #[] w λe w'=>e= .returned (.bool true)/\Below w.heap.size w w':=by
 have CG:Hid (∀(s:aA) w',s.length<=1073741824->Below w.heap.size w w'->Calls Tryz.prog 14 #[.string (bs s)] w' λe w2=>e= .returned (.tuple #[.int .i64 (qX s).1, .bool (qX s).2])/\Below w'.heap.size w' w2):=hid (λs w' V f=>aAM s w' V (hV.keep f));have H:=hid hV;have C1:Hid (∀w',Below w.heap.size w w'->Calls Tryz.prog 14 #[.string ⟨#[91,49,93]⟩] w' λe w2=>e= .returned (.tuple #[.int .i64 1, .bool true])/\Below w'.heap.size w' w2):=hid (λw' f=>by have:=CG.out [91,49,93] w' (by decide) f;rw[aCG] at this;exact this);have C2:Hid (∀w',Below w.heap.size w w'->Calls Tryz.prog 14 #[.string ⟨#[97,58,32,49]⟩] w' λe w2=>e= .returned (.tuple #[.int .i64 2, .bool true])/\Below w'.heap.size w' w2):=hid (λw' f=>by have:=CG.out [97,58,32,49] w' (by decide) f;rw[aCH] at this;exact this);have C3:Hid (∀w',Below w.heap.size w w'->Calls Tryz.prog 14 #[.string ⟨#[97,58,32,98,58,32,99]⟩] w' λe w2=>e= .returned (.tuple #[.int .i64 0, .bool false])/\Below w'.heap.size w' w2):=hid (λw' f=>by have:=CG.out [97,58,32,98,58,32,99] w' (by decide) f;rw[aCI] at this;exact this);have C4:Hid (∀w',Below w.heap.size w w'->Calls Tryz.prog 10 #[.string ⟨#[97,58,32,91,49,44,32,50,93]⟩] w' λe w2=> ∃pl cl gn cn,e= .returned (.tuple #[.agg #[.string (bs qA), .slice pl 1 cl, .slice (some ⟨gn,0,none⟩) 2 cn], .int .i64 9, .int .i64 0])/\fE w'.heap.size tS (.slice pl 1 cl) (.slice (some ⟨gn,0,none⟩) 2 cn) w2/\Below w'.heap.size w' w2):=hid (λw' f=>by
  have:=Ed qA w' (H.out.keep f);rw[aCE] at this;refine this.mono ?_;rintro e w2 ⟨tx,lv,nv,rfl,rfl,q,h⟩;obtain⟨⟨pl,cl,rfl⟩,pn,cn,rfl⟩:=q.formsR;obtain⟨gn,rfl⟩: ∃gn,pn=some ⟨gn,0,none⟩:=by
   obtain⟨z,P,_,J⟩:=q;obtain⟨g,c,cur,e,_⟩:=J.form (λe=>by rw[e] at P;cases P);injection e with e;exact⟨g,e⟩
  exact⟨pl,cl,gn,cn,rfl,q,h⟩)
 have C5:Hid (∀w',Below w.heap.size w w'->Calls Tryz.prog 7 #[.string ⟨#[45,32,49]⟩] w' λe w2=> ∃k t p1 n1 c1 p2 c2 a,e= .returned (.tuple #[.agg #[.int .i64 k, .string t, .slice p1 n1 c1, .slice p2 1 c2], .int .i64 a, .int .i64 0])/\Below w'.heap.size w' w2):=hid (λw' f=>by have:=Er [45,32,49] w' (H.out.keep f);rw[Qb.1] at this;refine this.mono ?_;rintro e w2 ⟨⟨kv,iv,rfl,U⟩,h⟩;obtain⟨u1,u2,u3,u4,rfl,rfl⟩:=U.form;rw[Qb.2];exact⟨_,_,_,_,_,_,_,_,rfl,h⟩);have C6:Hid (∀(B gn cn:Nat) (lv pv:Value) w',Below w.heap.size w w'->fE B tS lv (.slice (some ⟨gn,0,none⟩) 2 cn) w'->SV w' pv [[97],[49]]->Calls Tryz.prog 11 #[.agg #[.string (bs qA),lv, .slice (some ⟨gn,0,none⟩) 2 cn],pv] w' λe w2=>e= .returned (.tuple #[.int .i64 1, .int .i64 1, .bool true])/\Below w'.heap.size w' w2):=hid (λB gn cn lv pv w' f q S=>by have:=Py B qA tS lv gn 2 cn [[97],[49]] pv w' q aCK S (by decide) (by decide) (H.out.keep f);rw[aCF] at this;exact this);clear hV CG H;go_enter Tryz.func5,Tryz.ntmps5;go_wp2_with fail;refine(C1.out w (aB _ _)).mono ?_;rintro e w1 ⟨rfl,y⟩;have o:=hid y;clear y C1;go_wp2_with fail;refine(C2.out w1 o.out).mono ?_;rintro e w2 ⟨rfl,h⟩;have m:=hid (aC o.out h);clear h C2;go_wp2_with fail;refine(C3.out w2 m.out).mono ?_;rintro e w3 ⟨rfl,A⟩;have F:=hid (aC m.out A);clear A C3;go_wp2_with fail;refine(C4.out w3 F.out).mono ?_;rintro e w4 ⟨pl,cl,gn,cn,rfl,l,G⟩;have I:=hid (aC F.out G);have L:=hid l;clear G l C4;obtain⟨D,Q⟩:=exQ<|w4.heap.size;have b5:=aI w4 (.cells #[.string (bs qA), .slice pl 1 cl, .slice (some ⟨gn,0,none⟩) 2 cn] 36);have x5:=heap_alloc_new w4 (.cells #[.string (bs qA), .slice pl 1 cl, .slice (some ⟨gn,0,none⟩) 2 cn] 36);obtain⟨w5,r⟩:=exQ<|w4.alloc (.cells #[.string (bs qA), .slice pl 1 cl, .slice (some ⟨gn,0,none⟩) 2 cn] 36);rw[r] at b5 x5;rw[Q] at x5;obtain⟨Y,R⟩:=exQ<|w5.heap.size;have b6:=aI w5 (.cells #[.string ⟨#[97]⟩, .string ⟨#[49]⟩] 9);have x6:=heap_alloc_new w5 (.cells #[.string ⟨#[97]⟩, .string ⟨#[49]⟩] 9);obtain⟨w6,p⟩:=exQ<|w5.alloc (.cells #[.string ⟨#[97]⟩, .string ⟨#[49]⟩] 9);rw[p] at b6 x6;rw[R] at x6;have E:=hid (aC I.out (aC b5 b6));have O:=hid (L.out.keep (aC b5 b6));have N:Hid (SV w6 (.slice (some ⟨Y,0,none⟩) 2 2) [[97],[49]]):=hid ⟨_,2,rfl,aE _, .inr ⟨Y,0,rfl,aF x6,λj x K=>by
  have T:=(aR.1 K).1;have:j=0\/j=1:=by simp at T;omega
  rcases this with rfl|rfl<;>(simp at K;subst K;simp[World.cell?,x6];rfl)⟩⟩
 obtain⟨c0,c1,c2,_⟩:=gJ x5;clear b5 b6 x5 x6;go_wp2_with fail;refine(C6.out _ gn cn _ _ w6 E.out O.out N.out).mono ?_;rintro e w7 ⟨rfl,i⟩;have C:=hid (aC E.out i);clear i C6 c0 c1 c2 r p Q R;go_wp2_with fail;refine(C5.out w7 C.out).mono ?_;rintro e w8 ⟨k,t,p1,n1,c1,p2,c2,a,rfl,u⟩;have M:=hid (aC C.out u);clear u C5;have b9:=aI w8 (.cells #[.int .i64 k, .string t, .slice p1 n1 c1, .slice p2 1 c2] 26);have n:=hid (aC M.out b9);clear b9;go_wp2_with fail;go_ret;exact⟨rfl,by first | exact n.out | exact n.out.drew⟩
def aCM (e:Ending):Prop:= ∃b:Bool,e= .returned (.bool b)
theorem aCN (path:List aA) (pv:Value) (w:World) (hp:SV w pv path) (hpl:path.length<=1073741824) (hps: ∀x∈path,x.length<=1073741824):
  Calls Tryz.prog 9 #[pv] w λe w'=>aCM e/\Below w.heap.size w w':=by
 obtain⟨p,c,rfl,k,a⟩:=hp;have j:=hid (aJ a hps);obtain⟨n,h⟩:=exQ<|path.length;have l:=hid h;rw[h] at hpl ⊢;clear a hps h k;go_enter Tryz.func9,Tryz.ntmps9;go_wp2_with fail;go_loop [3] (λs3=> ∃i:Nat,s3= .int .i64 (i:Int)/\i<=n) (λs3=>n-(RowKit.intOf s3).toNat)
 case atStart=>exact⟨0,rfl,bM _⟩
 case round=>
  obtain⟨i,rfl,hi⟩:=hrel;by_cases hin:i<n
  ·have d1:decide ((i:Int)<(n:Int))=true:=aM (by omega);by_cases h3:i<300
   ·have d3:decide ((i:Int)<300)=true:=aM (by omega);obtain⟨st,f⟩: ∃st,path[i]?=some st:=⟨_,bE (by have:=l.out;omega)⟩;obtain⟨g,o,rfl,cst⟩:=j.out.1.at_ f;have hsl:=aT st;have hsb:=j.out.2 st (aX f);have i0:(0:Int)<=(i:Int):=(by omega);have i1:(i:Int)<(n:Int):=(by omega);clear f;by_cases h4:1024<st.length
    ·have d4:decide ((1024:Int)<(st.length:Int))=true:=aM (by omega);have d5:decide (1024<st.length)=true:=aM h4;clear h4;go_wp2_with fail;go_ret;exact⟨⟨_,rfl⟩,by first | exact aB _ _ | exact(aB _ _).drew⟩
    ·have d4:decide ((1024:Int)<(st.length:Int))=false:=aH (by omega);have d5:decide (1024<st.length)=false:=aH h4;clear h4;go_wp2_with fail;go_round
     case rel=>exact⟨i+1,by go_num,by omega⟩
     case measure=>simp[RowKit.intOf];omega
   ·have d3:decide ((i:Int)<300)=false:=aH (by omega);go_wp2_with fail;go_ret;exact⟨⟨_,rfl⟩,by first | exact aB _ _ | exact(aB _ _).drew⟩
  ·have d1:decide ((i:Int)<(n:Int))=false:=aH (by omega);go_wp2_with fail;go_ret;exact⟨⟨_,rfl⟩,by first | exact aB _ _ | exact(aB _ _).drew⟩
theorem jG.lens: ∀(n:Nat) {t:VT},jG t->mN n t
 | 0,_,_=>trivial
 | n+1,t,h=>by
  have hb:=h.b;have h2:=rE t.items;have h3:t.bulk=t.text.length+(gE t.keys+t.keys.length)+dS t.items+1:=by cases t;rw[VT.bulk];rfl
  exact⟨by omega,by omega,λx a=>jG.lens n (h.item a)⟩
def vH:List (Nat×Nat):= [(0,87),(1,88),(2,89),(3,90),(7,93),(10,21)]
theorem aCO: ∀p∈vH,∀q∈vH,(p.1=q.1->p.2=q.2)/\(p.2=q.2->p.1=q.1):=by decide
theorem vI: ∀p∈vH,p.2≠91/\p.2≠86/\p.2≠92/\p.2≠20/\p.1≠4/\p.1≠5/\p.1≠6/\p.1≠8/\p.1≠9:=by decide
def VU (X:VT) (ok:Nat->Prop) (u:Value) (w:World):Prop:= ∃p1 c1 p2 c2,u= .agg #[.int .i64 X.kind, .string (bs X.text), .slice p1 X.keys.length c1, .slice p2 X.items.length c2]/\dW ok w X.depth X (.slice p1 X.keys.length c1) (.slice p2 X.items.length c2)
theorem VU.agree {X:VT}{ok ok':Nat->Prop}{u:Value}{w w':World} (h:VU X ok u w) (hk: ∀k,ok k->k<w.heap.size->w'.heap[k]?=w.heap[k]?/\ok' k):VU X ok' u w':=by
 obtain⟨a,b,c,e,f,g⟩:=h;exact⟨a,b,c,e,f,g.agree hk⟩
structure LF (ops:Array Oper) (W0:World) (X:VT) (b:Bool) (val:Nat->Value) (d:Nat->Bool) (v:Nat->Value) (w':World):Prop where
 clo:nT ops d
 cl: ∀q∈vH,d q.1=true->v q.2=val q.1
 t4:d 4=true-> ∃u,v 91= .tuple #[u, .bool b]/\VU X (λk=>d 8=true->v 20≠ .pointer (some ⟨k,0,none⟩)) u w'
 t5:d 5=true-> ∃u,v 86= .tuple #[u, .bool b]/\VU X (λk=>d 8=true->v 20≠ .pointer (some ⟨k,0,none⟩)) u w'
 t6:d 6=true->VU X (λk=>d 8=true->v 20≠ .pointer (some ⟨k,0,none⟩)) (v 92) w'
 bx:d 8=true-> ∃Y cs,v 20= .pointer (some ⟨Y,0,none⟩)/\W0.heap.size<=Y/\w'.heap[Y]?=some (.cells cs 26)/\cs.size=4/\(d 9=true->VU X (λk=>k≠Y) (.agg cs) w')
 bel:Below W0.heap.size W0 w'
section
variable {ops:Array Oper}{W0:World}{X:VT}{b:Bool}{val:Nat->Value}{d:Nat->Bool}{v:Nat->Value}{w' w2:World}
theorem LF.pure (h:LF ops W0 X b val d v w') {i q:Nat}{o:Oper} (ho:ops[i]?=some o) (hall: ∀e∈o.after,Region.binds .any e=true->d e.on=true) (hm:(i,q)∈vH) {y:Value} (hy:y=val i):LF ops W0 X b val (bF d i) (bP v (some q) y) w':=by
 obtain⟨n1,n2,n3,n4,n5,n6,n7,n8,n9⟩:=vI _ hm;simp only[] at n1 n2 n3 n4 n5 n6 n7 n8 n9;refine⟨h.clo.step ho hall,λp c a=>?_,λa=>?_,λa=>?_,λa=>?_,λa=>?_,h.bel⟩
 ·obtain⟨o1,o2⟩:=aCO _ hm _ c;by_cases e:p.1=i
  ·have e2:=o1 e.symm;simp only[] at e2;rw[<-e2,lJ,e];exact hy
  ·have e2:p.2≠q:=λe2=>e (o2 e2.symm).symm;rw[bW e2];rw[aS e] at a;exact h.cl p c a
 ·rw[aS (Ne.symm n5)] at a;rw[bW (Ne.symm n1),bW (Ne.symm n4),aS (Ne.symm n8)];exact h.t4 a
 ·rw[aS (Ne.symm n6)] at a;rw[bW (Ne.symm n2),bW (Ne.symm n4),aS (Ne.symm n8)];exact h.t5 a
 ·rw[aS (Ne.symm n7)] at a;rw[bW (Ne.symm n3),bW (Ne.symm n4),aS (Ne.symm n8)];exact h.t6 a
 ·rw[aS (Ne.symm n8)] at a;rw[bW (Ne.symm n4),aS (Ne.symm n9)];exact h.bx a
theorem LF.below (h:LF ops W0 X b val d v w') (hb:Below w'.heap.size w' w2):LF ops W0 X b val d v w2:=by
 have c: ∀ {ok:Nat->Prop}{u:Value},VU X ok u w'->VU X ok u w2:=λj=>j.agree (λk c lt=>⟨hb.block k lt,c⟩);refine⟨h.clo,h.cl,λa=>?_,λa=>?_,λa=>c (h.t6 a),λa=>?_,aC h.bel hb⟩
 ·obtain⟨u,e,f⟩:=h.t4 a;exact⟨u,e,c f⟩
 ·obtain⟨u,e,f⟩:=h.t5 a;exact⟨u,e,c f⟩
 ·obtain⟨Y,cs,e,f,g,i,l⟩:=h.bx a;exact⟨Y,cs,e,f,(hb.block Y (aF g)).trans g,i,λm=>c (l m)⟩
theorem LF.call (h:LF ops W0 X b val d v w') {o:Oper} (ho:ops[4]?=some o) (hall: ∀e∈o.after,Region.binds .any e=true->d e.on=true) (h9:d 9=false) (hb:Below w'.heap.size w' w2) {u:Value} (hu:VU X (λk=>w'.heap.size<=k) u w2):LF ops W0 X b val (bF d 4) (bP v (some 91) (.tuple #[u, .bool b])) w2:=by
 have g:=h.below hb;refine⟨g.clo.step ho hall,λp c a=>?_,λ_=>⟨u,lJ,hu.agree (λk hk lt=>⟨rfl,λf e=>?_⟩)⟩,λa=>?_,λa=>?_,λa=>?_,g.bel⟩
 ·obtain⟨n1,n2,n3,n4,n5,n6,n7,n8,n9⟩:=vI _ c;rw[aS n5] at a;rw[bW n1];exact g.cl p c a
 ·rw[aS (by decide)] at f;rw[bW (by decide)] at e;obtain⟨Y,cs,e1,_,e3,_⟩:=h.bx f;rw[e1] at e;injection e with e;injection e with e;injection e with e;have:=aF e3;omega
 ·rw[aS (by decide)] at a;rw[bW (by decide),bW (by decide),aS (by decide)];exact g.t5 a
 ·rw[aS (by decide)] at a;rw[bW (by decide),bW (by decide),aS (by decide)];exact g.t6 a
 ·rw[aS (by decide)] at a;rw[bW (by decide),aS (by decide)];exact g.bx a
theorem LF.mv (h:LF ops W0 X b val d v w') {o:Oper} (ho:ops[5]?=some o) (hall: ∀e∈o.after,Region.binds .any e=true->d e.on=true) {u:Value} (hu:VU X (λk=>d 8=true->v 20≠ .pointer (some ⟨k,0,none⟩)) u w'):LF ops W0 X b val (bF d 5) (bP v (some 86) (.tuple #[u, .bool b])) w':=by
 refine⟨h.clo.step ho hall,λp c a=>?_,λa=>?_,λ_=>⟨u,lJ,?_⟩,λa=>?_,λa=>?_,h.bel⟩
 ·obtain⟨n1,n2,n3,n4,n5,n6,n7,n8,n9⟩:=vI _ c;rw[aS n6] at a;rw[bW n2];exact h.cl p c a
 ·rw[aS (by decide)] at a;rw[bW (by decide),bW (by decide),aS (by decide)];exact h.t4 a
 ·rw[bW (by decide),aS (by decide)];exact hu
 ·rw[aS (by decide)] at a;rw[bW (by decide),bW (by decide),aS (by decide)];exact h.t6 a
 ·rw[aS (by decide)] at a;rw[bW (by decide),aS (by decide)];exact h.bx a
theorem LF.ex (h:LF ops W0 X b val d v w') {o:Oper} (ho:ops[6]?=some o) (hall: ∀e∈o.after,Region.binds .any e=true->d e.on=true) {u:Value} (hu:VU X (λk=>d 8=true->v 20≠ .pointer (some ⟨k,0,none⟩)) u w'):LF ops W0 X b val (bF d 6) (bP v (some 92) u) w':=by
 refine⟨h.clo.step ho hall,λp c a=>?_,λa=>?_,λa=>?_,λ_=>?_,λa=>?_,h.bel⟩
 ·obtain⟨n1,n2,n3,n4,n5,n6,n7,n8,n9⟩:=vI _ c;rw[aS n7] at a;rw[bW n3];exact h.cl p c a
 ·rw[aS (by decide)] at a;rw[bW (by decide),bW (by decide),aS (by decide)];exact h.t4 a
 ·rw[aS (by decide)] at a;rw[bW (by decide),bW (by decide),aS (by decide)];exact h.t5 a
 ·rw[lJ,bW (by decide),aS (by decide)];exact hu
 ·rw[aS (by decide)] at a;rw[bW (by decide),aS (by decide)];exact h.bx a
theorem LF.al (h:LF ops W0 X b val d v w') {o:Oper} (ho:ops[8]?=some o) (hall: ∀e∈o.after,Region.binds .any e=true->d e.on=true) (h9:d 9=false) (cs:Array Value) (hcs:cs.size=4):LF ops W0 X b val (bF d 8) (bP v (some 20) (.pointer (some ⟨w'.heap.size,0,none⟩))) (w'.alloc (.cells cs 26)):=by
 have g:=h.below (aI w' (.cells cs 26));have f: ∀ {ok:Nat->Prop}{u:Value},VU X ok u w'->VU X (λk=>bF d 8 8=true->bP v (some 20) (.pointer (some ⟨w'.heap.size,0,none⟩)) 20≠ .pointer (some ⟨k,0,none⟩)) u (w'.alloc (.cells cs 26)):=λl=>l.agree (λk _ lt=>⟨Below.heap_alloc _ _ _ lt,λ_ e=>by rw[lJ] at e;injection e with e;injection e with e;injection e with e;omega⟩);refine⟨g.clo.step ho hall,λp j a=>?_,λa=>?_,λa=>?_,λa=>?_,λ_=>⟨_,cs,lJ,h.bel.size,heap_alloc_new w' _,hcs,λh=>?_⟩,g.bel⟩
 ·obtain⟨n1,n2,n3,n4,n5,n6,n7,n8,n9⟩:=vI _ j;rw[aS n8] at a;rw[bW n4];exact g.cl p j a
 ·rw[aS (by decide)] at a;obtain⟨u,c,i⟩:=h.t4 a;exact⟨u,by rw[bW (by decide)];exact c,f i⟩
 ·rw[aS (by decide)] at a;obtain⟨u,c,i⟩:=h.t5 a;exact⟨u,by rw[bW (by decide)];exact c,f i⟩
 ·rw[aS (by decide)] at a;rw[bW (show (92:Nat)≠20 by decide)];exact f (h.t6 a)
 ·rw[aS (by decide),h9] at h;cases h
theorem LF.st (h:LF ops W0 X b val d v w') {o:Oper} (ho:ops[9]?=some o) (hall: ∀e∈o.after,Region.binds .any e=true->d e.on=true) {Y:Nat}{cs:Array Value}{e0 e1 e2 e3:Value} (h8:d 8=true) (hY:v 20= .pointer (some ⟨Y,0,none⟩)) (hYW:W0.heap.size<=Y) (hc:w'.heap[Y]?=some (.cells cs 26)) (hcs:cs.size=4) (hu:VU X (λk=>d 8=true->v 20≠ .pointer (some ⟨k,0,none⟩)) (.agg #[e0,e1,e2,e3]) w') (y:Value):
  LF ops W0 X b val (bF d 9) (bP v none y) ((((w'.setCell ⟨Y,0,none⟩ e0).setCell ⟨Y,1,none⟩ e1).setCell ⟨Y,2,none⟩ e2).setCell ⟨Y,3,none⟩ e3):=by
 obtain⟨w3,g⟩:=exQ<|(((w'.setCell ⟨Y,0,none⟩ e0).setCell ⟨Y,1,none⟩ e1).setCell ⟨Y,2,none⟩ e2).setCell ⟨Y,3,none⟩ e3;have j: ∀k,k≠Y->w3.heap[k]?=w'.heap[k]?:=λk f=>by
  rw[<-g,cP _ ⟨Y,3,none⟩ _ k f,cP _ ⟨Y,2,none⟩ _ k f,cP _ ⟨Y,1,none⟩ _ k f,cP _ ⟨Y,0,none⟩ _ k f]
 obtain⟨a,b',c,e,rfl⟩: ∃a b c e,cs= #[a,b,c,e]:=by
  obtain⟨l⟩:=cs
  match l,hcs with
  | [a,b,c,e],_=>exact⟨a,b,c,e,rfl⟩
 have q:w3.heap[Y]?=some (.cells #[e0,e1,e2,e3] 26):=by
  rw[<-g,fO (fO (fO (fO hc _ _) _ _) _ _)];rfl
 have n:Below W0.heap.size W0 w3:=by
  rw[<-g];exact(((h.bel.setCell (p:=⟨Y,0,none⟩) hYW _).setCell (p:=⟨Y,1,none⟩) hYW _).setCell (p:=⟨Y,2,none⟩) hYW _).setCell (p:=⟨Y,3,none⟩) hYW _
 have hsz:w3.heap.size=w'.heap.size:=by rw[<-g];simp[World.setCell]
 have m: ∀k,(d 8=true->v 20≠ .pointer (some ⟨k,0,none⟩))->k≠Y:=λk f e=>f h8 (by rw[hY,e]);have f: ∀ {u:Value},VU X (λk=>d 8=true->v 20≠ .pointer (some ⟨k,0,none⟩)) u w'->VU X (λk=>bF d 9 8=true->v 20≠ .pointer (some ⟨k,0,none⟩)) u w3:=λhu=>hu.agree (λk f lt=>⟨j k (m k f),λ_=>f h8⟩);rw[g];refine⟨h.clo.step ho hall,λp t i=>?_,λi=>?_,λi=>?_,λi=>?_,λ_=>⟨Y,_,hY,hYW,q,rfl,λ_=>hu.agree (λk f lt=>⟨j k (m k f),m k f⟩)⟩,n⟩
 ·obtain⟨n1,n2,n3,n4,n5,n6,n7,n8,n9⟩:=vI _ t;rw[aS n9] at i;exact h.cl p t i
 ·rw[aS (by decide)] at i;obtain⟨u,r,s⟩:=h.t4 i;exact⟨u,r,f s⟩
 ·rw[aS (by decide)] at i;obtain⟨u,r,s⟩:=h.t5 i;exact⟨u,r,f s⟩
 ·rw[aS (by decide)] at i;exact f (h.t6 i)
theorem LF.g {a:Array Value} (h:LF ops W0 X b val d (λk=>a.getD k undef) w') (i q:Nat) (hm:(i,q)∈vH) (hd:d i=true):a[q]?.getD undef=val i:=by
 have:=h.cl _ hm hd;rw[<-aO];exact this
theorem LF.early (h:LF ops W0 X b val d v w') {f i j:Nat} (hr:nS ops f j i=true) (hi:d i=false):d j=false:=by
 cases hc:d j with
 | false=>rfl
 | true=>rw[h.clo.reach f _ _ hr hc] at hi;cases hi
end
theorem aCP {P:Program}{ops:Array Oper}{Q:Exit->Act->World->Prop}{id:Nat}{a0:Act}{wB:World} (hm:P.follows .mixedOrders=true) (K:List Nat) (n:Nat) (hn:a0.tmps.size=n) (hback:oU ops=true) (hdst:nR ops K n=true) (h11:ops.size=11) (X:VT) (b:Bool) (val:Nat->Value)
  (hs: ∀(d:Nat->Bool) (a:Act) (w:World) (i:Nat) (o:Oper),ops[i]?=some o->d i=false->(∀e∈o.after,Region.binds .any e=true->d e.on=true)->(∀k,k ∉ K->a.tmps.getD k undef=a0.tmps.getD k undef)->LF ops wB.drew X b val d (λk=>a.tmps.getD k undef) w->
   ∀R:Act->World->Prop,(∀x' w',LF ops wB.drew X b val (bF d i) (bP (λk=>a.tmps.getD k undef) o.dst x') w'->R (a.put o.dst x') w')->o.wp P a w R Q)
  (hd: ∀(v:Nat->Value) (w:World),v 21=val 10->(∃Y cs,v 20= .pointer (some ⟨Y,0,none⟩)/\w.heap[Y]?=some (.cells cs 26)/\VU X (λk=>k≠Y) (.agg cs) w)->Below wB.heap.size wB w->Q .normal { a0 with tmps:=cC a0.tmps v K } w):(Code.region id ops true).wp P Q a0 wB:=by
 refine uF hm K n hn hback hdst (λd v w'=>LF ops wB.drew X b val d v w') ?_ hs (λv w h=>?_)
 ·exact⟨λ_ _ _ h=>Bool.noConfusion h,λ_ _ h=>Bool.noConfusion h,λh=>Bool.noConfusion h,λh=>Bool.noConfusion h,λh=>Bool.noConfusion h,λh=>Bool.noConfusion h,aB _ _⟩
 ·have e: ∀i,i<11->decide (i<ops.size)=true:=λi hi=>aM (by omega);obtain⟨Y,cs,f,_,c,_,g⟩:=h.bx (e 8 (by omega));exact hd v w (h.cl (10,21) (by decide) (e 10 (by omega))) ⟨Y,cs,f,c,g (e 9 (by omega))⟩ ((aB _ _).drew.trans h.bel)
end
end Go.Proofs.YtaifnmjjpddikaaGreatDoor
