import Derived.Test.YtfhjncbdgjlcoaaGreatDoorYn38
set_option linter.unusedVariables false
set_option linter.unusedSimpArgs false
set_option maxRecDepth 100000
set_option maxHeartbeats 8000000
namespace Go.Proofs.YtfhjncbdgjlcoaaGreatDoor
open Tryz
section
open Go.Lib
structure xF (s:aB) (ls:List aS) (x:aV):Prop where
 le:x.fr<x.til/\x.til<=ls.length
 txt: ∀i,x.fr<i->i<x.til-> ∃a:Nat×Nat,a.1<=a.2/\a.2<=s.length/\aU ls i=jC s a
 nb:x.fr+1<x.til-> ∃(i:Nat) (a:Nat×Nat),x.fr<i/\i<x.til/\aU ls i=jC s a/\bB (dL s a)≠(dL s a).length
 sgn:(dQ s x.rf x.rt= [124]\/dQ s x.rf x.rt= [124,45])/\0<=x.rf/\x.rf<=x.rt/\x.rt<=(s.length:Int)
def mG (s:aB) (a b:Int):Prop:=0<=a/\a<=b/\b<=(s.length:Int)
theorem mG.nil (s:aB):mG s 0 0:=⟨Int.le_refl _,Int.le_refl _,a_⟩
def mH (s:aB) (ls:List aS) (x:aV):Prop:=(mG s x.kf x.kt/\mG s x.rf x.rt)/\(x.kind=4->xF s ls x)
theorem mH.mono {s:aB}{ls ls':List aS}{x:aV} (h:mH s ls x) (hl:ls.length<=ls'.length) (he: ∀i,i<ls.length->aU ls' i=aU ls i):mH s ls' x:=⟨h.1,λe=>by
 obtain⟨c,g,m,j⟩:=h.2 e;refine⟨⟨c.1,bF c.2 hl⟩,λi a b=>?_,λa=>?_,j⟩
 .rw[he i a_];exact g i a b
 .obtain⟨i,q,l,d,k,f⟩:=m a;exact⟨i,q,l,d,by rw[he i a_];exact k,f⟩⟩
theorem mH.app {s:aB}{ls more:List aS}{x:aV} (h:mH s ls x):mH s (ls++more) x:=h.mono (by rw[aZ];omega) (λi a=>wO a)
def nT (s:aB) (st:YS):Prop:= ∀x∈st.nodes,mH s st.lines x
def zF (s:aB) (st:YS) (R:YR):Prop:=match R with
 | .ok _ st'=>nT s st->nT s st'
 | .bad _ _=>True
def uA (s:aB) (sp:List (Nat×Nat)) (V:YB):Prop:= ∀k kf kt st,mG s kf kt->dR s sp st->k+1=st.lines.length->zF s st (V k kf kt st)
theorem nT.leaf {s:aB}{ls:List aS}{ns:List aV}{t t':Nat}{x:aV} (h:nT s ⟨ls,ns,t⟩) (hs:mG s x.kf x.kt/\mG s x.rf x.rt) (hx:x.kind≠4):nT s ⟨ls,ns++ [x],t'⟩:=λy b=>by
 rcases pO.1 b with a | a
 .exact h y a
 .obtain rfl:=kT.1 a;exact⟨hs,λe=>absurd e hx⟩
theorem Hp {s:aB}{lv k:Nat}{kf kt:Int}{st:YS} (hkk:mG s kf kt) (hrr:mG s (aU st.lines k).rf (aU st.lines k).rt):zF s st (iB s lv k kf kt st):=by
 unfold iB;split
 .trivial
 .rename_i n1 s1 a;obtain⟨rfl,rfl,h0,_⟩:=mC a;simp only[];split
  .trivial
  .split
   .trivial
   .split
    .trivial
    .exact λh=>nT.leaf (t:=st.total) h ⟨hkk,hrr⟩ e_
theorem Qk {s:aB}: ∀(l:List (Nat×Nat)) (ls ls':List aS),lZ s l ls= .inl ls'->ls'.length=ls.length+l.length/\(∀i,i<ls.length->aU ls' i=aU ls i)/\ ∀j a,l[j]?=some a->aU ls' (ls.length+j)=jC s a
 | [],ls,ls',h=>by
  have e:ls=ls':=by unfold lZ at h;injection h
  subst e;exact⟨rfl,λ_ _=>rfl,λj a b=>by simp at b⟩
 | x ::l,ls,ls',h=>by
  unfold lZ at h;split at h
  .cases h
  .obtain⟨d,c,f⟩:=Qk l _ _ h;rw[aZ,dF] at c d f;refine⟨by rw[d,bM];omega,λi g=>?_,λj a b=>?_⟩
   .rw[c i a_,wO g]
   .cases j with
    | zero=>
     obtain rfl:x=a:=JW;rw[Nat.add_zero,c ls.length a_,Fp]
    | succ j=>
     have:=f j a JW;rw[show ls.length+(j+1)=ls.length+1+j by omega];exact this
theorem Hq (s:aB) (ind:Int): ∀(l:List (Nat×Nat)) (i til first:Nat),til<=i->
  (jL s ind l i til first=til\/ ∃j a,l[j]?=some a/\jL s ind l i til first=i+j+1/\bB (dL s a)≠(dL s a).length)
 | [],i,til,first,h=> .inl rfl
 | x::r,i,til,first,h=>by
  unfold jL;split
  .rcases Hq s ind r (i+1) til first a_ with h1 | ⟨j,a,h1,h2,h3⟩
   .exact .inl h1
   .exact .inr ⟨j+1,a,by simpa using h1,by rw[h2];omega,h3⟩
  .rename_i hne;split
   .exact .inl rfl
   .rcases Hq s ind r (i+1) (i+1) (if first=0 then bB (dL s x) else first) (aF _) with h1 | ⟨j,a,h1,h2,h3⟩
    .exact .inr ⟨0,x,rfl,by rw[h1],hne⟩
    .exact .inr ⟨j+1,a,by simpa using h1,by rw[h2];omega,h3⟩
theorem aDy {s:aB}{sp:List (Nat×Nat)} (hsp:dV s sp) {lv k:Nat}{kf kt:Int}{st:YS} (hkk:mG s kf kt) (hw:dR s sp st) (hk:k+1=st.lines.length) (hsg:dQ s (aU st.lines k).rf (aU st.lines k).rt= [124]\/dQ s (aU st.lines k).rf (aU st.lines k).rt= [124,45]):
  zF s st (lK s sp lv k kf kt st):=by
 have p:k<sp.length:=by have:=hw.ls.1;omega
 have e:=hw.ls.2 k a_;obtain⟨r1,r2⟩:=Br (s:=s) (aU st.lines k).ind p;have l:=Hq s (aU st.lines k).ind (sp.drop (k+1)) (k+1) (k+1) 0 (aF _);unfold lK;obtain⟨b,g⟩:=exQ<|oH s sp (aU st.lines k).ind k;rw[show jL s (aU st.lines k).ind (sp.drop (k+1)) (k+1) (k+1) 0=b from g] at l;rw[g] at r1 r2 ⊢;split
 .trivial
 .rename_i n1 s1 u;obtain⟨rfl,rfl,_,_⟩:=mC u;simp only[];split
  .trivial
  .rename_i ls o;intro h;obtain⟨t1,t2,t3⟩:=Qk _ _ _ o;have m:((sp.drop (k+1)).take (b-(k+1))).length=b-(k+1):=by rw[bR,bC];omega
   rw[m] at t1;have f: ∀i a,k<i->i<b->sp[i]?=some a->aU ls i=jC s a:=λi a n d c=>by
    have:=t3 (i-(k+1)) a (by rw[List.getElem?_take,if_pos a_,kG,show k+1+(i-(k+1))=i by omega];exact c);rw[<-hk,show k+1+(i-(k+1))=i by omega] at this;exact this
   intro y r;rcases pO.1 r with n | n
   .exact(h y n).mono (by rw[t1];omega) t2
   .obtain rfl:=kT.1 n;refine⟨⟨hkk,e.rst⟩,λ_=>?_⟩;refine⟨⟨by simp only[];omega,by simp only[t1];omega⟩,λi d c=>?_,λd=>?_,hsg,e.rst⟩
    .simp only[] at d c;obtain⟨a,q⟩: ∃a,sp[i]?=some a:=⟨_,bI a_⟩;have:=hsp a (bH q);exact⟨a,this.1,this.2,f i a d c q⟩
    .rcases l with c | ⟨j,a,c,h5,t⟩
     .have d:k+1<b:=d;omega
     .rw[kG] at c;exact⟨k+1+j,a,by simp only[];omega,by simp only[];omega,f _ a a_ a_ c,t⟩
theorem aDz {s:aB}{sp:List (Nat×Nat)} (hsp:dV s sp) {B:YB}{lv:Nat} (hB:uA s sp B):uA s sp (mY s sp B lv):=by
 intro k kf kt st b f o;have c:mG s (aU st.lines k).rf (aU st.lines k).rt:=(f.ls.2 k a_).rst;unfold mY;simp only[];split
 .rename_i j;exact aDy hsp b f o j
 .split
  .have d:=kP hsp (k:=k+1) (lines:=st.lines) a_ f.ls (λi h1 g=>by omega);cases hm:eX s sp (k+1) st.lines with
   | bad a e=>trivial
   | ok nx ls=>
    rw[hm] at d;simp only[] at d ⊢;obtain⟨more,l⟩:=d.pre;have up:nT s st->nT s ⟨ls,st.nodes,st.total⟩:=λh x m=>by
     show mH s ls x;rw[l];exact(h x m).app
    split
    .rename_i j;have:=hB nx kf kt ⟨ls,st.nodes,st.total⟩ b ⟨d.ok,f.tot⟩ (d.hit j.1).1.symm
     revert this
     cases B nx kf kt ⟨ls,st.nodes,st.total⟩ with
     | bad a e=>exact λ_=>trivial
     | ok n st'=>exact λh g=>h (up g)
    .have:=Hp (lv:=lv) (k:=k) (st:=⟨ls,st.nodes,st.total⟩) b (by simp only[l];rw[wO a_];exact c)
     revert this
     cases iB s lv k kf kt ⟨ls,st.nodes,st.total⟩ with
     | bad a e=>exact λ_=>trivial
     | ok n st'=>exact λh g=>h (up g)
  .exact Hp b c
theorem aDA {s:aB}{sp:List (Nat×Nat)}{V:YB} (hV:uA s sp V) (map:Bool) (had:List aB) {k:Nat}{st:YS} (hw:dR s sp st) (hk:k+1=st.lines.length):zF s st (eM s V map had k st).1:=by
 unfold eM;split
 .simp only[];split
  .trivial
  .split
   .trivial
   .exact hV _ _ _ _ (hw.ls.2 k a_).key hw hk
 .exact hV _ _ _ _ (mG.nil s) hw hk
theorem aDB {s:aB}{sp:List (Nat×Nat)} (hsp:dV s sp) {V:YB} (hG:gS s sp V) (hV:uA s sp V) {map:Bool}{n:Nat}{ind:Int}{had had':List aB}{k nx:Nat}{st s3:YS} (hw:dR s sp st) (hk:k+1=st.lines.length) {x:aV} (hx:st.nodes[n]?=some x) (hx4:x.kind≠4) (hall:nT s st) (h:fW s sp V map n ind had k st= .ok nx s3 had'):
  nT s s3/\ ∃x',s3.nodes[n]?=some x'/\x'.kind=x.kind:=by
 have N5:=trivial;exact JI
theorem Ql {s:aB}{sp:List (Nat×Nat)} (hsp:dV s sp) {V:YB} (hG:gS s sp V) (hV:uA s sp V) {map:Bool}{n:Nat}{ind kind:Int}: ∀(f:Nat) (had:List aB) (k:Nat) (st:YS) (x:aV),
  dR s sp st->(k<sp.length->k+1=st.lines.length)->st.nodes[n]?=some x->x.kind≠4->zF s st (jM s sp V map n ind kind f had k st)
 | 0,had,k,st,x,hw,hk,hx,hx4=>λh=>h
 | f +1,had,k,st,x,hw,hk,hx,hx4=>by
  unfold jM;split
  .rename_i hc;cases ho:fW s sp V map n ind had k st with
   | bad a e=>trivial
   | ok nx s2 had'=>
    simp only[];obtain⟨_,_,_,h3,h4,h5,h6⟩:=Cb hsp hG hw (hk hc.1) hx ho;by_cases hall:nT s st
    .obtain⟨b,x',d,c⟩:=aDB hsp hG hV hw (hk hc.1) hx hx4 hall ho;have:=Ql hsp hG hV (map:=map) (ind:=ind) (kind:=kind) f had' nx s2 x' h3 h6 d (by rw[c];exact hx4)
     revert this
     cases jM s sp V map n ind kind f had' nx s2 with
     | bad a e=>exact λ_=>trivial
     | ok n' st'=>exact λh _=>h b
    .cases jM s sp V map n ind kind f had' nx s2 with
     | bad a e=>trivial
     | ok n' st'=>exact λh=>absurd h hall
  .exact λh=>h
theorem Qm {s:aB}{sp:List (Nat×Nat)} (hsp:dV s sp) {V:YB} (lv:Nat) (hG:lv≠0->gS s sp V) (hV:lv≠0->uA s sp V):uA s sp (kZ s sp V lv):=by
 intro k kf kt st b c g;unfold kZ;simp only[];split
 .exact Hp b (c.ls.2 k a_).rst
 .split
  .trivial
  .rename_i n1 s1 i;obtain⟨rfl,rfl,d,h4⟩:=mC i;have htot:=c.tot;have:=Ql hsp (hG d) (hV d) (map:=decide ((aU st.lines k).kind=4)) (n:=st.nodes.length) (ind:=(aU st.lines k).ind) (kind:=(aU st.lines k).kind) (sp.length-k) [] k ⟨st.lines,st.nodes++ [⟨if(aU st.lines k).kind=4 then 3 else 2,(aU st.lines k).ind,k,0,kf,kt,0,0,[]⟩],st.total+1⟩ _ ⟨c.ls,by simp only[aZ,dF];omega⟩ (λ_=>g) (by simp;rfl) GX
   revert this
   cases jM s sp V (decide ((aU st.lines k).kind=4)) st.nodes.length (aU st.lines k).ind (aU st.lines k).kind (sp.length-k) [] k ⟨st.lines,st.nodes++ [⟨if(aU st.lines k).kind=4 then 3 else 2,(aU st.lines k).ind,k,0,kf,kt,0,0,[]⟩],st.total+1⟩ with
   | bad a e=>exact λ_=>trivial
   | ok n' st'=>exact λh f=>h (nT.leaf (t:=st.total) f ⟨b,mG.nil s⟩ GX)
theorem Qn {s:aB}{sp:List (Nat×Nat)} (hsp:dV s sp): ∀lv,uA s sp (oI s sp lv)
 | 0=>Qm hsp 0 (λh=>absurd rfl h) (λh=>absurd rfl h)
 | lv+1=>Qm hsp (lv+1) (λ_=>yK hsp (pG hsp lv) lv) (λ_=>aDz hsp (Qn hsp lv))
theorem aDC {s:aB}{d:dU}{a:Int} (h:lL s (eY s)=(d,a,0)): ∀x∈d.nodes,mH s d.lines x:=by
 have LZ:=trivial;exact G8
theorem aDD {s:aB}{d:dU}{a:Int} (h:mA s=(d,a,0)): ∀x∈d.nodes,mH s d.lines x:=by
 unfold mA at h;split at h
 .simp only[Prod.mk.injEq] at h;exact absurd h.2.2 b_
 .exact aDC h
end
section
open Go.RowKit
open Go.Lib hiding intOf
theorem Qo (t:aB): ∀l:List aB,lB (l++ [t])=if l= [] then t else lB l++10::t
 | []=>rfl
 | [a]=>by simp[lB]
 | a::b::l=>by
  have h:=Qo t (b::l);simp only[qK] at h ⊢;rw[lB,h,if_neg e_,if_neg e_,lB];simp
theorem Qp: ∀l:List (aB×Int),(∀q∈l,0<=q.2)->(∃q∈l,bB q.1≠q.1.length)->0<=jN l
 | [],_,⟨q,hq,_⟩=>by cases hq
 | (u,j)::l,h,⟨q,hq,hn⟩=>by
  rw[jN];split
  .exact h (u,j) kR
  .rename_i he;refine Qp l (λq hq=>h q (List.mem_cons_of_mem _ hq)) ?_;rcases fT.1 hq with h1 | h1
   .rw[h1] at hn;exact absurd hn he
   .exact⟨q,h1,hn⟩
theorem aDE (s:aB) (a:Nat×Nat) (h1:a.1<=a.2) (h2:a.2<=s.length):iD s (jC s a).sf (jC s a).st=dL s a:=by
 unfold iD jC dL dQ;simp only[];rw[if_neg a_,gA,gA]
theorem Hr {s:aB}{d:dU}{x:aV} (hL:xF s d.lines x) {i:Nat} (h1:x.fr<i) (h2:i<x.til):
  ∃(r:aS) (t:aB) (f e:Nat),d.lines[i]?=some r/\r.sf=(f:Int)/\r.st=(e:Int)/\f<=e/\e<=s.length/\t=(s.drop f).take (e-f)/\t.length=e-f/\r.ind=(bB t:Int)/\(nB s d.lines x)[i-(x.fr+1)]?=some (t,r.ind):=by
 obtain⟨a,c,g,b⟩:=hL.txt i h1 h2;have hle:=hL.le;have h:i<d.lines.length:=a_
 have j:d.lines[i]?=some (jC s a):=by
  rw[bI h];unfold aU at b;rw[bI h] at b;exact congrArg some b
 refine⟨jC s a,dL s a,a.1,a.2,j,rfl,rfl,c,g,rfl,by unfold dL;rw[bR,bC];omega,rfl,?_⟩;unfold nB qD;rw[cF,kG,List.getElem?_take,if_pos a_,show x.fr+1+(i-(x.fr+1))=i by omega,j];simp only[Option.map_some,aDE s a c g]
theorem Qq {s:aB}{d:dU}{x:aV} (hL:xF s d.lines x):(nB s d.lines x).length=x.til-(x.fr+1):=by
 rw[Po,xB];have:=hL.le;omega
theorem Qr {s:aB}{d:dU}{x:aV} (hL:xF s d.lines x): ∀q∈nB s d.lines x,0<=q.2/\q.2<=(s.length:Int):=λq h=>by
 obtain⟨j,c⟩:=List.getElem?_of_mem h;have b:=(aW.1 c).1;rw[Qq hL] at b;obtain⟨r,t,f,e,h1,h2,h3,h4,h5,h6,h7,g,a⟩:=Hr hL (i:=x.fr+1+j) a_ a_;rw[show x.fr+1+j-(x.fr+1)=j by omega,c] at a;injection a with a;rw[a];have:=jU t;simp only[g];omega
theorem aDF {s:aB}{d:dU}{x:aV} (hL:xF s d.lines x) (h:x.fr+1<x.til):0<=jN (nB s d.lines x):=by
 obtain⟨i,a,m,c,b,l⟩:=hL.nb h;obtain⟨r,t,f,e,g1,g2,g3,g4,g5,g6,g7,g8,g9⟩:=Hr hL m c;refine Qp _ (λq k=>(Qr hL q k).1) ⟨_,bH g9,?_⟩;simp only[];have g:r=jC s a:=by
  unfold aU at b;rw[g1] at b;exact b
 rw[g] at g2 g3;have e1:a.1=f:=by
  have:(jC s a).sf=(a.1:Int):=rfl;omega
 have e2:a.2=e:=by
  have:(jC s a).st=(a.2:Int):=rfl;omega
 have j:t=dL s a:=by rw[g6,<-e1,<-e2];rfl
 rw[j];exact l
theorem Qs (s:aB) (d:dU) (pl pn:Option Addr) (cl cn:Nat) (w:World) (hb:oM s d) (k:Nat) (x:aV) (hx:d.nodes[k]?=some x) (hL:xF s d.lines x) (h1:rB w pl d.lines) (h2:rC w pn d.nodes):
  Calls prog 14 #[.agg #[bs s, .slice pl d.lines.length cl, .slice pn d.nodes.length cn],k] w (aT w (.string (bs (qE s d.lines x)))):=by
 obtain⟨gn,kv,rfl,⟨pk,ck,rfl,_⟩,hc⟩:=h2 k x hx;have vz:=(aW.1 hx).1;obtain⟨hle1,ww⟩:=hL.le;have ur:=hb.lns;have fX:=hb.nds;have hsb:=hb.txt;have sl:=aP s;obtain⟨nl,gU⟩:=exQ<|d.lines.length;obtain⟨nn,hZ⟩:=exQ<|d.nodes.length;obtain⟨mk,dt⟩:=exQ<|x.kids.length;rw[gU] at ww ur;rw[hZ] at vz fX;rw[gU,hZ];rw[dt] at hc;have gX:(0:Int)<=(k:Int):=a_
 have gm:(k:Int)<(nn:Int):=a_
 obtain⟨f1,mi⟩:=exQ<|x.fr+1;have hf1z:(x.fr:Int)+1=(f1:Int):=a_
 obtain⟨ts,jj⟩:=exQ<|nB s d.lines x;have jV:Hid (∀i,f1<=i->i<x.til-> ∃(r:aS) (t:aB) (f e:Nat),d.lines[i]?=some r/\r.sf=(f:Int)/\r.st=(e:Int)/\f<=e/\e<=s.length/\t=(s.drop f).take (e-f)/\t.length=e-f/\r.ind=(bB t:Int)/\ts[i-f1]?=some (t,r.ind)):=hid (λi h3 h4=>by have:=Hr hL (i:=i) a_ h4;rw[jj,mi] at this;exact this);have uk:=Qq hL;have oc:=Qr hL;have hcut:=aDF hL;obtain⟨Ae,hrf0,hrf1,hrf2⟩:=hL.sgn;obtain⟨Y,hY⟩:=exQ<|qE s d.lines x;rw[hY];unfold qE at hY;rw[jj,mi] at uk;rw[jj] at oc hcut hY;rw[mi] at hcut;have HY:=hid hY;have HT:=hid (aK uk (aK oc hcut));have ia:=hid Ae;have xu:=hid h1;have b1:=aL w (.cells #[bs s, .slice pl nl cl,(gn,nn,cn)] 26);have x1:=heap_alloc_new w (.cells #[bs s, .slice pl nl cl,(gn,nn,cn)] 26);obtain⟨D,f9⟩:=exQ<|w.heap.size;obtain⟨W1,bp⟩:=exQ<|w.alloc (.cells #[bs s, .slice pl nl cl,(gn,nn,cn)] 26);rw[bp] at b1 x1;rw[f9] at x1;have b2:=aL W1 (.cells #[x.kind,x.ind,x.fr,x.til,x.kf,x.kt,x.rf,x.rt, .slice pk mk ck] 45);have x2:=heap_alloc_new W1 (.cells #[x.kind,x.ind,x.fr,x.til,x.kf,x.kt,x.rf,x.rt, .slice pk mk ck] 45);obtain⟨X,eo⟩:=exQ<|W1.heap.size;obtain⟨W2,aw⟩:=exQ<|W1.alloc (.cells #[x.kind,x.ind,x.fr,x.til,x.kf,x.kt,x.rf,x.rt, .slice pk mk ck] 45);rw[aw] at b2 x2;rw[eo] at x2;have bh:=hid (aE b1 b2);have bo:=(b2.block D (aG x1)).trans x1;have jR:Hid (∀w',aA W2 w'->w'.heap[D]?=some (.cells #[bs s, .slice pl nl cl,(gn,nn,cn)] 26)/\w'.heap[X]?=some (.cells #[x.kind,x.ind,x.fr,x.til,x.kf,x.kt,x.rf,x.rt, .slice pk mk ck] 45)):=hid (λw' h=>⟨(h.block D (aG bo)).trans bo,(h.block X (aG x2)).trans x2⟩);obtain⟨d0,d1,d2,_⟩:=eA x1;obtain⟨y0,y1,y2,y3,y4,y5,y6,y7,y8⟩:=Cr (w:=W1) (λi u h3 h4=>fM (hc i u h3 h4) b1);have sR:=hid (rB.keep (rB.keep h1 b1) b2);have CH:=hid (aD W2.heap.size W2);clear hx hL h1 h2 hc jj uk oc hcut Ae hY b1 b2 x1 x2 bo gU hZ dt hb;go_in;go_upto_region 1 with fail
 try rw[bp]
 try rw[f9]
 go_upto_region 2 with fail
 try rw[aw]
 try rw[eo]
 clear bp f9 aw eo y0 y1 y2 y3 y4 y5 y6 y7 y8 d0 d1 d2;obtain⟨bo,cv⟩:=jR.out W2 (aD _ _);obtain⟨d0,d1,d2,_⟩:=eA bo;obtain⟨n0,n1,n2,n3,n4,n5,n6,n7,n8⟩:=kD cv;clear bo cv;go_wp2_with fail;clear n0 n1 n2 n3 n4 n5 n6 n7 n8 d0 d1 d2;go_loopw [6,8] (λs6 s8 wr=> ∃i:Nat,s8= .int .i64 (i:Int)/\f1<=i/\i<=x.til/\s6= .int .i64 (jN (ts.take (i-f1)))/\Hid (aA W2 wr)) (λ_ s8 _=>x.til-(RowKit.intOf s8).toNat)
 case atStart=>exact⟨f1,rfl,aF _,a_,by rw[Nat.sub_self];rfl,CH⟩
 case round=>
  obtain⟨i,rfl,cN,fs,rfl,cV⟩:=hrel;obtain⟨bo,cv⟩:=jR.out wr cV.out;obtain⟨d0,d1,d2,_⟩:=eA bo;obtain⟨n0,n1,n2,n3,n4,n5,n6,n7,n8⟩:=kD cv;clear bo cv;by_cases oZ:i<x.til
  .have LY:=trivial;exact G7
  obtain rfl:i=x.til:=a_
  have dk:decide ((x.til:Int)<(x.til:Int))=false:=aJ a_;have jl:ts.take (x.til-f1)=ts:=GR
  rw[jl];obtain⟨c,kU⟩:=exQ<|jN ts;have yI:=HT.out.2.2;rw[kU] at yI ⊢;obtain⟨C,hC⟩:=exQ<|c.toNat;have vc:=HY.out;rw[kU,hC] at vc;have r6:=hid vc;clear vc HY jl;have oN:=yY ts (λq Z=>by have:=HT.out.2.1 q Z;omega);rw[kU] at oN;have da:=cV;go_wp2_with fail;clear d0 d1 d2 n0 n1 n2 n3 n4 n5 n6 n7 n8;go_loopw [7,10] (λs7 jF wr=> ∃i:Nat,jF= .int .i64 (i:Int)/\f1<=i/\i<=x.til/\s7= .string (bs (lB ((ts.take (i-f1)).map λq=>q.1.drop C)))/\Hid (aA W2 wr)) (λ_ jF _=>x.til-(RowKit.intOf jF).toNat)
  case atStart=>exact⟨f1,rfl,aF _,a_,by rw[Nat.sub_self];rfl,da⟩
  case round=>
   clear da cV;obtain⟨i,rfl,cN,fs,rfl,cV⟩:=hrel;obtain⟨bo,cv⟩:=jR.out wr cV.out;obtain⟨d0,d1,d2,_⟩:=eA bo;obtain⟨n0,n1,n2,n3,n4,n5,n6,n7,n8⟩:=kD cv;clear bo cv;obtain⟨J,hJ⟩:=exQ<|lB ((ts.take (i-f1)).map λq=>q.1.drop C);rw[hJ];have zl:J.length<=131072*65537:=by
    have h1:=Ct 65536 ((ts.take (i-f1)).map λq=>q.1.drop C) (λt ht=>by obtain⟨q,Z,rfl⟩:=qJ.1 ht;obtain⟨j,hj⟩:=List.getElem?_of_mem (List.mem_of_mem_take Z);have rF:=(aW.1 hj).1;rw[HT.out.1] at rF;obtain⟨r,t,f,e,g1,g2,g3,g4,g5,g6,g7,g8,g9⟩:=jV.out (f1+j) a_ a_;rw[show f1+j-f1=j by omega,hj] at g9;injection g9 with g9;rw[g9];simp only[bC];omega);rw[hJ,bP,bR] at h1;exact bF h1 (Nat.mul_le_mul_right _ (by have:=HT.out.1;omega))
   have hJs:=aP J;by_cases oZ:i<x.til
   .exact G7
   .obtain rfl:i=x.til:=a_;have dk:decide ((x.til:Int)<(x.til:Int))=false:=aJ a_;have jl:ts.take (x.til-f1)=ts:=GR;rw[jl] at hJ;have rr:iD s x.rf x.rt=dQ s x.rf x.rt:=by unfold iD;rw[if_neg a_]
    have lo:=r6.out;rw[rr,hJ] at lo;have eb:(dQ s x.rf x.rt).length=(x.rt-x.rf).toNat:=by unfold dQ;rw[bR,bC];omega
    have wrr:IntKind.i64.wrap (x.rt-x.rf)=x.rt-x.rf:=by rw[IntKind.wrap_i64];omega
    have o6:Hid (aA w wr):=hid (bh.out.trans (cV.out.mono bh.out.size));have e6: ¬9223372036854775807<J.length+1:=a_;have dK:=HT.out.1;by_cases pN:f1<x.til
    .have dg:decide ((f1:Int)<(x.til:Int))=true:=aQ a_;have zP:decide (f1<x.til)=true:=aQ pN;have gj:ts≠ []:=λe=>by rw[e] at dK;simp at dK;omega
     rcases ia.out with h1 | h1
     .rw[if_pos ⟨gj,h1⟩] at lo;rw[h1] at eb;have h2:(1:Nat)=(x.rt-x.rf).toNat:=eb;have db:(x.rt-x.rf==1)=true:=beq_iff_eq.2 a_;have BA:bs J++⟨#[10]⟩=bs Y:=by rw[<-lo,<-jP];rfl
      clear lo hJ jl rr h1 h2 eb;exact ce
     .rw[if_neg (λh=>by rw[h1] at h;exact absurd h.2 b_),List.append_nil] at lo;rw[h1] at eb;have h2:(2:Nat)=(x.rt-x.rf).toNat:=eb;have db:(x.rt-x.rf==1)=false:=aI.2 a_;subst lo;clear hJ jl rr h1 h2 eb;exact ce
    .have dg:decide ((f1:Int)<(x.til:Int))=false:=aJ a_;have zP:decide (f1<x.til)=false:=aJ pN;have Aj:ts= []:=List.length_eq_zero_iff.1 a_;rw[if_neg (λh=>h.1 Aj),List.append_nil] at lo;subst lo;clear hJ jl rr Aj;exact ce
def Cz (s:aB) (d:dU) (lv:Nat):Prop:= ∀(B:Nat) (lvv nv:Value) (k m:Nat) (w:World),eI d.nodes lv k m->lv<=32->eP B d lvv nv w->bV w->
 Calls prog 13 #[.agg #[bs s,lvv,nv],k] w (jJ (aX s d lv k) w)
theorem Qt {s:aB}{a b:Int} (h:mG s a b): ∃(f e:Nat),a=(f:Int)/\b=(e:Int)/\f<=e/\e<=s.length/\(bs s).extract f e=bs (iD s a b):=by
 obtain⟨h1,h2,h3⟩:=h;refine⟨a.toNat,b.toNat,a_,a_,a_,a_,?_⟩;unfold iD dQ;rw[if_neg a_,gO,aY]
theorem aDG (s:aB) (d:dU) (hb:oM s d) (HRd:Hid qB) (HKy:Hid qC) (hli: ∀x∈d.nodes,mH s d.lines x) (lv:Nat) (IH:Cz s d lv) (B:Nat) (lvv nv:Value) (k m:Nat) (w:World) (hT:eI d.nodes (lv+1) k m) (hlv:lv+1<=32) (hD0:eP B d lvv nv w) (hV:bV w) (x:aV) (hx:d.nodes[k]?=some x) (hkd:x.kind=1):
  Calls prog 13 #[.agg #[bs s,lvv,nv],k] w (jJ (aX s d (lv+1) k) w):=by
 have Q7:=trivial;exact PI
theorem aDH (s:aB) (d:dU) (hb:oM s d) (HRd:Hid qB) (HKy:Hid qC) (hli: ∀x∈d.nodes,mH s d.lines x) (lv:Nat) (IH:Cz s d lv) (B:Nat) (lvv nv:Value) (k m:Nat) (w:World) (hT:eI d.nodes (lv+1) k m) (hlv:lv+1<=32) (hD0:eP B d lvv nv w) (hV:bV w) (x:aV) (hx:d.nodes[k]?=some x) (hkd:x.kind=4):
  Calls prog 13 #[.agg #[bs s,lvv,nv],k] w (jJ (aX s d (lv+1) k) w):=PG
end
end Go.Proofs.YtfhjncbdgjlcoaaGreatDoor
