import Derived.Test.YtfhjncbdgjlcoaaGreatDoorYn40
import Derived.Test.YtfhjncbdgjlcoaaGreatDoorYn10
set_option linter.unusedVariables false
set_option linter.unusedSimpArgs false
set_option maxRecDepth 100000
set_option maxHeartbeats 8000000
namespace Go.Proofs.YtfhjncbdgjlcoaaGreatDoor
open Tryz
set_option linter.unnecessarySimpa false
open Go.RowKit Go.Maps Go.WideMaps
open Go.Lib hiding intOf
def cN (w:World) (P:Nat) (txt:aC) (lv:Value) (k:Nat) (nv:Value) (a:Nat) (er:Int):Prop:=
 w.heap[P]?=some (.cells #[bs txt,lv,k,nv,a,er] 161 (0,0))
abbrev aCY (w:World) (P:Nat) (txt:List UInt8) (lv:Value) (k:Nat) (nv:Value) (a:Nat) (er:Int):Prop:=
 w.cell? (P,0)=some (.string (bs txt))/\w.cell? (P,1)=some lv/\w.cell? (P,2)=some (.int .i64 (k:Int))/\w.cell? (P,3)=some nv/\w.cell? (P,4)=some (.int .i64 (a:Int))/\w.cell? (P,5)=some (.int .i64 er)/\
 w.frozen? ⟨P,1,none⟩=false/\w.frozen? ⟨P,2,none⟩=false/\w.frozen? ⟨P,3,none⟩=false/\w.frozen? ⟨P,4,none⟩=false/\w.frozen? ⟨P,5,none⟩=false
section
variable {w w':World}{P:Nat}{txt:aC}{lv nv:Value}{k:Nat}{a:Nat}{er:Int}
theorem cN.cells (h:cN w P txt lv k nv a er):aCY w P txt lv k nv a er:=by
 unfold cN at h;refine⟨?_,?_,?_,?_,?_,?_,?_,?_,?_,?_,?_⟩<;>simp[World.cell?,World.frozen?,h]
theorem cN.lt (h:cN w P txt lv k nv a er):P<w.heap.size:=aG h
theorem cN.keep (h:cN w P txt lv k nv a er) (hb:aA w w'):cN w' P txt lv k nv a er:=(hb.block P h.lt).trans h
theorem cN.setK (h:cN w P txt lv k nv a er) (k2:Nat):cN (w.setCell ⟨P,2,none⟩ (.int .i64 (k2:Int))) P txt lv k2 nv a er:=D9
theorem cN.put (h:cN w P txt lv k nv a er) (a2:Nat) (e2:Int):cN ((w.setCell ⟨P,4,none⟩ (.int .i64 (a2:Int))).setCell ⟨P,5,none⟩ (.int .i64 e2)) P txt lv k nv a2 e2:=D9
theorem cN.nodes (h:cN w P txt lv k nv a er) (nv2:Value):cN (w.setCell ⟨P,3,none⟩ nv2) P txt lv k nv2 a er:=D9
end
theorem TV.tok {w:World}{v:Value}{L:List aR} (h:TV w v L) {j:Nat}{t:aR} (hj:L[j]?=some t): ∃g o c,v= .slice (some ⟨g,o,none⟩) L.length c/\L.length<=c/\w.cell? ⟨g,o+j*3,none⟩=some (.int .i64 t.kind)/\w.cell? ⟨g,o+j*3+1,none⟩=some (.int .i64 t.sf)/\w.cell? ⟨g,o+j*3+2,none⟩=some (.int .i64 t.st)/\ ∃cur,w.heap[g]?=some (.cells cur 163 (0,0)):=by
 obtain⟨p,c,i,e,m⟩:=h;rcases m with rfl | ⟨g,o,cur,rfl,f,l⟩
 .simp at hj
 .obtain⟨a,b,d⟩:=l j t hj;exact⟨g,o,c,i,e,a,b,d,cur,f⟩
theorem TV.slice {w:World}{v:Value}{L:List aR} (h:TV w v L): ∃p c,v= .slice p L.length c:=by
 obtain⟨p,c,b,_⟩:=h;exact⟨p,c,b⟩
def QZ (B P:Nat) (txt:aC) (L:List aR) (k:Nat) (z:List ND) (nv:Value) (w:World):Prop:= ∃lv,cN w P txt lv k nv 0 0/\TV w lv L/\k<=L.length/\cK B z nv w/\B<=P
def QJ (B P:Nat) (txt:aC) (L:List aR) (k:Nat) (nodes:List aM) (w:World):Prop:= ∃z nv,z.map (·.1)=nodes/\QZ B P txt L k z nv w
section
variable {B P:Nat}{txt:aC}{L:List aR}{k:Nat}{z:List ND}{nv:Value}{nodes:List aM}{w w':World}
theorem QZ.keep (h:QZ B P txt L k z nv w) (hb:aA w w'):QZ B P txt L k z nv w':=by
 obtain⟨lv,b,e,d,f,c⟩:=h;exact⟨lv,b.keep hb,e.keep hb,d,f.keep hb,c⟩
theorem QJ.keep (h:QJ B P txt L k nodes w) (hb:aA w w'):QJ B P txt L k nodes w':=by
 obtain⟨z,nv,b,c⟩:=h;exact⟨z,nv,b,c.keep hb⟩
theorem QZ.toJ (h:QZ B P txt L k z nv w):QJ B P txt L k (z.map (·.1)) w:=⟨z,nv,rfl,h⟩
theorem QJ.le (h:QJ B P txt L k nodes w):k<=L.length:=by
 obtain⟨z,nv,_,lv,_,_,b,_⟩:=h;exact b
theorem QJ.ptr (h:QJ B P txt L k nodes w):P<w.heap.size/\B<=P:=by
 obtain⟨z,nv,_,lv,b,_,_,_,c⟩:=h;exact⟨b.lt,c⟩
end
def qN (P:Nat) (w:World):Nat:=match w.cell? (P,3) with
 | some (.slice _ n _)=>n
 | _=>0
theorem QJ.qN {B P:Nat}{txt:aC}{L:List aR}{k:Nat}{nodes:List aM}{w:World} (h:QJ B P txt L k nodes w):qN P w=nodes.length:=by
 obtain⟨z,nv,e,lv,d,h2,_,b,h5⟩:=h;obtain⟨p,c,rfl⟩:=b.slice;have:=d.cells.2.2.2.1;unfold Go.Proofs.YtfhjncbdgjlcoaaGreatDoor.qN;rw[this,<-e,bP]
def mE (B P N:Nat) (a:Nat) (er:Int) (w:World):Prop:= ∃txt lv k z nv,cN w P txt lv k nv a er/\cK B z nv w/\B<=P/\N<=z.length
theorem mE.mono {B P N M:Nat}{a:Nat}{er:Int}{w:World} (h:mE B P N a er w) (hm:M<=N):mE B P M a er w:=by
 obtain⟨txt,lv,k,z,nv,d,b,e,c⟩:=h;exact⟨txt,lv,k,z,nv,d,b,e,bF hm c⟩
theorem mE.keep {B P N:Nat}{a:Nat}{er:Int}{w w':World} (h:mE B P N a er w) (hb:aA w w'):mE B P N a er w':=by
 obtain⟨txt,lv,k,z,nv,d,b,e,c⟩:=h;exact⟨txt,lv,k,z,nv,d.keep hb,b.keep hb,e,c⟩
abbrev dT (P:Nat) (w w':World):Prop:=w.grownBy w' (some P)
theorem dT.of_below {P:Nat}{w w':World} (h:aA w w'):dT P w w':=⟨h.os,h.tape,h.output,h.size,λg b _=>h.block g b⟩
theorem dT.new {P X i:Nat}{w w1:World}{u:Value} (h:dT P w w1) (hX:w.heap.size<=X):dT P w (w1.setCell ⟨X,i,none⟩ u):=
 ⟨h.os,h.tape,h.output,by have:=h.size;simp[World.setCell];exact this,λg c b=>by rw[eW w1 ⟨X,i,none⟩ u g h_];exact h.block g c b⟩
theorem dT.fr {B P:Nat}{w w':World} (h:dT P w w') (hBP:B<=P) (hB:B<=w.heap.size):Fr B P w w':=Fr.ofP h hBP hB
theorem cK.only {B P:Nat}{z:List ND}{nv:Value}{w w':World}{txt:aC}{lv nv2:Value}{k a:Nat}{er:Int} (h:cK B z nv w) (hb:cN w P txt lv k nv2 a er) (hg:dT P w w'):cK B z nv w':=
 h.other hb b_ b_ b_ hg
theorem mE.of {B P:Nat}{txt:aC}{L:List aR}{k k2:Nat}{z:List ND}{nv:Value}{w w':World}{lv2:Value}{txt2:aC}{a:Nat}{er:Int} (h:QZ B P txt L k z nv w) (hg:dT P w w') (hb:cN w' P txt2 lv2 k2 nv a er):mE B P z.length a er w':=by
 obtain⟨lv,b,h2,h3,d,c⟩:=h;exact⟨_,_,_,z,nv,hb,d.only b hg,c,aF _⟩
theorem xD {L:List aR}{k:Nat}{t:aR} (h:L[k]?=some t):L.drop k=t::L.drop (k+1):=by
 have b:=(aW.1 h).1;rw[gB b];rw[bI b] at h;rw[bA h]
theorem vM (B P:Nat) (txt:aC) (L:List aR) (k:Nat) (nodes:List aM) (w:World) (h:QJ B P txt L k nodes w) (hL:L.length<=1073741824):
  Calls prog 168 #[some P] w (aT w (.int .i64 (dY (L.drop k):Int))):=by
 have MN:=trivial;exact IJ
theorem Hm (B P:Nat) (txt:aC) (L:List aR) (k:Nat) (nodes:List aM) (w:World) (h:QJ B P txt L k nodes w) (hL:L.length<=1073741824) (hs:txt.length<=1073741824):
  Calls prog 170 #[some P] w (aT w (.int .i64 (cH txt.length (L.drop k):Int))):=by
 have MM:=trivial;exact IJ
theorem xE (B P:Nat) (txt:aC) (L:List aR) (k:Nat) (z:List ND) (nv:Value) (er:Int) (w:World) (h:QZ B P txt L k z nv w) (hL:L.length<=1073741824) (hs:txt.length<=1073741824):
  Calls prog 132 #[some P,er] w (λe w'=>e= .returned (.bool false)/\(∃lv,cN w' P txt lv k nv (cH txt.length (L.drop k)) er)/\dT P w w'):=by
 have C:=hid (Hm B P txt L k _ w h.toJ hL hs);have i:=hid h;clear h;go_in;go_wp2_with fail;refine aH C.out λw1 b=>?_;obtain⟨lv,d,j,hk,c,hBP⟩:=i.out.keep b;obtain⟨c0,c1,c2,c3,c4,c5,f1,f2,f3,f4,f5⟩:=d.cells;have l:=hid (d.put (cH txt.length (L.drop k)) er);have f:Hid (dT P w ((w1.setCell ⟨P,4,none⟩ (.int .i64 (cH txt.length (L.drop k):Int))).setCell ⟨P,5,none⟩ (.int .i64 er))):=hid (gX (dT.of_below b) (gX (dP w1 P 4 _) (dP _ P 5 _)));clear d j c b;go_wp2;go_ret;exact⟨rfl,⟨_,l.out⟩,f.out⟩
theorem QZ.step {B P:Nat}{txt:aC}{L:List aR}{k:Nat}{z:List ND}{nv:Value}{w:World} (h:QZ B P txt L k z nv w) (hk:k<L.length):QZ B P txt L (k+1) z nv (w.setCell ⟨P,2,none⟩ (.int .i64 ((k+1:Nat):Int))):=by
 obtain⟨lv,hb,i,_,j,f⟩:=h;refine⟨lv,hb.setK (k+1),i.same (λg d b=>?_),hk,j.other hb b_ b_ b_ (dP w P 2 _),f⟩;refine(dP w P 2 (.int .i64 ((k+1:Nat):Int))).block g (aG b) (λe=>?_);have e2:g=P:=bA e;subst e2;unfold cN at hb;rw[hb] at b;exact pb
theorem zD {L:List aR}{k:Nat} (h:dY (L.drop k)≠0):k<L.length:=by
 apply Classical.byContradiction;intro hk;rw[List.drop_of_length_le a_] at h;exact h rfl
theorem aCZ (B P:Nat) (txt:aC) (L:List aR) (k:Nat) (z:List ND) (nv:Value) (w:World) (h:QZ B P txt L k z nv w) (hL:L.length<=1073741824) (kd:Nat) (hkd:dY (L.drop k)=kd) (h0:kd≠0):
  Calls prog 215 #[some P,kd] w λe w'=>e= .returned (.bool true)/\QZ B P txt L (k+1) z nv w'/\dT P w w':=by
 have l:=zD (L:=L) (k:=k) (by rw[hkd];exact h0);have C:=hid (vM B P txt L k _ w h.toJ hL);rw[hkd] at C;have n:=hid h;have d0:((kd:Int) !=(kd:Int))=false:=e_
 clear h hkd;go_in;go_wp2_with fail;refine aH C.out λw1 b=>?_;have c:=n.out.keep b;have i:=c.step l;obtain⟨lv,m,o,hk,j,hBP⟩:=c;obtain⟨c0,c1,c2,c3,c4,c5,f1,f2,f3,f4,f5⟩:=m.cells;have f:=hid i;have d:Hid (dT P w (w1.setCell ⟨P,2,none⟩ (.int .i64 ((k+1:Nat):Int)))):=hid (gX (dT.of_below b) (dP w1 P 2 _));have ek:((k+1:Nat):Int)=(k:Int)+1:=a_
 rw[ek] at f d;clear m o j b i ek;go_wp2;go_ret;exact⟨rfl,f.out,d.out⟩
theorem aDa (B P:Nat) (txt:aC) (L:List aR) (k:Nat) (z:List ND) (nv:Value) (w:World) (h:QZ B P txt L k z nv w) (hL:L.length<=1073741824) (hs:txt.length<=1073741824) (kd:Nat) (hkd:dY (L.drop k)≠kd):
  Calls prog 215 #[some P,kd] w (λe w'=>e= .returned (.bool false)/\(∃lv,cN w' P txt lv k nv (cH txt.length (L.drop k)) 2)/\dT P w w'):=by
 obtain⟨q,i⟩:=exQ<|dY (L.drop k);have C:=hid (vM B P txt L k _ w h.toJ hL);rw[i] at C hkd;have m:=hid h;have d0:((q:Int) !=(kd:Int))=true:=eN.2 a_;have d1:(q !=kd)=true:=eN.2 hkd;clear h hkd i;go_in;go_wp2_with fail;refine aH C.out λw1 b=>?_;have CW:=hid (xE B P txt L k z nv 2 w1 (m.out.keep b) hL hs);have l:=hid (dT.of_below (P:=P) b);clear b;go_wp2_with fail;refine CW.out.mono ?_;rintro e w2 ⟨rfl,j,f⟩;have d:=hid j;have c:=hid (gX l.out f);clear j f;go_wp2;go_ret;exact⟨rfl,d.out,c.out⟩
def zE (k:Nat):Nat:=if k=12 then 1 else if k=10\/k=11 then 2 else if k=9 then 3 else if k=8 then 4 else 0
theorem aDb (k:Nat):eD k=if k=2 then 6 else if k=4 then 5 else zE k:=by
 unfold eD zE;by_cases h2:k=2
 .subst h2;rfl
 by_cases h4:k=4
 .subst h4;rfl
 rw[if_neg h2,if_neg h4];simp only[h4,h2,if_false]
theorem aDc (k:Nat) (w:World):Calls prog 167 #[k] w λe w'=>e= .returned (.int .i64 (zE k:Int))/\w=w':=IU
def Cw (hm:List aC):List Value:=hm.map λs=> .string (bs s)
def lN (B:Nat) (w:World) (v:Value) (hm:List aC):Prop:=w.ownsRow B 9 1 v hm.length (Cw hm)
theorem lN.fr {B B2 P:Nat}{w w':World}{v:Value}{hm:List aC} (h:lN B w v hm) (hf:Fr B2 P w w') (hP: ∀cs t fz,w.heap[P]?=some (.cells cs t fz)->t≠9):lN B w' v hm:=by
 refine⟨h.1,?_⟩;rcases h.2 with c | ⟨g,cap,b,c,i,d,f⟩
 .exact .inl c
 .exact .inr ⟨g,cap,b,c,i,hf.blk g _ d (λe=>by subst e;exact hP _ _ _ d rfl) (show Ab 9=false by decide),f⟩
theorem lN.keep {B:Nat}{w w':World}{v:Value}{hm:List aC} (h:lN B w v hm) (hb:aA w w'):lN B w' v hm:=iP h hb
inductive KR where
 | bad (a:Nat) (er:Int)
 | ok (key:aC) (t:aR)
def pK (txt:aC) (hm:List aC):List aR->KR
 | []=> .bad txt.length 2
 | t::r=>if t.kind≠8 then .bad t.sf 2 else if(eH ((txt.drop t.sf).take (t.st-t.sf))).1∈hm then .bad t.sf 7 else
  match r with
  | []=> .bad txt.length 2
  | c::_=>if c.kind≠7 then .bad c.sf 2 else .ok (eH ((txt.drop t.sf).take (t.st-t.sf))).1 t
theorem mF {w:World}{X:Nat}{u v:Value}{t:TypeId} (h:w.heap[X]?=some (.cells #[u,v] t)):w.cell? (X,0)=some u/\w.cell? (X,1)=some v/\w.frozen? ⟨X,0,none⟩=false/\w.frozen? ⟨X,1,none⟩=false:=by
 refine⟨?_,?_,?_,?_⟩<;>simp[World.cell?,World.frozen?,h]
def QKE (B P:Nat) (txt:aC) (L:List aR) (k:Nat) (z:List ND) (nv:Value) (r:KR) (w:World) (e:Ending) (w':World):Prop:=match r with
 | .bad a er=>(∃s x y,e= .returned (.tuple #[.string s, .agg #[.int .i64 x, .int .i64 y],false]))/\mE B P z.length a er w'/\dT P w w'
 | .ok key t=>e= .returned (.tuple #[bs key, .agg #[t.sf,t.st],true])/\QZ B P txt L (k+2) z nv w'/\dT P w w'
theorem cN.off {w:World}{P X i:Nat}{txt:aC}{lv nv:Value}{k a:Nat}{er:Int}{u:Value} (h:cN w P txt lv k nv a er) (hX:X≠P):cN (w.setCell ⟨X,i,none⟩ u) P txt lv k nv a er:=by
 unfold cN at h ⊢;rw[eW w ⟨X,i,none⟩ u P (λe=>hX e.symm)];exact h
theorem QZ.off {B P X i:Nat}{txt:aC}{L:List aR}{k:Nat}{z:List ND}{nv:Value}{w0 w1:World}{u:Value}{k0:Nat}{cs:Array Value} (h0:QZ B P txt L k0 z nv w0) (hw:dT P w0 w1) (h:QZ B P txt L k z nv w1) (hX:w0.heap.size<=X) (hXs:w1.heap[X]?=some (.cells cs 42)):QZ B P txt L k z nv (w1.setCell ⟨X,i,none⟩ u):=by
 obtain⟨lv0,p,ht0,hk0,D,C⟩:=h0;obtain⟨lv,x,t,hk,j,E⟩:=h;have r:X≠P:=by have:=p.lt;omega
 have m:dT P w0 (w1.setCell ⟨X,i,none⟩ u):=dT.new hw hX;refine⟨lv,x.off r,t.same (λg o c=>?_),hk,D.only p m,C⟩;exact FE
theorem aDe (B P:Nat) (txt:aC) (L:List aR) (k:Nat) (z:List ND) (nv:Value) (w:World) (h:QZ B P txt L k z nv w) (Bh:Nat) (hv:Value) (hm:List aC) (hH:lN Bh w hv hm) (hL:L.length<=65536) (hs:txt.length<=65536) (hTB: ∀t∈L,t.sf<=t.st/\t.st<=txt.length) (hml:hm.length<=65537):
  Calls prog 198 #[some P,hv] w (QKE B P txt L k z nv (pK txt hm (L.drop k)) w):=by
 have b0:=aL w (.cells #[(0:Int),(0:Int)] 42);have J:=heap_alloc_new w (.cells #[(0:Int),(0:Int)] 42);obtain⟨W,hW⟩:=exQ<|w.alloc (.cells #[(0:Int),(0:Int)] 42);obtain⟨X,hX⟩:=exQ<|w.heap.size;rw[hW] at b0 J;rw[hX] at J;have O:=h.keep b0;have aa:=hid h;have aV:=hid O;have bk:=hid (hH.keep b0);have Z:=hid J;have a7:=hid (dT.of_below (P:=P) b0);have au:w.heap.size<=X:=mP hX;have CK:=hid (vM B P txt L k _ W O.toJ a_);have d:X≠P:=by obtain⟨lv,hb,_⟩:=h;have:=hb.lt;omega
 have n:=hid au;by_cases h8:dY (L.drop k)=8
 case neg=>
  have SO:=trivial;exact QC
 have aX:=zD (L:=L) (k:=k) (by rw[h8];decide);obtain⟨t,V⟩: ∃t,L[k]?=some t:=⟨_,bI aX⟩;have ad:=xD V;obtain⟨hss,R⟩:=hTB t (bH V);obtain⟨U,hU⟩:=exQ<|eH ((txt.drop t.sf).take (t.st-t.sf));obtain⟨b,un,ue⟩:=U;have a6:t.kind=8:=by rw[ad] at h8;exact h8
 have a9:pK txt hm (L.drop k)=if b∈hm then .bad t.sf 7 else
   match L.drop (k+1) with
   | []=> .bad txt.length 2
   | c::_=>if c.kind≠7 then .bad c.sf 2 else .ok b t:=by
  rw[ad];unfold pK;simp only[a6];rw[if_neg e_,hU]
 have a8:=hid a9;have CU:Hid (∀w',Calls prog 57 #[.string ((bs txt).extract t.sf t.st)] w' (aT w' (.tuple #[bs b,un,ue]))):=hid (λw'=>by
  have:=Bb ((txt.drop t.sf).take (t.st-t.sf)) w' (by rw[bR,bC];omega);rw[hU] at this;have e:(bs txt).extract t.sf t.st=bs ((txt.drop t.sf).take (t.st-t.sf)):=by rw[gO,aY]
  rw[e];exact this)
 have i1:(0:Int)<=(t.sf:Int):=a_
 have i2:(t.sf:Int)<=(t.st:Int):=a_
 have i3:(t.st:Int)<=(txt.length:Int):=a_
 have sl:=aP txt;have hk0:(0:Int)<=(k:Int):=a_
 have hk1:(k:Int)<(L.length:Int):=a_
 rw[h8] at CK;have bp:=hid V;have bq:=hid ad;clear J O b0 h h8 hH au a9 hU ad a6 V;go_in;go_upto_region 1 with fail;go_wp2_with fail;refine aH CK.out λw1 f=>?_;have Q:=hid (gX a7.out (dT.of_below (P:=P) f));have y:=hid ((f.block _ (aG Z.out)).trans Z.out);have aO:=hid (aV.out.keep f);have a5:=hid (bk.out.keep f);clear f CK;obtain⟨lv,qb,qt,_⟩:=aO.out;obtain⟨c0,c1,c2,c3,c4,c5,f1,f2,f3,f4,f5⟩:=qb.cells;obtain⟨g,o,c,rfl,hc,t0,t1,t2,_⟩:=qt.tok bp.out;have lP:=qb.lt;have lg:=World.block_lt_of_cell? w1 _ t0;simp only[] at lg;clear qb qt;go_upto_region 3 with fail;go_region;have b2:aA w1 (w1.alloc (.cells #[.int .i64 (t.sf:Int), .int .i64 (t.st:Int)] 42)).drew:=((aD _ _).alloc (aF _) _).drew;have hY:(w1.alloc (.cells #[.int .i64 (t.sf:Int), .int .i64 (t.st:Int)] 42)).drew.heap[w1.heap.size]?=some (.cells #[.int .i64 (t.sf:Int), .int .i64 (t.st:Int)] 42):=heap_alloc_new w1 _;obtain⟨Y,al⟩:=exQ<|w1.heap.size;obtain⟨W2,ay⟩:=exQ<|(w1.alloc (.cells #[.int .i64 (t.sf:Int), .int .i64 (t.st:Int)] 42)).drew;rw[ay] at b2 hY;rw[al] at hY;rw[ay,al];have a0:=aG y.out;have an:Y≠P:=a_
 have hXY:X≠Y:=a_
 have S:=hid (gX Q.out (dT.of_below (P:=P) b2));have M:=hid ((b2.block _ (aG y.out)).trans y.out);have H:=hid (aO.out.keep b2);have ba:=hid (a5.out.keep b2);have K:=hid hY;clear b2 hY ay al c0 c1 c2 c3 c4 c5 f1 f2 f3 f4 f5 t0 t1 t2 lP lg a0;obtain⟨bo,qb,_⟩:=H.out;have q0:=qb.cells.1;obtain⟨y0,y1⟩:=qO K.out;have hS:jH W2 Y P txt t W2:=⟨q0,y0,y1,hid ⟨aD _ _,qb.lt,aG K.out⟩⟩;clear qb q0 y0 y1;go_wp2;go_region_held3 (λw'=>jH W2 Y P txt t w') ((first | exact jH.drew m_ | exact jH.step m_ m_ | assumption))
  ((go_at_call 57;(with_reducible refine(CU.out _).mono ?_);rintro e w5 ⟨rfl,bt⟩;have a3:jH W2 Y P txt t w5:=jH.step m_ bt))
 have l:=a3.bel;have bg:=hid (gX S.out (dT.of_below (P:=P) l));have a1:=hid ((l.block _ (aG M.out)).trans M.out);have bw:=hid (H.out.keep l);have br:=hid (ba.out.keep l);have aZ:=hid ((l.block _ (aG K.out)).trans K.out);clear a3 l hS S M H ba K Q y aO a5;obtain⟨ph,ch,rfl,F⟩:=Au br.out;have bu:=hid F;clear F;go_wp2;go_loopw [11] (λar wr=> ∃(i:Nat),ar= .int .i64 (i:Int)/\i<=hm.length/\Hid (∀j,j<i->hm[j]?≠some b)/\Hid (aA w5 wr)) (λar _=>hm.length-(RowKit.intOf ar).toNat)
 case atStart=>exact⟨0,rfl,a_,hid (λj N=>by omega),hid (aD _ _)⟩
 case round=>
  obtain⟨i,rfl,hi,bb,A⟩:=hrel;have hi0:(0:Int)<=(i:Int):=a_
  have aw:=hid (bw.out.keep A.out);have aS:=hid (gX bg.out (dT.of_below (P:=P) A.out));have aN:=hid ((A.out.block _ (aG a1.out)).trans a1.out);have bj:=hid ((A.out.block _ (aG aZ.out)).trans aZ.out);by_cases hil:i<hm.length
  .obtain⟨u,hu⟩: ∃u,hm[i]?=some u:=⟨_,bI hil⟩;obtain⟨gh,rfl,x⟩:=bu.out a_;have hcu:=fM (x i (.string (bs u)) (by unfold Cw;rw[cF,hu];rfl)) A.out;have bh:(i:Int)<(hm.length:Int):=a_;have di:decide ((i:Int)<(hm.length:Int))=true:=aQ bh;obtain⟨i1,ae⟩:=exQ<|i+1;have af:(i:Int)+1=(i1:Int):=a_;by_cases he:u=b
   .exact QC
   .have de:((bs u).toList==(bs b).toList)=false:=by rw[Lib.toList_data,Lib.toList_data,aY,aY];exact aI.2 he
    have bc:Hid (∀j,j<i1->hm[j]?≠some b):=hid (λj N h2=>by
     by_cases hji:j=i
     .subst hji;rw[hu] at h2;exact he (bA h2)
     .exact bb.out j a_ h2)
    clear hu he x ae;go_wp2;go_roundw
    .exact⟨i1,by rw[<-af],a_,bc,A⟩
    .exact ao
  .obtain rfl:i=hm.length:=a_;have di:decide ((hm.length:Int)<(hm.length:Int))=false:=aJ a_;have ai:b ∉ hm:=λab=>by
    obtain⟨j,N,he⟩:=List.mem_iff_getElem.1 ab;exact bb.out j N (by rw[bI N,he])
   have I:=a8.out;rw[if_neg ai] at I;have ag:=hid I;clear I ai;have R:=aw.out.step aX;have ek:((k+1:Nat):Int)=(k:Int)+1:=a_;rw[ek] at R;obtain⟨lvr,qb,_⟩:=aw.out;obtain⟨_,_,c2,_,_,_,_,f2,_⟩:=qb.cells;have bd:=hid R;have a2:=hid (gX aS.out (dP wr P 2 (.int .i64 ((k:Int)+1))));have aW:=hid ((eW wr ⟨P,2,none⟩ (.int .i64 ((k:Int)+1)) X I3).trans aN.out);have ax:=hid ((eW wr ⟨P,2,none⟩ (.int .i64 ((k:Int)+1)) Y (by simpa using an)).trans bj.out);clear qb R ek;go_upto_region 11 with fail;obtain⟨W6,aj⟩:=exQ<|wr.setCell ⟨P,2,none⟩ (.int .i64 ((k:Int)+1));rw[aj] at bd a2 aW ax;rw[aj];clear aj c2 f2;have av:W6.drew.heap[Y]?=some (.cells #[.int .i64 (t.sf:Int), .int .i64 (t.st:Int)] 42):=ax.out;have az:W6.drew.heap[X]?=some (.cells #[(0:Int),(0:Int)] 42):=aW.out;have aU:=aG av;have ah:=aG az;have a4:dT P w W6.drew:=gX a2.out (dT.of_below (aD _ _).drew);have aE:=bd.out.keep (aD _ _).drew;obtain⟨y0,y1,_,_⟩:=mF ax.out;by_cases h7:dY (L.drop (k+1))=7
   .have M7:=trivial;exact IZ
   .exact IZ
theorem sL {w w':World}{P:Nat}{txt:aC}{lv nv:Value}{k a:Nat}{er:Int}{L:List aR}{r:Option Nat} (hb:cN w P txt lv k nv a er) (ht:TV w lv L) (hg:w.grownBy w' r)
  (hr: ∀k,r=some k-> ∃cs t,w.heap[k]?=some (.cells cs t (0,0))/\t≠161/\t≠163):cN w' P txt lv k nv a er/\TV w' lv L:=QA
section
variable {B P:Nat}{txt:aC}{L:List aR}{k:Nat}{z:List ND}{nv:Value}{w w1:World}{g cap:Nat}
theorem QZ.form (h:QZ B P txt L k z nv w) (hz:z≠ []): ∃g cap,nv= .slice (some ⟨g,0,none⟩) z.length cap/\z.length<=cap:=by
 obtain⟨lv,h1,h2,_,b,h4⟩:=h;obtain⟨g,cap,cur,e1,e2,_⟩:=b.form hz;exact⟨g,cap,e1,e2⟩
theorem QZ.at_ (h:QZ B P txt L k z nv w):cK B z nv w:=by
 obtain⟨lv,h1,h2,_,b,h4⟩:=h;exact b
theorem QZ.c3 (h:QZ B P txt L k z nv w):w.cell? (P,3)=some nv:=by
 obtain⟨lv,b,_⟩:=h;exact b.cells.2.2.2.1
theorem QZ.c3_kids (h:QZ B P txt L k z nv w) {y:ND} (hy:y∈z) (hg:w.grownBy w1 y.2.1.ownBlock):w1.cell? (P,3)=some nv:=by
 obtain⟨lv,e,d,_,f,h4⟩:=h;exact(sL e d hg (λk c=>by obtain⟨b,i⟩:=lI (f.kids y hy) k c;exact⟨b,_,i,b_,b_⟩)).1.cells.2.2.2.1
theorem QZ.c3_pcs (h:QZ B P txt L k z nv w) {y:ND} (hy:y∈z) (hg:w.grownBy w1 y.2.2.ownBlock):w1.cell? (P,3)=some nv:=by
 obtain⟨lv,e,d,_,f,h4⟩:=h;exact(sL e d hg (λk c=>by obtain⟨b,i⟩:=lI (f.pcs y hy) k c;exact⟨b,_,i,b_,b_⟩)).1.cells.2.2.2.1
theorem QZ.kid (h:QZ B P txt L k z (.slice (some ⟨g,0,none⟩) z.length cap) w) {n m:Nat}{y:ND} (hy:z[n]?=some y) {kv:Value}{H:Nat} (hH:w.heap.size<=H) (hB:B<=w.heap.size)
  (hr:w1.ownsRow B 3 1 kv (y.1.kids.length+1) (dH y.1.kids++ [.int .i64 (m:Int)])) (hg:w.grownBy w1 y.2.1.ownBlock) (hat:kv.ownBlock=y.2.1.ownBlock\/kv.ownBlock=some H):
  QZ B P txt L k (z.set n ({ y.1 with kids:=y.1.kids++ [m] },kv,y.2.2)) (.slice (some ⟨g,0,none⟩) (z.set n ({ y.1 with kids:=y.1.kids++ [m] },kv,y.2.2)).length cap) (w1.setCell ⟨g,n*7+5,none⟩ kv)/\Fr B P w (w1.setCell ⟨g,n*7+5,none⟩ kv):=by
 have N9:=trivial;exact JK
theorem QZ.pc (h:QZ B P txt L k z (.slice (some ⟨g,0,none⟩) z.length cap) w) {n:Nat}{m:Sp}{y:ND} (hy:z[n]?=some y) {kv:Value}{H:Nat} (hH:w.heap.size<=H) (hB:B<=w.heap.size)
  (hr:w1.ownsRow B 42 2 kv (y.1.pcs.length+1) (lS y.1.pcs++ [.int .i64 (m.1:Int), .int .i64 (m.2:Int)])) (hg:w.grownBy w1 y.2.2.ownBlock) (hat:kv.ownBlock=y.2.2.ownBlock\/kv.ownBlock=some H):
  QZ B P txt L k (z.set n ({ y.1 with pcs:=y.1.pcs++ [m] },y.2.1,kv)) (.slice (some ⟨g,0,none⟩) (z.set n ({ y.1 with pcs:=y.1.pcs++ [m] },y.2.1,kv)).length cap) (w1.setCell ⟨g,n*7+6,none⟩ kv)/\Fr B P w (w1.setCell ⟨g,n*7+6,none⟩ kv):=JK
end
theorem aDf {ops:Array Oper}{o:Oper}{a:Act}{K:Act->World->Prop}{Q:Exit->Act->World->Prop}{E:Prop} (hgd:o.guard=none) (s x:Operand)
  (ho:o.op= .call { callee:= .builtin .append,args:= #[s,x],argTypes:= #[43,43] })
  (B:Nat) (w:World) (v:Value) (l:List Nat) (k:Nat) (hs:a.eval s=v) (hown:w.ownsRow B 3 1 v l.length (dH l)) (hx:a.eval x= .slice (some ⟨w.heap.size,0,none⟩) 1 1) (hl:l.length<=4294967295) (hB:B<=w.heap.size)
  (hK: ∀kv w',w'.ownsRow B 3 1 kv (l.length+1) (dH l++ [.int .i64 (k:Int)])->w.grownBy w' v.ownBlock->(kv.ownBlock=v.ownBlock\/kv.ownBlock=some (w.heap.size+1))->K (a.put o.dst kv) w'):
  if Region.wanted o (yielded ops a.tmps)=true then Oper.wp prog o a (w.alloc (.cells #[k] 3)) K Q else E:=JX
def rE (B P:Nat) (txt:aC) (L:List aR) (r:JR) (w:World) (e:Ending) (w':World):Prop:=match r with
 | .ok rest l ns=>e= .returned (.bool true)/\(∃k t,rest=L.drop (k+1)/\L[k]?=some t/\l=(t.sf,t.st)/\QJ B P txt L (k+1) ns w')/\Fr B P w w'
 | .bad a er=>e= .returned (.bool false)/\mE B P (qN P w) a er w'/\Fr B P w w'
def Cx (w0:World) (P:Nat) (txt:aC) (L:List aR) (lv:Nat):Prop:= ∀(w:World) (k:Nat) (l:Sp) (nodes:List aM) (key:Sp) (lev:Int),QJ w0.heap.size P txt L k nodes w->Below w0.heap.size w0 w->nodes.length+(L.drop k).length<=131074->nodes.length<=4096->lev=33-(lv:Int)->
 Calls prog 131 #[some P,lev, .agg #[key.1,key.2]] w (rE w0.heap.size P txt L (bS txt lv (L.drop k) l nodes key) w)
theorem Fr.new {B P b:Nat}{w w1 w2:World} (h:Fr B P w w1) (hg:w1.grownBy w2 (some b)) (hb:w.heap.size<=b) (hB:B<=w.heap.size):Fr B P w w2:=
 ⟨h.bel.grown hg (bF hB h.sz) (λk c=>by have e:b=k:=bA c;omega),bF h.sz hg.size,λk o c hP f=>by have d:=h.blk k o c hP f;rw[hg.block k (aG d) (λe=>by have e:k=b:=bA e;have:=aG c;omega)];exact d⟩
theorem Fr.newN {B P:Nat}{w w1 w2:World}{r:Option Nat} (h:Fr B P w w1) (hg:w1.grownBy w2 r) (hb: ∀b,r=some b->w.heap.size<=b) (hB:B<=w.heap.size):Fr B P w w2:=by
 cases r with
 | none=>exact h.new (b:=w1.heap.size) ⟨hg.os,hg.tape,hg.output,hg.size,λk c hne=>hg.block k c e_⟩ h.sz hB
 | some b=>exact h.new hg (hb b rfl) hB
theorem Hn {B size:Nat}{e:TypeId}{A W:World}{v:Value}{n:Nat}{xs:List Value} (h:A.ownsRow B e size v n xs) (hg:A.grownBy W none):W.ownsRow B e size v n xs:=
 h.kept hg (by cases h:v.ownBlock with
  | none=>exact .inl rfl
  | some k=>exact .inr e_)
theorem QZ.grow {B P Bh:Nat}{txt:aC}{L:List aR}{k:Nat}{z:List ND}{nv:Value}{w w':World}{v:Value}{hm:List aC} (h:QZ B P txt L k z nv w) (hv:lN Bh w v hm) (hg:w.grownBy w' v.ownBlock):QZ B P txt L k z nv w':=by
 obtain⟨lv,m,j,e,c,l⟩:=h;obtain⟨a1,a2⟩:=sL m j hg (λk e=>by obtain⟨d,i⟩:=lI hv k e;exact⟨d,_,i,b_,b_⟩);refine⟨lv,a1,a2,e,?_,l⟩;cases ho:v.ownBlock with
 | none=>
  rw[ho] at hg;exact⟨Hn c.row hg,λy f=>Hn (c.kids y f) hg,λy f=>Hn (c.pcs y f) hg,c.ak,c.ap⟩
 | some b=>
  rw[ho] at hg;obtain⟨d,i⟩:=lI hv b ho;exact c.other i b_ b_ b_ hg
theorem QJ.cast {B P:Nat}{txt:aC}{L:List aR}{k:Nat}{nodes nodes2:List aM}{w:World} (h:QJ B P txt L k nodes w) (e:nodes=nodes2):QJ B P txt L k nodes2 w:=e ▸ h
def Cy (V:VF):Prop:= ∀rest last nodes key r l ns,V rest last nodes key= .ok r l ns->nodes.length<=4096->ns.length<=4096
theorem aDg {txt:aC}{V:VF} (hV:Cy V) {obj:Bool}{had had':List aC}{rest r:List aR}{last l:Sp}{nodes ns:List aM} (h:gU txt V obj had rest last nodes=(.ok r l ns,had')) (hn:nodes.length<=4096):ns.length<=4096:=by
 unfold gU at h;split at h
 .injection h with h _;exact hV _ _ _ _ _ _ _ h hn
 .split at h
  .exact ae
  .split at h
   .exact ae
   .split at h
    .exact ae
    .split at h
     .exact ae
     .split at h
      .exact ae
      .injection h with h _;exact hV _ _ _ _ _ _ _ h hn
theorem Ho {txt:aC}{V:VF} (hV:Cy V) {closing:Nat}{obj:Bool}{n:Nat}: ∀(f:Nat) {had:List aC}{rest r:List aR}{last l:Sp}{nodes ns:List aM},jF txt V closing obj n f had rest last nodes= .ok r l ns->nodes.length<=4096->ns.length<=4096
 | 0,_,_,_,_,_,_,_,h,_=>by cases h
 | f +1,had,rest,r,last,l,nodes,ns,h,hn=>by
  unfold jF at h;split at h
  .cases h
  .rename_i r1 l1 ns1 had1 hk;have h1:=aDg hV hk hn;split at h
   .cases h
   .split at h
    .injection h with _ _ h;rw[<-h];unfold fB;rw[mO];exact h1
    .split at h
     .exact Ho hV f h (by unfold fB;rw[mO];exact h1)
     .cases h
theorem Qb {txt:aC}{V:VF} (hV:Cy V) {closing:Nat}{obj:Bool}{n:Nat}{rest r:List aR}{last l:Sp}{nodes ns:List aM} (h:gV txt V closing obj n rest last nodes= .ok r l ns) (hn:nodes.length<=4096):ns.length<=4096:=by
 unfold gV at h;split at h
 .exact Ho hV 1 h hn
 .split at h
  .injection h with _ _ h;rw[<-h];exact hn
  .exact Ho hV _ h hn
theorem Qc (txt:aC): ∀lv,Cy (bS txt lv)
 | 0=>λrest last nodes key r l ns h _=>by
  unfold bS at h;split at h<;>cases h
 | lv +1=>λrest last nodes key r l ns h hn=>by
  have ih:=Qc txt lv;unfold bS at h;split at h
  .cases h
  .rename_i d;split at h
   .cases h
   .rename_i hm;cases rest with
    | nil=>exact absurd rfl d
    | cons t q=>
     simp only[] at h;obtain⟨ns0,b,rfl⟩:=Iv h;have c:(nodes++ [(⟨eD t.kind,t.sf,t.st,key,[],[]⟩:aM)]).length<=4096:=by
      rw[aZ,dF];omega
     unfold mN;rw[mO];split at b
     .exact Qb ih b c
     .split at b
      .exact Qb ih b c
      .injection b with _ _ b;rw[<-b];exact c
theorem QZ.offK {B P X i:Nat}{txt:aC}{L:List aR}{k:Nat}{z:List ND}{nv:Value}{w0 w1:World}{u:Value}{cs:Array Value} (h:QZ B P txt L k z nv w1) (h0:cK B z nv w0) (hX:w0.heap.size<=X) (hXP:X≠P) (hXs:w1.heap[X]?=some (.cells cs 42)):QZ B P txt L k z nv (w1.setCell ⟨X,i,none⟩ u):=by
 obtain⟨lv,x,t,hk,j,E⟩:=h;have m:=dP w1 X i u;have f: ∀ {e:TypeId}{s n:Nat}{v:Value}{xs ys:List Value},w0.ownsRow B e s v n xs->w1.ownsRow B e s v n ys->(w1.setCell ⟨X,i,none⟩ u).ownsRow B e s v n ys:=λ{e s n v xs ys} h1 h2=>
  h2.kept m (by cases ho:v.ownBlock with
   | none=>exact .inl rfl
   | some b=>
    right;intro A;have e2:b=X:=bA A;have:=(World.ownsRow.lt h1 b ho).2;omega)
 refine⟨lv,x.off hXP,t.same (λg o c=>?_),hk,⟨f h0.row j.row,λy q=>f (h0.kids y q) (j.kids y q),λy q=>f (h0.pcs y q) (j.pcs y q),j.ak,j.ap⟩,E⟩;exact FE
theorem infoStrQ:(prog.info? 9).map (λi=>(i.zero,i.size,i.bytes))=some (some (.string ⟨#[]⟩),1,16):=d'
theorem aDh {ops:Array Oper}{rest:List Oper}{o:Oper}{a:Act}{Q:Exit->Act->World->Prop} (hgd:o.guard=none) (s x:Operand)
  (ho:o.op= .call { callee:= .builtin .append,args:= #[s,x],argTypes:= #[33,33] })
  (B:Nat) (w:World) (v:Value) (l:List aC) (k:aC) (hs:a.eval s=v) (hown:lN B w v l) (hx:a.eval x= .slice (some ⟨w.heap.size,0,none⟩) 1 1) (hl:l.length<=4294967295) (hB:B<=w.heap.size)
  (hK: ∀kv w',lN B w' kv (l++ [k])->w.grownBy w' v.ownBlock->wpList prog ops Q rest (a.put o.dst kv) w'):
  wpList prog ops Q (o::rest) a (w.alloc (.cells #[bs k] 9)):=by
 obtain⟨i0,e,c,d,b⟩:=info_parts infoStrQ;refine wpList_append_lies _ hgd s x 33 ho B 9 i0 _ 1 16 underlying33 e c d b rfl b_ v _ (Cw l) hs (World.ownsRow.alloc hown _) ⟨w.heap.size,0,none⟩ 1 1 [bs k] hx DS (tD w #[bs k] _)
  (λu i=>by rw[kT.1 i];rfl) b_ r_ a_ h_ _ rfl ?_
 intro g cap w' h f h7 _;refine hK _ w' ?_ (uS f);unfold lN Cw;rw[aZ,dF,lJ];exact h
theorem aDi {txt:aC}{V:VF}{hm:List aC}{rest:List aR}{a:Nat}{er:Int}{ls:Sp}{ns:List aM} (h:pK txt hm rest= .bad a er): ∃h',gU txt V true hm.reverse rest ls ns=(.bad a er,h'):=by
 unfold gU;rw[if_neg b_];cases rest with
 | nil=>injection h with b d;subst b d;exact⟨_,rfl⟩
 | cons t r=>
  unfold pK at h;simp only[] at h ⊢;by_cases h8:t.kind≠8
  .rw[if_pos h8] at h ⊢;exact ib
  .rw [if_neg h8] at h ⊢;by_cases hin:(eH ((txt.drop t.sf).take (t.st-t.sf))).1∈hm
   .rw[if_pos hin] at h;rw[if_pos (List.mem_reverse.2 hin)];exact ib
   .rw[if_neg hin] at h;rw[if_neg (λh=>hin (List.mem_reverse.1 h))];cases r with
    | nil=>injection h with b d;subst b d;exact⟨_,rfl⟩
    | cons c r2=>
     simp only[] at h ⊢;by_cases h7:c.kind≠7
     .rw[if_pos h7] at h ⊢;exact ib
     .rw[if_neg h7] at h;cases h
theorem aDj {txt:aC}{V:VF}{hm:List aC}{rest:List aR}{key:aC}{t:aR}{ls:Sp}{ns:List aM} (h:pK txt hm rest= .ok key t): ∃c r2,rest=t::c::r2/\gU txt V true hm.reverse rest ls ns=(V r2 (c.sf,c.st) ns (t.sf,t.st),key::hm.reverse):=by
 unfold gU;rw[if_neg b_];cases rest with
 | nil=>cases h
 | cons t' r=>
  unfold pK at h;simp only[] at h ⊢;by_cases h8:t'.kind≠8
  .rw[if_pos h8] at h;cases h
  .rw [if_neg h8] at h ⊢;by_cases hin:(eH ((txt.drop t'.sf).take (t'.st-t'.sf))).1∈hm
   .rw[if_pos hin] at h;cases h
   .rw[if_neg hin] at h;rw[if_neg (λh=>hin (List.mem_reverse.1 h))];cases r with
    | nil=>cases h
    | cons c r2=>
     simp only[] at h ⊢;by_cases h7:c.kind≠7
     .rw[if_pos h7] at h;cases h
     .rw[if_neg h7] at h ⊢;injection h with b d;subst b d;exact⟨c,r2,rfl,rfl⟩
end Go.Proofs.YtfhjncbdgjlcoaaGreatDoor
