import Derived.Test.YtfhjncbdgjlcoaaGreatDoorYa40
import Derived.Test.YtfhjncbdgjlcoaaGreatDoorYa10
set_option maxRecDepth 100000
set_option maxHeartbeats 8000000
set_option linter.unusedVariables false
set_option linter.unusedSimpArgs false
namespace Go.Proofs.YtfhjncbdgjlcoaaGreatDoor
open Go.RowKit Go.Maps Go.WideMaps
open Go.Lib hiding intOf
def cH (w:World) (P:Nat) (txt:List UInt8) (lv:Value) (k:Nat) (nv:Value) (a:Nat) (er:Int):Prop:=
 w.heap[P]?=some (.cells #[bs txt,lv,k,nv,a,er] 161 (0,0))
abbrev aCk (w:World) (P:Nat) (txt:List UInt8) (lv:Value) (k:Nat) (nv:Value) (a:Nat) (er:Int):Prop:=
 w.cell? ⟨P,0,none⟩=some (.string (bs txt))/\w.cell? ⟨P,1,none⟩=some lv/\w.cell? ⟨P,2,none⟩=some (.int .i64 (k:Int))/\w.cell? ⟨P,3,none⟩=some nv/\w.cell? ⟨P,4,none⟩=some (.int .i64 (a:Int))/\w.cell? ⟨P,5,none⟩=some (.int .i64 er)/\
 w.frozen? ⟨P,1,none⟩=false/\w.frozen? ⟨P,2,none⟩=false/\w.frozen? ⟨P,3,none⟩=false/\w.frozen? ⟨P,4,none⟩=false/\w.frozen? ⟨P,5,none⟩=false
section
variable {w w':World}{P:Nat}{txt:List UInt8}{lv nv:Value}{k:Nat}{a:Nat}{er:Int}
theorem cH.cells (h:cH w P txt lv k nv a er):aCk w P txt lv k nv a er:=by
 unfold cH at h;refine⟨?_,?_,?_,?_,?_,?_,?_,?_,?_,?_,?_⟩<;>simp[World.cell?,World.frozen?,h]
theorem cH.lt (h:cH w P txt lv k nv a er):P<w.heap.size:=aF h
theorem cH.keep (h:cH w P txt lv k nv a er) (hb:Below w.heap.size w w'):cH w' P txt lv k nv a er:=(hb.block P h.lt).trans h
theorem cH.setK (h:cH w P txt lv k nv a er) (k2:Nat):cH (w.setCell ⟨P,2,none⟩ (.int .i64 (k2:Int))) P txt lv k2 nv a er:=ep
theorem cH.put (h:cH w P txt lv k nv a er) (a2:Nat) (e2:Int):cH ((w.setCell ⟨P,4,none⟩ (.int .i64 (a2:Int))).setCell ⟨P,5,none⟩ (.int .i64 e2)) P txt lv k nv a2 e2:=ep
theorem cH.nodes (h:cH w P txt lv k nv a er) (nv2:Value):cH (w.setCell ⟨P,3,none⟩ nv2) P txt lv k nv2 a er:=ep
end
theorem TV.tok {w:World}{v:Value}{L:List aN} (h:TV w v L) {j:Nat}{t:aN} (hj:L[j]?=some t): ∃g o c,v= .slice (some ⟨g,o,none⟩) L.length c/\L.length<=c/\w.cell? ⟨g,o+j*3,none⟩=some (.int .i64 t.kind)/\w.cell? ⟨g,o+j*3+1,none⟩=some (.int .i64 t.sf)/\w.cell? ⟨g,o+j*3+2,none⟩=some (.int .i64 t.st)/\ ∃cur,w.heap[g]?=some (.cells cur 163 (0,0)):=by
 obtain⟨p,c,m,f,i⟩:=h;rcases i with rfl | ⟨g,o,cur,rfl,l,e⟩
 ·simp at hj
 ·obtain⟨a,b,d⟩:=e j t hj;exact⟨g,o,c,m,f,a,b,d,cur,l⟩
theorem TV.slice {w:World}{v:Value}{L:List aN} (h:TV w v L): ∃p c,v= .slice p L.length c:=by
 obtain⟨p,c,b,_⟩:=h;exact⟨p,c,b⟩
def QZ (B P:Nat) (txt:List UInt8) (L:List aN) (k:Nat) (z:List ND) (nv:Value) (w:World):Prop:= ∃lv,cH w P txt lv k nv 0 0/\TV w lv L/\k<=L.length/\cD B z nv w/\B<=P
def QJ (B P:Nat) (txt:List UInt8) (L:List aN) (k:Nat) (nodes:List aH) (w:World):Prop:= ∃z nv,z.map (·.1)=nodes/\QZ B P txt L k z nv w
section
variable {B P:Nat}{txt:List UInt8}{L:List aN}{k:Nat}{z:List ND}{nv:Value}{nodes:List aH}{w w':World}
theorem QZ.keep (h:QZ B P txt L k z nv w) (hb:Below w.heap.size w w'):QZ B P txt L k z nv w':=by
 obtain⟨lv,e,c,d,f,b⟩:=h;exact⟨lv,e.keep hb,c.keep hb,d,f.keep hb,b⟩
theorem QJ.keep (h:QJ B P txt L k nodes w) (hb:Below w.heap.size w w'):QJ B P txt L k nodes w':=by
 obtain⟨z,nv,c,b⟩:=h;exact⟨z,nv,c,b.keep hb⟩
theorem QZ.toJ (h:QZ B P txt L k z nv w):QJ B P txt L k (z.map (·.1)) w:=⟨z,nv,rfl,h⟩
theorem QJ.le (h:QJ B P txt L k nodes w):k<=L.length:=by
 obtain⟨z,nv,_,lv,_,_,b,_⟩:=h;exact b
theorem QJ.ptr (h:QJ B P txt L k nodes w):P<w.heap.size/\B<=P:=by
 obtain⟨z,nv,_,lv,c,_,_,_,b⟩:=h;exact⟨c.lt,b⟩
end
def qN (P:Nat) (w:World):Nat:=match w.cell? ⟨P,3,none⟩ with
 | some (.slice _ n _)=>n
 | _=>0
theorem QJ.qN {B P:Nat}{txt:List UInt8}{L:List aN}{k:Nat}{nodes:List aH}{w:World} (h:QJ B P txt L k nodes w):qN P w=nodes.length:=by
 obtain⟨z,nv,b,lv,e,h2,_,d,h5⟩:=h;obtain⟨p,c,rfl⟩:=d.slice;have:=e.cells.2.2.2.1;unfold Go.Proofs.YtfhjncbdgjlcoaaGreatDoor.qN;rw[this,<-b,bR]
def lF (B P N:Nat) (a:Nat) (er:Int) (w:World):Prop:= ∃txt lv k z nv,cH w P txt lv k nv a er/\cD B z nv w/\B<=P/\N<=z.length
theorem lF.mono {B P N M:Nat}{a:Nat}{er:Int}{w:World} (h:lF B P N a er w) (hm:M<=N):lF B P M a er w:=by
 obtain⟨txt,lv,k,z,nv,e,b,c,d⟩:=h;exact⟨txt,lv,k,z,nv,e,b,c,aZ hm d⟩
theorem lF.keep {B P N:Nat}{a:Nat}{er:Int}{w w':World} (h:lF B P N a er w) (hb:Below w.heap.size w w'):lF B P N a er w':=by
 obtain⟨txt,lv,k,z,nv,e,b,c,d⟩:=h;exact⟨txt,lv,k,z,nv,e.keep hb,b.keep hb,c,d⟩
abbrev dC (P:Nat) (w w':World):Prop:=w.grownBy w' (some P)
theorem dC.of_below {P:Nat}{w w':World} (h:Below w.heap.size w w'):dC P w w':=⟨h.os,h.tape,h.output,h.size,λg b _=>h.block g b⟩
theorem dC.new {P X i:Nat}{w w1:World}{u:Value} (h:dC P w w1) (hX:w.heap.size<=X):dC P w (w1.setCell ⟨X,i,none⟩ u):=
 ⟨h.os,h.tape,h.output,by have:=h.size;simp[World.setCell];exact this,λg c b=>by rw[eC w1 ⟨X,i,none⟩ u g h_];exact h.block g c b⟩
theorem dC.fr {B P:Nat}{w w':World} (h:dC P w w') (hBP:B<=P) (hB:B<=w.heap.size):Fr B P w w':=Fr.ofP h hBP hB
theorem cD.only {B P:Nat}{z:List ND}{nv:Value}{w w':World}{txt:List UInt8}{lv nv2:Value}{k a:Nat}{er:Int} (h:cD B z nv w) (hb:cH w P txt lv k nv2 a er) (hg:dC P w w'):cD B z nv w':=
 h.other hb b_ b_ b_ hg
theorem lF.of {B P:Nat}{txt:List UInt8}{L:List aN}{k k2:Nat}{z:List ND}{nv:Value}{w w':World}{lv2:Value}{txt2:List UInt8}{a:Nat}{er:Int} (h:QZ B P txt L k z nv w) (hg:dC P w w') (hb:cH w' P txt2 lv2 k2 nv a er):lF B P z.length a er w':=by
 obtain⟨lv,c,h2,h3,d,b⟩:=h;exact⟨_,_,_,z,nv,hb,d.only c hg,b,aD _⟩
theorem wQ {L:List aN}{k:Nat}{t:aN} (h:L[k]?=some t):L.drop k=t::L.drop (k+1):=by
 have b:=(aR.1 h).1;rw[fL b];rw[bC b] at h;rw[aV h]
theorem vC (B P:Nat) (txt:List UInt8) (L:List aN) (k:Nat) (nodes:List aH) (w:World) (h:QJ B P txt L k nodes w) (hL:L.length<=1073741824):
  Calls Tryz.prog 168 #[some P] w λe w'=>e= .returned (.int .i64 (dI (L.drop k):Int))/\Below w.heap.size w w':=by
 have zw:=trivial;exact rx
theorem Gt (B P:Nat) (txt:List UInt8) (L:List aN) (k:Nat) (nodes:List aH) (w:World) (h:QJ B P txt L k nodes w) (hL:L.length<=1073741824) (hs:txt.length<=1073741824):
  Calls Tryz.prog 170 #[some P] w λe w'=>e= .returned (.int .i64 (cA txt.length (L.drop k):Int))/\Below w.heap.size w w':=by
 have zu:=trivial;exact rx
theorem wR (B P:Nat) (txt:List UInt8) (L:List aN) (k:Nat) (z:List ND) (nv:Value) (er:Int) (w:World) (h:QZ B P txt L k z nv w) (hL:L.length<=1073741824) (hs:txt.length<=1073741824):
  Calls Tryz.prog 132 #[some P,er] w (λe w'=>e= .returned (.bool false)/\(∃lv,cH w' P txt lv k nv (cA txt.length (L.drop k)) er)/\dC P w w'):=by
 have C:=hid (Gt B P txt L k _ w h.toJ hL hs);have l:=hid h;clear h;go_enter Tryz.func132,Tryz.ntmps132;go_wp2_with fail;refine C.out.mono ?_;rintro e w1 ⟨rfl,b⟩;obtain⟨lv,c,f,hk,d,hBP⟩:=l.out.keep b;obtain⟨c0,c1,c2,c3,c4,c5,f1,f2,f3,f4,f5⟩:=c.cells;have j:=hid (c.put (cA txt.length (L.drop k)) er);have i:Hid (dC P w ((w1.setCell ⟨P,4,none⟩ (.int .i64 (cA txt.length (L.drop k):Int))).setCell ⟨P,5,none⟩ (.int .i64 er))):=hid (gJ (dC.of_below b) (gJ (cT w1 P 4 _) (cT _ P 5 _)));clear c f d b;go_wp2_with fail;go_ret;exact⟨rfl,⟨_,j.out⟩,i.out⟩
theorem QZ.step {B P:Nat}{txt:List UInt8}{L:List aN}{k:Nat}{z:List ND}{nv:Value}{w:World} (h:QZ B P txt L k z nv w) (hk:k<L.length):QZ B P txt L (k+1) z nv (w.setCell ⟨P,2,none⟩ (.int .i64 ((k+1:Nat):Int))):=by
 obtain⟨lv,hb,i,_,j,d⟩:=h;refine⟨lv,hb.setK (k+1),i.same (λg f b=>?_),hk,j.other hb b_ b_ b_ (cT w P 2 _),d⟩;refine(cT w P 2 (.int .i64 ((k+1:Nat):Int))).block g (aF b) (λe=>?_);have e2:g=P:=aV e;subst e2;unfold cH at hb;rw[hb] at b;exact oc
theorem yM {L:List aN}{k:Nat} (h:dI (L.drop k)≠0):k<L.length:=by
 apply Classical.byContradiction;intro hk;rw[List.drop_of_length_le a_] at h;exact h rfl
theorem aCl (B P:Nat) (txt:List UInt8) (L:List aN) (k:Nat) (z:List ND) (nv:Value) (w:World) (h:QZ B P txt L k z nv w) (hL:L.length<=1073741824) (kd:Nat) (hkd:dI (L.drop k)=kd) (h0:kd≠0):
  Calls Tryz.prog 215 #[some P,kd] w λe w'=>e= .returned (.bool true)/\QZ B P txt L (k+1) z nv w'/\dC P w w':=by
 have l:=yM (L:=L) (k:=k) (by rw[hkd];exact h0);have C:=hid (vC B P txt L k _ w h.toJ hL);rw[hkd] at C;have o:=hid h;have d0:((kd:Int) !=(kd:Int))=false:=e_
 clear h hkd;go_enter Tryz.func215,Tryz.ntmps215;go_wp2_with fail;refine C.out.mono ?_;rintro e w1 ⟨rfl,b⟩;have i:=o.out.keep b;have f:=i.step l;obtain⟨lv,m,n,hk,j,hBP⟩:=i;obtain⟨c0,c1,c2,c3,c4,c5,f1,f2,f3,f4,f5⟩:=m.cells;have c:=hid f;have d:Hid (dC P w (w1.setCell ⟨P,2,none⟩ (.int .i64 ((k+1:Nat):Int)))):=hid (gJ (dC.of_below b) (cT w1 P 2 _));have ek:((k+1:Nat):Int)=(k:Int)+1:=a_
 rw[ek] at c d;clear m n j b f ek;go_wp2_with fail;go_ret;exact⟨rfl,c.out,d.out⟩
theorem aCm (B P:Nat) (txt:List UInt8) (L:List aN) (k:Nat) (z:List ND) (nv:Value) (w:World) (h:QZ B P txt L k z nv w) (hL:L.length<=1073741824) (hs:txt.length<=1073741824) (kd:Nat) (hkd:dI (L.drop k)≠kd):
  Calls Tryz.prog 215 #[some P,kd] w (λe w'=>e= .returned (.bool false)/\(∃lv,cH w' P txt lv k nv (cA txt.length (L.drop k)) 2)/\dC P w w'):=by
 obtain⟨q,f⟩:=exQ<|dI (L.drop k);have C:=hid (vC B P txt L k _ w h.toJ hL);rw[f] at C hkd;have m:=hid h;have d0:((q:Int) !=(kd:Int))=true:=eF.2 a_;have d1:(q !=kd)=true:=eF.2 hkd;clear h hkd f;go_enter Tryz.func215,Tryz.ntmps215;go_wp2_with fail;refine C.out.mono ?_;rintro e w1 ⟨rfl,b⟩;have CW:=hid (wR B P txt L k z nv 2 w1 (m.out.keep b) hL hs);have l:=hid (dC.of_below (P:=P) b);clear b;go_wp2_with fail;refine CW.out.mono ?_;rintro e w2 ⟨rfl,i,j⟩;have c:=hid i;have d:=hid (gJ l.out j);clear i j;go_wp2_with fail;go_ret;exact⟨rfl,c.out,d.out⟩
def yN (k:Nat):Nat:=if k=12 then 1 else if k=10\/k=11 then 2 else if k=9 then 3 else if k=8 then 4 else 0
theorem aCn (k:Nat):dO k=if k=2 then 6 else if k=4 then 5 else yN k:=by
 unfold dO yN;by_cases h2:k=2
 ·subst h2;rfl
 by_cases h4:k=4
 ·subst h4;rfl
 rw[if_neg h2,if_neg h4];simp only[h4,h2,if_false]
theorem aCo (k:Nat) (w:World):Calls Tryz.prog 167 #[k] w λe w'=>e= .returned (.int .i64 (yN k:Int))/\w=w':=sj
def By (hm:List (List UInt8)):List Value:=hm.map λs=> .string (bs s)
def kP (B:Nat) (w:World) (v:Value) (hm:List (List UInt8)):Prop:=w.ownsRow B 9 1 v hm.length (By hm)
theorem kP.fr {B B2 P:Nat}{w w':World}{v:Value}{hm:List (List UInt8)} (h:kP B w v hm) (hf:Fr B2 P w w') (hP: ∀cs t fz,w.heap[P]?=some (.cells cs t fz)->t≠9):kP B w' v hm:=by
 refine⟨h.1,?_⟩;rcases h.2 with b | ⟨g,cap,c,b,i,d,f⟩
 ·exact .inl b
 ·exact .inr ⟨g,cap,c,b,i,hf.blk g _ d (λe=>by subst e;exact hP _ _ _ d rfl) (show zH 9=false by decide),f⟩
theorem kP.keep {B:Nat}{w w':World}{v:Value}{hm:List (List UInt8)} (h:kP B w v hm) (hb:Below w.heap.size w w'):kP B w' v hm:=gH h hb
inductive KR where
 | bad (a:Nat) (er:Int)
 | ok (key:List UInt8) (t:aN)
def oM (txt:List UInt8) (hm:List (List UInt8)):List aN->KR
 | []=> .bad txt.length 2
 | t::r=>if t.kind≠8 then .bad t.sf 2 else if(dR ((txt.drop t.sf).take (t.st-t.sf))).1∈hm then .bad t.sf 7 else
  match r with
  | []=> .bad txt.length 2
  | c::_=>if c.kind≠7 then .bad c.sf 2 else .ok (dR ((txt.drop t.sf).take (t.st-t.sf))).1 t
theorem lG {w:World}{X:Nat}{u v:Value}{t:TypeId} (h:w.heap[X]?=some (.cells #[u,v] t)):w.cell? ⟨X,0,none⟩=some u/\w.cell? ⟨X,1,none⟩=some v/\w.frozen? ⟨X,0,none⟩=false/\w.frozen? ⟨X,1,none⟩=false:=by
 refine⟨?_,?_,?_,?_⟩<;>simp[World.cell?,World.frozen?,h]
def QKE (B P:Nat) (txt:List UInt8) (L:List aN) (k:Nat) (z:List ND) (nv:Value) (r:KR) (w:World) (e:Ending) (w':World):Prop:=match r with
 | .bad a er=>(∃s x y,e= .returned (.tuple #[.string s, .agg #[.int .i64 x, .int .i64 y],false]))/\lF B P z.length a er w'/\dC P w w'
 | .ok key t=>e= .returned (.tuple #[bs key, .agg #[t.sf,t.st],true])/\QZ B P txt L (k+2) z nv w'/\dC P w w'
theorem cH.off {w:World}{P X i:Nat}{txt:List UInt8}{lv nv:Value}{k a:Nat}{er:Int}{u:Value} (h:cH w P txt lv k nv a er) (hX:X≠P):cH (w.setCell ⟨X,i,none⟩ u) P txt lv k nv a er:=by
 unfold cH at h ⊢;rw[eC w ⟨X,i,none⟩ u P (λe=>hX e.symm)];exact h
theorem QZ.off {B P X i:Nat}{txt:List UInt8}{L:List aN}{k:Nat}{z:List ND}{nv:Value}{w0 w1:World}{u:Value}{k0:Nat}{cs:Array Value} (h0:QZ B P txt L k0 z nv w0) (hw:dC P w0 w1) (h:QZ B P txt L k z nv w1) (hX:w0.heap.size<=X) (hXs:w1.heap[X]?=some (.cells cs 42)):QZ B P txt L k z nv (w1.setCell ⟨X,i,none⟩ u):=by
 obtain⟨lv0,m,ht0,hk0,D,A⟩:=h0;obtain⟨lv,x,C,hk,j,E⟩:=h;have t:X≠P:=by have:=m.lt;omega
 have q:dC P w0 (w1.setCell ⟨X,i,none⟩ u):=dC.new hw hX;refine⟨lv,x.off t,C.same (λg p c=>?_),hk,D.only m q,A⟩;exact jx
theorem aCq (B P:Nat) (txt:List UInt8) (L:List aN) (k:Nat) (z:List ND) (nv:Value) (w:World) (h:QZ B P txt L k z nv w) (Bh:Nat) (hv:Value) (hm:List (List UInt8)) (hH:kP Bh w hv hm) (hL:L.length<=65536) (hs:txt.length<=65536) (hTB: ∀t∈L,t.sf<=t.st/\t.st<=txt.length) (hml:hm.length<=65537):
  Calls Tryz.prog 198 #[some P,hv] w (QKE B P txt L k z nv (oM txt hm (L.drop k)) w):=by
 have b0:=aL w (.cells #[(0:Int),(0:Int)] 42);have I:=heap_alloc_new w (.cells #[(0:Int),(0:Int)] 42);obtain⟨W,hW⟩:=exQ<|w.alloc (.cells #[(0:Int),(0:Int)] 42);obtain⟨X,hX⟩:=exQ<|w.heap.size;rw[hW] at b0 I;rw[hX] at I;have ab:=h.keep b0;have R:=hid h;have aW:=hid ab;have bl:=hid (hH.keep b0);have aa:=hid I;have aS:=hid (dC.of_below (P:=P) b0);have am:w.heap.size<=X:=mW hX;have CK:=hid (vC B P txt L k _ W ab.toJ a_);have d:X≠P:=by obtain⟨lv,hb,_⟩:=h;have:=hb.lt;omega
 have m:=hid am;by_cases h8:dI (L.drop k)=8
 case neg=>
  have BK:=trivial;exact ui
 have ba:=yM (L:=L) (k:=k) (by rw[h8];decide);obtain⟨t,T⟩: ∃t,L[k]?=some t:=⟨_,bC ba⟩;have O:=wQ T;obtain⟨hss,V⟩:=hTB t (bD T);obtain⟨U,hU⟩:=exQ<|dR ((txt.drop t.sf).take (t.st-t.sf));obtain⟨b,un,ue⟩:=U;have a9:t.kind=8:=by rw[O] at h8;exact h8
 have aY:oM txt hm (L.drop k)=if b∈hm then .bad t.sf 7 else
   match L.drop (k+1) with
   | []=> .bad txt.length 2
   | c::_=>if c.kind≠7 then .bad c.sf 2 else .ok b t:=by
  rw[O];unfold oM;simp only[a9];rw[if_neg e_,hU]
 have aT:=hid aY;have CU:Hid (∀w',Calls Tryz.prog 57 #[.string ((bs txt).extract t.sf t.st)] w' λe w2=>e= .returned (.tuple #[bs b,un,ue])/\Below w'.heap.size w' w2):=hid (λw'=>by
  have:=Ae ((txt.drop t.sf).take (t.st-t.sf)) w' (by rw[bT,aU];omega);rw[hU] at this;have e:(bs txt).extract t.sf t.st=bs ((txt.drop t.sf).take (t.st-t.sf)):=by rw[gL,aQ]
  rw[e];exact this)
 have i1:(0:Int)<=(t.sf:Int):=a_
 have i2:(t.sf:Int)<=(t.st:Int):=a_
 have i3:(t.st:Int)<=(txt.length:Int):=a_
 have sl:=aM txt;have hk0:(0:Int)<=(k:Int):=a_
 have hk1:(k:Int)<(L.length:Int):=a_
 rw[h8] at CK;have bg:=hid T;have bt:=hid O;clear I ab b0 h h8 hH am aY hU O a9 T;go_enter Tryz.func198,Tryz.ntmps198;go_upto_region 1 with fail;go_wp2_with fail;refine CK.out.mono ?_;rintro e w1 ⟨rfl,f⟩;have S:=hid (gJ aS.out (dC.of_below (P:=P) f));have y:=hid ((f.block _ (aF aa.out)).trans aa.out);have ay:=hid (aW.out.keep f);have aP:=hid (bl.out.keep f);clear f CK;obtain⟨lv,qb,qt,_⟩:=ay.out;obtain⟨c0,c1,c2,c3,c4,c5,f1,f2,f3,f4,f5⟩:=qb.cells;obtain⟨g,o,c,rfl,hc,t0,t1,t2,_⟩:=qt.tok bg.out;have lP:=qb.lt;have lg:=World.block_lt_of_cell? w1 _ t0;simp only[] at lg;clear qb qt;go_upto_region 3 with fail;go_region;have b2:Below w1.heap.size w1 (w1.alloc (.cells #[.int .i64 (t.sf:Int), .int .i64 (t.st:Int)] 42)).drew:=((aB _ _).alloc (aD _) _).drew;have hY:(w1.alloc (.cells #[.int .i64 (t.sf:Int), .int .i64 (t.st:Int)] 42)).drew.heap[w1.heap.size]?=some (.cells #[.int .i64 (t.sf:Int), .int .i64 (t.st:Int)] 42):=heap_alloc_new w1 _;obtain⟨Y,aA⟩:=exQ<|w1.heap.size;obtain⟨W2,aw⟩:=exQ<|(w1.alloc (.cells #[.int .i64 (t.sf:Int), .int .i64 (t.st:Int)] 42)).drew;rw[aw] at b2 hY;rw[aA] at hY;rw[aw,aA];have aR:=aF y.out;have ao:Y≠P:=a_
 have hXY:X≠Y:=a_
 have ad:=hid (gJ S.out (dC.of_below (P:=P) b2));have J:=hid ((b2.block _ (aF y.out)).trans y.out);have G:=hid (ay.out.keep b2);have a4:=hid (aP.out.keep b2);have H:=hid hY;clear b2 hY aw aA c0 c1 c2 c3 c4 c5 f1 f2 f3 f4 f5 t0 t1 t2 lP lg aR;obtain⟨br,qb,_⟩:=G.out;have q0:=qb.cells.1;obtain⟨y0,y1⟩:=pP H.out;have hS:iR W2 Y P txt t W2:=⟨q0,y0,y1,hid ⟨aB _ _,qb.lt,aF H.out⟩⟩;clear qb q0 y0 y1;go_wp2_with fail;go_region_held3 (λw'=>iR W2 Y P txt t w') ((first | exact iR.drew l_ | exact iR.step l_ l_ | assumption))
  ((go_at_call 57;(with_reducible refine(CU.out _).mono ?_);rintro e w5 ⟨rfl,bf⟩;have a6:iR W2 Y P txt t w5:=iR.step l_ bf))
 have l:=a6.bel;have bp:=hid (gJ ad.out (dC.of_below (P:=P) l));have a0:=hid ((l.block _ (aF J.out)).trans J.out);have bo:=hid (G.out.keep l);have bn:=hid (a4.out.keep l);have aX:=hid ((l.block _ (aF H.out)).trans H.out);clear a6 l hS ad J G a4 H S y ay aP;obtain⟨ph,ch,rfl,K⟩:=zY bn.out;have bq:=hid K;clear K;go_wp2_with fail;go_loopw [11] (λaz wr=> ∃(i:Nat),az= .int .i64 (i:Int)/\i<=hm.length/\Hid (∀j,j<i->hm[j]?≠some b)/\Hid (Below w5.heap.size w5 wr)) (λaz _=>hm.length-(RowKit.intOf az).toNat)
 case atStart=>exact⟨0,rfl,a_,hid (λj N=>by omega),hid (aB _ _)⟩
 case round=>
  obtain⟨i,rfl,hi,a3,E⟩:=hrel;have hi0:(0:Int)<=(i:Int):=a_
  have av:=hid (bo.out.keep E.out);have a5:=hid (gJ bp.out (dC.of_below (P:=P) E.out));have aC:=hid ((E.out.block _ (aF a0.out)).trans a0.out);have bc:=hid ((E.out.block _ (aF aX.out)).trans aX.out);by_cases hil:i<hm.length
  ·obtain⟨u,hu⟩: ∃u,hm[i]?=some u:=⟨_,bC hil⟩;obtain⟨gh,rfl,x⟩:=bq.out a_;have hcu:=gM (x i (.string (bs u)) (by unfold By;rw[dE,hu];rfl)) E.out;have bh:(i:Int)<(hm.length:Int):=a_;have di:decide ((i:Int)<(hm.length:Int))=true:=aO bh;obtain⟨i1,ag⟩:=exQ<|i+1;have ae:(i:Int)+1=(i1:Int):=a_;by_cases he:u=b
   ·exact ui
   ·have de:((bs u).toList==(bs b).toList)=false:=by rw[Lib.toList_data,Lib.toList_data,aQ,aQ];exact aE.2 he
    have bb:Hid (∀j,j<i1->hm[j]?≠some b):=hid (λj N h2=>by
     by_cases hji:j=i
     ·subst hji;rw[hu] at h2;exact he (aV h2)
     ·exact a3.out j a_ h2)
    clear hu he x ag;go_wp2_with fail;go_roundw
    ·exact⟨i1,by rw[<-ae],a_,bb,E⟩
    ·exact aq
  ·obtain rfl:i=hm.length:=a_;have di:decide ((hm.length:Int)<(hm.length:Int))=false:=aG a_;have af:b ∉ hm:=λZ=>by
    obtain⟨j,N,he⟩:=List.mem_iff_getElem.1 Z;exact a3.out j N (by rw[bC N,he])
   have M:=aT.out;rw[if_neg af] at M;have ai:=hid M;clear M af;have V:=av.out.step ba;have ek:((k+1:Nat):Int)=(k:Int)+1:=a_;rw[ek] at V;obtain⟨lvr,qb,_⟩:=av.out;obtain⟨_,_,c2,_,_,_,_,f2,_⟩:=qb.cells;have a7:=hid V;have a8:=hid (gJ a5.out (cT wr P 2 (.int .i64 ((k:Int)+1))));have aZ:=hid ((eC wr ⟨P,2,none⟩ (.int .i64 ((k:Int)+1)) X EW).trans aC.out);have an:=hid ((eC wr ⟨P,2,none⟩ (.int .i64 ((k:Int)+1)) Y (by simpa using ao)).trans bc.out);clear qb V ek;go_upto_region 11 with fail;obtain⟨W6,ax⟩:=exQ<|wr.setCell ⟨P,2,none⟩ (.int .i64 ((k:Int)+1));rw[ax] at a7 a8 aZ an;rw[ax];clear ax c2 f2;have aK:W6.drew.heap[Y]?=some (.cells #[.int .i64 (t.sf:Int), .int .i64 (t.st:Int)] 42):=an.out;have aj:W6.drew.heap[X]?=some (.cells #[(0:Int),(0:Int)] 42):=aZ.out;have a1:=aF aK;have ah:=aF aj;have a2:dC P w W6.drew:=gJ a8.out (dC.of_below (aB _ _).drew);have aI:=a7.out.keep (aB _ _).drew;obtain⟨y0,y1,_,_⟩:=lG an.out;by_cases h7:dI (L.drop (k+1))=7
   ·have AN:=trivial;exact ta
   ·exact ta
theorem rL {w w':World}{P:Nat}{txt:List UInt8}{lv nv:Value}{k a:Nat}{er:Int}{L:List aN}{r:Option Nat} (hb:cH w P txt lv k nv a er) (ht:TV w lv L) (hg:w.grownBy w' r)
  (hr: ∀k,r=some k-> ∃cs t,w.heap[k]?=some (.cells cs t (0,0))/\t≠161/\t≠163):cH w' P txt lv k nv a er/\TV w' lv L:=uc
section
variable {B P:Nat}{txt:List UInt8}{L:List aN}{k:Nat}{z:List ND}{nv:Value}{w w1:World}{g cap:Nat}
theorem QZ.form (h:QZ B P txt L k z nv w) (hz:z≠ []): ∃g cap,nv= .slice (some ⟨g,0,none⟩) z.length cap/\z.length<=cap:=by
 obtain⟨lv,h1,h2,_,b,h4⟩:=h;obtain⟨g,cap,cur,e1,e2,_⟩:=b.form hz;exact⟨g,cap,e1,e2⟩
theorem QZ.at_ (h:QZ B P txt L k z nv w):cD B z nv w:=by
 obtain⟨lv,h1,h2,_,b,h4⟩:=h;exact b
theorem QZ.c3 (h:QZ B P txt L k z nv w):w.cell? ⟨P,3,none⟩=some nv:=by
 obtain⟨lv,b,_⟩:=h;exact b.cells.2.2.2.1
theorem QZ.c3_kids (h:QZ B P txt L k z nv w) {y:ND} (hy:y∈z) (hg:w.grownBy w1 y.2.1.ownBlock):w1.cell? ⟨P,3,none⟩=some nv:=by
 obtain⟨lv,i,d,_,e,h4⟩:=h;exact(rL i d hg (λk f=>by obtain⟨b,c⟩:=kO (e.kids y hy) k f;exact⟨b,_,c,b_,b_⟩)).1.cells.2.2.2.1
theorem QZ.c3_pcs (h:QZ B P txt L k z nv w) {y:ND} (hy:y∈z) (hg:w.grownBy w1 y.2.2.ownBlock):w1.cell? ⟨P,3,none⟩=some nv:=by
 obtain⟨lv,i,d,_,e,h4⟩:=h;exact(rL i d hg (λk f=>by obtain⟨b,c⟩:=kO (e.pcs y hy) k f;exact⟨b,_,c,b_,b_⟩)).1.cells.2.2.2.1
theorem QZ.kid (h:QZ B P txt L k z (.slice (some ⟨g,0,none⟩) z.length cap) w) {n m:Nat}{y:ND} (hy:z[n]?=some y) {kv:Value}{H:Nat} (hH:w.heap.size<=H) (hB:B<=w.heap.size)
  (hr:w1.ownsRow B 3 1 kv (y.1.kids.length+1) (dJ y.1.kids++ [.int .i64 (m:Int)])) (hg:w.grownBy w1 y.2.1.ownBlock) (hat:kv.ownBlock=y.2.1.ownBlock\/kv.ownBlock=some H):
  QZ B P txt L k (z.set n ({ y.1 with kids:=y.1.kids++ [m] },kv,y.2.2)) (.slice (some ⟨g,0,none⟩) (z.set n ({ y.1 with kids:=y.1.kids++ [m] },kv,y.2.2)).length cap) (w1.setCell ⟨g,n*7+5,none⟩ kv)/\Fr B P w (w1.setCell ⟨g,n*7+5,none⟩ kv):=by
 have BN:=trivial;exact ul
theorem QZ.pc (h:QZ B P txt L k z (.slice (some ⟨g,0,none⟩) z.length cap) w) {n:Nat}{m:Sp}{y:ND} (hy:z[n]?=some y) {kv:Value}{H:Nat} (hH:w.heap.size<=H) (hB:B<=w.heap.size)
  (hr:w1.ownsRow B 42 2 kv (y.1.pcs.length+1) (kU y.1.pcs++ [.int .i64 (m.1:Int), .int .i64 (m.2:Int)])) (hg:w.grownBy w1 y.2.2.ownBlock) (hat:kv.ownBlock=y.2.2.ownBlock\/kv.ownBlock=some H):
  QZ B P txt L k (z.set n ({ y.1 with pcs:=y.1.pcs++ [m] },y.2.1,kv)) (.slice (some ⟨g,0,none⟩) (z.set n ({ y.1 with pcs:=y.1.pcs++ [m] },y.2.1,kv)).length cap) (w1.setCell ⟨g,n*7+6,none⟩ kv)/\Fr B P w (w1.setCell ⟨g,n*7+6,none⟩ kv):=ul
end
theorem aCr {ops:Array Oper}{o:Oper}{a:Act}{K:Act->World->Prop}{Q:Exit->Act->World->Prop}{E:Prop} (hgd:o.guard=none) (s x:Operand)
  (ho:o.op= .call { callee:= .builtin .append,args:= #[s,x],argTypes:= #[43,43] })
  (B:Nat) (w:World) (v:Value) (l:List Nat) (k:Nat) (hs:a.eval s=v) (hown:w.ownsRow B 3 1 v l.length (dJ l)) (hx:a.eval x= .slice (some ⟨w.heap.size,0,none⟩) 1 1) (hl:l.length<=4294967295) (hB:B<=w.heap.size)
  (hK: ∀kv w',w'.ownsRow B 3 1 kv (l.length+1) (dJ l++ [.int .i64 (k:Int)])->w.grownBy w' v.ownBlock->(kv.ownBlock=v.ownBlock\/kv.ownBlock=some (w.heap.size+1))->K (a.put o.dst kv) w'):
  if Region.wanted o (yielded ops a.tmps)=true then Oper.wp Tryz.prog o a (w.alloc (.cells #[k] 3)) K Q else E:=vd
def qG (B P:Nat) (txt:List UInt8) (L:List aN) (r:JR) (w:World) (e:Ending) (w':World):Prop:=match r with
 | .ok rest l ns=>e= .returned (.bool true)/\(∃k t,rest=L.drop (k+1)/\L[k]?=some t/\l=(t.sf,t.st)/\QJ B P txt L (k+1) ns w')/\Fr B P w w'
 | .bad a er=>e= .returned (.bool false)/\lF B P (qN P w) a er w'/\Fr B P w w'
def Bz (w0:World) (P:Nat) (txt:List UInt8) (L:List aN) (lv:Nat):Prop:= ∀(w:World) (k:Nat) (l:Sp) (nodes:List aH) (key:Sp) (lev:Int),QJ w0.heap.size P txt L k nodes w->Below w0.heap.size w0 w->nodes.length+(L.drop k).length<=131074->nodes.length<=4096->lev=33-(lv:Int)->
 Calls Tryz.prog 131 #[some P,lev, .agg #[key.1,key.2]] w (qG w0.heap.size P txt L (bI txt lv (L.drop k) l nodes key) w)
theorem Fr.new {B P b:Nat}{w w1 w2:World} (h:Fr B P w w1) (hg:w1.grownBy w2 (some b)) (hb:w.heap.size<=b) (hB:B<=w.heap.size):Fr B P w w2:=
 ⟨h.bel.grown hg (aZ hB h.sz) (λk c=>by have e:b=k:=aV c;omega),aZ h.sz hg.size,λk o c hP f=>by have d:=h.blk k o c hP f;rw[hg.block k (aF d) (λe=>by have e:k=b:=aV e;have:=aF c;omega)];exact d⟩
theorem Fr.newN {B P:Nat}{w w1 w2:World}{r:Option Nat} (h:Fr B P w w1) (hg:w1.grownBy w2 r) (hb: ∀b,r=some b->w.heap.size<=b) (hB:B<=w.heap.size):Fr B P w w2:=by
 cases r with
 | none=>exact h.new (b:=w1.heap.size) ⟨hg.os,hg.tape,hg.output,hg.size,λk c hne=>hg.block k c e_⟩ h.sz hB
 | some b=>exact h.new hg (hb b rfl) hB
theorem Gu {B size:Nat}{e:TypeId}{A W:World}{v:Value}{n:Nat}{xs:List Value} (h:A.ownsRow B e size v n xs) (hg:A.grownBy W none):W.ownsRow B e size v n xs:=
 h.kept hg (by cases h:v.ownBlock with
  | none=>exact .inl rfl
  | some k=>exact .inr e_)
theorem QZ.grow {B P Bh:Nat}{txt:List UInt8}{L:List aN}{k:Nat}{z:List ND}{nv:Value}{w w':World}{v:Value}{hm:List (List UInt8)} (h:QZ B P txt L k z nv w) (hv:kP Bh w v hm) (hg:w.grownBy w' v.ownBlock):QZ B P txt L k z nv w':=by
 obtain⟨lv,m,j,i,c,l⟩:=h;obtain⟨a1,a2⟩:=rL m j hg (λk i=>by obtain⟨d,e⟩:=kO hv k i;exact⟨d,_,e,b_,b_⟩);refine⟨lv,a1,a2,i,?_,l⟩;cases ho:v.ownBlock with
 | none=>
  rw[ho] at hg;exact⟨Gu c.row hg,λy f=>Gu (c.kids y f) hg,λy f=>Gu (c.pcs y f) hg,c.ak,c.ap⟩
 | some b=>
  rw[ho] at hg;obtain⟨d,e⟩:=kO hv b ho;exact c.other e b_ b_ b_ hg
theorem QJ.cast {B P:Nat}{txt:List UInt8}{L:List aN}{k:Nat}{nodes nodes2:List aH}{w:World} (h:QJ B P txt L k nodes w) (e:nodes=nodes2):QJ B P txt L k nodes2 w:=e ▸ h
def Ca (V:VF):Prop:= ∀rest last nodes key r l ns,V rest last nodes key= .ok r l ns->nodes.length<=4096->ns.length<=4096
theorem aCs {txt:List UInt8}{V:VF} (hV:Ca V) {obj:Bool}{had had':List (List UInt8)}{rest r:List aN}{last l:Sp}{nodes ns:List aH} (h:gF txt V obj had rest last nodes=(.ok r l ns,had')) (hn:nodes.length<=4096):ns.length<=4096:=by
 unfold gF at h;split at h
 ·injection h with h _;exact hV _ _ _ _ _ _ _ h hn
 ·split at h
  ·exact ae
  ·split at h
   ·exact ae
   ·split at h
    ·exact ae
    ·split at h
     ·exact ae
     ·split at h
      ·exact ae
      ·injection h with h _;exact hV _ _ _ _ _ _ _ h hn
theorem Gv {txt:List UInt8}{V:VF} (hV:Ca V) {closing:Nat}{obj:Bool}{n:Nat}: ∀(f:Nat) {had:List (List UInt8)}{rest r:List aN}{last l:Sp}{nodes ns:List aH},iP txt V closing obj n f had rest last nodes= .ok r l ns->nodes.length<=4096->ns.length<=4096
 | 0,_,_,_,_,_,_,_,h,_=>by cases h
 | f +1,had,rest,r,last,l,nodes,ns,h,hn=>by
  unfold iP at h;split at h
  ·cases h
  ·rename_i r1 l1 ns1 had1 hk;have h1:=aCs hV hk hn;split at h
   ·cases h
   ·split at h
    ·injection h with _ _ h;rw[<-h];unfold eM;rw[lM];exact h1
    ·split at h
     ·exact Gv hV f h (by unfold eM;rw[lM];exact h1)
     ·cases h
theorem Pc {txt:List UInt8}{V:VF} (hV:Ca V) {closing:Nat}{obj:Bool}{n:Nat}{rest r:List aN}{last l:Sp}{nodes ns:List aH} (h:gG txt V closing obj n rest last nodes= .ok r l ns) (hn:nodes.length<=4096):ns.length<=4096:=by
 unfold gG at h;split at h
 ·exact Gv hV 1 h hn
 ·split at h
  ·injection h with _ _ h;rw[<-h];exact hn
  ·exact Gv hV _ h hn
theorem Pd (txt:List UInt8): ∀lv,Ca (bI txt lv)
 | 0=>λrest last nodes key r l ns h _=>by
  unfold bI at h;split at h<;>cases h
 | lv +1=>λrest last nodes key r l ns h hn=>by
  have ih:=Pd txt lv;unfold bI at h;split at h
  ·cases h
  ·rename_i d;split at h
   ·cases h
   ·rename_i hm;cases rest with
    | nil=>exact absurd rfl d
    | cons t q=>
     simp only[] at h;obtain⟨ns0,b,rfl⟩:=Hv h;have c:(nodes++ [(⟨dO t.kind,t.sf,t.st,key,[],[]⟩:aH)]).length<=4096:=by
      rw[aT,dS];omega
     unfold lL;rw[lM];split at b
     ·exact Pc ih b c
     ·split at b
      ·exact Pc ih b c
      ·injection b with _ _ b;rw[<-b];exact c
theorem QZ.offK {B P X i:Nat}{txt:List UInt8}{L:List aN}{k:Nat}{z:List ND}{nv:Value}{w0 w1:World}{u:Value}{cs:Array Value} (h:QZ B P txt L k z nv w1) (h0:cD B z nv w0) (hX:w0.heap.size<=X) (hXP:X≠P) (hXs:w1.heap[X]?=some (.cells cs 42)):QZ B P txt L k z nv (w1.setCell ⟨X,i,none⟩ u):=by
 obtain⟨lv,x,C,hk,j,E⟩:=h;have q:=cT w1 X i u;have f: ∀ {e:TypeId}{s n:Nat}{v:Value}{xs ys:List Value},w0.ownsRow B e s v n xs->w1.ownsRow B e s v n ys->(w1.setCell ⟨X,i,none⟩ u).ownsRow B e s v n ys:=λ{e s n v xs ys} h1 h2=>
  h2.kept q (by cases ho:v.ownBlock with
   | none=>exact .inl rfl
   | some b=>
    right;intro r;have e2:b=X:=aV r;have:=(World.ownsRow.lt h1 b ho).2;omega)
 refine⟨lv,x.off hXP,C.same (λg p c=>?_),hk,⟨f h0.row j.row,λy o=>f (h0.kids y o) (j.kids y o),λy o=>f (h0.pcs y o) (j.pcs y o),j.ak,j.ap⟩,E⟩;exact jx
theorem Tryz.infoStrQ:(Tryz.prog.info? 9).map (λi=>(i.zero,i.size,i.bytes))=some (some (.string ⟨#[]⟩),1,16):=d'
theorem aCt {ops:Array Oper}{rest:List Oper}{o:Oper}{a:Act}{Q:Exit->Act->World->Prop} (hgd:o.guard=none) (s x:Operand)
  (ho:o.op= .call { callee:= .builtin .append,args:= #[s,x],argTypes:= #[33,33] })
  (B:Nat) (w:World) (v:Value) (l:List (List UInt8)) (k:List UInt8) (hs:a.eval s=v) (hown:kP B w v l) (hx:a.eval x= .slice (some ⟨w.heap.size,0,none⟩) 1 1) (hl:l.length<=4294967295) (hB:B<=w.heap.size)
  (hK: ∀kv w',kP B w' kv (l++ [k])->w.grownBy w' v.ownBlock->wpList Tryz.prog ops Q rest (a.put o.dst kv) w'):
  wpList Tryz.prog ops Q (o::rest) a (w.alloc (.cells #[bs k] 9)):=by
 obtain⟨i0,b,e,d,c⟩:=info_parts Tryz.infoStrQ;refine wpList_append_lies _ hgd s x 33 ho B 9 i0 _ 1 16 Tryz.underlying33 b e d c rfl b_ v _ (By l) hs (World.ownsRow.alloc hown _) ⟨w.heap.size,0,none⟩ 1 1 [bs k] hx DU (sF w #[bs k] _)
  (λu i=>by rw[mX.1 i];rfl) b_ o_ a_ h_ _ rfl ?_
 intro g cap w' f h h7 _;refine hK _ w' ?_ (tZ h);unfold kP By;rw[aT,dS,nE];exact f
theorem aCu {txt:List UInt8}{V:VF}{hm:List (List UInt8)}{rest:List aN}{a:Nat}{er:Int}{ls:Sp}{ns:List aH} (h:oM txt hm rest= .bad a er): ∃h',gF txt V true hm.reverse rest ls ns=(.bad a er,h'):=by
 unfold gF;rw[if_neg b_];cases rest with
 | nil=>injection h with d b;subst d b;exact⟨_,rfl⟩
 | cons t r=>
  unfold oM at h;simp only[] at h ⊢;by_cases h8:t.kind≠8
  ·rw[if_pos h8] at h ⊢;exact gq
  ·rw [if_neg h8] at h ⊢;by_cases hin:(dR ((txt.drop t.sf).take (t.st-t.sf))).1∈hm
   ·rw[if_pos hin] at h;rw[if_pos (List.mem_reverse.2 hin)];exact gq
   ·rw[if_neg hin] at h;rw[if_neg (λh=>hin (List.mem_reverse.1 h))];cases r with
    | nil=>injection h with d b;subst d b;exact⟨_,rfl⟩
    | cons c r2=>
     simp only[] at h ⊢;by_cases h7:c.kind≠7
     ·rw[if_pos h7] at h ⊢;exact gq
     ·rw[if_neg h7] at h;cases h
theorem aCv {txt:List UInt8}{V:VF}{hm:List (List UInt8)}{rest:List aN}{key:List UInt8}{t:aN}{ls:Sp}{ns:List aH} (h:oM txt hm rest= .ok key t): ∃c r2,rest=t::c::r2/\gF txt V true hm.reverse rest ls ns=(V r2 (c.sf,c.st) ns (t.sf,t.st),key::hm.reverse):=by
 unfold gF;rw[if_neg b_];cases rest with
 | nil=>cases h
 | cons t' r=>
  unfold oM at h;simp only[] at h ⊢;by_cases h8:t'.kind≠8
  ·rw[if_pos h8] at h;cases h
  ·rw [if_neg h8] at h ⊢;by_cases hin:(dR ((txt.drop t'.sf).take (t'.st-t'.sf))).1∈hm
   ·rw[if_pos hin] at h;cases h
   ·rw[if_neg hin] at h;rw[if_neg (λh=>hin (List.mem_reverse.1 h))];cases r with
    | nil=>cases h
    | cons c r2=>
     simp only[] at h ⊢;by_cases h7:c.kind≠7
     ·rw[if_pos h7] at h;cases h
     ·rw[if_neg h7] at h ⊢;injection h with d b;subst d b;exact⟨c,r2,rfl,rfl⟩
end Go.Proofs.YtfhjncbdgjlcoaaGreatDoor
