import Derived.Test.YtfhjncbdgjlcoaaGreatDoorYa5
set_option maxRecDepth 100000
set_option maxHeartbeats 8000000
set_option linter.unusedVariables false
set_option linter.unusedSimpArgs false
namespace Go.Proofs.YtfhjncbdgjlcoaaGreatDoor
section
open Go.RowKit
open Go.Lib hiding intOf
def J (B P:Nat) (txt:List UInt8) (rest:List aN) (l:Sp) (nodes:List aH) (w:World):Prop:=
 ∃rv z nv,cZ w P txt rv l nv 0 0/\TV w rv rest/\z.map (·.1)=nodes/\cD B z nv w/\B<=P
theorem J.keep {B P:Nat}{txt:List UInt8}{rest:List aN}{l:Sp}{nodes:List aH}{w w':World} (h:J B P txt rest l nodes w) (hb:Below w.heap.size w w'):J B P txt rest l nodes w':=by
 obtain⟨rv,z,nv,e,b,c,d,a⟩:=h;exact⟨rv,z,nv,e.keep hb,b.keep hb,c,d.keep hb,a⟩
def tW (B P N:Nat) (a:Nat) (er:Int) (w:World):Prop:= ∃txt rv l z nv,cZ w P txt rv l nv a er/\cD B z nv w/\B<=P/\N<=z.length
theorem tW.mono {B P N M:Nat}{a:Nat}{er:Int}{w:World} (h:tW B P N a er w) (hm:M<=N):tW B P M a er w:=by
 obtain⟨b,rv,l,z,nv,f,c,d,e⟩:=h;exact⟨b,rv,l,z,nv,f,c,d,aZ hm e⟩
def nodesN (P:Nat) (w:World):Nat:=match w.cell? ⟨P,4,none⟩ with
 | some (.slice _ n _)=>n
 | _=>0
theorem J.nodesN {B P:Nat}{txt:List UInt8}{rest:List aN}{l:Sp}{nodes:List aH}{w:World} (h:J B P txt rest l nodes w):nodesN P w=nodes.length:=by
 obtain⟨rv,z,nv,d,h2,a,b,h5⟩:=h;obtain⟨p,c,rfl⟩:=b.slice;have:=d.cells.2.2.2.2.1;unfold Go.Proofs.YtfhjncbdgjlcoaaGreatDoor.nodesN;rw[this,<-a,bR]
theorem cT (w:World) (P i:Nat) (u:Value):w.grownBy (w.setCell ⟨P,i,none⟩ u) (some P):=
 ⟨rfl,rfl,rfl,by simp[World.setCell],λk _ a=>eC w ⟨P,i,none⟩ u k (λe=>a (by rw[e]))⟩
theorem gJ {w w1 w2:World}{r:Option Nat} (h1:w.grownBy w1 r) (h2:w1.grownBy w2 r):w.grownBy w2 r:=
 ⟨h2.os.trans h1.os,h2.tape.trans h1.tape,h2.output.trans h1.output,aZ h1.size h2.size,λk b a=>(h2.block k (iX b h1.size) a).trans (h1.block k b a)⟩
theorem tX (B P:Nat) (txt:List UInt8) (rest:List aN) (l:Sp) (nodes:List aH) (w:World) (h:J B P txt rest l nodes w) (hr:rest.length<=1073741824):
  Calls Tryz.prog 187 #[some P] w λe w'=>e= .returned (.int .i64 (dI rest:Int))/\w=w':=by
 have wa:=trivial;exact tr
theorem Db (B P:Nat) (txt:List UInt8) (rest:List aN) (l:Sp) (nodes:List aH) (w:World) (h:J B P txt rest l nodes w) (hr:rest.length<=1073741824) (hs:txt.length<=1073741824):
  Calls Tryz.prog 193 #[some P] w λe w'=>e= .returned (.int .i64 (cA txt.length rest:Int))/\w=w':=by
 have A4:=trivial;exact tr
theorem cZ.put {w:World}{P:Nat}{txt:List UInt8}{rv nv:Value}{l:Sp}{a:Nat}{er:Int} (h:cZ w P txt rv l nv a er) (a2:Nat) (e2:Int):
  cZ ((w.setCell ⟨P,5,none⟩ (.int .i64 a2)).setCell ⟨P,6,none⟩ (.int .i64 e2)) P txt rv l nv a2 e2:=eo
def Dc (B P:Nat) (a:Nat) (er:Int) (w:World) (e:Ending) (w':World):Prop:=e= .returned (.bool false)/\tW B P (nodesN P w) a er w'/\Fr B P w w'
theorem pO (B P:Nat) (txt:List UInt8) (rest:List aN) (l:Sp) (nodes:List aH) (er:Int) (w:World) (h:J B P txt rest l nodes w) (hr:rest.length<=1073741824) (hs:txt.length<=1073741824):
  Calls Tryz.prog 152 #[some P,er] w (Dc B P (cA txt.length rest) er w):=by
 have C:=hid (Db B P txt rest l nodes w h hr hs);have g:=h.nodesN;obtain⟨rv,z,nv,d,j,b,c,a⟩:=h;have f:=hid (c.other d b_ b_ b_ (gJ (cT w P 5 (.int .i64 (cA txt.length rest:Int))) (cT _ P 6 (.int .i64 er))));have k:Hid (nodesN P w<=z.length):=hid (by rw[g,<-b,bR];exact aD _);obtain⟨c0,c1,c2,c3,c4,c5,c6,f1,f2,f3,f4,f5,f6⟩:=d.cells;have n:=hid (d.put (cA txt.length rest) er);have m:=hid ((Fr.setP (B:=B) (P:=P) (i:=5) (w:=w) (u:= .int .i64 (cA txt.length rest:Int)) a).trans (Fr.setP (i:=6) (u:= .int .i64 er) a));clear d j g b c;go_enter Tryz.func152,Tryz.ntmps152;go_wp2_with fail;refine C.out.mono ?_;rintro e w1 ⟨rfl,rfl⟩;go_wp2_with fail;go_ret;exact⟨rfl,⟨_,_,_,_,_,n.out,f.out,a,k.out⟩,m.out⟩
theorem cZ.step {w:World}{P:Nat}{txt:List UInt8}{rv nv:Value}{l:Sp}{a:Nat}{er:Int} (h:cZ w P txt rv l nv a er) (rv2:Value) (l2:Sp):
  cZ (((w.setCell ⟨P,2,none⟩ (.int .i64 l2.1)).setCell ⟨P,3,none⟩ (.int .i64 l2.2)).setCell ⟨P,1,none⟩ rv2) P txt rv2 l2 nv a er:=eo
theorem Dd (B P:Nat) (txt:List UInt8) (t:aN) (r:List aN) (l:Sp) (nodes:List aH) (w:World) (h:J B P txt (t::r) l nodes w) (hr:r.length<=1073741824):
  Calls Tryz.prog 188 #[some P] w λe w'=>e= .returned (.tuple #[])/\J B P txt r (t.sf,t.st) nodes w'/\w.grownBy w' (some P):=by
 obtain⟨rv,z,nv,f,k,q,n,i⟩:=h;obtain⟨c0,c1,c2,c3,c4,c5,c6,f1,f2,f3,f4,f5,f6⟩:=f.cells;obtain⟨g,o,c,rfl,hc,k0,k1,k2,b⟩:=k.head;have u:=hid (f.step (.slice (if c=1 then some ⟨g,o,none⟩ else some ⟨g,o+3,none⟩) r.length (c-1)) (t.sf,t.st));have j:=hid (gJ (gJ (cT w P 2 (.int .i64 (t.sf:Int))) (cT _ P 3 (.int .i64 (t.st:Int)))) (cT _ P 1 (.slice (if c=1 then some ⟨g,o,none⟩ else some ⟨g,o+3,none⟩) r.length (c-1))));have m:=hid f;have s:=hid b;have p:=hid n;have d0:(0:Int)<(r.length:Int)+1:=a_
 have d1:(1:Int)<=(r.length:Int)+1:=a_
 have d2:(r.length:Int)+1<=(c:Int):=a_
 clear f k b n;go_enter Tryz.func188,Tryz.ntmps188;go_wp2_with fail;go_region;go_end0;refine⟨rfl,J.keep ⟨_,z,nv,u.out,s.out.same (λg2 cur d=>?_),q,p.out.other m.out b_ b_ b_ j.out,i⟩ (aB _ _).drew,gJ j.out ⟨rfl,rfl,rfl,aD _,λ_ _ _=>rfl⟩⟩
 ·refine j.out.block g2 (aF d) (λe=>?_);have e2:g2=P:=aV e;subst e2;have a:=m.out;unfold cZ at a;rw[d] at a;injection a with a;injection a with _ a;exact absurd a b_
theorem Fr.ofP {B P:Nat}{w w':World} (hg:w.grownBy w' (some P)) (hBP:B<=P) (hB:B<=w.heap.size):Fr B P w w':=
 ⟨(aB B w).grown hg hB (λk a=>by cases a;exact hBP),hg.size,λk o a b _=>by rw[hg.block k (aF a) (λe=>b (aV e))];exact a⟩
theorem tY (B P:Nat) (txt:List UInt8) (t:aN) (r:List aN) (l:Sp) (nodes:List aH) (w:World) (h:J B P txt (t::r) l nodes w) (hr:r.length<=1048576) (k:Nat) (hk:t.kind=k):
  Calls Tryz.prog 212 #[some P,k] w λe w'=>e= .returned (.bool true)/\J B P txt r (t.sf,t.st) nodes w'/\w.grownBy w' (some P):=by
 have C1:=tX B P txt (t::r) l nodes w h D7;have a:dI (t::r)=k:=hk;rw[a] at C1;have c:=hid C1;have b:=hid (Dd B P txt t r l nodes w h a_);have d0:((k:Int) !=(k:Int))=false:=by rw[bne,beq_self_eq_true];rfl
 clear C1 h hk a;go_enter Tryz.func212,Tryz.ntmps212;go_wp2_with fail;refine c.out.mono ?_;rintro e w1 ⟨rfl,rfl⟩;go_wp2_with fail;refine b.out.mono ?_;rintro e w2 ⟨rfl,d,f⟩;go_wp2_with fail;go_ret;exact⟨rfl,d,f⟩
theorem sC (B P:Nat) (txt:List UInt8) (rest:List aN) (l:Sp) (nodes:List aH) (w:World) (h:J B P txt rest l nodes w) (hr:rest.length<=1048577) (k:Nat) (hk:dI rest≠k):
  Calls Tryz.prog 212 #[some P,k] w λe w'=>e= .returned (.bool false)/\w=w':=by
 have C1:=tX B P txt rest l nodes w h a_;obtain⟨q,b⟩:=exQ<|dI rest;rw[b] at C1 hk;have a:=hid C1;have d0:((q:Int) !=(k:Int))=true:=eF.2 a_;clear C1 h hk b;go_enter Tryz.func212,Tryz.ntmps212;go_wp2_with fail;refine a.out.mono ?_;rintro e w1 ⟨rfl,rfl⟩;exact aa
theorem zM (k:Nat) (w:World):Calls Tryz.prog 186 #[k] w λe w'=>e= .returned (.int .i64 (dO k:Int))/\w=w':=by
 have vz:=trivial;exact sj
end
section
open Go.RowKit Go.Maps Go.WideMaps
open Go.Lib hiding intOf
structure jT (B P b:Nat) (w w':World):Prop where
 bel:Below B w w'
 sz:w.heap.size<=w'.heap.size
 blk: ∀(k:Nat) (o:Obj),w.heap[k]?=some o->k≠P->k≠b->zI o->w'.heap[k]?=some o
theorem jT.trans {B P b:Nat}{w w1 w2:World} (h1:jT B P b w w1) (h2:jT B P b w1 w2):jT B P b w w2:=
 ⟨h1.bel.trans h2.bel,aZ h1.sz h2.sz,λk o d hP a c=>h2.blk k o (h1.blk k o d hP a c) hP a c⟩
theorem Fr.toX {B P b:Nat}{w w':World} (h:Fr B P w w'):jT B P b w w':=⟨h.bel,h.sz,λk o a hP _ c=>h.blk k o a hP c⟩
theorem jT.grown {B P b:Nat}{w w':World} (hg:w.grownBy w' (some b)) (hB:B<=w.heap.size) (hb:B<=b):jT B P b w w':=
 ⟨(aB B w).grown hg hB (λk a=>by cases a;exact hb),hg.size,λk o a _ c _=>by rw[hg.block k (aF a) (λe=>c (aV e))];exact a⟩
theorem jT.out {B P b:Nat}{w w1 w2:World} (h1:Fr B P w w1) (h2:jT B P b w1 w2) (hb:w.heap.size<=b):Fr B P w w2:=
 ⟨h1.bel.trans h2.bel,aZ h1.sz h2.sz,λk o a hP c=>h2.blk k o (h1.blk k o a hP c) hP (by have:=aF a;omega) c⟩
theorem HM.fr {B P b:Nat}{had:List (List UInt8)}{w w':World} (h:HM b had w) (hf:Fr B P w w') (hP:b≠P):HM b had w':=by
 obtain⟨es,c,a⟩:=h.obj;exact h.same ((hf.blk b _ a hP trivial).trans a.symm)
theorem J.map {B P b:Nat}{txt:List UInt8}{rest:List aN}{l:Sp}{nodes:List aH}{w w':World} (h:J B P txt rest l nodes w) {es:Array MapEntry}{c:Nat} (hb:w.heap[b]?=some (.map es c)) (hg:w.grownBy w' (some b)):J B P txt rest l nodes w':=by
 obtain⟨rv,z,nv,q,t,u,i,r⟩:=h;have d: ∀(k:Nat) (o:Obj),w.heap[k]?=some o->(∀es c,o≠ .map es c)->w'.heap[k]?=w.heap[k]?:=λk o j x=>hg.block k (aF j) (λe=>by have e2:k=b:=aV e;subst e2;rw[hb] at j;exact x es c (aV j).symm);have a: ∀ {e:TypeId}{s:Nat}{v:Value}{n:Nat}{xs:List Value},w.ownsRow B e s v n xs->w'.ownsRow B e s v n xs:=λ{e s v n xs} hr=>hr.kept hg (by
  rcases hr.2 with⟨rfl,_⟩ | ⟨g,cap,p,rfl,_,f,_⟩
  ·exact .inl rfl
  ·refine .inr (λe2=>?_);have e3:g=b:=aV e2;subst e3;rw[hb] at f;cases f)
 refine⟨rv,z,nv,?_,t.same (λg p j=>d g _ j (λ_ _ h=>by cases h)),u,⟨a i.row,λy m=>a (i.kids y m),λy m=>a (i.pcs y m),i.ak,i.ap⟩,r⟩;have:=d P _ q (λ_ _ h=>by cases h);exact this.trans q
def TB (txt:List UInt8) (rest:List aN):Prop:=rest.length<=65537/\ ∀t∈rest,t.sf<=t.st/\t.st<=txt.length
theorem TB.drop {txt:List UInt8}{rest:List aN} (h:TB txt rest) (k:Nat):TB txt (rest.drop k):=⟨by rw[aU];have:=h.1;omega,λt a=>h.2 t (List.mem_of_mem_drop a)⟩
def VE (B P:Nat) (txt:List UInt8) (r:JR) (w:World) (e:Ending) (w':World):Prop:=match r with
 | .ok rr l ns=>e= .returned (.bool true)/\J B P txt rr l ns w'/\Fr B P w w'
 | .bad a er=>Dc B P a er w e w'
def VC (w0:World) (P:Nat) (txt:List UInt8) (lv:Nat):Prop:= ∀(w:World) (rest:List aN) (l:Sp) (nodes:List aH) (key:Sp) (lev:Int),J w0.heap.size P txt rest l nodes w->Below w0.heap.size w0 w->TB txt rest->nodes.length+rest.length<=131074->lev=33-(lv:Int)->
 Calls Tryz.prog 151 #[some P,lev, .agg #[key.1,key.2]] w (VE w0.heap.size P txt (bI txt lv rest l nodes key) w)
theorem Sq (w0:World) (P:Nat) (txt:List UInt8) (lv:Nat) (IH:VC w0 P txt lv) (w:World) (rest:List aN) (l:Sp) (nodes:List aH) (lev:Int) (h:J w0.heap.size P txt rest l nodes w) (hb:Below w0.heap.size w0 w) (ht:TB txt rest) (hN:nodes.length+rest.length<=131074) (hl:lev=33-(lv:Int)):
  Calls Tryz.prog 190 #[some P,lev] w (VE w0.heap.size P txt (bI txt lv rest l nodes (0,0)) w):=by
 have C:=hid (IH w rest l nodes (0,0) lev h hb ht hN hl);obtain⟨R,c⟩:=exQ<|bI txt lv rest l nodes (0,0);rw[c] at C ⊢;clear c h hb ht hl IH;cases R with
 | ok rr l2 ns=>
  go_enter Tryz.func190,Tryz.ntmps190;exact fj
 | bad a er=>
  go_enter Tryz.func190,Tryz.ntmps190;exact fj
theorem Iz: ∀(f:Nat) (l:List UInt8) (i:Nat) (acc:List UInt8),(dQ f l i acc).1.length<=acc.length+4*l.length
 | 0,_,_,_=>by simp[dQ]
 | _+1,[],_,_=>by simp[dQ]
 | f+1,c::r,i,acc=>by
  unfold dQ;split
  ·simp
  ·split
   ·simp
   ·rename_i h;have hp:=rP (c::r) (List.cons_ne_nil _ _);obtain⟨P,hP⟩:=exQ<|eX (c::r);rw[hP] at hp h ⊢;have:=Iz f ((c::r).drop P.2.toNat) (i+P.2.toNat) (acc++encodeRune P.1);have a:=Lib.runeCells_le P.1;rw[Lib.runeCells_length] at a;rw[aU,aT] at this;omega
theorem Sr (l:List UInt8):(dR l).1.length<=4*l.length:=by
 have h:(bV l 0).1.length<=4*l.length:=by
  unfold bV;split
  ·have:=Iz (l.length+1) (l.drop ((0:Int).toNat+1)) ((0:Int).toNat+1) [];rw[aU] at this;simp only[kS] at this;omega
  ·simp
 unfold dR;split
 ·simp
 ·exact h
def ME (B P b:Nat) (txt:List UInt8) (r:JR×List (List UInt8)) (w:World) (e:Ending) (w':World):Prop:=match r with
 | (.ok rr l ns,had)=>e= .returned (.bool true)/\J B P txt rr l ns w'/\HM b had w'/\jT B P b w w'
 | (.bad a er,_)=>e= .returned (.bool false)/\tW B P (nodesN P w) a er w'/\jT B P b w w'
abbrev iR (w:World) (X P:Nat) (txt:List UInt8) (t:aN) (w':World):Prop:=w'.cell? ⟨P,0,none⟩=some (.string (bs txt))/\w'.cell? ⟨X,0,none⟩=some (.int .i64 (t.sf:Int))/\w'.cell? ⟨X,1,none⟩=some (.int .i64 (t.st:Int))/\Hid (Below w.heap.size w w'/\P<w.heap.size/\X<w.heap.size)
theorem iR.drew {w w1:World}{X P:Nat}{txt:List UInt8}{t:aN} (h:iR w X P txt t w1):iR w X P txt t w1.drew:=by
 obtain⟨a,b,c,d⟩:=h;exact⟨a,b,c,hid ⟨d.out.1.drew,d.out.2⟩⟩
theorem iR.step {w w1 w2:World}{X P:Nat}{txt:List UInt8}{t:aN} (h:iR w X P txt t w1) (hb:Below w1.heap.size w1 w2):iR w X P txt t w2:=by
 obtain⟨a,b,c,d⟩:=h;obtain⟨e1,e2,e3⟩:=d.out;have l1:P<w1.heap.size:=iX e2 e1.size;have l2:X<w1.heap.size:=iX e3 e1.size;exact⟨by rw[hb.cell (p:=⟨P,0,none⟩) l1];exact a,by rw[hb.cell (p:=⟨X,0,none⟩) l2];exact b,by rw[hb.cell (p:=⟨X,1,none⟩) l2];exact c,hid ⟨aC e1 hb,e2,e3⟩⟩
theorem iR.bel {w w1:World}{X P:Nat}{txt:List UInt8}{t:aN} (h:iR w X P txt t w1):Below w.heap.size w w1:=h.2.2.2.out.1
theorem J.box {B P:Nat}{txt:List UInt8}{rest:List aN}{l:Sp}{nodes:List aH}{w:World} (h:J B P txt rest l nodes w):P<w.heap.size/\B<=P/\w.cell? ⟨P,0,none⟩=some (.string (bs txt))/\ ∀b es c,w.heap[b]?=some (.map es c)->b≠P:=by
 obtain⟨rv,z,nv,a,h2,h3,h4,d⟩:=h;refine⟨a.lt,d,a.cells.1,λb es c f e=>?_⟩;subst e;unfold cZ at a;rw[f] at a;cases a
theorem xG (w:World) (cs:Array Value) (t:TypeId) (j:Nat) (u:Value) (h:cs.toList[j]?=some u):(w.alloc (.cells cs t)).cell? ⟨w.heap.size,j,none⟩=some u:=by
 have:=World.news_of_block (w:=w.alloc (.cells cs t)) (heap_alloc_new w _) j u h;have a:((⟨w.heap.size,0,none⟩:Addr).add j)=⟨w.heap.size,j,none⟩:=by unfold Addr.add;split<;>simp_all
 rw[a] at this;exact this
theorem vQ {w w':World}{r:Option Nat} (hg:w.grownBy w' r) {X:Nat} (hX:X<w.heap.size) (hne:some X≠r) (i:Nat):w'.cell? ⟨X,i,none⟩=w.cell? ⟨X,i,none⟩:=iY (hg.block X hX hne) i
theorem Ss (w0:World) (P:Nat) (txt:List UInt8) (lv:Nat) (IH:VC w0 P txt lv) (b:Nat) (had:List (List UInt8)) (w:World) (rest:List aN) (l:Sp) (nodes:List aH) (lev:Int)
  (h:J w0.heap.size P txt rest l nodes w) (hb:Below w0.heap.size w0 w) (ht:TB txt rest) (hN:nodes.length+rest.length<=131074) (hl:lev=33-(lv:Int)) (hm:HM b had w) (hBb:w0.heap.size<=b) (hhad:had.length<=65537) (hs:txt.length<=65536) (hSV:eB w0) (hT:cW w0):
  Calls Tryz.prog 192 #[some P,lev, .map (some b)] w (ME w0.heap.size P b txt (gF txt (bI txt lv) true had rest l nodes) w):=by
 have K:=ht.1;have Z:=hid h.nodesN;obtain⟨aq,ad,au,ay⟩:=h.box;obtain⟨es,cm,I⟩:=hm.obj;have M:b≠P:=ay b es cm I;have CK:=hid (tX _ P txt rest l nodes w h a_);have sl:=aM txt;obtain⟨R,H⟩:=exQ<|gF txt (bI txt lv) true had rest l nodes;rw[H];by_cases h8:dI rest=8
 ·cases rest with
  | nil=>cases h8
  | cons t r=>
   have aA:t.kind=8:=h8;rw[h8] at CK;obtain⟨hss,hst⟩:=ht.2 t lN;have y:gF txt (bI txt lv) true had (t::r) l nodes=if(dR ((txt.drop t.sf).take (t.st-t.sf))).1∈had then(.bad t.sf 7,had) else
     match r with
     | []=>(.bad txt.length 2,(dR ((txt.drop t.sf).take (t.st-t.sf))).1::had)
     | c::r2=>if c.kind≠7 then(.bad c.sf 2,(dR ((txt.drop t.sf).take (t.st-t.sf))).1::had) else
      (bI txt lv r2 (c.sf,c.st) nodes (t.sf,t.st),(dR ((txt.drop t.sf).take (t.st-t.sf))).1::had):=by
    unfold gF;rw[if_neg b_];simp only[aA];rw[if_neg e_];cases r<;>rfl
   rw[y] at H;clear y;obtain⟨U,hU⟩:=exQ<|dR ((txt.drop t.sf).take (t.st-t.sf));obtain⟨d,un,ue⟩:=U;have CU:Hid (∀w',Below w0.heap.size w0 w'->Calls Tryz.prog 112 #[((bs txt).extract t.sf t.st)] w' λe w2=>e= .returned (.tuple #[bs d,un,ue])/\Below w'.heap.size w' w2):=hid (λw' ai=>by have:=yT ((txt.drop t.sf).take (t.st-t.sf)) w' (by rw[bT,aU];omega) (hSV.keep ai) (hT.keep ai);rw[hU] at this;have e:(bs txt).extract t.sf t.st=bs ((txt.drop t.sf).take (t.st-t.sf)):=(by rw[gL,aQ]);rw[e];exact this);have ae:d.length<=1073741824:=by
    have:=Sr ((txt.drop t.sf).take (t.st-t.sf));rw[hU] at this;rw[bT,aU] at this;simp only[] at this;omega
   rw[hU] at H;simp only[] at H;have HR:=hid H;clear H;have ba:=aL w (.cells #[t.sf,t.st] 42);have hS:iR (w.alloc (.cells #[t.sf,t.st] 42)) w.heap.size P txt t (w.alloc (.cells #[t.sf,t.st] 42)):=
    ⟨by rw[ba.cell (p:=⟨P,0,none⟩) aq];exact au,xG w _ _ 0 _ rfl,xG w _ _ 1 _ rfl,hid ⟨aB _ _,by simp;omega,e_⟩⟩
   have ap:=hid (h.keep ba);have aF:=hid (World.ownsMap.alloc hm (.cells #[t.sf,t.st] 42));obtain⟨rv,z,nv,jb,jt,_⟩:=h;obtain⟨q0,q1,_⟩:=jb.cells;obtain⟨g,o,c,rfl,hc,k0,k1,k2,_⟩:=jt.head;have d0:(0:Int)<(r.length:Int)+1:=a_;have i1:(0:Int)<=(t.sf:Int):=a_;have i2:(t.sf:Int)<=(t.st:Int):=a_;have i3:(t.st:Int)<=(txt.length:Int):=a_;have HW:=hid hb;have ah:w0.heap.size<=w.heap.size:=hb.size;have L:Hid (∀w',Below (w.alloc (.cells #[t.sf,t.st] 42)).heap.size (w.alloc (.cells #[t.sf,t.st] 42)) w'->Below w0.heap.size w0 w'):=hid (λw' h'=>(hb.trans (ba.mono ah)).trans (h'.mono h_));have az:Hid (Fr w0.heap.size P w (w.alloc (.cells #[t.sf,t.st] 42))):=hid (Fr.of_below ba ah);have W:(w.alloc (.cells #[t.sf,t.st] 42)).heap.size=w.heap.size+1:=e_;have hbl:b<w.heap.size:=hm.lt;have ab:Hid (keyOf Tryz.prog 9 (.string (bs d))=some (.string d)):=hid (by have:=keyOf_string_mk (P:=Tryz.prog) Tryz.underlying9 (s:=bs d) EL;rw[aQ] at this;exact this);have ao:=hid ae;have aD:=hid ht;clear jb jt hU hb ba ae hm I ht;go_enter Tryz.func192,Tryz.ntmps192;go_wp2_with fail;refine CK.out.mono ?_;rintro e w1 ⟨rfl,rfl⟩;go_upto_region 4 with fail;go_region_held3 (λw'=>iR (w.alloc (.cells #[t.sf,t.st] 42)) w.heap.size P txt t w') ((first | exact iR.drew l_ | exact iR.step l_ l_ | assumption))
    ((go_at_call 112;(with_reducible refine(CU.out _ (L.out _ (iR.bel (by assumption:iR (w.alloc (.cells #[t.sf,t.st] 42)) w.heap.size P txt t _)))).mono ?_);rintro e w5 ⟨rfl,an⟩;have C:iR (w.alloc (.cells #[t.sf,t.st] 42)) w.heap.size P txt t w5:=iR.step l_ an))
   have i:=C.bel;have Y:=hid (ap.out.keep i);have O:Hid (HM b had w5):=hid (HM.same aF.out (i.block b (by rw[W];omega)));have ak:Hid (Fr w0.heap.size P w w5):=hid (az.out.trans (Fr.of_below i (by rw[W];omega)));have x0:w5.cell? ⟨w.heap.size,0,none⟩=some (.int .i64 (t.sf:Int)):=C.2.1;have x1:w5.cell? ⟨w.heap.size,1,none⟩=some (.int .i64 (t.st:Int)):=C.2.2.1;have aa:w.heap.size<w5.heap.size:=by have:=i.size;rw[W] at this;omega
   have k:=O.out.look d ao.out;clear C i hS;by_cases hk:d∈had
   ·rw[aO hk] at k;have F:=hid (HR.out.symm.trans (if_pos hk));have CF:=hid (pO _ P txt (t::r) l nodes 7 w5 Y.out (by simp only[bH] at K ⊢;omega) a_);clear hk x0 x1;go_wp2_with fail;refine CF.out.mono ?_;rintro e w6 ⟨rfl,V,S⟩;go_wp2_with fail;go_ret;rw[F.out];exact⟨rfl,V.mono (mW (Z.out.trans Y.out.nodesN.symm)),(ak.out.trans S).toX⟩
   ·rw[aG hk] at k;have N:=hid (HR.out.symm.trans (if_neg hk));obtain⟨es5,cm5,x⟩:=O.out.obj;have aC:=hid x;have E:w5.ownsMap Tryz.prog 9 (plainElem Tryz.prog 4) b had.length (sB had):=O.out;clear hk x;go_wp2_with (at_mapUpdate;refine wpList_mapUpdate_own _ rfl _ _ _ 124 rfl 9 4 Da Tryz.underlying124 _ b had.length _ rfl E o_ _ _ (.string d) rfl rfl ab.out _ [] (plainElem_bool Tryz.underlying4 true) ?_;intro w6 u m);have aj:Hid (HM b (d::had) w6):=hid u;have am:=hid (Y.out.map aC.out m);have aw:Hid (jT w0.heap.size P b w w6):=hid (ak.out.toX.trans (jT.grown m a_ hBb));have y0:w6.cell? ⟨w.heap.size,0,none⟩=some (.int .i64 (t.sf:Int)):=by rw[vQ m aa h_];exact x0
    have y1:w6.cell? ⟨w.heap.size,1,none⟩=some (.int .i64 (t.st:Int)):=by rw[vQ m aa h_];exact x1
    have af:w.heap.size<w6.heap.size:=by have:=m.size;omega
    clear E u m k x0 x1;have aI:=hid (Dd _ P txt t r l nodes w6 am.out (by simp only[bH] at K;omega));have aE:r.length<=65536:=by simp only[bH] at K;omega
    cases r with
    | nil=>
     have AT:=trivial;exact th
    | cons c r2=>
     simp only[bH] at aE;by_cases h7:c.kind=7
     ·have AW:=trivial;exact th
     ·have AU:=trivial;exact th
 ·have y:gF txt (bI txt lv) true had rest l nodes=(.bad (cA txt.length rest) 2,had):=by
   unfold gF;rw[if_neg b_];cases rest with
   | nil=>rfl
   | cons t r=>exact if_pos h8
  rw[y] at H;subst H;have CF:=hid (pO _ P txt rest l nodes 2 w h a_ a_);obtain⟨q,hq⟩:=exQ<|dI rest;rw[hq] at CK h8;have d8:((q:Int) !=8)=true:=eF.2 a_;clear y hq h8;go_enter Tryz.func192,Tryz.ntmps192;go_wp2_with fail;refine CK.out.mono ?_;rintro e w1 ⟨rfl,rfl⟩;go_wp2_with fail;refine CF.out.mono ?_;rintro e w6 ⟨rfl,V,S⟩;go_wp2_with fail;go_ret;exact⟨rfl,V,S.toX⟩
theorem Tryz.infoInt:(Tryz.prog.info? 3).map (λi=>(i.zero,i.size,i.bytes))=some (some (.int .i64 0),1,8):=d'
theorem Tryz.infoSpan:(Tryz.prog.info? 42).map (λi=>(i.zero,i.size,i.bytes))=some (some (.agg #[(0:Int),(0:Int)]),2,16):=d'
theorem Tryz.infoNode:(Tryz.prog.info? 167).map (λi=>(i.zero,i.size,i.bytes))=some (some (.agg #[(0:Int),(0:Int),(0:Int),(0:Int),(0:Int),(),()]),7,88):=d'
theorem kO {w:World}{B:Nat}{e:TypeId}{s:Nat}{v:Value}{n:Nat}{xs:List Value} (h:w.ownsRow B e s v n xs): ∀k,v.ownBlock=some k-> ∃cur,w.heap[k]?=some (.cells cur e (0,0)):=by
 intro k a;rcases h.2 with⟨rfl,_⟩ | ⟨g,cap,cur,rfl,_,b,_⟩
 ·cases a
 ·have:g=k:=aV a;subst this;exact⟨cur,b⟩
theorem vR {w w':World}{P:Nat}{txt:List UInt8}{rv nv:Value}{l:Sp}{a:Nat}{er:Int}{rest:List aN}{r:Option Nat} (hb:cZ w P txt rv l nv a er) (ht:TV w rv rest) (hg:w.grownBy w' r)
  (hr: ∀k,r=some k-> ∃cs t,w.heap[k]?=some (.cells cs t (0,0))/\t≠179/\t≠163):cZ w' P txt rv l nv a er/\TV w' rv rest:=by
 have BC:=trivial;exact uc
theorem sF (w:World) (cs:Array Value) (t:TypeId): ∀j u,cs.toList[j]?=some u->(w.alloc (.cells cs t)).cell? ((⟨w.heap.size,0,none⟩:Addr).add j)=some u:=
 λj u a=>World.news_of_block (w:=w.alloc (.cells cs t)) (heap_alloc_new w _) j u a
theorem tZ {w w':World}{o:Obj}{r:Option Nat} (h:(w.alloc o).grownBy w' r):w.grownBy w' r:=(World.grownBy_alloc w o r).trans h
theorem Ja {ops:Array Oper}{rest:List Oper}{o:Oper}{a:Act}{Q:Exit->Act->World->Prop} (hgd:o.guard=none) (s x:Operand)
  (ho:o.op= .call { callee:= .builtin .append,args:= #[s,x],argTypes:= #[43,43] })
  (B:Nat) (w:World) (v:Value) (l:List Nat) (k:Nat) (hs:a.eval s=v) (hown:w.ownsRow B 3 1 v l.length (dJ l)) (hx:a.eval x= .slice (some ⟨w.heap.size,0,none⟩) 1 1) (hl:l.length<=4294967295) (hB:B<=w.heap.size)
  (hK: ∀kv w',w'.ownsRow B 3 1 kv (l.length+1) (dJ l++ [.int .i64 (k:Int)])->w.grownBy w' v.ownBlock->(kv.ownBlock=v.ownBlock\/kv.ownBlock=some (w.heap.size+1))->wpList Tryz.prog ops Q rest (a.put o.dst kv) w'):
  wpList Tryz.prog ops Q (o::rest) a (w.alloc (.cells #[k] 3)):=by
 have DG:=trivial;exact vd
theorem De {ops:Array Oper}{o:Oper}{a:Act}{K:Act->World->Prop}{Q:Exit->Act->World->Prop}{E:Prop} (hgd:o.guard=none) (s x:Operand)
  (ho:o.op= .call { callee:= .builtin .append,args:= #[s,x],argTypes:= #[55,55] })
  (B:Nat) (w:World) (v:Value) (l:List Sp) (k:Sp) (hs:a.eval s=v) (hown:w.ownsRow B 42 2 v l.length (kU l)) (hx:a.eval x= .slice (some ⟨w.heap.size,0,none⟩) 1 1) (hl:l.length<=4294967295) (hB:B<=w.heap.size)
  (hK: ∀kv w',w'.ownsRow B 42 2 kv (l.length+1) (kU l++ [.int .i64 (k.1:Int), .int .i64 (k.2:Int)])->w.grownBy w' v.ownBlock->(kv.ownBlock=v.ownBlock\/kv.ownBlock=some (w.heap.size+1))->K (a.put o.dst kv) w'):
  if Region.wanted o (yielded ops a.tmps)=true then Oper.wp Tryz.prog o a (w.alloc (.cells #[k.1,k.2] 42)) K Q else E:=by
 obtain⟨i0,b,p,f,m⟩:=info_parts Tryz.infoSpan;refine step_append_lies _ hgd s x 55 ho B 42 i0 _ 2 16 Tryz.underlying55 b p f m rfl b_ v _ (kU l) hs (World.ownsRow.alloc hown _) ⟨w.heap.size,0,none⟩ 1 1 [k.1,k.2] hx DU (sF w #[k.1,k.2] _)
  (λu hu=>by
   rcases fY.1 hu with rfl | hu
   ·rfl
   ·rw[mX.1 hu];rfl) b_ o_ a_ h_ _ rfl ?_
 intro g cap w' y A r _;refine hK _ w' y (tZ A) ?_;exact fp
theorem St {ops:Array Oper}{o:Oper}{a:Act}{K:Act->World->Prop}{Q:Exit->Act->World->Prop}{E:Prop} (hgd:o.guard=none) (s x:Operand)
  (ho:o.op= .call { callee:= .builtin .append,args:= #[s,x],argTypes:= #[132,132] })
  (B:Nat) (w:World) (v:Value) (z:List ND) (y:aH) (cs:Array Value) (hcs:cs.toList=gA (y, .slice none 0 0, .slice none 0 0)) (hs:a.eval s=v) (hown:w.ownsRow B 167 7 v z.length (iZ z)) (hx:a.eval x= .slice (some ⟨w.heap.size,0,none⟩) 1 1) (hl:z.length<=4294967295) (hB:B<=w.heap.size)
  (hK: ∀nv w',w'.ownsRow B 167 7 nv (z.length+1) (iZ z++gA (y, .slice none 0 0, .slice none 0 0))->w.grownBy w' v.ownBlock->K (a.put o.dst nv) w'):
  if Region.wanted o (yielded ops a.tmps)=true then Oper.wp Tryz.prog o a (w.alloc (.cells cs 167)) K Q else E:=by
 obtain⟨i0,b,f,e,d⟩:=info_parts Tryz.infoNode;refine step_append_lies _ hgd s x 132 ho B 167 i0 _ 7 88 Tryz.underlying132 b f e d rfl b_ v _ (iZ z) hs (World.ownsRow.alloc hown _) ⟨w.heap.size,0,none⟩ 1 1 _ hx (by rw[hcs];rfl) (sF w cs _)
  (λu c=>by rw[hcs] at c;simp only[gA,fY,List.not_mem_nil,or_false] at c;rcases c with rfl|rfl|rfl|rfl|rfl|rfl|rfl<;>rfl) b_ o_ a_ h_ _ rfl ?_
 intro g cap w' h i h7 _;rw[hcs] at h;exact hK _ w' h (tZ i)
theorem cD.cellK {B:Nat}{z:List ND}{g cap:Nat}{w w1:World} (h:cD B z (.slice (some ⟨g,0,none⟩) z.length cap) w) {n:Nat}{y:ND} (hy:z[n]?=some y) (hg:w.grownBy w1 y.2.1.ownBlock):w1.cell? ⟨g,n*7+5,none⟩=some y.2.1/\w1.frozen? ⟨g,n*7+5,none⟩=false:=by
 have hn:=(aR.1 hy).1;have a:=h.row.kept hg (gI h.row (h.kids y (bD hy)) b_);refine⟨?_,World.ownsRow.frozenAt a _⟩;rw[World.ownsRow.cellAt a _ a_,xD z n y hy 5 a_];rfl
theorem cD.cellP {B:Nat}{z:List ND}{g cap:Nat}{w w1:World} (h:cD B z (.slice (some ⟨g,0,none⟩) z.length cap) w) {n:Nat}{y:ND} (hy:z[n]?=some y) (hg:w.grownBy w1 y.2.2.ownBlock):w1.cell? ⟨g,n*7+6,none⟩=some y.2.2/\w1.frozen? ⟨g,n*7+6,none⟩=false:=by
 have hn:=(aR.1 hy).1;have a:=h.row.kept hg (gI h.row (h.pcs y (bD hy)) b_);refine⟨?_,World.ownsRow.frozenAt a _⟩;rw[World.ownsRow.cellAt a _ a_,xD z n y hy 6 a_];rfl
theorem Su (w0:World) (P:Nat) (txt:List UInt8) (lv:Nat) (IH:VC w0 P txt lv) (b:Nat) (had:List (List UInt8)) (w:World) (rest:List aN) (l:Sp) (nodes:List aH) (lev:Int) (X Y:Nat)
  (hX:w.cell? ⟨X,0,none⟩=some (.pointer (some ⟨P,0,none⟩))) (hY:w.cell? ⟨Y,0,none⟩=some (.map (some b)))
  (h:J w0.heap.size P txt rest l nodes w) (hb:Below w0.heap.size w0 w) (ht:TB txt rest) (hN:nodes.length+rest.length<=131074) (hl:lev=33-(lv:Int)) (hm:HM b had w) (hBb:w0.heap.size<=b) (hhad:had.length<=65537) (hs:txt.length<=65536) (hSV:eB w0) (hT:cW w0):
  Calls Tryz.prog 191 #[lev,some X,some Y] w (ME w0.heap.size P b txt (gF txt (bI txt lv) true had rest l nodes) w):=by
 have C:=hid (Ss w0 P txt lv IH b had w rest l nodes lev h hb ht hN hl hm hBb hhad hs hSV hT);obtain⟨R,c⟩:=exQ<|gF txt (bI txt lv) true had rest l nodes;rw[c] at C ⊢;clear c h hb ht hl IH hm;obtain⟨Q,had2⟩:=R;cases Q with
 | ok rr l2 ns=>
  go_enter Tryz.func191,Tryz.ntmps191;go_wp2_with fail;refine C.out.mono ?_;rintro e w1 ⟨rfl,f,g,d⟩;go_wp2_with fail;go_ret;exact⟨rfl,f,g,d⟩
 | bad a er=>
  go_enter Tryz.func191,Tryz.ntmps191;exact fj
end
end Go.Proofs.YtfhjncbdgjlcoaaGreatDoor
