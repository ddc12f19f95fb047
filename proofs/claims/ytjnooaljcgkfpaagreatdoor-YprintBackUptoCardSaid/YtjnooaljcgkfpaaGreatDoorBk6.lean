import Derived.Test.YtjnooaljcgkfpaaGreatDoorBk4
import Derived.Test.YtjnooaljcgkfpaaGreatDoorBk3
import Derived.Deep.DeepCutAuto
import Derived.Test.YtjnooaljcgkfpaaGreatDoorBk5
import Derived.Maps.Own
import Derived.Maps.OwnOps
import Derived.Maps.Views
import Derived.Deep.RegionHeld3
import Derived.Deep.RegionLaw
set_option maxRecDepth 100000
set_option maxHeartbeats 8000000
namespace Go.Proofs.YtjnooaljcgkfpaaGreatDoor
set_option linter.unusedVariables false
set_option linter.unusedSimpArgs false
section
open Go.RowKit
open Go.Lib hiding intOf
def J (B P:Nat) (txt:List UInt8) (rest:List aS) (l:Sp) (nodes:List aF) (w:World):Prop:=
 ∃rv z nv,cK w P txt rv l nv 0 0/\TV w rv rest/\z.map (·.1)=nodes/\cI B z nv w/\B<=P
theorem J.keep {B P:Nat}{txt:List UInt8}{rest:List aS}{l:Sp}{nodes:List aF}{w w':World} (h:J B P txt rest l nodes w) (hb:Below w.heap.size w w'):J B P txt rest l nodes w':=by
 obtain⟨rv,z,nv,a,b,c,d,e⟩:=h;exact⟨rv,z,nv,a.keep hb,b.keep hb,c,d.keep hb,e⟩
def tP (B P N:Nat) (a:Nat) (er:Int) (w:World):Prop:= ∃txt rv l z nv,cK w P txt rv l nv a er/\cI B z nv w/\B<=P/\N<=z.length
theorem tP.mono {B P N M:Nat}{a:Nat}{er:Int}{w:World} (h:tP B P N a er w) (hm:M<=N):tP B P M a er w:=by
 obtain⟨txt,rv,l,z,nv,b,c,d,e⟩:=h;exact⟨txt,rv,l,z,nv,b,c,d,aV hm e⟩
def nodesN (P:Nat) (w:World):Nat:=match w.cell? ⟨P,4,none⟩ with
 | some (.slice _ n _)=>n
 | _=>0
theorem J.nodesN {B P:Nat}{txt:List UInt8}{rest:List aS}{l:Sp}{nodes:List aF}{w:World} (h:J B P txt rest l nodes w):nodesN P w=nodes.length:=by
 obtain⟨rv,z,nv,a,h2,b,d,h5⟩:=h;obtain⟨p,c,rfl⟩:=d.slice;have:=a.cells.2.2.2.2.1;unfold Go.Proofs.YtjnooaljcgkfpaaGreatDoor.nodesN;rw[this,<-b,cA]
theorem iB (w:World) (P i:Nat) (u:Value):w.grownBy (w.setCell ⟨P,i,none⟩ u) (some P):=
 ⟨rfl,rfl,rfl,by simp[World.setCell],λk _ a=>eQ w ⟨P,i,none⟩ u k (λe=>a (by rw[e]))⟩
theorem tQ {w w1 w2:World}{r:Option Nat} (h1:w.grownBy w1 r) (h2:w1.grownBy w2 r):w.grownBy w2 r:=
 ⟨h2.os.trans h1.os,h2.tape.trans h1.tape,h2.output.trans h1.output,aV h1.size h2.size,λk b a=>(h2.block k (iI b h1.size) a).trans (h1.block k b a)⟩
theorem tR (B P:Nat) (txt:List UInt8) (rest:List aS) (l:Sp) (nodes:List aF) (w:World) (h:J B P txt rest l nodes w) (hr:rest.length<=1073741824):
  Calls Tryz.prog 202 #[.pointer (some ⟨P,0,none⟩)] w λe w'=>e= .returned (.int .i64 (fG rest:Int))/\w=w':=by
 obtain⟨rv,z,nv,b,a,_⟩:=h;obtain⟨c0,c1,c2,c3,c4,c5,c6,_⟩:=b.cells;cases rest with
 | nil=>
  obtain⟨p,c,rfl⟩:=a.empty;clear b a;go_enter Tryz.func202,Tryz.ntmps202;go_wp2_with fail;go_ret;exact⟨rfl,rfl⟩
 | cons t r=>
  obtain⟨g,o,c,rfl,hc,k0,k1,k2,_⟩:=a.head;have d0:(((r.length:Int)+1)==0)=false:=aG.2 (by omega);have d1:(((r.length+1:Nat):Int)==0)=false:=aG.2 (by omega);clear b a;go_enter Tryz.func202,Tryz.ntmps202;go_wp2_with fail;go_ret;exact⟨rfl,rfl⟩
theorem Ds (B P:Nat) (txt:List UInt8) (rest:List aS) (l:Sp) (nodes:List aF) (w:World) (h:J B P txt rest l nodes w) (hr:rest.length<=1073741824) (hs:txt.length<=1073741824):
  Calls Tryz.prog 208 #[.pointer (some ⟨P,0,none⟩)] w λe w'=>e= .returned (.int .i64 (fC txt.length rest:Int))/\w=w':=by
 obtain⟨rv,z,nv,b,a,_⟩:=h;obtain⟨c0,c1,c2,c3,c4,c5,c6,_⟩:=b.cells;have sl:=aQ txt;cases rest with
 | nil=>
  obtain⟨p,c,rfl⟩:=a.empty;clear b a;go_enter Tryz.func208,Tryz.ntmps208;go_wp2_with fail;go_ret;exact⟨rfl,rfl⟩
 | cons t r=>
  obtain⟨g,o,c,rfl,hc,k0,k1,k2,_⟩:=a.head;have d0:(((r.length:Int)+1)==0)=false:=aG.2 (by omega);have d1:(((r.length+1:Nat):Int)==0)=false:=aG.2 (by omega);clear b a;go_enter Tryz.func208,Tryz.ntmps208;go_wp2_with fail;go_ret;exact⟨rfl,rfl⟩
theorem cK.put {w:World}{P:Nat}{txt:List UInt8}{rv nv:Value}{l:Sp}{a:Nat}{er:Int} (h:cK w P txt rv l nv a er) (a2:Nat) (e2:Int):
  cK ((w.setCell ⟨P,5,none⟩ (.int .i64 a2)).setCell ⟨P,6,none⟩ (.int .i64 e2)) P txt rv l nv a2 e2:=by
 unfold cK at h ⊢;simp[World.setCell,Array.getElem?_modify,h]
def Dt (B P:Nat) (a:Nat) (er:Int) (w:World) (e:Ending) (w':World):Prop:=e= .returned (.bool false)/\tP B P (nodesN P w) a er w'/\Fr B P w w'
theorem pQ (B P:Nat) (txt:List UInt8) (rest:List aS) (l:Sp) (nodes:List aF) (er:Int) (w:World) (h:J B P txt rest l nodes w) (hr:rest.length<=1073741824) (hs:txt.length<=1073741824):
  Calls Tryz.prog 178 #[.pointer (some ⟨P,0,none⟩), .int .i64 er] w (Dt B P (fC txt.length rest) er w):=by
 have C:=hid (Ds B P txt rest l nodes w h hr hs);have g:=h.nodesN;obtain⟨rv,z,nv,d,m,b,c,a⟩:=h;have f:=hid (c.other d (by decide) (by decide) (by decide) (tQ (iB w P 5 (.int .i64 (fC txt.length rest:Int))) (iB _ P 6 (.int .i64 er))));have k:Hid (nodesN P w<=z.length):=hid (by rw[g,<-b,cA];exact aD _);obtain⟨c0,c1,c2,c3,c4,c5,c6,f1,f2,f3,f4,f5,f6⟩:=d.cells;have j:=hid (d.put (fC txt.length rest) er);have n:=hid ((Fr.setP (B:=B) (P:=P) (i:=5) (w:=w) (u:= .int .i64 (fC txt.length rest:Int)) a).trans (Fr.setP (i:=6) (u:= .int .i64 er) a));clear d m g b c;go_enter Tryz.func178,Tryz.ntmps178;go_wp2_with fail;refine C.out.mono ?_;rintro e w1 ⟨rfl,rfl⟩;go_wp2_with fail;go_ret;exact⟨rfl,⟨_,_,_,_,_,j.out,f.out,a,k.out⟩,n.out⟩
theorem cK.step {w:World}{P:Nat}{txt:List UInt8}{rv nv:Value}{l:Sp}{a:Nat}{er:Int} (h:cK w P txt rv l nv a er) (rv2:Value) (l2:Sp):
  cK (((w.setCell ⟨P,2,none⟩ (.int .i64 l2.1)).setCell ⟨P,3,none⟩ (.int .i64 l2.2)).setCell ⟨P,1,none⟩ rv2) P txt rv2 l2 nv a er:=by
 unfold cK at h ⊢;simp[World.setCell,Array.getElem?_modify,h]
theorem Du (B P:Nat) (txt:List UInt8) (t:aS) (r:List aS) (l:Sp) (nodes:List aF) (w:World) (h:J B P txt (t::r) l nodes w) (hr:r.length<=1073741824):
  Calls Tryz.prog 203 #[.pointer (some ⟨P,0,none⟩)] w λe w'=>e= .returned (.tuple #[])/\J B P txt r (t.sf,t.st) nodes w'/\w.grownBy w' (some P):=by
 obtain⟨rv,z,nv,f,n,p,k,i⟩:=h;obtain⟨c0,c1,c2,c3,c4,c5,c6,f1,f2,f3,f4,f5,f6⟩:=f.cells;obtain⟨g,o,c,rfl,hc,k0,k1,k2,d⟩:=n.head;have s:=hid (f.step (.slice (if c=1 then some ⟨g,o,none⟩ else some ⟨g,o+3,none⟩) r.length (c-1)) (t.sf,t.st));have j:=hid (tQ (tQ (iB w P 2 (.int .i64 (t.sf:Int))) (iB _ P 3 (.int .i64 (t.st:Int)))) (iB _ P 1 (.slice (if c=1 then some ⟨g,o,none⟩ else some ⟨g,o+3,none⟩) r.length (c-1))));have m:=hid f;have u:=hid d;have q:=hid k;have d0:(0:Int)<(r.length:Int)+1:=by omega
 have d1:(1:Int)<=(r.length:Int)+1:=by omega
 have d2:(r.length:Int)+1<=(c:Int):=by omega
 clear f n d k;go_enter Tryz.func203,Tryz.ntmps203;go_wp2_with fail;go_region;go_end0;refine⟨rfl,J.keep ⟨_,z,nv,s.out,u.out.same (λg2 cur b=>?_),p,q.out.other m.out (by decide) (by decide) (by decide) j.out,i⟩ (aB _ _).drew,tQ j.out ⟨rfl,rfl,rfl,aD _,λ_ _ _=>rfl⟩⟩
 ·refine j.out.block g2 (aE b) (λe=>?_);have e2:g2=P:=bC e;subst e2;have a:=m.out;unfold cK at a;rw[b] at a;injection a with a;injection a with _ a;exact absurd a (by decide)
theorem Fr.ofP {B P:Nat}{w w':World} (hg:w.grownBy w' (some P)) (hBP:B<=P) (hB:B<=w.heap.size):Fr B P w w':=
 ⟨(aB B w).grown hg hB (λk a=>by cases a;exact hBP),hg.size,λk o a b _=>by rw[hg.block k (aE a) (λe=>b (bC e))];exact a⟩
theorem tS (B P:Nat) (txt:List UInt8) (t:aS) (r:List aS) (l:Sp) (nodes:List aF) (w:World) (h:J B P txt (t::r) l nodes w) (hr:r.length<=1048576) (k:Nat) (hk:t.kind=k):
  Calls Tryz.prog 217 #[.pointer (some ⟨P,0,none⟩), .int .i64 (k:Int)] w λe w'=>e= .returned (.bool true)/\J B P txt r (t.sf,t.st) nodes w'/\w.grownBy w' (some P):=by
 have C1:=tR B P txt (t::r) l nodes w h (by simp only[aL];omega);have a:fG (t::r)=k:=hk;rw[a] at C1;have b:=hid C1;have c:=hid (Du B P txt t r l nodes w h (by omega));have d0:((k:Int) !=(k:Int))=false:=by rw[bne,beq_self_eq_true];rfl
 clear C1 h hk a;go_enter Tryz.func217,Tryz.ntmps217;go_wp2_with fail;refine b.out.mono ?_;rintro e w1 ⟨rfl,rfl⟩;go_wp2_with fail;refine c.out.mono ?_;rintro e w2 ⟨rfl,d,f⟩;go_wp2_with fail;go_ret;exact⟨rfl,d,f⟩
theorem sH (B P:Nat) (txt:List UInt8) (rest:List aS) (l:Sp) (nodes:List aF) (w:World) (h:J B P txt rest l nodes w) (hr:rest.length<=1048577) (k:Nat) (hk:fG rest≠k):
  Calls Tryz.prog 217 #[.pointer (some ⟨P,0,none⟩), .int .i64 (k:Int)] w λe w'=>e= .returned (.bool false)/\w=w':=by
 have C1:=tR B P txt rest l nodes w h (by omega);obtain⟨q,b⟩:=exQ<|fG rest;rw[b] at C1 hk;have a:=hid C1;have d0:((q:Int) !=(k:Int))=true:=gP.2 (by omega);clear C1 h hk b;go_enter Tryz.func217,Tryz.ntmps217;go_wp2_with fail;refine a.out.mono ?_;rintro e w1 ⟨rfl,rfl⟩;go_wp2_with fail;go_ret;exact⟨rfl,rfl⟩
theorem Ah (k:Nat) (w:World):Calls Tryz.prog 201 #[.int .i64 (k:Int)] w λe w'=>e= .returned (.int .i64 (eJ k:Int))/\w=w':=by
 unfold eJ;by_cases h12:k=12
 ·subst h12;go_enter Tryz.func201,Tryz.ntmps201;go_wp2_with fail;go_ret;exact⟨rfl,rfl⟩
 have d12:((k:Int)==12)=false:=aG.2 (by omega);rw[if_neg h12];by_cases h10:k=10
 ·subst h10;go_enter Tryz.func201,Tryz.ntmps201;go_wp2_with fail;go_ret;exact⟨rfl,rfl⟩
 have d10:((k:Int)==10)=false:=aG.2 (by omega);by_cases h11:k=11
 ·subst h11;go_enter Tryz.func201,Tryz.ntmps201;go_wp2_with fail;go_ret;exact⟨rfl,rfl⟩
 have d11:((k:Int)==11)=false:=aG.2 (by omega);rw[if_neg (by omega)];by_cases h9:k=9
 ·subst h9;go_enter Tryz.func201,Tryz.ntmps201;go_wp2_with fail;go_ret;exact⟨rfl,rfl⟩
 have d9:((k:Int)==9)=false:=aG.2 (by omega);rw[if_neg h9];by_cases h8:k=8
 ·subst h8;go_enter Tryz.func201,Tryz.ntmps201;go_wp2_with fail;go_ret;exact⟨rfl,rfl⟩
 have d8:((k:Int)==8)=false:=aG.2 (by omega);rw[if_neg h8];by_cases h4:k=4
 ·subst h4;go_enter Tryz.func201,Tryz.ntmps201;go_wp2_with fail;go_ret;exact⟨rfl,rfl⟩
 have d4:((k:Int)==4)=false:=aG.2 (by omega);rw[if_neg h4];by_cases h2:k=2
 ·subst h2;go_enter Tryz.func201,Tryz.ntmps201;go_wp2_with fail;go_ret;exact⟨rfl,rfl⟩
 have d2:((k:Int)==2)=false:=aG.2 (by omega);rw[if_neg h2];clear h12 h10 h11 h9 h8 h4 h2;go_enter Tryz.func201,Tryz.ntmps201;go_wp2_with fail;go_ret;exact⟨rfl,rfl⟩
end
section
open Go.RowKit Go.Maps Go.WideMaps
open Go.Lib hiding intOf
structure jQ (B P b:Nat) (w w':World):Prop where
 bel:Below B w w'
 sz:w.heap.size<=w'.heap.size
 blk: ∀(k:Nat) (o:Obj),w.heap[k]?=some o->k≠P->k≠b->Ac o->w'.heap[k]?=some o
theorem jQ.trans {B P b:Nat}{w w1 w2:World} (h1:jQ B P b w w1) (h2:jQ B P b w1 w2):jQ B P b w w2:=
 ⟨h1.bel.trans h2.bel,aV h1.sz h2.sz,λk o d hP a c=>h2.blk k o (h1.blk k o d hP a c) hP a c⟩
theorem Fr.toX {B P b:Nat}{w w':World} (h:Fr B P w w'):jQ B P b w w':=⟨h.bel,h.sz,λk o a hP _ c=>h.blk k o a hP c⟩
theorem jQ.grown {B P b:Nat}{w w':World} (hg:w.grownBy w' (some b)) (hB:B<=w.heap.size) (hb:B<=b):jQ B P b w w':=
 ⟨(aB B w).grown hg hB (λk a=>by cases a;exact hb),hg.size,λk o a _ c _=>by rw[hg.block k (aE a) (λe=>c (bC e))];exact a⟩
theorem jQ.out {B P b:Nat}{w w1 w2:World} (h1:Fr B P w w1) (h2:jQ B P b w1 w2) (hb:w.heap.size<=b):Fr B P w w2:=
 ⟨h1.bel.trans h2.bel,aV h1.sz h2.sz,λk o a hP c=>h2.blk k o (h1.blk k o a hP c) hP (by have:=aE a;omega) c⟩
theorem HM.fr {B P b:Nat}{had:List (List UInt8)}{w w':World} (h:HM b had w) (hf:Fr B P w w') (hP:b≠P):HM b had w':=by
 obtain⟨es,c,a⟩:=h.obj;exact h.same ((hf.blk b _ a hP trivial).trans a.symm)
theorem J.map {B P b:Nat}{txt:List UInt8}{rest:List aS}{l:Sp}{nodes:List aF}{w w':World} (h:J B P txt rest l nodes w) {es:Array MapEntry}{c:Nat} (hb:w.heap[b]?=some (.map es c)) (hg:w.grownBy w' (some b)):J B P txt rest l nodes w':=by
 obtain⟨rv,z,nv,p,t,q,i,u⟩:=h;have d: ∀(k:Nat) (o:Obj),w.heap[k]?=some o->(∀es c,o≠ .map es c)->w'.heap[k]?=w.heap[k]?:=λk o j r=>hg.block k (aE j) (λe=>by have e2:k=b:=bC e;subst e2;rw[hb] at j;exact r es c (bC j).symm);have a: ∀ {e:TypeId}{s:Nat}{v:Value}{n:Nat}{xs:List Value},w.ownsRow B e s v n xs->w'.ownsRow B e s v n xs:=λ{e s v n xs} hr=>hr.kept hg (by
  rcases hr.2 with⟨rfl,_⟩ | ⟨g,cap,cur,rfl,_,f,_⟩
  ·exact .inl rfl
  ·refine .inr (λe2=>?_);have e3:g=b:=bC e2;subst e3;rw[hb] at f;cases f)
 refine⟨rv,z,nv,?_,t.same (λg cur j=>d g _ j (λ_ _ h=>by cases h)),q,⟨a i.row,λy m=>a (i.kids y m),λy m=>a (i.pcs y m),i.ak,i.ap⟩,u⟩;have:=d P _ p (λ_ _ h=>by cases h);exact this.trans p
def TB (txt:List UInt8) (rest:List aS):Prop:=rest.length<=65537/\ ∀t∈rest,t.sf<=t.st/\t.st<=txt.length
theorem TB.drop {txt:List UInt8}{rest:List aS} (h:TB txt rest) (k:Nat):TB txt (rest.drop k):=⟨by rw[aZ];have:=h.1;omega,λt a=>h.2 t (List.mem_of_mem_drop a)⟩
def VE (B P:Nat) (txt:List UInt8) (r:JR) (w:World) (e:Ending) (w':World):Prop:=match r with
 | .ok rr l ns=>e= .returned (.bool true)/\J B P txt rr l ns w'/\Fr B P w w'
 | .bad a er=>Dt B P a er w e w'
def VC (w0:World) (P:Nat) (txt:List UInt8) (lv:Nat):Prop:= ∀(w:World) (rest:List aS) (l:Sp) (nodes:List aF) (key:Sp) (lev:Int),J w0.heap.size P txt rest l nodes w->Below w0.heap.size w0 w->TB txt rest->nodes.length+rest.length<=131074->lev=33-(lv:Int)->
 Calls Tryz.prog 177 #[.pointer (some ⟨P,0,none⟩), .int .i64 lev, .agg #[.int .i64 (key.1:Int), .int .i64 (key.2:Int)]] w (VE w0.heap.size P txt (bP txt lv rest l nodes key) w)
theorem Xa (w0:World) (P:Nat) (txt:List UInt8) (lv:Nat) (IH:VC w0 P txt lv) (w:World) (rest:List aS) (l:Sp) (nodes:List aF) (lev:Int) (h:J w0.heap.size P txt rest l nodes w) (hb:Below w0.heap.size w0 w) (ht:TB txt rest) (hN:nodes.length+rest.length<=131074) (hl:lev=33-(lv:Int)):
  Calls Tryz.prog 205 #[.pointer (some ⟨P,0,none⟩), .int .i64 lev] w (VE w0.heap.size P txt (bP txt lv rest l nodes (0,0)) w):=by
 have C:=hid (IH w rest l nodes (0,0) lev h hb ht hN hl);obtain⟨R,d⟩:=exQ<|bP txt lv rest l nodes (0,0);rw[d] at C ⊢;clear d h hb ht hl IH;cases R with
 | ok rr l2 ns=>
  go_enter Tryz.func205,Tryz.ntmps205;go_wp2_with fail;refine C.out.mono ?_;rintro e w1 ⟨rfl,b,c⟩;go_wp2_with fail;go_ret;exact⟨rfl,b,c⟩
 | bad a er=>
  go_enter Tryz.func205,Tryz.ntmps205;go_wp2_with fail;refine C.out.mono ?_;rintro e w1 ⟨rfl,b,c⟩;go_wp2_with fail;go_ret;exact⟨rfl,b,c⟩
theorem Kj: ∀(f:Nat) (l:List UInt8) (i:Nat) (acc:List UInt8),(cN f l i acc).1.length<=acc.length+4*l.length
 | 0,_,_,_=>by simp[cN]
 | _+1,[],_,_=>by simp[cN]
 | f+1,c::r,i,acc=>by
  unfold cN;split
  ·simp
  ·split
   ·simp
   ·rename_i h;have hp:=tH (c::r) (List.cons_ne_nil _ _);obtain⟨P,hP⟩:=exQ<|dE (c::r);rw[hP] at hp h ⊢;have:=Kj f ((c::r).drop P.2.toNat) (i+P.2.toNat) (acc++encodeRune P.1);have a:=Lib.runeCells_le P.1;rw[Lib.runeCells_length] at a;rw[aZ,aI] at this;omega
theorem Xb (l:List UInt8):(fW l).1.length<=4*l.length:=by
 have h:(bZ l 0).1.length<=4*l.length:=by
  unfold bZ;split
  ·have:=Kj (l.length+1) (l.drop ((0:Int).toNat+1)) ((0:Int).toNat+1) [];rw[aZ] at this;simp only[bY] at this;omega
  ·simp
 unfold fW;split
 ·simp
 ·exact h
def ME (B P b:Nat) (txt:List UInt8) (r:JR×List (List UInt8)) (w:World) (e:Ending) (w':World):Prop:=match r with
 | (.ok rr l ns,had)=>e= .returned (.bool true)/\J B P txt rr l ns w'/\HM b had w'/\jQ B P b w w'
 | (.bad a er,_)=>e= .returned (.bool false)/\tP B P (nodesN P w) a er w'/\jQ B P b w w'
abbrev kZ (w:World) (X P:Nat) (txt:List UInt8) (t:aS) (w':World):Prop:=w'.cell? ⟨P,0,none⟩=some (.string (bs txt))/\w'.cell? ⟨X,0,none⟩=some (.int .i64 (t.sf:Int))/\w'.cell? ⟨X,1,none⟩=some (.int .i64 (t.st:Int))/\Hid (Below w.heap.size w w'/\P<w.heap.size/\X<w.heap.size)
theorem kZ.drew {w w1:World}{X P:Nat}{txt:List UInt8}{t:aS} (h:kZ w X P txt t w1):kZ w X P txt t w1.drew:=by
 obtain⟨a,b,c,d⟩:=h;exact⟨a,b,c,hid ⟨d.out.1.drew,d.out.2⟩⟩
theorem kZ.step {w w1 w2:World}{X P:Nat}{txt:List UInt8}{t:aS} (h:kZ w X P txt t w1) (hb:Below w1.heap.size w1 w2):kZ w X P txt t w2:=by
 obtain⟨a,b,c,d⟩:=h;obtain⟨e1,e2,e3⟩:=d.out;have l1:P<w1.heap.size:=iI e2 e1.size;have l2:X<w1.heap.size:=iI e3 e1.size;exact⟨by rw[hb.cell (p:=⟨P,0,none⟩) l1];exact a,by rw[hb.cell (p:=⟨X,0,none⟩) l2];exact b,by rw[hb.cell (p:=⟨X,1,none⟩) l2];exact c,hid ⟨aC e1 hb,e2,e3⟩⟩
theorem kZ.bel {w w1:World}{X P:Nat}{txt:List UInt8}{t:aS} (h:kZ w X P txt t w1):Below w.heap.size w w1:=h.2.2.2.out.1
theorem J.box {B P:Nat}{txt:List UInt8}{rest:List aS}{l:Sp}{nodes:List aF}{w:World} (h:J B P txt rest l nodes w):P<w.heap.size/\B<=P/\w.cell? ⟨P,0,none⟩=some (.string (bs txt))/\ ∀b es c,w.heap[b]?=some (.map es c)->b≠P:=by
 obtain⟨rv,z,nv,a,h2,h3,h4,f⟩:=h;refine⟨a.lt,f,a.cells.1,λb es c d e=>?_⟩;subst e;unfold cK at a;rw[d] at a;cases a
theorem xE (w:World) (cs:Array Value) (t:TypeId) (j:Nat) (u:Value) (h:cs.toList[j]?=some u):(w.alloc (.cells cs t)).cell? ⟨w.heap.size,j,none⟩=some u:=by
 have:=World.news_of_block (w:=w.alloc (.cells cs t)) (heap_alloc_new w _) j u h;have a:((⟨w.heap.size,0,none⟩:Addr).add j)=⟨w.heap.size,j,none⟩:=by unfold Addr.add;split<;>simp_all
 rw[a] at this;exact this
theorem vJ {w w':World}{r:Option Nat} (hg:w.grownBy w' r) {X:Nat} (hX:X<w.heap.size) (hne:some X≠r) (i:Nat):w'.cell? ⟨X,i,none⟩=w.cell? ⟨X,i,none⟩:=kY (hg.block X hX hne) i
theorem Xc (w0:World) (P:Nat) (txt:List UInt8) (lv:Nat) (IH:VC w0 P txt lv) (b:Nat) (had:List (List UInt8)) (w:World) (rest:List aS) (l:Sp) (nodes:List aF) (lev:Int)
  (h:J w0.heap.size P txt rest l nodes w) (hb:Below w0.heap.size w0 w) (ht:TB txt rest) (hN:nodes.length+rest.length<=131074) (hl:lev=33-(lv:Int)) (hm:HM b had w) (hBb:w0.heap.size<=b) (hhad:had.length<=65537) (hs:txt.length<=65536) (hSV:dC w0) (hT:cD w0):
  Calls Tryz.prog 207 #[.pointer (some ⟨P,0,none⟩), .int .i64 lev, .map (some b)] w (ME w0.heap.size P b txt (jN txt (bP txt lv) true had rest l nodes) w):=by
 have T:=ht.1;have C:=hid h.nodesN;obtain⟨az,F,aD,ax⟩:=h.box;obtain⟨es,cm,H⟩:=hm.obj;have ad:b≠P:=ax b es cm H;have CK:=hid (tR _ P txt rest l nodes w h (by omega));have sl:=aQ txt;obtain⟨R,K⟩:=exQ<|jN txt (bP txt lv) true had rest l nodes;rw[K];by_cases h8:fG rest=8
 ·cases rest with
  | nil=>cases h8
  | cons t r=>
   have aw:t.kind=8:=h8;rw[h8] at CK;obtain⟨hss,hst⟩:=ht.2 t fV;have A:jN txt (bP txt lv) true had (t::r) l nodes=if(fW ((txt.drop t.sf).take (t.st-t.sf))).1∈had then(.bad t.sf 7,had) else
     match r with
     | []=>(.bad txt.length 2,(fW ((txt.drop t.sf).take (t.st-t.sf))).1::had)
     | c::r2=>if c.kind≠7 then(.bad c.sf 2,(fW ((txt.drop t.sf).take (t.st-t.sf))).1::had) else
      (bP txt lv r2 (c.sf,c.st) nodes (t.sf,t.st),(fW ((txt.drop t.sf).take (t.st-t.sf))).1::had):=by
    unfold jN;rw[if_neg (by decide)];simp only[aw];rw[if_neg (by simp)];cases r<;>rfl
   rw[A] at K;clear A;obtain⟨U,hU⟩:=exQ<|fW ((txt.drop t.sf).take (t.st-t.sf));obtain⟨key,un,ue⟩:=U;have CU:Hid (∀w',Below w0.heap.size w0 w'->Calls Tryz.prog 143 #[.string ((bs txt).extract t.sf t.st)] w' λe w2=>e= .returned (.tuple #[.string (bs key), .int .i64 un, .int .i64 ue])/\Below w'.heap.size w' w2):=hid (λw' ae=>by have:=zP ((txt.drop t.sf).take (t.st-t.sf)) w' (by rw[cB,aZ];omega) (hSV.keep ae) (hT.keep ae);rw[hU] at this;have e:(bs txt).extract t.sf t.st=bs ((txt.drop t.sf).take (t.st-t.sf)):=(by rw[mT,aW]);rw[e];exact this);have ag:key.length<=1073741824:=by
    have:=Xb ((txt.drop t.sf).take (t.st-t.sf));rw[hU] at this;rw[cB,aZ] at this;simp only[] at this;omega
   rw[hU] at K;simp only[] at K;have HR:=hid K;clear K;have ba:=aH w (.cells #[.int .i64 (t.sf:Int), .int .i64 (t.st:Int)] 76);have hS:kZ (w.alloc (.cells #[.int .i64 (t.sf:Int), .int .i64 (t.st:Int)] 76)) w.heap.size P txt t (w.alloc (.cells #[.int .i64 (t.sf:Int), .int .i64 (t.st:Int)] 76)):=
    ⟨by rw[ba.cell (p:=⟨P,0,none⟩) az];exact aD,xE w _ _ 0 _ rfl,xE w _ _ 1 _ rfl,hid ⟨aB _ _,by simp;omega,by simp⟩⟩
   have aE:=hid (h.keep ba);have an:=hid (World.ownsMap.alloc hm (.cells #[.int .i64 (t.sf:Int), .int .i64 (t.st:Int)] 76));obtain⟨rv,z,nv,jb,jt,_⟩:=h;obtain⟨q0,q1,_⟩:=jb.cells;obtain⟨g,o,c,rfl,hc,k0,k1,k2,_⟩:=jt.head;have d0:(0:Int)<(r.length:Int)+1:=(by omega);have i1:(0:Int)<=(t.sf:Int):=(by omega);have i2:(t.sf:Int)<=(t.st:Int):=(by omega);have i3:(t.st:Int)<=(txt.length:Int):=(by omega);have HW:=hid hb;have af:w0.heap.size<=w.heap.size:=hb.size;have aa:Hid (∀w',Below (w.alloc (.cells #[.int .i64 (t.sf:Int), .int .i64 (t.st:Int)] 76)).heap.size (w.alloc (.cells #[.int .i64 (t.sf:Int), .int .i64 (t.st:Int)] 76)) w'->Below w0.heap.size w0 w'):=hid (λw' h'=>(hb.trans (ba.mono af)).trans (h'.mono (by simp;omega)));have am:Hid (Fr w0.heap.size P w (w.alloc (.cells #[.int .i64 (t.sf:Int), .int .i64 (t.st:Int)] 76))):=hid (Fr.of_below ba af);have O:(w.alloc (.cells #[.int .i64 (t.sf:Int), .int .i64 (t.st:Int)] 76)).heap.size=w.heap.size+1:=(by simp);have hbl:b<w.heap.size:=hm.lt;have al:Hid (keyOf Tryz.prog 9 (.string (bs key))=some (.string key)):=hid (by have:=keyOf_string_mk (P:=Tryz.prog) Tryz.underlying9 (s:=bs key) (by rw[aQ];unfold maxLen;omega);rw[aW] at this;exact this);have ap:=hid ag;have ao:=hid ht;clear jb jt hU hb ba ag hm H ht;go_enter Tryz.func207,Tryz.ntmps207;go_wp2_with fail;refine CK.out.mono ?_;rintro e w1 ⟨rfl,rfl⟩;go_upto_region 4 with fail;go_region_held3 (λw'=>kZ (w.alloc (.cells #[.int .i64 (t.sf:Int), .int .i64 (t.st:Int)] 76)) w.heap.size P txt t w') ((first | exact kZ.drew (by assumption) | exact kZ.step (by assumption) (by assumption) | assumption))
    ((go_at_call 143;(with_reducible refine(CU.out _ (aa.out _ (kZ.bel (by assumption:kZ (w.alloc (.cells #[.int .i64 (t.sf:Int), .int .i64 (t.st:Int)] 76)) w.heap.size P txt t _)))).mono ?_);rintro e w5 ⟨rfl,au⟩;have E:kZ (w.alloc (.cells #[.int .i64 (t.sf:Int), .int .i64 (t.st:Int)] 76)) w.heap.size P txt t w5:=kZ.step (by assumption) au))
   have j:=E.bel;have W:=hid (aE.out.keep j);have M:Hid (HM b had w5):=hid (HM.same an.out (j.block b (by rw[O];omega)));have ai:Hid (Fr w0.heap.size P w w5):=hid (am.out.trans (Fr.of_below j (by rw[O];omega)));have x0:w5.cell? ⟨w.heap.size,0,none⟩=some (.int .i64 (t.sf:Int)):=E.2.1;have x1:w5.cell? ⟨w.heap.size,1,none⟩=some (.int .i64 (t.st:Int)):=E.2.2.1;have ak:w.heap.size<w5.heap.size:=by have:=j.size;rw[O] at this;omega
   have k:=M.out.look key ap.out;clear E j hS;by_cases hk:key∈had
   ·rw[aN hk] at k;have D:=hid (HR.out.symm.trans (if_pos hk));have CF:=hid (pQ _ P txt (t::r) l nodes 7 w5 W.out (by simp only[aL] at T ⊢;omega) (by omega));clear hk x0 x1;go_wp2_with fail;refine CF.out.mono ?_;rintro e w6 ⟨rfl,S,X⟩;go_wp2_with fail;go_ret;rw[D.out];exact⟨rfl,S.mono (pN (C.out.trans W.out.nodesN.symm)),(ai.out.trans X).toX⟩
   ·rw[aJ hk] at k;have Y:=hid (HR.out.symm.trans (if_neg hk));obtain⟨es5,cm5,x⟩:=M.out.obj;have aq:=hid x;have G:w5.ownsMap Tryz.prog 9 (plainElem Tryz.prog 4) b had.length (rC had):=M.out;clear hk x;go_wp2_with (at_mapUpdate;refine wpList_mapUpdate_own _ rfl _ _ _ 92 rfl 9 4 Ag Tryz.underlying92 _ b had.length _ rfl G (by unfold maxLen;omega) _ _ (.string key) rfl rfl al.out _ [] (plainElem_bool Tryz.underlying4 true) ?_;intro w6 u n);have aj:Hid (HM b (key::had) w6):=hid u;have av:=hid (W.out.map aq.out n);have N:Hid (jQ w0.heap.size P b w w6):=hid (ai.out.toX.trans (jQ.grown n (by omega) hBb));have y0:w6.cell? ⟨w.heap.size,0,none⟩=some (.int .i64 (t.sf:Int)):=by rw[vJ n ak (by simp;omega)];exact x0
    have y1:w6.cell? ⟨w.heap.size,1,none⟩=some (.int .i64 (t.st:Int)):=by rw[vJ n ak (by simp;omega)];exact x1
    have ah:w.heap.size<w6.heap.size:=by have:=n.size;omega
    clear G u n k x0 x1;have CSk:=hid (Du _ P txt t r l nodes w6 av.out (by simp only[aL] at T;omega));have ay:r.length<=65536:=by simp only[aL] at T;omega
    cases r with
    | nil=>
     have D:Hid (R=(.bad txt.length 2,key::had)):=Y;go_wp2_with fail;refine CSk.out.mono ?_;rintro e w7 ⟨rfl,d,f⟩;have y:=hid (N.out.trans (Fr.ofP (B:=w0.heap.size) f F (by omega)).toX);have CT:=hid (sH _ P txt [] _ nodes w7 d (by simp) 7 (by decide));have Z:=hid d.nodesN;have CF:=hid (pQ _ P txt [] _ nodes 2 w7 d (by simp) (by omega));clear d f y0 y1;go_wp2_with fail;refine CT.out.mono ?_;rintro e w8 ⟨rfl,rfl⟩;go_wp2_with fail;refine CF.out.mono ?_;rintro e w9 ⟨rfl,m,i⟩;go_wp2_with fail;go_ret;rw[D.out];exact⟨rfl,m.mono (pN (C.out.trans Z.out.symm)),y.out.trans i.toX⟩
    | cons c r2=>
     simp only[aL] at ay;by_cases h7:c.kind=7
     ·have D:Hid (R=(bP txt lv r2 (c.sf,c.st) nodes (t.sf,t.st),key::had)):=hid (Y.out.trans (if_neg (λh=>h h7)));go_wp2_with fail;refine CSk.out.mono ?_;rintro e w7 ⟨rfl,d,f⟩;have y:=hid (N.out.trans (Fr.ofP (B:=w0.heap.size) f F (by omega)).toX);have L:Hid (HM b (key::had) w7):=hid (aj.out.same (f.block b aj.out.lt (by simpa using ad)));have CT:=hid (tS _ P txt c r2 _ nodes w7 d (by omega) 7 h7);have v0:w7.cell? ⟨w.heap.size,0,none⟩=some (.int .i64 (t.sf:Int)):=by rw[vJ f ah (by simp;omega)];exact y0
      have v1:w7.cell? ⟨w.heap.size,1,none⟩=some (.int .i64 (t.st:Int)):=by rw[vJ f ah (by simp;omega)];exact y1
      have I:w.heap.size<w7.heap.size:=by have:=f.size;omega
      clear d f y0 y1 h7;go_wp2_with fail;refine CT.out.mono ?_;rintro e w8 ⟨rfl,ab,v⟩;have V:=hid (y.out.trans (Fr.ofP (B:=w0.heap.size) v F (by omega)).toX);have aC:Hid (HM b (key::had) w8):=hid (L.out.same (v.block b L.out.lt (by simpa using ad)));have u0:w8.cell? ⟨w.heap.size,0,none⟩=some (.int .i64 (t.sf:Int)):=by rw[vJ v I (by simp;omega)];exact v0
      have u1:w8.cell? ⟨w.heap.size,1,none⟩=some (.int .i64 (t.st:Int)):=by rw[vJ v I (by simp;omega)];exact v1
      have aA:=hid ab.nodesN;have CV:=hid (IH w8 r2 (c.sf,c.st) nodes (t.sf,t.st) (33-(lv:Int)) ab (HW.out.trans V.out.bel) (ao.out.drop 2) (by simp only[aL] at hN;omega) rfl);obtain⟨Q,hQ⟩:=exQ<|bP txt lv r2 (c.sf,c.st) nodes (t.sf,t.st);rw[hQ] at CV D;clear ab v v0 v1 hQ;cases Q with
      | ok rr l2 ns=>
       go_wp2_with fail;refine CV.out.mono ?_;rintro e w9 ⟨rfl,m,i⟩;have ar:=hid (aC.out.fr i ad);go_wp2_with fail;go_ret;rw[D.out];exact⟨rfl,m,ar.out,V.out.trans i.toX⟩
      | bad a er=>
       go_wp2_with fail;refine CV.out.mono ?_;rintro e w9 ⟨rfl,m,i⟩;go_wp2_with fail;go_ret;rw[D.out];exact⟨rfl,m.mono (pN (C.out.trans aA.out.symm)),V.out.trans i.toX⟩
     ·have D:Hid (R=(.bad c.sf 2,key::had)):=hid (Y.out.trans (if_pos h7));go_wp2_with fail;refine CSk.out.mono ?_;rintro e w7 ⟨rfl,d,f⟩;have y:=hid (N.out.trans (Fr.ofP (B:=w0.heap.size) f F (by omega)).toX);have CT:=hid (sH _ P txt (c::r2) _ nodes w7 d (by simp only[aL];omega) 7 h7);have Z:=hid d.nodesN;have CF:=hid (pQ _ P txt (c::r2) _ nodes 2 w7 d (by simp only[aL];omega) (by omega));clear d f y0 y1 h7;go_wp2_with fail;refine CT.out.mono ?_;rintro e w8 ⟨rfl,rfl⟩;go_wp2_with fail;refine CF.out.mono ?_;rintro e w9 ⟨rfl,m,i⟩;go_wp2_with fail;go_ret;rw[D.out];exact⟨rfl,m.mono (pN (C.out.trans Z.out.symm)),y.out.trans i.toX⟩
 ·have A:jN txt (bP txt lv) true had rest l nodes=(.bad (fC txt.length rest) 2,had):=by
   unfold jN;rw[if_neg (by decide)];cases rest with
   | nil=>rfl
   | cons t r=>exact if_pos h8
  rw[A] at K;subst K;have CF:=hid (pQ _ P txt rest l nodes 2 w h (by omega) (by omega));obtain⟨q,hq⟩:=exQ<|fG rest;rw[hq] at CK h8;have d8:((q:Int) !=8)=true:=gP.2 (by omega);clear A hq h8;go_enter Tryz.func207,Tryz.ntmps207;go_wp2_with fail;refine CK.out.mono ?_;rintro e w1 ⟨rfl,rfl⟩;go_wp2_with fail;refine CF.out.mono ?_;rintro e w6 ⟨rfl,S,X⟩;go_wp2_with fail;go_ret;exact⟨rfl,S,X.toX⟩
theorem Tryz.infoInt:(Tryz.prog.info? 3).map (λi=>(i.zero,i.size,i.bytes))=some (some (.int .i64 0),1,8):=by kernel_rfl
theorem Tryz.infoSpan:(Tryz.prog.info? 76).map (λi=>(i.zero,i.size,i.bytes))=some (some (.agg #[.int .i64 0, .int .i64 0]),2,16):=by kernel_rfl
theorem Tryz.infoNode:(Tryz.prog.info? 215).map (λi=>(i.zero,i.size,i.bytes))=some (some (.agg #[.int .i64 0, .int .i64 0, .int .i64 0, .int .i64 0, .int .i64 0, .slice none 0 0, .slice none 0 0]),7,88):=by kernel_rfl
theorem vK {w:World}{B:Nat}{e:TypeId}{s:Nat}{v:Value}{n:Nat}{xs:List Value} (h:w.ownsRow B e s v n xs): ∀k,v.ownBlock=some k-> ∃cur,w.heap[k]?=some (.cells cur e (0,0)):=by
 intro k a;rcases h.2 with⟨rfl,_⟩ | ⟨g,cap,cur,rfl,_,b,_⟩
 ·cases a
 ·have:g=k:=bC a;subst this;exact⟨cur,b⟩
theorem vL {w w':World}{P:Nat}{txt:List UInt8}{rv nv:Value}{l:Sp}{a:Nat}{er:Int}{rest:List aS}{r:Option Nat} (hb:cK w P txt rv l nv a er) (ht:TV w rv rest) (hg:w.grownBy w' r)
  (hr: ∀k,r=some k-> ∃cs t,w.heap[k]?=some (.cells cs t (0,0))/\t≠209/\t≠211):cK w' P txt rv l nv a er/\TV w' rv rest:=by
 refine⟨?_,ht.same (λg cur c=>hg.block g (aE c) (λe=>?_))⟩
 ·refine(hg.block P hb.lt (λe=>?_)).trans hb;obtain⟨cs,t,d,f,_⟩:=hr P e.symm;have b:=hb;unfold cK at b;rw[d] at b;injection b with b;injection b with _ b;exact f b
 ·obtain⟨cs,t,d,_,f⟩:=hr g e.symm;rw[d] at c;injection c with c;injection c with _ c;exact f c
theorem xF (w:World) (cs:Array Value) (t:TypeId): ∀j u,cs.toList[j]?=some u->(w.alloc (.cells cs t)).cell? ((⟨w.heap.size,0,none⟩:Addr).add j)=some u:=
 λj u a=>World.news_of_block (w:=w.alloc (.cells cs t)) (heap_alloc_new w _) j u a
theorem xG {w w':World}{o:Obj}{r:Option Nat} (h:(w.alloc o).grownBy w' r):w.grownBy w' r:=(World.grownBy_alloc w o r).trans h
theorem Kk {ops:Array Oper}{rest:List Oper}{o:Oper}{a:Act}{Q:Exit->Act->World->Prop} (hgd:o.guard=none) (s x:Operand)
  (ho:o.op= .call { callee:= .builtin .append,args:= #[s,x],argTypes:= #[98,98] })
  (B:Nat) (w:World) (v:Value) (l:List Nat) (k:Nat) (hs:a.eval s=v) (hown:w.ownsRow B 3 1 v l.length (eO l)) (hx:a.eval x= .slice (some ⟨w.heap.size,0,none⟩) 1 1) (hl:l.length<=4294967295) (hB:B<=w.heap.size)
  (hK: ∀kv w',w'.ownsRow B 3 1 kv (l.length+1) (eO l++ [.int .i64 (k:Int)])->w.grownBy w' v.ownBlock->(kv.ownBlock=v.ownBlock\/kv.ownBlock=some (w.heap.size+1))->wpList Tryz.prog ops Q rest (a.put o.dst kv) w'):
  wpList Tryz.prog ops Q (o::rest) a (w.alloc (.cells #[.int .i64 (k:Int)] 3)):=by
 obtain⟨i0,d,c,e,f⟩:=info_parts Tryz.infoInt;refine wpList_append_lies _ hgd s x 98 ho B 3 i0 _ 1 8 Tryz.underlying98 d c e f rfl (by decide) v _ (eO l) hs (World.ownsRow.alloc hown _) ⟨w.heap.size,0,none⟩ 1 1 [.int .i64 (k:Int)] hx (by rfl) (xF w #[.int .i64 (k:Int)] _)
  (λu j=>by rw[jX.1 j];rfl) (by decide) (by unfold maxLen;omega) (by omega) (by simp;omega) _ rfl ?_
 intro g cap w' i h b _;refine hK _ w' i (xG h) ?_;rcases b with b | b
 ·exact .inl b.symm
 ·exact .inr (by rw[b];simp[Value.ownBlock])
theorem Kl {ops:Array Oper}{o:Oper}{a:Act}{K:Act->World->Prop}{Q:Exit->Act->World->Prop}{E:Prop} (hgd:o.guard=none) (s x:Operand)
  (ho:o.op= .call { callee:= .builtin .append,args:= #[s,x],argTypes:= #[71,71] })
  (B:Nat) (w:World) (v:Value) (l:List Sp) (k:Sp) (hs:a.eval s=v) (hown:w.ownsRow B 76 2 v l.length (nB l)) (hx:a.eval x= .slice (some ⟨w.heap.size,0,none⟩) 1 1) (hl:l.length<=4294967295) (hB:B<=w.heap.size)
  (hK: ∀kv w',w'.ownsRow B 76 2 kv (l.length+1) (nB l++ [.int .i64 (k.1:Int), .int .i64 (k.2:Int)])->w.grownBy w' v.ownBlock->(kv.ownBlock=v.ownBlock\/kv.ownBlock=some (w.heap.size+1))->K (a.put o.dst kv) w'):
  if Region.wanted o (yielded ops a.tmps)=true then Oper.wp Tryz.prog o a (w.alloc (.cells #[.int .i64 (k.1:Int), .int .i64 (k.2:Int)] 76)) K Q else E:=by
 obtain⟨i0,d,c,e,f⟩:=info_parts Tryz.infoSpan;refine step_append_lies _ hgd s x 71 ho B 76 i0 _ 2 16 Tryz.underlying71 d c e f rfl (by decide) v _ (nB l) hs (World.ownsRow.alloc hown _) ⟨w.heap.size,0,none⟩ 1 1 [.int .i64 (k.1:Int), .int .i64 (k.2:Int)] hx (by rfl) (xF w #[.int .i64 (k.1:Int), .int .i64 (k.2:Int)] _)
  (λu h=>by
   rcases eV.1 h with rfl | h
   ·rfl
   ·rw[jX.1 h];rfl) (by decide) (by unfold maxLen;omega) (by omega) (by simp;omega) _ rfl ?_
 intro g cap w' j i b _;refine hK _ w' j (xG i) ?_;rcases b with b | b
 ·exact .inl b.symm
 ·exact .inr (by rw[b];simp[Value.ownBlock])
theorem Xd {ops:Array Oper}{o:Oper}{a:Act}{K:Act->World->Prop}{Q:Exit->Act->World->Prop}{E:Prop} (hgd:o.guard=none) (s x:Operand)
  (ho:o.op= .call { callee:= .builtin .append,args:= #[s,x],argTypes:= #[172,172] })
  (B:Nat) (w:World) (v:Value) (z:List ND) (y:aF) (cs:Array Value) (hcs:cs.toList=gD (y, .slice none 0 0, .slice none 0 0)) (hs:a.eval s=v) (hown:w.ownsRow B 215 7 v z.length (jW z)) (hx:a.eval x= .slice (some ⟨w.heap.size,0,none⟩) 1 1) (hl:z.length<=4294967295) (hB:B<=w.heap.size)
  (hK: ∀nv w',w'.ownsRow B 215 7 nv (z.length+1) (jW z++gD (y, .slice none 0 0, .slice none 0 0))->w.grownBy w' v.ownBlock->K (a.put o.dst nv) w'):
  if Region.wanted o (yielded ops a.tmps)=true then Oper.wp Tryz.prog o a (w.alloc (.cells cs 215)) K Q else E:=by
 obtain⟨i0,c,b,d,e⟩:=info_parts Tryz.infoNode;refine step_append_lies _ hgd s x 172 ho B 215 i0 _ 7 88 Tryz.underlying172 c b d e rfl (by decide) v _ (jW z) hs (World.ownsRow.alloc hown _) ⟨w.heap.size,0,none⟩ 1 1 _ hx (by rw[hcs];rfl) (xF w cs _)
  (λu f=>by rw[hcs] at f;simp only[gD,eV,List.not_mem_nil,or_false] at f;rcases f with rfl|rfl|rfl|rfl|rfl|rfl|rfl<;>rfl) (by decide) (by unfold maxLen;omega) (by omega) (by simp;omega) _ rfl ?_
 intro g cap w' h i h7 _;rw[hcs] at h;exact hK _ w' h (xG i)
theorem cI.cellK {B:Nat}{z:List ND}{g cap:Nat}{w w1:World} (h:cI B z (.slice (some ⟨g,0,none⟩) z.length cap) w) {n:Nat}{y:ND} (hy:z[n]?=some y) (hg:w.grownBy w1 y.2.1.ownBlock):w1.cell? ⟨g,n*7+5,none⟩=some y.2.1/\w1.frozen? ⟨g,n*7+5,none⟩=false:=by
 have hn:=(aP.1 hy).1;have a:=h.row.kept hg (jA h.row (h.kids y (bA hy)) (by decide));refine⟨?_,World.ownsRow.frozenAt a _⟩;rw[World.ownsRow.cellAt a _ (by omega),xA z n y hy 5 (by omega)];rfl
theorem cI.cellP {B:Nat}{z:List ND}{g cap:Nat}{w w1:World} (h:cI B z (.slice (some ⟨g,0,none⟩) z.length cap) w) {n:Nat}{y:ND} (hy:z[n]?=some y) (hg:w.grownBy w1 y.2.2.ownBlock):w1.cell? ⟨g,n*7+6,none⟩=some y.2.2/\w1.frozen? ⟨g,n*7+6,none⟩=false:=by
 have hn:=(aP.1 hy).1;have a:=h.row.kept hg (jA h.row (h.pcs y (bA hy)) (by decide));refine⟨?_,World.ownsRow.frozenAt a _⟩;rw[World.ownsRow.cellAt a _ (by omega),xA z n y hy 6 (by omega)];rfl
theorem Xe (w0:World) (P:Nat) (txt:List UInt8) (lv:Nat) (IH:VC w0 P txt lv) (b:Nat) (had:List (List UInt8)) (w:World) (rest:List aS) (l:Sp) (nodes:List aF) (lev:Int) (X Y:Nat)
  (hX:w.cell? ⟨X,0,none⟩=some (.pointer (some ⟨P,0,none⟩))) (hY:w.cell? ⟨Y,0,none⟩=some (.map (some b)))
  (h:J w0.heap.size P txt rest l nodes w) (hb:Below w0.heap.size w0 w) (ht:TB txt rest) (hN:nodes.length+rest.length<=131074) (hl:lev=33-(lv:Int)) (hm:HM b had w) (hBb:w0.heap.size<=b) (hhad:had.length<=65537) (hs:txt.length<=65536) (hSV:dC w0) (hT:cD w0):
  Calls Tryz.prog 206 #[.int .i64 lev, .pointer (some ⟨X,0,none⟩), .pointer (some ⟨Y,0,none⟩)] w (ME w0.heap.size P b txt (jN txt (bP txt lv) true had rest l nodes) w):=by
 have C:=hid (Xc w0 P txt lv IH b had w rest l nodes lev h hb ht hN hl hm hBb hhad hs hSV hT);obtain⟨R,g⟩:=exQ<|jN txt (bP txt lv) true had rest l nodes;rw[g] at C ⊢;clear g h hb ht hl IH hm;obtain⟨Q,had2⟩:=R;cases Q with
 | ok rr l2 ns=>
  go_enter Tryz.func206,Tryz.ntmps206;go_wp2_with fail;refine C.out.mono ?_;rintro e w1 ⟨rfl,c,d,f⟩;go_wp2_with fail;go_ret;exact⟨rfl,c,d,f⟩
 | bad a er=>
  go_enter Tryz.func206,Tryz.ntmps206;go_wp2_with fail;refine C.out.mono ?_;rintro e w1 ⟨rfl,c,f⟩;go_wp2_with fail;go_ret;exact⟨rfl,c,f⟩
end
end Go.Proofs.YtjnooaljcgkfpaaGreatDoor
