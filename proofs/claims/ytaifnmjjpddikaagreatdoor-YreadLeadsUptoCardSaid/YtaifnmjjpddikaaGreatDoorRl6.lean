import Derived.Test.YtaifnmjjpddikaaGreatDoorRl4
import Derived.Test.YtaifnmjjpddikaaGreatDoorRl2
import Derived.Deep.DeepCutAuto
import Derived.Test.YtaifnmjjpddikaaGreatDoorRl5
import Derived.Maps.Own
import Derived.Maps.OwnOps
import Derived.Maps.Views
import Derived.Deep.RegionHeld3
import Derived.Deep.RegionLaw
set_option maxRecDepth 100000
set_option maxHeartbeats 8000000
namespace Go.Proofs.YtaifnmjjpddikaaGreatDoor
set_option linter.unusedVariables false
set_option linter.unusedSimpArgs false
section
open Go.RowKit
open Go.Lib hiding intOf
def J (B P:Nat) (txt:List UInt8) (rest:List aQ) (l:Sp) (nodes:List aD) (w:World):Prop:=
 ∃rv z nv,cK w P txt rv l nv 0 0/\TV w rv rest/\z.map (·.1)=nodes/\cI B z nv w/\B<=P
theorem J.keep {B P:Nat}{txt:List UInt8}{rest:List aQ}{l:Sp}{nodes:List aD}{w w':World} (h:J B P txt rest l nodes w) (hb:Below w.heap.size w w'):J B P txt rest l nodes w':=by
 obtain⟨rv,z,nv,c,d,b,a,e⟩:=h;exact⟨rv,z,nv,c.keep hb,d.keep hb,b,a.keep hb,e⟩
def sN (B P N:Nat) (a:Nat) (er:Int) (w:World):Prop:= ∃txt rv l z nv,cK w P txt rv l nv a er/\cI B z nv w/\B<=P/\N<=z.length
theorem sN.mono {B P N M:Nat}{a:Nat}{er:Int}{w:World} (h:sN B P N a er w) (hm:M<=N):sN B P M a er w:=by
 obtain⟨txt,rv,l,z,nv,c,e,d,b⟩:=h;exact⟨txt,rv,l,z,nv,c,e,d,aY hm b⟩
def nodesN (P:Nat) (w:World):Nat:=match w.cell? ⟨P,4,none⟩ with
 | some (.slice _ n _)=>n
 | _=>0
theorem J.nodesN {B P:Nat}{txt:List UInt8}{rest:List aQ}{l:Sp}{nodes:List aD}{w:World} (h:J B P txt rest l nodes w):nodesN P w=nodes.length:=by
 obtain⟨rv,z,nv,d,h2,b,a,h5⟩:=h;obtain⟨p,c,rfl⟩:=a.slice;have:=d.cells.2.2.2.2.1;unfold Go.Proofs.YtaifnmjjpddikaaGreatDoor.nodesN;rw[this,<-b,bK]
theorem gT (w:World) (P i:Nat) (u:Value):w.grownBy (w.setCell ⟨P,i,none⟩ u) (some P):=
 ⟨rfl,rfl,rfl,by simp[World.setCell],λk _ a=>cP w ⟨P,i,none⟩ u k (λe=>a (by rw[e]))⟩
theorem sO {w w1 w2:World}{r:Option Nat} (h1:w.grownBy w1 r) (h2:w1.grownBy w2 r):w.grownBy w2 r:=
 ⟨h2.os.trans h1.os,h2.tape.trans h1.tape,h2.output.trans h1.output,aY h1.size h2.size,λk b a=>(h2.block k (fV b h1.size) a).trans (h1.block k b a)⟩
theorem sP (B P:Nat) (txt:List UInt8) (rest:List aQ) (l:Sp) (nodes:List aD) (w:World) (h:J B P txt rest l nodes w) (hr:rest.length<=1073741824):
  Calls Tryz.prog 56 #[.pointer (some ⟨P,0,none⟩)] w λe w'=>e= .returned (.int .i64 (eV rest:Int))/\w=w':=by
 obtain⟨rv,z,nv,b,a,_⟩:=h;obtain⟨c0,c1,c2,c3,c4,c5,c6,_⟩:=b.cells;cases rest with
 | nil=>
  obtain⟨p,c,rfl⟩:=a.empty;clear b a;go_enter Tryz.func56,Tryz.ntmps56;go_wp2_with fail;go_ret;exact⟨rfl,rfl⟩
 | cons t r=>
  obtain⟨g,o,c,rfl,hc,k0,k1,k2,_⟩:=a.head;have d0:(((r.length:Int)+1)==0)=false:=aK.2 (by omega);have d1:(((r.length+1:Nat):Int)==0)=false:=aK.2 (by omega);clear b a;go_enter Tryz.func56,Tryz.ntmps56;go_wp2_with fail;go_ret;exact⟨rfl,rfl⟩
theorem Bl (B P:Nat) (txt:List UInt8) (rest:List aQ) (l:Sp) (nodes:List aD) (w:World) (h:J B P txt rest l nodes w) (hr:rest.length<=1073741824) (hs:txt.length<=1073741824):
  Calls Tryz.prog 62 #[.pointer (some ⟨P,0,none⟩)] w λe w'=>e= .returned (.int .i64 (eW txt.length rest:Int))/\w=w':=by
 obtain⟨rv,z,nv,b,a,_⟩:=h;obtain⟨c0,c1,c2,c3,c4,c5,c6,_⟩:=b.cells;have sl:=aT txt;cases rest with
 | nil=>
  obtain⟨p,c,rfl⟩:=a.empty;clear b a;go_enter Tryz.func62,Tryz.ntmps62;go_wp2_with fail;go_ret;exact⟨rfl,rfl⟩
 | cons t r=>
  obtain⟨g,o,c,rfl,hc,k0,k1,k2,_⟩:=a.head;have d0:(((r.length:Int)+1)==0)=false:=aK.2 (by omega);have d1:(((r.length+1:Nat):Int)==0)=false:=aK.2 (by omega);clear b a;go_enter Tryz.func62,Tryz.ntmps62;go_wp2_with fail;go_ret;exact⟨rfl,rfl⟩
theorem cK.put {w:World}{P:Nat}{txt:List UInt8}{rv nv:Value}{l:Sp}{a:Nat}{er:Int} (h:cK w P txt rv l nv a er) (a2:Nat) (e2:Int):
  cK ((w.setCell ⟨P,5,none⟩ (.int .i64 a2)).setCell ⟨P,6,none⟩ (.int .i64 e2)) P txt rv l nv a2 e2:=by
 unfold cK at h ⊢;simp[World.setCell,Array.getElem?_modify,h]
def Bm (B P:Nat) (a:Nat) (er:Int) (w:World) (e:Ending) (w':World):Prop:=e= .returned (.bool false)/\sN B P (nodesN P w) a er w'/\Fr B P w w'
theorem pB (B P:Nat) (txt:List UInt8) (rest:List aQ) (l:Sp) (nodes:List aD) (er:Int) (w:World) (h:J B P txt rest l nodes w) (hr:rest.length<=1073741824) (hs:txt.length<=1073741824):
  Calls Tryz.prog 28 #[.pointer (some ⟨P,0,none⟩), .int .i64 er] w (Bm B P (eW txt.length rest) er w):=by
 have C:=hid (Bl B P txt rest l nodes w h hr hs);have g:=h.nodesN;obtain⟨rv,z,nv,d,k,c,b,a⟩:=h;have f:=hid (b.other d (by decide) (by decide) (by decide) (sO (gT w P 5 (.int .i64 (eW txt.length rest:Int))) (gT _ P 6 (.int .i64 er))));have n:Hid (nodesN P w<=z.length):=hid (by rw[g,<-c,bK];exact aE _);obtain⟨c0,c1,c2,c3,c4,c5,c6,f1,f2,f3,f4,f5,f6⟩:=d.cells;have m:=hid (d.put (eW txt.length rest) er);have j:=hid ((Fr.setP (B:=B) (P:=P) (i:=5) (w:=w) (u:= .int .i64 (eW txt.length rest:Int)) a).trans (Fr.setP (i:=6) (u:= .int .i64 er) a));clear d k g c b;go_enter Tryz.func28,Tryz.ntmps28;go_wp2_with fail;refine C.out.mono ?_;rintro e w1 ⟨rfl,rfl⟩;go_wp2_with fail;go_ret;exact⟨rfl,⟨_,_,_,_,_,m.out,f.out,a,n.out⟩,j.out⟩
theorem cK.step {w:World}{P:Nat}{txt:List UInt8}{rv nv:Value}{l:Sp}{a:Nat}{er:Int} (h:cK w P txt rv l nv a er) (rv2:Value) (l2:Sp):
  cK (((w.setCell ⟨P,2,none⟩ (.int .i64 l2.1)).setCell ⟨P,3,none⟩ (.int .i64 l2.2)).setCell ⟨P,1,none⟩ rv2) P txt rv2 l2 nv a er:=by
 unfold cK at h ⊢;simp[World.setCell,Array.getElem?_modify,h]
theorem Bn (B P:Nat) (txt:List UInt8) (t:aQ) (r:List aQ) (l:Sp) (nodes:List aD) (w:World) (h:J B P txt (t::r) l nodes w) (hr:r.length<=1073741824):
  Calls Tryz.prog 57 #[.pointer (some ⟨P,0,none⟩)] w λe w'=>e= .returned (.tuple #[])/\J B P txt r (t.sf,t.st) nodes w'/\w.grownBy w' (some P):=by
 obtain⟨rv,z,nv,f,n,q,m,j⟩:=h;obtain⟨c0,c1,c2,c3,c4,c5,c6,f1,f2,f3,f4,f5,f6⟩:=f.cells;obtain⟨g,o,c,rfl,hc,k0,k1,k2,b⟩:=n.head;have p:=hid (f.step (.slice (if c=1 then some ⟨g,o,none⟩ else some ⟨g,o+3,none⟩) r.length (c-1)) (t.sf,t.st));have i:=hid (sO (sO (gT w P 2 (.int .i64 (t.sf:Int))) (gT _ P 3 (.int .i64 (t.st:Int)))) (gT _ P 1 (.slice (if c=1 then some ⟨g,o,none⟩ else some ⟨g,o+3,none⟩) r.length (c-1))));have k:=hid f;have s:=hid b;have u:=hid m;have d0:(0:Int)<(r.length:Int)+1:=by omega
 have d1:(1:Int)<=(r.length:Int)+1:=by omega
 have d2:(r.length:Int)+1<=(c:Int):=by omega
 clear f n b m;go_enter Tryz.func57,Tryz.ntmps57;go_wp2_with fail;go_region;go_end0;refine⟨rfl,J.keep ⟨_,z,nv,p.out,s.out.same (λg2 cur d=>?_),q,u.out.other k.out (by decide) (by decide) (by decide) i.out,j⟩ (aB _ _).drew,sO i.out ⟨rfl,rfl,rfl,aE _,λ_ _ _=>rfl⟩⟩
 ·refine i.out.block g2 (aF d) (λe=>?_);have e2:g2=P:=bD e;subst e2;have a:=k.out;unfold cK at a;rw[d] at a;injection a with a;injection a with _ a;exact absurd a (by decide)
theorem Fr.ofP {B P:Nat}{w w':World} (hg:w.grownBy w' (some P)) (hBP:B<=P) (hB:B<=w.heap.size):Fr B P w w':=
 ⟨(aB B w).grown hg hB (λk a=>by cases a;exact hBP),hg.size,λk o a b _=>by rw[hg.block k (aF a) (λe=>b (bD e))];exact a⟩
theorem sQ (B P:Nat) (txt:List UInt8) (t:aQ) (r:List aQ) (l:Sp) (nodes:List aD) (w:World) (h:J B P txt (t::r) l nodes w) (hr:r.length<=1048576) (k:Nat) (hk:t.kind=k):
  Calls Tryz.prog 99 #[.pointer (some ⟨P,0,none⟩), .int .i64 (k:Int)] w λe w'=>e= .returned (.bool true)/\J B P txt r (t.sf,t.st) nodes w'/\w.grownBy w' (some P):=by
 have C1:=sP B P txt (t::r) l nodes w h (by simp only[aV];omega);have a:eV (t::r)=k:=hk;rw[a] at C1;have c:=hid C1;have b:=hid (Bn B P txt t r l nodes w h (by omega));have d0:((k:Int) !=(k:Int))=false:=by rw[bne,beq_self_eq_true];rfl
 clear C1 h hk a;go_enter Tryz.func99,Tryz.ntmps99;go_wp2_with fail;refine c.out.mono ?_;rintro e w1 ⟨rfl,rfl⟩;go_wp2_with fail;refine b.out.mono ?_;rintro e w2 ⟨rfl,f,d⟩;go_wp2_with fail;go_ret;exact⟨rfl,f,d⟩
theorem rH (B P:Nat) (txt:List UInt8) (rest:List aQ) (l:Sp) (nodes:List aD) (w:World) (h:J B P txt rest l nodes w) (hr:rest.length<=1048577) (k:Nat) (hk:eV rest≠k):
  Calls Tryz.prog 99 #[.pointer (some ⟨P,0,none⟩), .int .i64 (k:Int)] w λe w'=>e= .returned (.bool false)/\w=w':=by
 have C1:=sP B P txt rest l nodes w h (by omega);obtain⟨q,b⟩:=exQ<|eV rest;rw[b] at C1 hk;have a:=hid C1;have d0:((q:Int) !=(k:Int))=true:=gD.2 (by omega);clear C1 h hk b;go_enter Tryz.func99,Tryz.ntmps99;go_wp2_with fail;refine a.out.mono ?_;rintro e w1 ⟨rfl,rfl⟩;go_wp2_with fail;go_ret;exact⟨rfl,rfl⟩
theorem yL (k:Nat) (w:World):Calls Tryz.prog 55 #[.int .i64 (k:Int)] w λe w'=>e= .returned (.int .i64 (cU k:Int))/\w=w':=by
 unfold cU;by_cases h12:k=12
 ·subst h12;go_enter Tryz.func55,Tryz.ntmps55;go_wp2_with fail;go_ret;exact⟨rfl,rfl⟩
 have d12:((k:Int)==12)=false:=aK.2 (by omega);rw[if_neg h12];by_cases h10:k=10
 ·subst h10;go_enter Tryz.func55,Tryz.ntmps55;go_wp2_with fail;go_ret;exact⟨rfl,rfl⟩
 have d10:((k:Int)==10)=false:=aK.2 (by omega);by_cases h11:k=11
 ·subst h11;go_enter Tryz.func55,Tryz.ntmps55;go_wp2_with fail;go_ret;exact⟨rfl,rfl⟩
 have d11:((k:Int)==11)=false:=aK.2 (by omega);rw[if_neg (by omega)];by_cases h9:k=9
 ·subst h9;go_enter Tryz.func55,Tryz.ntmps55;go_wp2_with fail;go_ret;exact⟨rfl,rfl⟩
 have d9:((k:Int)==9)=false:=aK.2 (by omega);rw[if_neg h9];by_cases h8:k=8
 ·subst h8;go_enter Tryz.func55,Tryz.ntmps55;go_wp2_with fail;go_ret;exact⟨rfl,rfl⟩
 have d8:((k:Int)==8)=false:=aK.2 (by omega);rw[if_neg h8];by_cases h4:k=4
 ·subst h4;go_enter Tryz.func55,Tryz.ntmps55;go_wp2_with fail;go_ret;exact⟨rfl,rfl⟩
 have d4:((k:Int)==4)=false:=aK.2 (by omega);rw[if_neg h4];by_cases h2:k=2
 ·subst h2;go_enter Tryz.func55,Tryz.ntmps55;go_wp2_with fail;go_ret;exact⟨rfl,rfl⟩
 have d2:((k:Int)==2)=false:=aK.2 (by omega);rw[if_neg h2];clear h12 h10 h11 h9 h8 h4 h2;go_enter Tryz.func55,Tryz.ntmps55;go_wp2_with fail;go_ret;exact⟨rfl,rfl⟩
end
section
open Go.RowKit Go.Maps Go.WideMaps
open Go.Lib hiding intOf
structure iR (B P b:Nat) (w w':World):Prop where
 bel:Below B w w'
 sz:w.heap.size<=w'.heap.size
 blk: ∀(k:Nat) (o:Obj),w.heap[k]?=some o->k≠P->k≠b->yF o->w'.heap[k]?=some o
theorem iR.trans {B P b:Nat}{w w1 w2:World} (h1:iR B P b w w1) (h2:iR B P b w1 w2):iR B P b w w2:=
 ⟨h1.bel.trans h2.bel,aY h1.sz h2.sz,λk o d hP c a=>h2.blk k o (h1.blk k o d hP c a) hP c a⟩
theorem Fr.toX {B P b:Nat}{w w':World} (h:Fr B P w w'):iR B P b w w':=⟨h.bel,h.sz,λk o a hP _ c=>h.blk k o a hP c⟩
theorem iR.grown {B P b:Nat}{w w':World} (hg:w.grownBy w' (some b)) (hB:B<=w.heap.size) (hb:B<=b):iR B P b w w':=
 ⟨(aB B w).grown hg hB (λk a=>by cases a;exact hb),hg.size,λk o a _ c _=>by rw[hg.block k (aF a) (λe=>c (bD e))];exact a⟩
theorem iR.out {B P b:Nat}{w w1 w2:World} (h1:Fr B P w w1) (h2:iR B P b w1 w2) (hb:w.heap.size<=b):Fr B P w w2:=
 ⟨h1.bel.trans h2.bel,aY h1.sz h2.sz,λk o a hP c=>h2.blk k o (h1.blk k o a hP c) hP (by have:=aF a;omega) c⟩
theorem HM.fr {B P b:Nat}{had:List (List UInt8)}{w w':World} (h:HM b had w) (hf:Fr B P w w') (hP:b≠P):HM b had w':=by
 obtain⟨es,c,a⟩:=h.obj;exact h.same ((hf.blk b _ a hP trivial).trans a.symm)
theorem J.map {B P b:Nat}{txt:List UInt8}{rest:List aQ}{l:Sp}{nodes:List aD}{w w':World} (h:J B P txt rest l nodes w) {es:Array MapEntry}{c:Nat} (hb:w.heap[b]?=some (.map es c)) (hg:w.grownBy w' (some b)):J B P txt rest l nodes w':=by
 obtain⟨rv,z,nv,p,u,q,d,t⟩:=h;have i: ∀(k:Nat) (o:Obj),w.heap[k]?=some o->(∀es c,o≠ .map es c)->w'.heap[k]?=w.heap[k]?:=λk o j r=>hg.block k (aF j) (λe=>by have e2:k=b:=bD e;subst e2;rw[hb] at j;exact r es c (bD j).symm);have a: ∀ {e:TypeId}{s:Nat}{v:Value}{n:Nat}{xs:List Value},w.ownsRow B e s v n xs->w'.ownsRow B e s v n xs:=λ{e s v n xs} hr=>hr.kept hg (by
  rcases hr.2 with⟨rfl,_⟩ | ⟨g,cap,cur,rfl,_,f,_⟩
  ·exact .inl rfl
  ·refine .inr (λe2=>?_);have e3:g=b:=bD e2;subst e3;rw[hb] at f;cases f)
 refine⟨rv,z,nv,?_,u.same (λg cur j=>i g _ j (λ_ _ h=>by cases h)),q,⟨a d.row,λy m=>a (d.kids y m),λy m=>a (d.pcs y m),d.ak,d.ap⟩,t⟩;have:=i P _ p (λ_ _ h=>by cases h);exact this.trans p
def TB (txt:List UInt8) (rest:List aQ):Prop:=rest.length<=65537/\ ∀t∈rest,t.sf<=t.st/\t.st<=txt.length
theorem TB.drop {txt:List UInt8}{rest:List aQ} (h:TB txt rest) (k:Nat):TB txt (rest.drop k):=⟨by rw[bB];have:=h.1;omega,λt a=>h.2 t (List.mem_of_mem_drop a)⟩
def VE (B P:Nat) (txt:List UInt8) (r:JR) (w:World) (e:Ending) (w':World):Prop:=match r with
 | .ok rr l ns=>e= .returned (.bool true)/\J B P txt rr l ns w'/\Fr B P w w'
 | .bad a er=>Bm B P a er w e w'
def VC (w0:World) (P:Nat) (txt:List UInt8) (lv:Nat):Prop:= ∀(w:World) (rest:List aQ) (l:Sp) (nodes:List aD) (key:Sp) (lev:Int),J w0.heap.size P txt rest l nodes w->Below w0.heap.size w0 w->TB txt rest->nodes.length+rest.length<=131074->lev=33-(lv:Int)->
 Calls Tryz.prog 27 #[.pointer (some ⟨P,0,none⟩), .int .i64 lev, .agg #[.int .i64 (key.1:Int), .int .i64 (key.2:Int)]] w (VE w0.heap.size P txt (bS txt lv rest l nodes key) w)
theorem Sv (w0:World) (P:Nat) (txt:List UInt8) (lv:Nat) (IH:VC w0 P txt lv) (w:World) (rest:List aQ) (l:Sp) (nodes:List aD) (lev:Int) (h:J w0.heap.size P txt rest l nodes w) (hb:Below w0.heap.size w0 w) (ht:TB txt rest) (hN:nodes.length+rest.length<=131074) (hl:lev=33-(lv:Int)):
  Calls Tryz.prog 59 #[.pointer (some ⟨P,0,none⟩), .int .i64 lev] w (VE w0.heap.size P txt (bS txt lv rest l nodes (0,0)) w):=by
 have C:=hid (IH w rest l nodes (0,0) lev h hb ht hN hl);obtain⟨R,d⟩:=exQ<|bS txt lv rest l nodes (0,0);rw[d] at C ⊢;clear d h hb ht hl IH;cases R with
 | ok rr l2 ns=>
  go_enter Tryz.func59,Tryz.ntmps59;go_wp2_with fail;refine C.out.mono ?_;rintro e w1 ⟨rfl,c,b⟩;go_wp2_with fail;go_ret;exact⟨rfl,c,b⟩
 | bad a er=>
  go_enter Tryz.func59,Tryz.ntmps59;go_wp2_with fail;refine C.out.mono ?_;rintro e w1 ⟨rfl,c,b⟩;go_wp2_with fail;go_ret;exact⟨rfl,c,b⟩
theorem Il: ∀(f:Nat) (l:List UInt8) (i:Nat) (acc:List UInt8),(cY f l i acc).1.length<=acc.length+4*l.length
 | 0,_,_,_=>by simp[cY]
 | _+1,[],_,_=>by simp[cY]
 | f+1,c::r,i,acc=>by
  unfold cY;split
  ·simp
  ·split
   ·simp
   ·rename_i h;have hp:=sC (c::r) (List.cons_ne_nil _ _);obtain⟨P,hP⟩:=exQ<|eQ (c::r);rw[hP] at hp h ⊢;have:=Il f ((c::r).drop P.2.toNat) (i+P.2.toNat) (acc++encodeRune P.1);have a:=Lib.runeCells_le P.1;rw[Lib.runeCells_length] at a;rw[bB,aW] at this;omega
theorem Sw (l:List UInt8):(dM l).1.length<=4*l.length:=by
 have h:(bT l 0).1.length<=4*l.length:=by
  unfold bT;split
  ·have:=Il (l.length+1) (l.drop ((0:Int).toNat+1)) ((0:Int).toNat+1) [];rw[bB] at this;simp only[gY] at this;omega
  ·simp
 unfold dM;split
 ·simp
 ·exact h
def ME (B P b:Nat) (txt:List UInt8) (r:JR×List (List UInt8)) (w:World) (e:Ending) (w':World):Prop:=match r with
 | (.ok rr l ns,had)=>e= .returned (.bool true)/\J B P txt rr l ns w'/\HM b had w'/\iR B P b w w'
 | (.bad a er,_)=>e= .returned (.bool false)/\sN B P (nodesN P w) a er w'/\iR B P b w w'
abbrev kA (w:World) (X P:Nat) (txt:List UInt8) (t:aQ) (w':World):Prop:=w'.cell? ⟨P,0,none⟩=some (.string (bs txt))/\w'.cell? ⟨X,0,none⟩=some (.int .i64 (t.sf:Int))/\w'.cell? ⟨X,1,none⟩=some (.int .i64 (t.st:Int))/\Hid (Below w.heap.size w w'/\P<w.heap.size/\X<w.heap.size)
theorem kA.drew {w w1:World}{X P:Nat}{txt:List UInt8}{t:aQ} (h:kA w X P txt t w1):kA w X P txt t w1.drew:=by
 obtain⟨a,b,c,d⟩:=h;exact⟨a,b,c,hid ⟨d.out.1.drew,d.out.2⟩⟩
theorem kA.step {w w1 w2:World}{X P:Nat}{txt:List UInt8}{t:aQ} (h:kA w X P txt t w1) (hb:Below w1.heap.size w1 w2):kA w X P txt t w2:=by
 obtain⟨a,b,c,d⟩:=h;obtain⟨e1,e2,e3⟩:=d.out;have l1:P<w1.heap.size:=fV e2 e1.size;have l2:X<w1.heap.size:=fV e3 e1.size;exact⟨by rw[hb.cell (p:=⟨P,0,none⟩) l1];exact a,by rw[hb.cell (p:=⟨X,0,none⟩) l2];exact b,by rw[hb.cell (p:=⟨X,1,none⟩) l2];exact c,hid ⟨aC e1 hb,e2,e3⟩⟩
theorem kA.bel {w w1:World}{X P:Nat}{txt:List UInt8}{t:aQ} (h:kA w X P txt t w1):Below w.heap.size w w1:=h.2.2.2.out.1
theorem J.box {B P:Nat}{txt:List UInt8}{rest:List aQ}{l:Sp}{nodes:List aD}{w:World} (h:J B P txt rest l nodes w):P<w.heap.size/\B<=P/\w.cell? ⟨P,0,none⟩=some (.string (bs txt))/\ ∀b es c,w.heap[b]?=some (.map es c)->b≠P:=by
 obtain⟨rv,z,nv,a,h2,h3,h4,f⟩:=h;refine⟨a.lt,f,a.cells.1,λb es c d e=>?_⟩;subst e;unfold cK at a;rw[d] at a;cases a
theorem wC (w:World) (cs:Array Value) (t:TypeId) (j:Nat) (u:Value) (h:cs.toList[j]?=some u):(w.alloc (.cells cs t)).cell? ⟨w.heap.size,j,none⟩=some u:=by
 have:=World.news_of_block (w:=w.alloc (.cells cs t)) (heap_alloc_new w _) j u h;have a:((⟨w.heap.size,0,none⟩:Addr).add j)=⟨w.heap.size,j,none⟩:=by unfold Addr.add;split<;>simp_all
 rw[a] at this;exact this
theorem uH {w w':World}{r:Option Nat} (hg:w.grownBy w' r) {X:Nat} (hX:X<w.heap.size) (hne:some X≠r) (i:Nat):w'.cell? ⟨X,i,none⟩=w.cell? ⟨X,i,none⟩:=eY (hg.block X hX hne) i
theorem Sx (w0:World) (P:Nat) (txt:List UInt8) (lv:Nat) (IH:VC w0 P txt lv) (b:Nat) (had:List (List UInt8)) (w:World) (rest:List aQ) (l:Sp) (nodes:List aD) (lev:Int)
  (h:J w0.heap.size P txt rest l nodes w) (hb:Below w0.heap.size w0 w) (ht:TB txt rest) (hN:nodes.length+rest.length<=131074) (hl:lev=33-(lv:Int)) (hm:HM b had w) (hBb:w0.heap.size<=b) (hhad:had.length<=65537) (hs:txt.length<=65536) (hSV:cM w0) (hT:bZ w0):
  Calls Tryz.prog 61 #[.pointer (some ⟨P,0,none⟩), .int .i64 lev, .map (some b)] w (ME w0.heap.size P b txt (gZ txt (bS txt lv) true had rest l nodes) w):=by
 have ab:=ht.1;have C:=hid h.nodesN;obtain⟨aw,D,aE,ax⟩:=h.box;obtain⟨es,cm,L⟩:=hm.obj;have W:b≠P:=ax b es cm L;have CK:=hid (sP _ P txt rest l nodes w h (by omega));have sl:=aT txt;obtain⟨R,K⟩:=exQ<|gZ txt (bS txt lv) true had rest l nodes;rw[K];by_cases h8:eV rest=8
 ·cases rest with
  | nil=>cases h8
  | cons t r=>
   have ap:t.kind=8:=h8;rw[h8] at CK;obtain⟨hss,hst⟩:=ht.2 t gS;have v:gZ txt (bS txt lv) true had (t::r) l nodes=if(dM ((txt.drop t.sf).take (t.st-t.sf))).1∈had then(.bad t.sf 7,had) else
     match r with
     | []=>(.bad txt.length 2,(dM ((txt.drop t.sf).take (t.st-t.sf))).1::had)
     | c::r2=>if c.kind≠7 then(.bad c.sf 2,(dM ((txt.drop t.sf).take (t.st-t.sf))).1::had) else
      (bS txt lv r2 (c.sf,c.st) nodes (t.sf,t.st),(dM ((txt.drop t.sf).take (t.st-t.sf))).1::had):=by
    unfold gZ;rw[if_neg (by decide)];simp only[ap];rw[if_neg (by simp)];cases r<;>rfl
   rw[v] at K;clear v;obtain⟨U,hU⟩:=exQ<|dM ((txt.drop t.sf).take (t.st-t.sf));obtain⟨key,un,ue⟩:=U;have CU:Hid (∀w',Below w0.heap.size w0 w'->Calls Tryz.prog 65 #[.string ((bs txt).extract t.sf t.st)] w' λe w2=>e= .returned (.tuple #[.string (bs key), .int .i64 un, .int .i64 ue])/\Below w'.heap.size w' w2):=hid (λw' ak=>by have:=xV ((txt.drop t.sf).take (t.st-t.sf)) w' (by rw[cD,bB];omega) (hSV.keep ak) (hT.keep ak);rw[hU] at this;have e:(bs txt).extract t.sf t.st=bs ((txt.drop t.sf).take (t.st-t.sf)):=(by rw[lG,aZ]);rw[e];exact this);have al:key.length<=1073741824:=by
    have:=Sw ((txt.drop t.sf).take (t.st-t.sf));rw[hU] at this;rw[cD,bB] at this;simp only[] at this;omega
   rw[hU] at K;simp only[] at K;have HR:=hid K;clear K;have ba:=aI w (.cells #[.int .i64 (t.sf:Int), .int .i64 (t.st:Int)] 59);have hS:kA (w.alloc (.cells #[.int .i64 (t.sf:Int), .int .i64 (t.st:Int)] 59)) w.heap.size P txt t (w.alloc (.cells #[.int .i64 (t.sf:Int), .int .i64 (t.st:Int)] 59)):=
    ⟨by rw[ba.cell (p:=⟨P,0,none⟩) aw];exact aE,wC w _ _ 0 _ rfl,wC w _ _ 1 _ rfl,hid ⟨aB _ _,by simp;omega,by simp⟩⟩
   have az:=hid (h.keep ba);have ar:=hid (World.ownsMap.alloc hm (.cells #[.int .i64 (t.sf:Int), .int .i64 (t.st:Int)] 59));obtain⟨rv,z,nv,jb,jt,_⟩:=h;obtain⟨q0,q1,_⟩:=jb.cells;obtain⟨g,o,c,rfl,hc,k0,k1,k2,_⟩:=jt.head;have d0:(0:Int)<(r.length:Int)+1:=(by omega);have i1:(0:Int)<=(t.sf:Int):=(by omega);have i2:(t.sf:Int)<=(t.st:Int):=(by omega);have i3:(t.st:Int)<=(txt.length:Int):=(by omega);have HW:=hid hb;have ai:w0.heap.size<=w.heap.size:=hb.size;have ad:Hid (∀w',Below (w.alloc (.cells #[.int .i64 (t.sf:Int), .int .i64 (t.st:Int)] 59)).heap.size (w.alloc (.cells #[.int .i64 (t.sf:Int), .int .i64 (t.st:Int)] 59)) w'->Below w0.heap.size w0 w'):=hid (λw' h'=>(hb.trans (ba.mono ai)).trans (h'.mono (by simp;omega)));have aF:Hid (Fr w0.heap.size P w (w.alloc (.cells #[.int .i64 (t.sf:Int), .int .i64 (t.st:Int)] 59))):=hid (Fr.of_below ba ai);have aa:(w.alloc (.cells #[.int .i64 (t.sf:Int), .int .i64 (t.st:Int)] 59)).heap.size=w.heap.size+1:=(by simp);have hbl:b<w.heap.size:=hm.lt;have ah:Hid (keyOf Tryz.prog 9 (.string (bs key))=some (.string key)):=hid (by have:=keyOf_string_mk (P:=Tryz.prog) Tryz.underlying9 (s:=bs key) (by rw[aT];unfold maxLen;omega);rw[aZ] at this;exact this);have aq:=hid al;have ao:=hid ht;clear jb jt hU hb ba al hm L ht;go_enter Tryz.func61,Tryz.ntmps61;go_wp2_with fail;refine CK.out.mono ?_;rintro e w1 ⟨rfl,rfl⟩;go_upto_region 4 with fail;go_region_held3 (λw'=>kA (w.alloc (.cells #[.int .i64 (t.sf:Int), .int .i64 (t.st:Int)] 59)) w.heap.size P txt t w') ((first | exact kA.drew (by assumption) | exact kA.step (by assumption) (by assumption) | assumption))
    ((go_at_call 65;(with_reducible refine(CU.out _ (ad.out _ (kA.bel (by assumption:kA (w.alloc (.cells #[.int .i64 (t.sf:Int), .int .i64 (t.st:Int)] 59)) w.heap.size P txt t _)))).mono ?_);rintro e w5 ⟨rfl,an⟩;have F:kA (w.alloc (.cells #[.int .i64 (t.sf:Int), .int .i64 (t.st:Int)] 59)) w.heap.size P txt t w5:=kA.step (by assumption) an))
   have i:=F.bel;have Y:=hid (az.out.keep i);have T:Hid (HM b had w5):=hid (HM.same ar.out (i.block b (by rw[aa];omega)));have aj:Hid (Fr w0.heap.size P w w5):=hid (aF.out.trans (Fr.of_below i (by rw[aa];omega)));have x0:w5.cell? ⟨w.heap.size,0,none⟩=some (.int .i64 (t.sf:Int)):=F.2.1;have x1:w5.cell? ⟨w.heap.size,1,none⟩=some (.int .i64 (t.st:Int)):=F.2.2.1;have ag:w.heap.size<w5.heap.size:=by have:=i.size;rw[aa] at this;omega
   have m:=T.out.look key aq.out;clear F i hS;by_cases hk:key∈had
   ·rw[aM hk] at m;have E:=hid (HR.out.symm.trans (if_pos hk));have CF:=hid (pB _ P txt (t::r) l nodes 7 w5 Y.out (by simp only[aV] at ab ⊢;omega) (by omega));clear hk x0 x1;go_wp2_with fail;refine CF.out.mono ?_;rintro e w6 ⟨rfl,V,X⟩;go_wp2_with fail;go_ret;rw[E.out];exact⟨rfl,V.mono (nQ (C.out.trans Y.out.nodesN.symm)),(aj.out.trans X).toX⟩
   ·rw[aH hk] at m;have O:=hid (HR.out.symm.trans (if_neg hk));obtain⟨es5,cm5,u⟩:=T.out.obj;have aC:=hid u;have H:w5.ownsMap Tryz.prog 9 (plainElem Tryz.prog 4) b had.length (qF had):=T.out;clear hk u;go_wp2_with (at_mapUpdate;refine wpList_mapUpdate_own _ rfl _ _ _ 110 rfl 9 4 yK Tryz.underlying110 _ b had.length _ rfl H (by unfold maxLen;omega) _ _ (.string key) rfl rfl ah.out _ [] (plainElem_bool Tryz.underlying4 true) ?_;intro w6 A n);have ae:Hid (HM b (key::had) w6):=hid A;have av:=hid (Y.out.map aC.out n);have M:Hid (iR w0.heap.size P b w w6):=hid (aj.out.toX.trans (iR.grown n (by omega) hBb));have y0:w6.cell? ⟨w.heap.size,0,none⟩=some (.int .i64 (t.sf:Int)):=by rw[uH n ag (by simp;omega)];exact x0
    have y1:w6.cell? ⟨w.heap.size,1,none⟩=some (.int .i64 (t.st:Int)):=by rw[uH n ag (by simp;omega)];exact x1
    have af:w.heap.size<w6.heap.size:=by have:=n.size;omega
    clear H A n m x0 x1;have CSk:=hid (Bn _ P txt t r l nodes w6 av.out (by simp only[aV] at ab;omega));have au:r.length<=65536:=by simp only[aV] at ab;omega
    cases r with
    | nil=>
     have E:Hid (R=(.bad txt.length 2,key::had)):=O;go_wp2_with fail;refine CSk.out.mono ?_;rintro e w7 ⟨rfl,f,d⟩;have x:=hid (M.out.trans (Fr.ofP (B:=w0.heap.size) d D (by omega)).toX);have CT:=hid (rH _ P txt [] _ nodes w7 f (by simp) 7 (by decide));have Z:=hid f.nodesN;have CF:=hid (pB _ P txt [] _ nodes 2 w7 f (by simp) (by omega));clear f d y0 y1;go_wp2_with fail;refine CT.out.mono ?_;rintro e w8 ⟨rfl,rfl⟩;go_wp2_with fail;refine CF.out.mono ?_;rintro e w9 ⟨rfl,k,j⟩;go_wp2_with fail;go_ret;rw[E.out];exact⟨rfl,k.mono (nQ (C.out.trans Z.out.symm)),x.out.trans j.toX⟩
    | cons c r2=>
     simp only[aV] at au;by_cases h7:c.kind=7
     ·have E:Hid (R=(bS txt lv r2 (c.sf,c.st) nodes (t.sf,t.st),key::had)):=hid (O.out.trans (if_neg (λh=>h h7)));go_wp2_with fail;refine CSk.out.mono ?_;rintro e w7 ⟨rfl,f,d⟩;have x:=hid (M.out.trans (Fr.ofP (B:=w0.heap.size) d D (by omega)).toX);have I:Hid (HM b (key::had) w7):=hid (ae.out.same (d.block b ae.out.lt (by simpa using W)));have CT:=hid (sQ _ P txt c r2 _ nodes w7 f (by omega) 7 h7);have v0:w7.cell? ⟨w.heap.size,0,none⟩=some (.int .i64 (t.sf:Int)):=by rw[uH d af (by simp;omega)];exact y0
      have v1:w7.cell? ⟨w.heap.size,1,none⟩=some (.int .i64 (t.st:Int)):=by rw[uH d af (by simp;omega)];exact y1
      have G:w.heap.size<w7.heap.size:=by have:=d.size;omega
      clear f d y0 y1 h7;go_wp2_with fail;refine CT.out.mono ?_;rintro e w8 ⟨rfl,S,y⟩;have N:=hid (x.out.trans (Fr.ofP (B:=w0.heap.size) y D (by omega)).toX);have ay:Hid (HM b (key::had) w8):=hid (I.out.same (y.block b I.out.lt (by simpa using W)));have u0:w8.cell? ⟨w.heap.size,0,none⟩=some (.int .i64 (t.sf:Int)):=by rw[uH y G (by simp;omega)];exact v0
      have u1:w8.cell? ⟨w.heap.size,1,none⟩=some (.int .i64 (t.st:Int)):=by rw[uH y G (by simp;omega)];exact v1
      have aA:=hid S.nodesN;have CV:=hid (IH w8 r2 (c.sf,c.st) nodes (t.sf,t.st) (33-(lv:Int)) S (HW.out.trans N.out.bel) (ao.out.drop 2) (by simp only[aV] at hN;omega) rfl);obtain⟨Q,hQ⟩:=exQ<|bS txt lv r2 (c.sf,c.st) nodes (t.sf,t.st);rw[hQ] at CV E;clear S y v0 v1 hQ;cases Q with
      | ok rr l2 ns=>
       go_wp2_with fail;refine CV.out.mono ?_;rintro e w9 ⟨rfl,k,j⟩;have am:=hid (ay.out.fr j W);go_wp2_with fail;go_ret;rw[E.out];exact⟨rfl,k,am.out,N.out.trans j.toX⟩
      | bad a er=>
       go_wp2_with fail;refine CV.out.mono ?_;rintro e w9 ⟨rfl,k,j⟩;go_wp2_with fail;go_ret;rw[E.out];exact⟨rfl,k.mono (nQ (C.out.trans aA.out.symm)),N.out.trans j.toX⟩
     ·have E:Hid (R=(.bad c.sf 2,key::had)):=hid (O.out.trans (if_pos h7));go_wp2_with fail;refine CSk.out.mono ?_;rintro e w7 ⟨rfl,f,d⟩;have x:=hid (M.out.trans (Fr.ofP (B:=w0.heap.size) d D (by omega)).toX);have CT:=hid (rH _ P txt (c::r2) _ nodes w7 f (by simp only[aV];omega) 7 h7);have Z:=hid f.nodesN;have CF:=hid (pB _ P txt (c::r2) _ nodes 2 w7 f (by simp only[aV];omega) (by omega));clear f d y0 y1 h7;go_wp2_with fail;refine CT.out.mono ?_;rintro e w8 ⟨rfl,rfl⟩;go_wp2_with fail;refine CF.out.mono ?_;rintro e w9 ⟨rfl,k,j⟩;go_wp2_with fail;go_ret;rw[E.out];exact⟨rfl,k.mono (nQ (C.out.trans Z.out.symm)),x.out.trans j.toX⟩
 ·have v:gZ txt (bS txt lv) true had rest l nodes=(.bad (eW txt.length rest) 2,had):=by
   unfold gZ;rw[if_neg (by decide)];cases rest with
   | nil=>rfl
   | cons t r=>exact if_pos h8
  rw[v] at K;subst K;have CF:=hid (pB _ P txt rest l nodes 2 w h (by omega) (by omega));obtain⟨q,hq⟩:=exQ<|eV rest;rw[hq] at CK h8;have d8:((q:Int) !=8)=true:=gD.2 (by omega);clear v hq h8;go_enter Tryz.func61,Tryz.ntmps61;go_wp2_with fail;refine CK.out.mono ?_;rintro e w1 ⟨rfl,rfl⟩;go_wp2_with fail;refine CF.out.mono ?_;rintro e w6 ⟨rfl,V,X⟩;go_wp2_with fail;go_ret;exact⟨rfl,V,X.toX⟩
theorem Tryz.infoInt:(Tryz.prog.info? 3).map (λi=>(i.zero,i.size,i.bytes))=some (some (.int .i64 0),1,8):=by kernel_rfl
theorem Tryz.infoSpan:(Tryz.prog.info? 59).map (λi=>(i.zero,i.size,i.bytes))=some (some (.agg #[.int .i64 0, .int .i64 0]),2,16):=by kernel_rfl
theorem Tryz.infoNode:(Tryz.prog.info? 81).map (λi=>(i.zero,i.size,i.bytes))=some (some (.agg #[.int .i64 0, .int .i64 0, .int .i64 0, .int .i64 0, .int .i64 0, .slice none 0 0, .slice none 0 0]),7,88):=by kernel_rfl
theorem uI {w:World}{B:Nat}{e:TypeId}{s:Nat}{v:Value}{n:Nat}{xs:List Value} (h:w.ownsRow B e s v n xs): ∀k,v.ownBlock=some k-> ∃cur,w.heap[k]?=some (.cells cur e (0,0)):=by
 intro k a;rcases h.2 with⟨rfl,_⟩ | ⟨g,cap,cur,rfl,_,b,_⟩
 ·cases a
 ·have:g=k:=bD a;subst this;exact⟨cur,b⟩
theorem uJ {w w':World}{P:Nat}{txt:List UInt8}{rv nv:Value}{l:Sp}{a:Nat}{er:Int}{rest:List aQ}{r:Option Nat} (hb:cK w P txt rv l nv a er) (ht:TV w rv rest) (hg:w.grownBy w' r)
  (hr: ∀k,r=some k-> ∃cs t,w.heap[k]?=some (.cells cs t (0,0))/\t≠75/\t≠77):cK w' P txt rv l nv a er/\TV w' rv rest:=by
 refine⟨?_,ht.same (λg cur b=>hg.block g (aF b) (λe=>?_))⟩
 ·refine(hg.block P hb.lt (λe=>?_)).trans hb;obtain⟨cs,t,d,f,_⟩:=hr P e.symm;have c:=hb;unfold cK at c;rw[d] at c;injection c with c;injection c with _ c;exact f c
 ·obtain⟨cs,t,d,_,f⟩:=hr g e.symm;rw[d] at b;injection b with b;injection b with _ b;exact f b
theorem wD (w:World) (cs:Array Value) (t:TypeId): ∀j u,cs.toList[j]?=some u->(w.alloc (.cells cs t)).cell? ((⟨w.heap.size,0,none⟩:Addr).add j)=some u:=
 λj u a=>World.news_of_block (w:=w.alloc (.cells cs t)) (heap_alloc_new w _) j u a
theorem wE {w w':World}{o:Obj}{r:Option Nat} (h:(w.alloc o).grownBy w' r):w.grownBy w' r:=(World.grownBy_alloc w o r).trans h
theorem Im {ops:Array Oper}{rest:List Oper}{o:Oper}{a:Act}{Q:Exit->Act->World->Prop} (hgd:o.guard=none) (s x:Operand)
  (ho:o.op= .call { callee:= .builtin .append,args:= #[s,x],argTypes:= #[60,60] })
  (B:Nat) (w:World) (v:Value) (l:List Nat) (k:Nat) (hs:a.eval s=v) (hown:w.ownsRow B 3 1 v l.length (eI l)) (hx:a.eval x= .slice (some ⟨w.heap.size,0,none⟩) 1 1) (hl:l.length<=4294967295) (hB:B<=w.heap.size)
  (hK: ∀kv w',w'.ownsRow B 3 1 kv (l.length+1) (eI l++ [.int .i64 (k:Int)])->w.grownBy w' v.ownBlock->(kv.ownBlock=v.ownBlock\/kv.ownBlock=some (w.heap.size+1))->wpList Tryz.prog ops Q rest (a.put o.dst kv) w'):
  wpList Tryz.prog ops Q (o::rest) a (w.alloc (.cells #[.int .i64 (k:Int)] 3)):=by
 obtain⟨i0,e,d,f,c⟩:=info_parts Tryz.infoInt;refine wpList_append_lies _ hgd s x 60 ho B 3 i0 _ 1 8 Tryz.underlying60 e d f c rfl (by decide) v _ (eI l) hs (World.ownsRow.alloc hown _) ⟨w.heap.size,0,none⟩ 1 1 [.int .i64 (k:Int)] hx (by rfl) (wD w #[.int .i64 (k:Int)] _)
  (λu h=>by rw[iQ.1 h];rfl) (by decide) (by unfold maxLen;omega) (by omega) (by simp;omega) _ rfl ?_
 intro g cap w' i j b _;refine hK _ w' i (wE j) ?_;rcases b with b | b
 ·exact .inl b.symm
 ·exact .inr (by rw[b];simp[Value.ownBlock])
theorem In {ops:Array Oper}{o:Oper}{a:Act}{K:Act->World->Prop}{Q:Exit->Act->World->Prop}{E:Prop} (hgd:o.guard=none) (s x:Operand)
  (ho:o.op= .call { callee:= .builtin .append,args:= #[s,x],argTypes:= #[54,54] })
  (B:Nat) (w:World) (v:Value) (l:List Sp) (k:Sp) (hs:a.eval s=v) (hown:w.ownsRow B 59 2 v l.length (mE l)) (hx:a.eval x= .slice (some ⟨w.heap.size,0,none⟩) 1 1) (hl:l.length<=4294967295) (hB:B<=w.heap.size)
  (hK: ∀kv w',w'.ownsRow B 59 2 kv (l.length+1) (mE l++ [.int .i64 (k.1:Int), .int .i64 (k.2:Int)])->w.grownBy w' v.ownBlock->(kv.ownBlock=v.ownBlock\/kv.ownBlock=some (w.heap.size+1))->K (a.put o.dst kv) w'):
  if Region.wanted o (yielded ops a.tmps)=true then Oper.wp Tryz.prog o a (w.alloc (.cells #[.int .i64 (k.1:Int), .int .i64 (k.2:Int)] 59)) K Q else E:=by
 obtain⟨i0,e,d,h,c⟩:=info_parts Tryz.infoSpan;refine step_append_lies _ hgd s x 54 ho B 59 i0 _ 2 16 Tryz.underlying54 e d h c rfl (by decide) v _ (mE l) hs (World.ownsRow.alloc hown _) ⟨w.heap.size,0,none⟩ 1 1 [.int .i64 (k.1:Int), .int .i64 (k.2:Int)] hx (by rfl) (wD w #[.int .i64 (k.1:Int), .int .i64 (k.2:Int)] _)
  (λu f=>by
   rcases dC.1 f with rfl | f
   ·rfl
   ·rw[iQ.1 f];rfl) (by decide) (by unfold maxLen;omega) (by omega) (by simp;omega) _ rfl ?_
 intro g cap w' i j b _;refine hK _ w' i (wE j) ?_;rcases b with b | b
 ·exact .inl b.symm
 ·exact .inr (by rw[b];simp[Value.ownBlock])
theorem Sy {ops:Array Oper}{o:Oper}{a:Act}{K:Act->World->Prop}{Q:Exit->Act->World->Prop}{E:Prop} (hgd:o.guard=none) (s x:Operand)
  (ho:o.op= .call { callee:= .builtin .append,args:= #[s,x],argTypes:= #[47,47] })
  (B:Nat) (w:World) (v:Value) (z:List ND) (y:aD) (cs:Array Value) (hcs:cs.toList=fW (y, .slice none 0 0, .slice none 0 0)) (hs:a.eval s=v) (hown:w.ownsRow B 81 7 v z.length (iX z)) (hx:a.eval x= .slice (some ⟨w.heap.size,0,none⟩) 1 1) (hl:z.length<=4294967295) (hB:B<=w.heap.size)
  (hK: ∀nv w',w'.ownsRow B 81 7 nv (z.length+1) (iX z++fW (y, .slice none 0 0, .slice none 0 0))->w.grownBy w' v.ownBlock->K (a.put o.dst nv) w'):
  if Region.wanted o (yielded ops a.tmps)=true then Oper.wp Tryz.prog o a (w.alloc (.cells cs 81)) K Q else E:=by
 obtain⟨i0,d,c,f,b⟩:=info_parts Tryz.infoNode;refine step_append_lies _ hgd s x 47 ho B 81 i0 _ 7 88 Tryz.underlying47 d c f b rfl (by decide) v _ (iX z) hs (World.ownsRow.alloc hown _) ⟨w.heap.size,0,none⟩ 1 1 _ hx (by rw[hcs];rfl) (wD w cs _)
  (λu e=>by rw[hcs] at e;simp only[fW,dC,List.not_mem_nil,or_false] at e;rcases e with rfl|rfl|rfl|rfl|rfl|rfl|rfl<;>rfl) (by decide) (by unfold maxLen;omega) (by omega) (by simp;omega) _ rfl ?_
 intro g cap w' h i h7 _;rw[hcs] at h;exact hK _ w' h (wE i)
theorem cI.cellK {B:Nat}{z:List ND}{g cap:Nat}{w w1:World} (h:cI B z (.slice (some ⟨g,0,none⟩) z.length cap) w) {n:Nat}{y:ND} (hy:z[n]?=some y) (hg:w.grownBy w1 y.2.1.ownBlock):w1.cell? ⟨g,n*7+5,none⟩=some y.2.1/\w1.frozen? ⟨g,n*7+5,none⟩=false:=by
 have hn:=(aR.1 hy).1;have a:=h.row.kept hg (iJ h.row (h.kids y (aX hy)) (by decide));refine⟨?_,World.ownsRow.frozenAt a _⟩;rw[World.ownsRow.cellAt a _ (by omega),vX z n y hy 5 (by omega)];rfl
theorem cI.cellP {B:Nat}{z:List ND}{g cap:Nat}{w w1:World} (h:cI B z (.slice (some ⟨g,0,none⟩) z.length cap) w) {n:Nat}{y:ND} (hy:z[n]?=some y) (hg:w.grownBy w1 y.2.2.ownBlock):w1.cell? ⟨g,n*7+6,none⟩=some y.2.2/\w1.frozen? ⟨g,n*7+6,none⟩=false:=by
 have hn:=(aR.1 hy).1;have a:=h.row.kept hg (iJ h.row (h.pcs y (aX hy)) (by decide));refine⟨?_,World.ownsRow.frozenAt a _⟩;rw[World.ownsRow.cellAt a _ (by omega),vX z n y hy 6 (by omega)];rfl
theorem Sz (w0:World) (P:Nat) (txt:List UInt8) (lv:Nat) (IH:VC w0 P txt lv) (b:Nat) (had:List (List UInt8)) (w:World) (rest:List aQ) (l:Sp) (nodes:List aD) (lev:Int) (X Y:Nat)
  (hX:w.cell? ⟨X,0,none⟩=some (.pointer (some ⟨P,0,none⟩))) (hY:w.cell? ⟨Y,0,none⟩=some (.map (some b)))
  (h:J w0.heap.size P txt rest l nodes w) (hb:Below w0.heap.size w0 w) (ht:TB txt rest) (hN:nodes.length+rest.length<=131074) (hl:lev=33-(lv:Int)) (hm:HM b had w) (hBb:w0.heap.size<=b) (hhad:had.length<=65537) (hs:txt.length<=65536) (hSV:cM w0) (hT:bZ w0):
  Calls Tryz.prog 60 #[.int .i64 lev, .pointer (some ⟨X,0,none⟩), .pointer (some ⟨Y,0,none⟩)] w (ME w0.heap.size P b txt (gZ txt (bS txt lv) true had rest l nodes) w):=by
 have C:=hid (Sx w0 P txt lv IH b had w rest l nodes lev h hb ht hN hl hm hBb hhad hs hSV hT);obtain⟨R,g⟩:=exQ<|gZ txt (bS txt lv) true had rest l nodes;rw[g] at C ⊢;clear g h hb ht hl IH hm;obtain⟨Q,had2⟩:=R;cases Q with
 | ok rr l2 ns=>
  go_enter Tryz.func60,Tryz.ntmps60;go_wp2_with fail;refine C.out.mono ?_;rintro e w1 ⟨rfl,f,d,c⟩;go_wp2_with fail;go_ret;exact⟨rfl,f,d,c⟩
 | bad a er=>
  go_enter Tryz.func60,Tryz.ntmps60;go_wp2_with fail;refine C.out.mono ?_;rintro e w1 ⟨rfl,f,c⟩;go_wp2_with fail;go_ret;exact⟨rfl,f,c⟩
end
end Go.Proofs.YtaifnmjjpddikaaGreatDoor
