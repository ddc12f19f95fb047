import Derived.Test.YtaifnmjjpddikaaGreatDoorRf5
import Derived.Test.YtaifnmjjpddikaaGreatDoorRf2
import Derived.Deep.DeepCutAuto
import Derived.Test.YtaifnmjjpddikaaGreatDoorRf6
import Derived.Maps.Own
import Derived.Maps.OwnOps
import Derived.Maps.Views
import Derived.Deep.RegionHeld3
import Derived.Deep.RegionLaw
set_option maxRecDepth 100000
set_option maxHeartbeats 8000000
namespace Go.Proofs.YtaifnmjjpddikaaGreatDoor
set_option linter.unusedVariables false
set_option linter.unusedSimpArgs false
section
open Go.RowKit
open Go.Lib hiding intOf
def J (B P:Nat) (txt:List UInt8) (rest:List aL) (l:Sp) (nodes:List aD) (w:World):Prop:=
 ∃rv z nv,cK w P txt rv l nv 0 0/\TV w rv rest/\z.map (·.1)=nodes/\cH B z nv w/\B<=P
theorem J.keep {B P:Nat}{txt:List UInt8}{rest:List aL}{l:Sp}{nodes:List aD}{w w':World} (h:J B P txt rest l nodes w) (hb:Below w.heap.size w w'):J B P txt rest l nodes w':=by
 obtain⟨rv,z,nv,h1,h2,h3,h4,h5⟩:=h;exact⟨rv,z,nv,h1.keep hb,h2.keep hb,h3,h4.keep hb,h5⟩
def rV (B P N:Nat) (a:Nat) (er:Int) (w:World):Prop:= ∃txt rv l z nv,cK w P txt rv l nv a er/\cH B z nv w/\B<=P/\N<=z.length
theorem rV.mono {B P N M:Nat}{a:Nat}{er:Int}{w:World} (h:rV B P N a er w) (hm:M<=N):rV B P M a er w:=by
 obtain⟨txt,rv,l,z,nv,h1,h2,h3,h4⟩:=h;exact⟨txt,rv,l,z,nv,h1,h2,h3,aW hm h4⟩
def nodesN (P:Nat) (w:World):Nat:=match w.cell? ⟨P,4,none⟩ with
 | some (.slice _ n _)=>n
 | _=>0
theorem J.nodesN {B P:Nat}{txt:List UInt8}{rest:List aL}{l:Sp}{nodes:List aD}{w:World} (h:J B P txt rest l nodes w):nodesN P w=nodes.length:=by
 obtain⟨rv,z,nv,h1,h2,h3,h4,h5⟩:=h;obtain⟨p,c,rfl⟩:=h4.slice;have:=h1.cells.2.2.2.2.1;unfold Go.Proofs.YtaifnmjjpddikaaGreatDoor.nodesN;rw[this,<-h3,bU]
theorem gM (w:World) (P i:Nat) (u:Value):w.grownBy (w.setCell ⟨P,i,none⟩ u) (some P):=
 ⟨rfl,rfl,rfl,by simp[World.setCell],λk _ hk=>dC w ⟨P,i,none⟩ u k (λe=>hk (by rw[e]))⟩
theorem rW {w w1 w2:World}{r:Option Nat} (h1:w.grownBy w1 r) (h2:w1.grownBy w2 r):w.grownBy w2 r:=
 ⟨h2.os.trans h1.os,h2.tape.trans h1.tape,h2.output.trans h1.output,aW h1.size h2.size,λk hk hne=>(h2.block k (iN hk h1.size) hne).trans (h1.block k hk hne)⟩
theorem rX (B P:Nat) (txt:List UInt8) (rest:List aL) (l:Sp) (nodes:List aD) (w:World) (h:J B P txt rest l nodes w) (hr:rest.length<=1073741824):
  Calls Tryz.prog 56 #[.pointer (some ⟨P,0,none⟩)] w λe w'=>e= .returned (.int .i64 (eP rest:Int))/\w=w':=by
 obtain⟨rv,z,nv,hb,ht,_⟩:=h;obtain⟨c0,c1,c2,c3,c4,c5,c6,_⟩:=hb.cells;cases rest with
 | nil=>
  obtain⟨p,c,rfl⟩:=ht.empty;clear hb ht;go_enter Tryz.func56,Tryz.ntmps56;go_wp2_with fail;go_ret;exact⟨rfl,rfl⟩
 | cons t r=>
  obtain⟨g,o,c,rfl,hc,k0,k1,k2,_⟩:=ht.head;have d0:(((r.length:Int)+1)==0)=false:=aG.2 (by omega);have d1:(((r.length+1:Nat):Int)==0)=false:=aG.2 (by omega);clear hb ht;go_enter Tryz.func56,Tryz.ntmps56;go_wp2_with fail;go_ret;exact⟨rfl,rfl⟩
theorem Av (B P:Nat) (txt:List UInt8) (rest:List aL) (l:Sp) (nodes:List aD) (w:World) (h:J B P txt rest l nodes w) (hr:rest.length<=1073741824) (hs:txt.length<=1073741824):
  Calls Tryz.prog 62 #[.pointer (some ⟨P,0,none⟩)] w λe w'=>e= .returned (.int .i64 (eQ txt.length rest:Int))/\w=w':=by
 obtain⟨rv,z,nv,hb,ht,_⟩:=h;obtain⟨c0,c1,c2,c3,c4,c5,c6,_⟩:=hb.cells;have sl:=aR txt;cases rest with
 | nil=>
  obtain⟨p,c,rfl⟩:=ht.empty;clear hb ht;go_enter Tryz.func62,Tryz.ntmps62;go_wp2_with fail;go_ret;exact⟨rfl,rfl⟩
 | cons t r=>
  obtain⟨g,o,c,rfl,hc,k0,k1,k2,_⟩:=ht.head;have d0:(((r.length:Int)+1)==0)=false:=aG.2 (by omega);have d1:(((r.length+1:Nat):Int)==0)=false:=aG.2 (by omega);clear hb ht;go_enter Tryz.func62,Tryz.ntmps62;go_wp2_with fail;go_ret;exact⟨rfl,rfl⟩
theorem cK.put {w:World}{P:Nat}{txt:List UInt8}{rv nv:Value}{l:Sp}{a:Nat}{er:Int} (h:cK w P txt rv l nv a er) (a2:Nat) (e2:Int):
  cK ((w.setCell ⟨P,5,none⟩ (.int .i64 a2)).setCell ⟨P,6,none⟩ (.int .i64 e2)) P txt rv l nv a2 e2:=by
 unfold cK at h ⊢;simp[World.setCell,Array.getElem?_modify,h]
def Aw (B P:Nat) (a:Nat) (er:Int) (w:World) (e:Ending) (w':World):Prop:=e= .returned (.bool false)/\rV B P (nodesN P w) a er w'/\Fr B P w w'
theorem oB (B P:Nat) (txt:List UInt8) (rest:List aL) (l:Sp) (nodes:List aD) (er:Int) (w:World) (h:J B P txt rest l nodes w) (hr:rest.length<=1073741824) (hs:txt.length<=1073741824):
  Calls Tryz.prog 28 #[.pointer (some ⟨P,0,none⟩), .int .i64 er] w (Aw B P (eQ txt.length rest) er w):=by
 have C:=hid (Av B P txt rest l nodes w h hr hs);have hN:=h.nodesN;obtain⟨rv,z,nv,hb,ht,hzn,hna,hBP⟩:=h;have HNA:=hid (hna.other hb (by decide) (by decide) (by decide) (rW (gM w P 5 (.int .i64 (eQ txt.length rest:Int))) (gM _ P 6 (.int .i64 er))));have HN:Hid (nodesN P w<=z.length):=hid (by rw[hN,<-hzn,bU];exact aE _);obtain⟨c0,c1,c2,c3,c4,c5,c6,f1,f2,f3,f4,f5,f6⟩:=hb.cells;have HP:=hid (hb.put (eQ txt.length rest) er);have HF:=hid ((Fr.setP (B:=B) (P:=P) (i:=5) (w:=w) (u:= .int .i64 (eQ txt.length rest:Int)) hBP).trans (Fr.setP (i:=6) (u:= .int .i64 er) hBP));clear hb ht hN hzn hna;go_enter Tryz.func28,Tryz.ntmps28;go_wp2_with fail;refine C.out.mono ?_;rintro e w1 ⟨rfl,rfl⟩;go_wp2_with fail;go_ret;exact⟨rfl,⟨_,_,_,_,_,HP.out,HNA.out,hBP,HN.out⟩,HF.out⟩
theorem cK.step {w:World}{P:Nat}{txt:List UInt8}{rv nv:Value}{l:Sp}{a:Nat}{er:Int} (h:cK w P txt rv l nv a er) (rv2:Value) (l2:Sp):
  cK (((w.setCell ⟨P,2,none⟩ (.int .i64 l2.1)).setCell ⟨P,3,none⟩ (.int .i64 l2.2)).setCell ⟨P,1,none⟩ rv2) P txt rv2 l2 nv a er:=by
 unfold cK at h ⊢;simp[World.setCell,Array.getElem?_modify,h]
theorem Ax (B P:Nat) (txt:List UInt8) (t:aL) (r:List aL) (l:Sp) (nodes:List aD) (w:World) (h:J B P txt (t::r) l nodes w) (hr:r.length<=1073741824):
  Calls Tryz.prog 57 #[.pointer (some ⟨P,0,none⟩)] w λe w'=>e= .returned (.tuple #[])/\J B P txt r (t.sf,t.st) nodes w'/\w.grownBy w' (some P):=by
 obtain⟨rv,z,nv,hb,ht,hz,hn,hBP⟩:=h;obtain⟨c0,c1,c2,c3,c4,c5,c6,f1,f2,f3,f4,f5,f6⟩:=hb.cells;obtain⟨g,o,c,rfl,hc,k0,k1,k2,htr⟩:=ht.head;have HB:=hid (hb.step (.slice (if c=1 then some ⟨g,o,none⟩ else some ⟨g,o+3,none⟩) r.length (c-1)) (t.sf,t.st));have HG:=hid (rW (rW (gM w P 2 (.int .i64 (t.sf:Int))) (gM _ P 3 (.int .i64 (t.st:Int)))) (gM _ P 1 (.slice (if c=1 then some ⟨g,o,none⟩ else some ⟨g,o+3,none⟩) r.length (c-1))));have HX:=hid hb;have HT:=hid htr;have HN:=hid hn;have d0:(0:Int)<(r.length:Int)+1:=by omega
 have d1:(1:Int)<=(r.length:Int)+1:=by omega
 have d2:(r.length:Int)+1<=(c:Int):=by omega
 clear hb ht htr hn;go_enter Tryz.func57,Tryz.ntmps57;go_wp2_with fail;go_region;go_end0;refine⟨rfl,J.keep ⟨_,z,nv,HB.out,HT.out.same (λg2 cur hg2=>?_),hz,HN.out.other HX.out (by decide) (by decide) (by decide) HG.out,hBP⟩ (aB _ _).drew,rW HG.out ⟨rfl,rfl,rfl,aE _,λ_ _ _=>rfl⟩⟩
 ·refine HG.out.block g2 (aF hg2) (λe=>?_);have e2:g2=P:=bD e;subst e2;have h1:=HX.out;unfold cK at h1;rw[hg2] at h1;injection h1 with h1;injection h1 with _ h1;exact absurd h1 (by decide)
theorem Fr.ofP {B P:Nat}{w w':World} (hg:w.grownBy w' (some P)) (hBP:B<=P) (hB:B<=w.heap.size):Fr B P w w':=
 ⟨(aB B w).grown hg hB (λk hk=>by cases hk;exact hBP),hg.size,λk o hk hne _=>by rw[hg.block k (aF hk) (λe=>hne (bD e))];exact hk⟩
theorem rY (B P:Nat) (txt:List UInt8) (t:aL) (r:List aL) (l:Sp) (nodes:List aD) (w:World) (h:J B P txt (t::r) l nodes w) (hr:r.length<=1048576) (k:Nat) (hk:t.kind=k):
  Calls Tryz.prog 99 #[.pointer (some ⟨P,0,none⟩), .int .i64 (k:Int)] w λe w'=>e= .returned (.bool true)/\J B P txt r (t.sf,t.st) nodes w'/\w.grownBy w' (some P):=by
 have C1:=rX B P txt (t::r) l nodes w h (by simp only[aT];omega);have hkk:eP (t::r)=k:=hk;rw[hkk] at C1;have HC1:=hid C1;have HC2:=hid (Ax B P txt t r l nodes w h (by omega));have d0:((k:Int) !=(k:Int))=false:=by rw[bne,beq_self_eq_true];rfl
 clear C1 h hk hkk;go_enter Tryz.func99,Tryz.ntmps99;go_wp2_with fail;refine HC1.out.mono ?_;rintro e w1 ⟨rfl,rfl⟩;go_wp2_with fail;refine HC2.out.mono ?_;rintro e w2 ⟨rfl,hj,hf⟩;go_wp2_with fail;go_ret;exact⟨rfl,hj,hf⟩
theorem qT (B P:Nat) (txt:List UInt8) (rest:List aL) (l:Sp) (nodes:List aD) (w:World) (h:J B P txt rest l nodes w) (hr:rest.length<=1048577) (k:Nat) (hk:eP rest≠k):
  Calls Tryz.prog 99 #[.pointer (some ⟨P,0,none⟩), .int .i64 (k:Int)] w λe w'=>e= .returned (.bool false)/\w=w':=by
 have C1:=rX B P txt rest l nodes w h (by omega);obtain⟨q,hq⟩:=exQ<|eP rest;rw[hq] at C1 hk;have HC1:=hid C1;have d0:((q:Int) !=(k:Int))=true:=fH.2 (by omega);clear C1 h hk hq;go_enter Tryz.func99,Tryz.ntmps99;go_wp2_with fail;refine HC1.out.mono ?_;rintro e w1 ⟨rfl,rfl⟩;go_wp2_with fail;go_ret;exact⟨rfl,rfl⟩
theorem xS (k:Nat) (w:World):Calls Tryz.prog 55 #[.int .i64 (k:Int)] w λe w'=>e= .returned (.int .i64 (cJ k:Int))/\w=w':=by
 unfold cJ;by_cases h12:k=12
 ·subst h12;go_enter Tryz.func55,Tryz.ntmps55;go_wp2_with fail;go_ret;exact⟨rfl,rfl⟩
 have d12:((k:Int)==12)=false:=aG.2 (by omega);rw[if_neg h12];by_cases h10:k=10
 ·subst h10;go_enter Tryz.func55,Tryz.ntmps55;go_wp2_with fail;go_ret;exact⟨rfl,rfl⟩
 have d10:((k:Int)==10)=false:=aG.2 (by omega);by_cases h11:k=11
 ·subst h11;go_enter Tryz.func55,Tryz.ntmps55;go_wp2_with fail;go_ret;exact⟨rfl,rfl⟩
 have d11:((k:Int)==11)=false:=aG.2 (by omega);rw[if_neg (by omega)];by_cases h9:k=9
 ·subst h9;go_enter Tryz.func55,Tryz.ntmps55;go_wp2_with fail;go_ret;exact⟨rfl,rfl⟩
 have d9:((k:Int)==9)=false:=aG.2 (by omega);rw[if_neg h9];by_cases h8:k=8
 ·subst h8;go_enter Tryz.func55,Tryz.ntmps55;go_wp2_with fail;go_ret;exact⟨rfl,rfl⟩
 have d8:((k:Int)==8)=false:=aG.2 (by omega);rw[if_neg h8];by_cases h4:k=4
 ·subst h4;go_enter Tryz.func55,Tryz.ntmps55;go_wp2_with fail;go_ret;exact⟨rfl,rfl⟩
 have d4:((k:Int)==4)=false:=aG.2 (by omega);rw[if_neg h4];by_cases h2:k=2
 ·subst h2;go_enter Tryz.func55,Tryz.ntmps55;go_wp2_with fail;go_ret;exact⟨rfl,rfl⟩
 have d2:((k:Int)==2)=false:=aG.2 (by omega);rw[if_neg h2];clear h12 h10 h11 h9 h8 h4 h2;go_enter Tryz.func55,Tryz.ntmps55;go_wp2_with fail;go_ret;exact⟨rfl,rfl⟩
end
section
open Go.RowKit Go.Maps Go.WideMaps
open Go.Lib hiding intOf
structure iO (B P b:Nat) (w w':World):Prop where
 bel:Below B w w'
 sz:w.heap.size<=w'.heap.size
 blk: ∀(k:Nat) (o:Obj),w.heap[k]?=some o->k≠P->k≠b->xM o->w'.heap[k]?=some o
theorem iO.trans {B P b:Nat}{w w1 w2:World} (h1:iO B P b w w1) (h2:iO B P b w1 w2):iO B P b w w2:=
 ⟨h1.bel.trans h2.bel,aW h1.sz h2.sz,λk o hk hP hb hs=>h2.blk k o (h1.blk k o hk hP hb hs) hP hb hs⟩
theorem Fr.toX {B P b:Nat}{w w':World} (h:Fr B P w w'):iO B P b w w':=⟨h.bel,h.sz,λk o hk hP _ hs=>h.blk k o hk hP hs⟩
theorem iO.grown {B P b:Nat}{w w':World} (hg:w.grownBy w' (some b)) (hB:B<=w.heap.size) (hb:B<=b):iO B P b w w':=
 ⟨(aB B w).grown hg hB (λk hk=>by cases hk;exact hb),hg.size,λk o hk _ hne _=>by rw[hg.block k (aF hk) (λe=>hne (bD e))];exact hk⟩
theorem iO.out {B P b:Nat}{w w1 w2:World} (h1:Fr B P w w1) (h2:iO B P b w1 w2) (hb:w.heap.size<=b):Fr B P w w2:=
 ⟨h1.bel.trans h2.bel,aW h1.sz h2.sz,λk o hk hP hs=>h2.blk k o (h1.blk k o hk hP hs) hP (by have:=aF hk;omega) hs⟩
theorem HM.fr {B P b:Nat}{had:List (List UInt8)}{w w':World} (h:HM b had w) (hf:Fr B P w w') (hP:b≠P):HM b had w':=by
 obtain⟨es,c,h1⟩:=h.obj;exact h.same ((hf.blk b _ h1 hP trivial).trans h1.symm)
theorem J.map {B P b:Nat}{txt:List UInt8}{rest:List aL}{l:Sp}{nodes:List aD}{w w':World} (h:J B P txt rest l nodes w) {es:Array MapEntry}{c:Nat} (hb:w.heap[b]?=some (.map es c)) (hg:w.grownBy w' (some b)):J B P txt rest l nodes w':=by
 obtain⟨rv,z,nv,h1,h2,h3,h4,h5⟩:=h;have hne: ∀(k:Nat) (o:Obj),w.heap[k]?=some o->(∀es c,o≠ .map es c)->w'.heap[k]?=w.heap[k]?:=λk o hk ho=>hg.block k (aF hk) (λe=>by have e2:k=b:=bD e;subst e2;rw[hb] at hk;exact ho es c (bD hk).symm);have hrow: ∀ {e:TypeId}{s:Nat}{v:Value}{n:Nat}{xs:List Value},w.ownsRow B e s v n xs->w'.ownsRow B e s v n xs:=λ{e s v n xs} hr=>hr.kept hg (by
  rcases hr.2 with⟨rfl,_⟩ | ⟨g,cap,cur,rfl,_,hgc,_⟩
  ·exact .inl rfl
  ·refine .inr (λe2=>?_);have e3:g=b:=bD e2;subst e3;rw[hb] at hgc;cases hgc)
 refine⟨rv,z,nv,?_,h2.same (λg cur hk=>hne g _ hk (λ_ _ h=>by cases h)),h3,⟨hrow h4.row,λy hy=>hrow (h4.kids y hy),λy hy=>hrow (h4.pcs y hy),h4.ak,h4.ap⟩,h5⟩;have:=hne P _ h1 (λ_ _ h=>by cases h);exact this.trans h1
def TB (txt:List UInt8) (rest:List aL):Prop:=rest.length<=65537/\ ∀t∈rest,t.sf<=t.st/\t.st<=txt.length
theorem TB.drop {txt:List UInt8}{rest:List aL} (h:TB txt rest) (k:Nat):TB txt (rest.drop k):=⟨by rw[aV];have:=h.1;omega,λt ht=>h.2 t (List.mem_of_mem_drop ht)⟩
def VE (B P:Nat) (txt:List UInt8) (r:JR) (w:World) (e:Ending) (w':World):Prop:=match r with
 | .ok rr l ns=>e= .returned (.bool true)/\J B P txt rr l ns w'/\Fr B P w w'
 | .bad a er=>Aw B P a er w e w'
def VC (w0:World) (P:Nat) (txt:List UInt8) (lv:Nat):Prop:= ∀(w:World) (rest:List aL) (l:Sp) (nodes:List aD) (key:Sp) (lev:Int),J w0.heap.size P txt rest l nodes w->Below w0.heap.size w0 w->TB txt rest->nodes.length+rest.length<=131074->lev=33-(lv:Int)->
 Calls Tryz.prog 27 #[.pointer (some ⟨P,0,none⟩), .int .i64 lev, .agg #[.int .i64 (key.1:Int), .int .i64 (key.2:Int)]] w (VE w0.heap.size P txt (bP txt lv rest l nodes key) w)
theorem Rt (w0:World) (P:Nat) (txt:List UInt8) (lv:Nat) (IH:VC w0 P txt lv) (w:World) (rest:List aL) (l:Sp) (nodes:List aD) (lev:Int) (h:J w0.heap.size P txt rest l nodes w) (hb:Below w0.heap.size w0 w) (ht:TB txt rest) (hN:nodes.length+rest.length<=131074) (hl:lev=33-(lv:Int)):
  Calls Tryz.prog 59 #[.pointer (some ⟨P,0,none⟩), .int .i64 lev] w (VE w0.heap.size P txt (bP txt lv rest l nodes (0,0)) w):=by
 have C:=hid (IH w rest l nodes (0,0) lev h hb ht hN hl);obtain⟨R,hR⟩:=exQ<|bP txt lv rest l nodes (0,0);rw[hR] at C ⊢;clear hR h hb ht hl IH;cases R with
 | ok rr l2 ns=>
  go_enter Tryz.func59,Tryz.ntmps59;go_wp2_with fail;refine C.out.mono ?_;rintro e w1 ⟨rfl,hj,hf⟩;go_wp2_with fail;go_ret;exact⟨rfl,hj,hf⟩
 | bad a er=>
  go_enter Tryz.func59,Tryz.ntmps59;go_wp2_with fail;refine C.out.mono ?_;rintro e w1 ⟨rfl,hj,hf⟩;go_wp2_with fail;go_ret;exact⟨rfl,hj,hf⟩
theorem Hh: ∀(f:Nat) (l:List UInt8) (i:Nat) (acc:List UInt8),(bY f l i acc).1.length<=acc.length+4*l.length
 | 0,_,_,_=>by simp[bY]
 | _+1,[],_,_=>by simp[bY]
 | f+1,c::r,i,acc=>by
  unfold bY;split
  ·simp
  ·split
   ·simp
   ·rename_i h;have hp:=nP (c::r) (List.cons_ne_nil _ _);obtain⟨P,hP⟩:=exQ<|cI (c::r);rw[hP] at hp h ⊢;have:=Hh f ((c::r).drop P.2.toNat) (i+P.2.toNat) (acc++encodeRune P.1);have h4:=Lib.runeCells_le P.1;rw[Lib.runeCells_length] at h4;rw[aV,aS] at this;omega
theorem Ru (l:List UInt8):(fW l).1.length<=4*l.length:=by
 have h:(bN l 0).1.length<=4*l.length:=by
  unfold bN;split
  ·have:=Hh (l.length+1) (l.drop ((0:Int).toNat+1)) ((0:Int).toNat+1) [];rw[aV] at this;simp only[gR] at this;omega
  ·simp
 unfold fW;split
 ·simp
 ·exact h
def ME (B P b:Nat) (txt:List UInt8) (r:JR×List (List UInt8)) (w:World) (e:Ending) (w':World):Prop:=match r with
 | (.ok rr l ns,had)=>e= .returned (.bool true)/\J B P txt rr l ns w'/\HM b had w'/\iO B P b w w'
 | (.bad a er,_)=>e= .returned (.bool false)/\rV B P (nodesN P w) a er w'/\iO B P b w w'
abbrev jR (w:World) (X P:Nat) (txt:List UInt8) (t:aL) (w':World):Prop:=w'.cell? ⟨P,0,none⟩=some (.string (bs txt))/\w'.cell? ⟨X,0,none⟩=some (.int .i64 (t.sf:Int))/\w'.cell? ⟨X,1,none⟩=some (.int .i64 (t.st:Int))/\Hid (Below w.heap.size w w'/\P<w.heap.size/\X<w.heap.size)
theorem jR.drew {w w1:World}{X P:Nat}{txt:List UInt8}{t:aL} (h:jR w X P txt t w1):jR w X P txt t w1.drew:=by
 obtain⟨a,b,c,d⟩:=h;exact⟨a,b,c,hid ⟨d.out.1.drew,d.out.2⟩⟩
theorem jR.step {w w1 w2:World}{X P:Nat}{txt:List UInt8}{t:aL} (h:jR w X P txt t w1) (hb:Below w1.heap.size w1 w2):jR w X P txt t w2:=by
 obtain⟨a,b,c,d⟩:=h;obtain⟨e1,e2,e3⟩:=d.out;have l1:P<w1.heap.size:=iN e2 e1.size;have l2:X<w1.heap.size:=iN e3 e1.size;exact⟨by rw[hb.cell (p:=⟨P,0,none⟩) l1];exact a,by rw[hb.cell (p:=⟨X,0,none⟩) l2];exact b,by rw[hb.cell (p:=⟨X,1,none⟩) l2];exact c,hid ⟨aC e1 hb,e2,e3⟩⟩
theorem jR.bel {w w1:World}{X P:Nat}{txt:List UInt8}{t:aL} (h:jR w X P txt t w1):Below w.heap.size w w1:=h.2.2.2.out.1
theorem J.box {B P:Nat}{txt:List UInt8}{rest:List aL}{l:Sp}{nodes:List aD}{w:World} (h:J B P txt rest l nodes w):P<w.heap.size/\B<=P/\w.cell? ⟨P,0,none⟩=some (.string (bs txt))/\ ∀b es c,w.heap[b]?=some (.map es c)->b≠P:=by
 obtain⟨rv,z,nv,h1,h2,h3,h4,h5⟩:=h;refine⟨h1.lt,h5,h1.cells.1,λb es c hb e=>?_⟩;subst e;unfold cK at h1;rw[hb] at h1;cases h1
theorem vK (w:World) (cs:Array Value) (t:TypeId) (j:Nat) (u:Value) (h:cs.toList[j]?=some u):(w.alloc (.cells cs t)).cell? ⟨w.heap.size,j,none⟩=some u:=by
 have:=World.news_of_block (w:=w.alloc (.cells cs t)) (heap_alloc_new w _) j u h;have ha:((⟨w.heap.size,0,none⟩:Addr).add j)=⟨w.heap.size,j,none⟩:=by unfold Addr.add;split<;>simp_all
 rw[ha] at this;exact this
theorem tT {w w':World}{r:Option Nat} (hg:w.grownBy w' r) {X:Nat} (hX:X<w.heap.size) (hne:some X≠r) (i:Nat):w'.cell? ⟨X,i,none⟩=w.cell? ⟨X,i,none⟩:=fX (hg.block X hX hne) i
theorem Rv (w0:World) (P:Nat) (txt:List UInt8) (lv:Nat) (IH:VC w0 P txt lv) (b:Nat) (had:List (List UInt8)) (w:World) (rest:List aL) (l:Sp) (nodes:List aD) (lev:Int)
  (h:J w0.heap.size P txt rest l nodes w) (hb:Below w0.heap.size w0 w) (ht:TB txt rest) (hN:nodes.length+rest.length<=131074) (hl:lev=33-(lv:Int)) (hm:HM b had w) (hBb:w0.heap.size<=b) (hhad:had.length<=65537) (hs:txt.length<=65536) (hSV:cO w0) (hT:cC w0):
  Calls Tryz.prog 61 #[.pointer (some ⟨P,0,none⟩), .int .i64 lev, .map (some b)] w (ME w0.heap.size P b txt (gE txt (bP txt lv) true had rest l nodes) w):=by
 have htl:=ht.1;have HNW:=hid h.nodesN;obtain⟨hPl,hBP,hc0,hmP⟩:=h.box;obtain⟨es,cm,hobj⟩:=hm.obj;have hbP:b≠P:=hmP b es cm hobj;have CK:=hid (rX _ P txt rest l nodes w h (by omega));have sl:=aR txt;obtain⟨R,hR⟩:=exQ<|gE txt (bP txt lv) true had rest l nodes;rw[hR];by_cases h8:eP rest=8
 ·cases rest with
  | nil=>cases h8
  | cons t r=>
   have ht8:t.kind=8:=h8;rw[h8] at CK;obtain⟨hss,hst⟩:=ht.2 t iB;have hkm:gE txt (bP txt lv) true had (t::r) l nodes=if(fW ((txt.drop t.sf).take (t.st-t.sf))).1∈had then(.bad t.sf 7,had) else
     match r with
     | []=>(.bad txt.length 2,(fW ((txt.drop t.sf).take (t.st-t.sf))).1::had)
     | c::r2=>if c.kind≠7 then(.bad c.sf 2,(fW ((txt.drop t.sf).take (t.st-t.sf))).1::had) else
      (bP txt lv r2 (c.sf,c.st) nodes (t.sf,t.st),(fW ((txt.drop t.sf).take (t.st-t.sf))).1::had):=by
    unfold gE;rw[if_neg (by decide)];simp only[ht8];rw[if_neg (by simp)];cases r<;>rfl
   rw[hkm] at hR;clear hkm;obtain⟨U,hU⟩:=exQ<|fW ((txt.drop t.sf).take (t.st-t.sf));obtain⟨key,un,ue⟩:=U;have CU:Hid (∀w',Below w0.heap.size w0 w'->Calls Tryz.prog 65 #[.string ((bs txt).extract t.sf t.st)] w' λe w2=>e= .returned (.tuple #[.string (bs key), .int .i64 un, .int .i64 ue])/\Below w'.heap.size w' w2):=hid (λw' hb'=>by have:=xE ((txt.drop t.sf).take (t.st-t.sf)) w' (by rw[cF,aV];omega) (hSV.keep hb') (hT.keep hb');rw[hU] at this;have e:(bs txt).extract t.sf t.st=bs ((txt.drop t.sf).take (t.st-t.sf)):=(by rw[kV,aU]);rw[e];exact this);have hkl:key.length<=1073741824:=by
    have:=Ru ((txt.drop t.sf).take (t.st-t.sf));rw[hU] at this;rw[cF,aV] at this;simp only[] at this;omega
   rw[hU] at hR;simp only[] at hR;have HR:=hid hR;clear hR;have ba:=aH w (.cells #[.int .i64 (t.sf:Int), .int .i64 (t.st:Int)] 59);have hS:jR (w.alloc (.cells #[.int .i64 (t.sf:Int), .int .i64 (t.st:Int)] 59)) w.heap.size P txt t (w.alloc (.cells #[.int .i64 (t.sf:Int), .int .i64 (t.st:Int)] 59)):=
    ⟨by rw[ba.cell (p:=⟨P,0,none⟩) hPl];exact hc0,vK w _ _ 0 _ rfl,vK w _ _ 1 _ rfl,hid ⟨aB _ _,by simp;omega,by simp⟩⟩
   have HJ7:=hid (h.keep ba);have HM7:=hid (World.ownsMap.alloc hm (.cells #[.int .i64 (t.sf:Int), .int .i64 (t.st:Int)] 59));obtain⟨rv,z,nv,jb,jt,_⟩:=h;obtain⟨q0,q1,_⟩:=jb.cells;obtain⟨g,o,c,rfl,hc,k0,k1,k2,_⟩:=jt.head;have d0:(0:Int)<(r.length:Int)+1:=(by omega);have i1:(0:Int)<=(t.sf:Int):=(by omega);have i2:(t.sf:Int)<=(t.st:Int):=(by omega);have i3:(t.st:Int)<=(txt.length:Int):=(by omega);have HW:=hid hb;have hBw:w0.heap.size<=w.heap.size:=hb.size;have HBall:Hid (∀w',Below (w.alloc (.cells #[.int .i64 (t.sf:Int), .int .i64 (t.st:Int)] 59)).heap.size (w.alloc (.cells #[.int .i64 (t.sf:Int), .int .i64 (t.st:Int)] 59)) w'->Below w0.heap.size w0 w'):=hid (λw' h'=>(hb.trans (ba.mono hBw)).trans (h'.mono (by simp;omega)));have HFA:Hid (Fr w0.heap.size P w (w.alloc (.cells #[.int .i64 (t.sf:Int), .int .i64 (t.st:Int)] 59))):=hid (Fr.of_below ba hBw);have hz7:(w.alloc (.cells #[.int .i64 (t.sf:Int), .int .i64 (t.st:Int)] 59)).heap.size=w.heap.size+1:=(by simp);have hbl:b<w.heap.size:=hm.lt;have HKEY:Hid (keyOf Tryz.prog 9 (.string (bs key))=some (.string key)):=hid (by have:=keyOf_string_mk (P:=Tryz.prog) Tryz.underlying9 (s:=bs key) (by rw[aR];unfold maxLen;omega);rw[aU] at this;exact this);have HKL:=hid hkl;have HTB:=hid ht;clear jb jt hU hb ba hkl hm hobj ht;go_enter Tryz.func61,Tryz.ntmps61;go_wp2_with fail;refine CK.out.mono ?_;rintro e w1 ⟨rfl,rfl⟩;go_upto_region 4 with fail;go_region_held3 (λw'=>jR (w.alloc (.cells #[.int .i64 (t.sf:Int), .int .i64 (t.st:Int)] 59)) w.heap.size P txt t w') ((first | exact jR.drew (by assumption) | exact jR.step (by assumption) (by assumption) | assumption))
    ((go_at_call 65;(with_reducible refine(CU.out _ (HBall.out _ (jR.bel (by assumption:jR (w.alloc (.cells #[.int .i64 (t.sf:Int), .int .i64 (t.st:Int)] 59)) w.heap.size P txt t _)))).mono ?_);rintro e w5 ⟨rfl,hb5⟩;have hn5:jR (w.alloc (.cells #[.int .i64 (t.sf:Int), .int .i64 (t.st:Int)] 59)) w.heap.size P txt t w5:=jR.step (by assumption) hb5))
   have hbel:=hn5.bel;have HJ5:=hid (HJ7.out.keep hbel);have HM5:Hid (HM b had w5):=hid (HM.same HM7.out (hbel.block b (by rw[hz7];omega)));have HF5:Hid (Fr w0.heap.size P w w5):=hid (HFA.out.trans (Fr.of_below hbel (by rw[hz7];omega)));have x0:w5.cell? ⟨w.heap.size,0,none⟩=some (.int .i64 (t.sf:Int)):=hn5.2.1;have x1:w5.cell? ⟨w.heap.size,1,none⟩=some (.int .i64 (t.st:Int)):=hn5.2.2.1;have hz5:w.heap.size<w5.heap.size:=by have:=hbel.size;rw[hz7] at this;omega
   have hlook:=HM5.out.look key HKL.out;clear hn5 hbel hS;by_cases hk:key∈had
   ·rw[aN hk] at hlook;have HF:=hid (HR.out.symm.trans (if_pos hk));have CF:=hid (oB _ P txt (t::r) l nodes 7 w5 HJ5.out (by simp only[aT] at htl ⊢;omega) (by omega));clear hk x0 x1;go_wp2_with fail;refine CF.out.mono ?_;rintro e w6 ⟨rfl,hj6,hf6⟩;go_wp2_with fail;go_ret;rw[HF.out];exact⟨rfl,hj6.mono (nU (HNW.out.trans HJ5.out.nodesN.symm)),(HF5.out.trans hf6).toX⟩
   ·rw[aJ hk] at hlook;have HR2:=hid (HR.out.symm.trans (if_neg hk));obtain⟨es5,cm5,hobj5⟩:=HM5.out.obj;have HO5:=hid hobj5;have hown:w5.ownsMap Tryz.prog 9 (plainElem Tryz.prog 4) b had.length (pV had):=HM5.out;clear hk hobj5;go_wp2_with (at_mapUpdate;refine wpList_mapUpdate_own _ rfl _ _ _ 110 rfl 9 4 xR Tryz.underlying110 _ b had.length _ rfl hown (by unfold maxLen;omega) _ _ (.string key) rfl rfl HKEY.out _ [] (plainElem_bool Tryz.underlying4 true) ?_;intro w6 hown6 hg6);have HM6:Hid (HM b (key::had) w6):=hid hown6;have HJ6:=hid (HJ5.out.map HO5.out hg6);have HF6:Hid (iO w0.heap.size P b w w6):=hid (HF5.out.toX.trans (iO.grown hg6 (by omega) hBb));have y0:w6.cell? ⟨w.heap.size,0,none⟩=some (.int .i64 (t.sf:Int)):=by rw[tT hg6 hz5 (by simp;omega)];exact x0
    have y1:w6.cell? ⟨w.heap.size,1,none⟩=some (.int .i64 (t.st:Int)):=by rw[tT hg6 hz5 (by simp;omega)];exact x1
    have hz6:w.heap.size<w6.heap.size:=by have:=hg6.size;omega
    clear hown hown6 hg6 hlook x0 x1;have CSk:=hid (Ax _ P txt t r l nodes w6 HJ6.out (by simp only[aT] at htl;omega));have hr7:r.length<=65536:=by simp only[aT] at htl;omega
    cases r with
    | nil=>
     have HF:Hid (R=(.bad txt.length 2,key::had)):=HR2;go_wp2_with fail;refine CSk.out.mono ?_;rintro e w7 ⟨rfl,hj7,hg7⟩;have HF7:=hid (HF6.out.trans (Fr.ofP (B:=w0.heap.size) hg7 hBP (by omega)).toX);have CT:=hid (qT _ P txt [] _ nodes w7 hj7 (by simp) 7 (by decide));have HN7:=hid hj7.nodesN;have CF:=hid (oB _ P txt [] _ nodes 2 w7 hj7 (by simp) (by omega));clear hj7 hg7 y0 y1;go_wp2_with fail;refine CT.out.mono ?_;rintro e w8 ⟨rfl,rfl⟩;go_wp2_with fail;refine CF.out.mono ?_;rintro e w9 ⟨rfl,hj9,hf9⟩;go_wp2_with fail;go_ret;rw[HF.out];exact⟨rfl,hj9.mono (nU (HNW.out.trans HN7.out.symm)),HF7.out.trans hf9.toX⟩
    | cons c r2=>
     simp only[aT] at hr7;by_cases h7:c.kind=7
     ·have HF:Hid (R=(bP txt lv r2 (c.sf,c.st) nodes (t.sf,t.st),key::had)):=hid (HR2.out.trans (if_neg (λh=>h h7)));go_wp2_with fail;refine CSk.out.mono ?_;rintro e w7 ⟨rfl,hj7,hg7⟩;have HF7:=hid (HF6.out.trans (Fr.ofP (B:=w0.heap.size) hg7 hBP (by omega)).toX);have HM7':Hid (HM b (key::had) w7):=hid (HM6.out.same (hg7.block b HM6.out.lt (by simpa using hbP)));have CT:=hid (rY _ P txt c r2 _ nodes w7 hj7 (by omega) 7 h7);have v0:w7.cell? ⟨w.heap.size,0,none⟩=some (.int .i64 (t.sf:Int)):=by rw[tT hg7 hz6 (by simp;omega)];exact y0
      have v1:w7.cell? ⟨w.heap.size,1,none⟩=some (.int .i64 (t.st:Int)):=by rw[tT hg7 hz6 (by simp;omega)];exact y1
      have hz7':w.heap.size<w7.heap.size:=by have:=hg7.size;omega
      clear hj7 hg7 y0 y1 h7;go_wp2_with fail;refine CT.out.mono ?_;rintro e w8 ⟨rfl,hj8,hg8⟩;have HF8:=hid (HF7.out.trans (Fr.ofP (B:=w0.heap.size) hg8 hBP (by omega)).toX);have HM8:Hid (HM b (key::had) w8):=hid (HM7'.out.same (hg8.block b HM7'.out.lt (by simpa using hbP)));have u0:w8.cell? ⟨w.heap.size,0,none⟩=some (.int .i64 (t.sf:Int)):=by rw[tT hg8 hz7' (by simp;omega)];exact v0
      have u1:w8.cell? ⟨w.heap.size,1,none⟩=some (.int .i64 (t.st:Int)):=by rw[tT hg8 hz7' (by simp;omega)];exact v1
      have HN8:=hid hj8.nodesN;have CV:=hid (IH w8 r2 (c.sf,c.st) nodes (t.sf,t.st) (33-(lv:Int)) hj8 (HW.out.trans HF8.out.bel) (HTB.out.drop 2) (by simp only[aT] at hN;omega) rfl);obtain⟨Q,hQ⟩:=exQ<|bP txt lv r2 (c.sf,c.st) nodes (t.sf,t.st);rw[hQ] at CV HF;clear hj8 hg8 v0 v1 hQ;cases Q with
      | ok rr l2 ns=>
       go_wp2_with fail;refine CV.out.mono ?_;rintro e w9 ⟨rfl,hj9,hf9⟩;have HM9:=hid (HM8.out.fr hf9 hbP);go_wp2_with fail;go_ret;rw[HF.out];exact⟨rfl,hj9,HM9.out,HF8.out.trans hf9.toX⟩
      | bad a er=>
       go_wp2_with fail;refine CV.out.mono ?_;rintro e w9 ⟨rfl,hj9,hf9⟩;go_wp2_with fail;go_ret;rw[HF.out];exact⟨rfl,hj9.mono (nU (HNW.out.trans HN8.out.symm)),HF8.out.trans hf9.toX⟩
     ·have HF:Hid (R=(.bad c.sf 2,key::had)):=hid (HR2.out.trans (if_pos h7));go_wp2_with fail;refine CSk.out.mono ?_;rintro e w7 ⟨rfl,hj7,hg7⟩;have HF7:=hid (HF6.out.trans (Fr.ofP (B:=w0.heap.size) hg7 hBP (by omega)).toX);have CT:=hid (qT _ P txt (c::r2) _ nodes w7 hj7 (by simp only[aT];omega) 7 h7);have HN7:=hid hj7.nodesN;have CF:=hid (oB _ P txt (c::r2) _ nodes 2 w7 hj7 (by simp only[aT];omega) (by omega));clear hj7 hg7 y0 y1 h7;go_wp2_with fail;refine CT.out.mono ?_;rintro e w8 ⟨rfl,rfl⟩;go_wp2_with fail;refine CF.out.mono ?_;rintro e w9 ⟨rfl,hj9,hf9⟩;go_wp2_with fail;go_ret;rw[HF.out];exact⟨rfl,hj9.mono (nU (HNW.out.trans HN7.out.symm)),HF7.out.trans hf9.toX⟩
 ·have hkm:gE txt (bP txt lv) true had rest l nodes=(.bad (eQ txt.length rest) 2,had):=by
   unfold gE;rw[if_neg (by decide)];cases rest with
   | nil=>rfl
   | cons t r=>exact if_pos h8
  rw[hkm] at hR;subst hR;have CF:=hid (oB _ P txt rest l nodes 2 w h (by omega) (by omega));obtain⟨q,hq⟩:=exQ<|eP rest;rw[hq] at CK h8;have d8:((q:Int) !=8)=true:=fH.2 (by omega);clear hkm hq h8;go_enter Tryz.func61,Tryz.ntmps61;go_wp2_with fail;refine CK.out.mono ?_;rintro e w1 ⟨rfl,rfl⟩;go_wp2_with fail;refine CF.out.mono ?_;rintro e w6 ⟨rfl,hj6,hf6⟩;go_wp2_with fail;go_ret;exact⟨rfl,hj6,hf6.toX⟩
theorem Tryz.infoInt:(Tryz.prog.info? 3).map (λi=>(i.zero,i.size,i.bytes))=some (some (.int .i64 0),1,8):=by kernel_rfl
theorem Tryz.infoSpan:(Tryz.prog.info? 59).map (λi=>(i.zero,i.size,i.bytes))=some (some (.agg #[.int .i64 0, .int .i64 0]),2,16):=by kernel_rfl
theorem Tryz.infoNode:(Tryz.prog.info? 81).map (λi=>(i.zero,i.size,i.bytes))=some (some (.agg #[.int .i64 0, .int .i64 0, .int .i64 0, .int .i64 0, .int .i64 0, .slice none 0 0, .slice none 0 0]),7,88):=by kernel_rfl
theorem tU {w:World}{B:Nat}{e:TypeId}{s:Nat}{v:Value}{n:Nat}{xs:List Value} (h:w.ownsRow B e s v n xs): ∀k,v.ownBlock=some k-> ∃cur,w.heap[k]?=some (.cells cur e (0,0)):=by
 intro k hk;rcases h.2 with⟨rfl,_⟩ | ⟨g,cap,cur,rfl,_,hg,_⟩
 ·cases hk
 ·have:g=k:=bD hk;subst this;exact⟨cur,hg⟩
theorem tV {w w':World}{P:Nat}{txt:List UInt8}{rv nv:Value}{l:Sp}{a:Nat}{er:Int}{rest:List aL}{r:Option Nat} (hb:cK w P txt rv l nv a er) (ht:TV w rv rest) (hg:w.grownBy w' r)
  (hr: ∀k,r=some k-> ∃cs t,w.heap[k]?=some (.cells cs t (0,0))/\t≠75/\t≠77):cK w' P txt rv l nv a er/\TV w' rv rest:=by
 refine⟨?_,ht.same (λg cur hk=>hg.block g (aF hk) (λe=>?_))⟩
 ·refine(hg.block P hb.lt (λe=>?_)).trans hb;obtain⟨cs,t,h1,h2,_⟩:=hr P e.symm;have h0:=hb;unfold cK at h0;rw[h1] at h0;injection h0 with h0;injection h0 with _ h0;exact h2 h0
 ·obtain⟨cs,t,h1,_,h2⟩:=hr g e.symm;rw[h1] at hk;injection hk with hk;injection hk with _ hk;exact h2 hk
theorem vL (w:World) (cs:Array Value) (t:TypeId): ∀j u,cs.toList[j]?=some u->(w.alloc (.cells cs t)).cell? ((⟨w.heap.size,0,none⟩:Addr).add j)=some u:=
 λj u hj=>World.news_of_block (w:=w.alloc (.cells cs t)) (heap_alloc_new w _) j u hj
theorem vM {w w':World}{o:Obj}{r:Option Nat} (h:(w.alloc o).grownBy w' r):w.grownBy w' r:=(World.grownBy_alloc w o r).trans h
theorem Hi {ops:Array Oper}{rest:List Oper}{o:Oper}{a:Act}{Q:Exit->Act->World->Prop} (hgd:o.guard=none) (s x:Operand)
  (ho:o.op= .call { callee:= .builtin .append,args:= #[s,x],argTypes:= #[60,60] })
  (B:Nat) (w:World) (v:Value) (l:List Nat) (k:Nat) (hs:a.eval s=v) (hown:w.ownsRow B 3 1 v l.length (dV l)) (hx:a.eval x= .slice (some ⟨w.heap.size,0,none⟩) 1 1) (hl:l.length<=4294967295) (hB:B<=w.heap.size)
  (hK: ∀kv w',w'.ownsRow B 3 1 kv (l.length+1) (dV l++ [.int .i64 (k:Int)])->w.grownBy w' v.ownBlock->(kv.ownBlock=v.ownBlock\/kv.ownBlock=some (w.heap.size+1))->wpList Tryz.prog ops Q rest (a.put o.dst kv) w'):
  wpList Tryz.prog ops Q (o::rest) a (w.alloc (.cells #[.int .i64 (k:Int)] 3)):=by
 obtain⟨i0,hi0,hz0,hz1,hz2⟩:=info_parts Tryz.infoInt;refine wpList_append_lies _ hgd s x 60 ho B 3 i0 _ 1 8 Tryz.underlying60 hi0 hz0 hz1 hz2 rfl (by decide) v _ (dV l) hs (World.ownsRow.alloc hown _) ⟨w.heap.size,0,none⟩ 1 1 [.int .i64 (k:Int)] hx (by rfl) (vL w #[.int .i64 (k:Int)] _)
  (λu hu=>by rw[kH.1 hu];rfl) (by decide) (by unfold maxLen;omega) (by omega) (by simp;omega) _ rfl ?_
 intro g cap w' h5 h6 h7 _;refine hK _ w' h5 (vM h6) ?_;rcases h7 with h7 | h7
 ·exact .inl h7.symm
 ·exact .inr (by rw[h7];simp[Value.ownBlock])
theorem Hj {ops:Array Oper}{o:Oper}{a:Act}{K:Act->World->Prop}{Q:Exit->Act->World->Prop}{E:Prop} (hgd:o.guard=none) (s x:Operand)
  (ho:o.op= .call { callee:= .builtin .append,args:= #[s,x],argTypes:= #[54,54] })
  (B:Nat) (w:World) (v:Value) (l:List Sp) (k:Sp) (hs:a.eval s=v) (hown:w.ownsRow B 59 2 v l.length (lN l)) (hx:a.eval x= .slice (some ⟨w.heap.size,0,none⟩) 1 1) (hl:l.length<=4294967295) (hB:B<=w.heap.size)
  (hK: ∀kv w',w'.ownsRow B 59 2 kv (l.length+1) (lN l++ [.int .i64 (k.1:Int), .int .i64 (k.2:Int)])->w.grownBy w' v.ownBlock->(kv.ownBlock=v.ownBlock\/kv.ownBlock=some (w.heap.size+1))->K (a.put o.dst kv) w'):
  if Region.wanted o (yielded ops a.tmps)=true then Oper.wp Tryz.prog o a (w.alloc (.cells #[.int .i64 (k.1:Int), .int .i64 (k.2:Int)] 59)) K Q else E:=by
 obtain⟨i0,hi0,hz0,hz1,hz2⟩:=info_parts Tryz.infoSpan;refine step_append_lies _ hgd s x 54 ho B 59 i0 _ 2 16 Tryz.underlying54 hi0 hz0 hz1 hz2 rfl (by decide) v _ (lN l) hs (World.ownsRow.alloc hown _) ⟨w.heap.size,0,none⟩ 1 1 [.int .i64 (k.1:Int), .int .i64 (k.2:Int)] hx (by rfl) (vL w #[.int .i64 (k.1:Int), .int .i64 (k.2:Int)] _)
  (λu hu=>by
   rcases dN.1 hu with rfl | hu
   ·rfl
   ·rw[kH.1 hu];rfl) (by decide) (by unfold maxLen;omega) (by omega) (by simp;omega) _ rfl ?_
 intro g cap w' h5 h6 h7 _;refine hK _ w' h5 (vM h6) ?_;rcases h7 with h7 | h7
 ·exact .inl h7.symm
 ·exact .inr (by rw[h7];simp[Value.ownBlock])
theorem Rw {ops:Array Oper}{o:Oper}{a:Act}{K:Act->World->Prop}{Q:Exit->Act->World->Prop}{E:Prop} (hgd:o.guard=none) (s x:Operand)
  (ho:o.op= .call { callee:= .builtin .append,args:= #[s,x],argTypes:= #[47,47] })
  (B:Nat) (w:World) (v:Value) (z:List ND) (y:aD) (cs:Array Value) (hcs:cs.toList=fN (y, .slice none 0 0, .slice none 0 0)) (hs:a.eval s=v) (hown:w.ownsRow B 81 7 v z.length (iW z)) (hx:a.eval x= .slice (some ⟨w.heap.size,0,none⟩) 1 1) (hl:z.length<=4294967295) (hB:B<=w.heap.size)
  (hK: ∀nv w',w'.ownsRow B 81 7 nv (z.length+1) (iW z++fN (y, .slice none 0 0, .slice none 0 0))->w.grownBy w' v.ownBlock->K (a.put o.dst nv) w'):
  if Region.wanted o (yielded ops a.tmps)=true then Oper.wp Tryz.prog o a (w.alloc (.cells cs 81)) K Q else E:=by
 obtain⟨i0,hi0,hz0,hz1,hz2⟩:=info_parts Tryz.infoNode;refine step_append_lies _ hgd s x 47 ho B 81 i0 _ 7 88 Tryz.underlying47 hi0 hz0 hz1 hz2 rfl (by decide) v _ (iW z) hs (World.ownsRow.alloc hown _) ⟨w.heap.size,0,none⟩ 1 1 _ hx (by rw[hcs];rfl) (vL w cs _)
  (λu hu=>by rw[hcs] at hu;simp only[fN,dN,List.not_mem_nil,or_false] at hu;rcases hu with rfl|rfl|rfl|rfl|rfl|rfl|rfl<;>rfl) (by decide) (by unfold maxLen;omega) (by omega) (by simp;omega) _ rfl ?_
 intro g cap w' h5 h6 h7 _;rw[hcs] at h5;exact hK _ w' h5 (vM h6)
theorem cH.cellK {B:Nat}{z:List ND}{g cap:Nat}{w w1:World} (h:cH B z (.slice (some ⟨g,0,none⟩) z.length cap) w) {n:Nat}{y:ND} (hy:z[n]?=some y) (hg:w.grownBy w1 y.2.1.ownBlock):w1.cell? ⟨g,n*7+5,none⟩=some y.2.1/\w1.frozen? ⟨g,n*7+5,none⟩=false:=by
 have hn:=(aQ.1 hy).1;have hrow1:=h.row.kept hg (iC h.row (h.kids y (aX hy)) (by decide));refine⟨?_,World.ownsRow.frozenAt hrow1 _⟩;rw[World.ownsRow.cellAt hrow1 _ (by omega),vF z n y hy 5 (by omega)];rfl
theorem cH.cellP {B:Nat}{z:List ND}{g cap:Nat}{w w1:World} (h:cH B z (.slice (some ⟨g,0,none⟩) z.length cap) w) {n:Nat}{y:ND} (hy:z[n]?=some y) (hg:w.grownBy w1 y.2.2.ownBlock):w1.cell? ⟨g,n*7+6,none⟩=some y.2.2/\w1.frozen? ⟨g,n*7+6,none⟩=false:=by
 have hn:=(aQ.1 hy).1;have hrow1:=h.row.kept hg (iC h.row (h.pcs y (aX hy)) (by decide));refine⟨?_,World.ownsRow.frozenAt hrow1 _⟩;rw[World.ownsRow.cellAt hrow1 _ (by omega),vF z n y hy 6 (by omega)];rfl
theorem Rx (w0:World) (P:Nat) (txt:List UInt8) (lv:Nat) (IH:VC w0 P txt lv) (b:Nat) (had:List (List UInt8)) (w:World) (rest:List aL) (l:Sp) (nodes:List aD) (lev:Int) (X Y:Nat)
  (hX:w.cell? ⟨X,0,none⟩=some (.pointer (some ⟨P,0,none⟩))) (hY:w.cell? ⟨Y,0,none⟩=some (.map (some b)))
  (h:J w0.heap.size P txt rest l nodes w) (hb:Below w0.heap.size w0 w) (ht:TB txt rest) (hN:nodes.length+rest.length<=131074) (hl:lev=33-(lv:Int)) (hm:HM b had w) (hBb:w0.heap.size<=b) (hhad:had.length<=65537) (hs:txt.length<=65536) (hSV:cO w0) (hT:cC w0):
  Calls Tryz.prog 60 #[.int .i64 lev, .pointer (some ⟨X,0,none⟩), .pointer (some ⟨Y,0,none⟩)] w (ME w0.heap.size P b txt (gE txt (bP txt lv) true had rest l nodes) w):=by
 have C:=hid (Rv w0 P txt lv IH b had w rest l nodes lev h hb ht hN hl hm hBb hhad hs hSV hT);obtain⟨R,hR⟩:=exQ<|gE txt (bP txt lv) true had rest l nodes;rw[hR] at C ⊢;clear hR h hb ht hl IH hm;obtain⟨Q,had2⟩:=R;cases Q with
 | ok rr l2 ns=>
  go_enter Tryz.func60,Tryz.ntmps60;go_wp2_with fail;refine C.out.mono ?_;rintro e w1 ⟨rfl,hj,hmm,hf⟩;go_wp2_with fail;go_ret;exact⟨rfl,hj,hmm,hf⟩
 | bad a er=>
  go_enter Tryz.func60,Tryz.ntmps60;go_wp2_with fail;refine C.out.mono ?_;rintro e w1 ⟨rfl,hj,hf⟩;go_wp2_with fail;go_ret;exact⟨rfl,hj,hf⟩
end
end Go.Proofs.YtaifnmjjpddikaaGreatDoor
