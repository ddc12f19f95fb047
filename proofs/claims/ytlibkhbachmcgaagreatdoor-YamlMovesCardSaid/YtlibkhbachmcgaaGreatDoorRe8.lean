import Derived.Test.YtlibkhbachmcgaaGreatDoorRe6
import Derived.Test.YtlibkhbachmcgaaGreatDoorRe2
import Derived.Deep.DeepCutAuto
import Derived.Test.YtlibkhbachmcgaaGreatDoorRe4
import Derived.Maps.Own
import Derived.Maps.OwnOps
import Derived.Maps.Views
import Derived.Deep.RegionHeld3
import Derived.Deep.RegionLaw
set_option maxRecDepth 100000
set_option maxHeartbeats 8000000
namespace Go.Proofs.YtlibkhbachmcgaaGreatDoor
set_option linter.unusedSimpArgs false
set_option linter.unusedVariables false
open Go.RowKit
open Go.Lib hiding intOf
def J (B P:Nat) (txt:List UInt8) (rest:List Tok) (l:Sp) (nodes:List NodeD) (w:World):Prop:=
 ∃rv z nv,JBox w P txt rv l nv 0 0∧TV w rv rest∧z.map (·.1)=nodes∧NodesAt B z nv w∧B≤P
theorem J.keep {B P:Nat}{txt:List UInt8}{rest:List Tok}{l:Sp}{nodes:List NodeD}{w w':World} (h:J B P txt rest l nodes w) (hb:Below w.heap.size w w'):J B P txt rest l nodes w':=by
 obtain⟨rv,z,nv,h1,h2,h3,h4,h5⟩:=h
 exact⟨rv,z,nv,h1.keep hb,h2.keep hb,h3,h4.keep hb,h5⟩
def JBad (B P N:Nat) (a:Nat) (er:Int) (w:World):Prop:= ∃txt rv l z nv,JBox w P txt rv l nv a er∧NodesAt B z nv w∧B≤P∧N≤z.length
theorem JBad.mono {B P N M:Nat}{a:Nat}{er:Int}{w:World} (h:JBad B P N a er w) (hm:M≤N):JBad B P M a er w:=by
 obtain⟨txt,rv,l,z,nv,h1,h2,h3,h4⟩:=h
 exact⟨txt,rv,l,z,nv,h1,h2,h3,Nat.le_trans hm h4⟩
def nodesN (P:Nat) (w:World):Nat:=match w.cell? ⟨P,4,none⟩ with
 | some (.slice _ n _)=>n
 | _=>0
theorem J.nodesN {B P:Nat}{txt:List UInt8}{rest:List Tok}{l:Sp}{nodes:List NodeD}{w:World} (h:J B P txt rest l nodes w):nodesN P w=nodes.length:=by
 obtain⟨rv,z,nv,h1,h2,h3,h4,h5⟩:=h
 obtain⟨p,c,rfl⟩:=h4.slice
 have:=h1.cells.2.2.2.2.1
 unfold Go.Proofs.YtlibkhbachmcgaaGreatDoor.nodesN
 rw[this,←h3,List.length_map]
theorem grown_set (w:World) (P i:Nat) (u:Value):w.grownBy (w.setCell ⟨P,i,none⟩ u) (some P):=
 ⟨rfl,rfl,rfl,by simp[World.setCell],fun k _ hk=>Below.heap_setCell w ⟨P,i,none⟩ u k (fun e=>hk (by rw[e]))⟩
theorem grown_trans {w w1 w2:World}{r:Option Nat} (h1:w.grownBy w1 r) (h2:w1.grownBy w2 r):w.grownBy w2 r:=
 ⟨h2.os.trans h1.os,h2.tape.trans h1.tape,h2.output.trans h1.output,Nat.le_trans h1.size h2.size,fun k hk hne=>(h2.block k (Nat.lt_of_lt_of_le hk h1.size) hne).trans (h1.block k hk hne)⟩
theorem kind_any (B P:Nat) (txt:List UInt8) (rest:List Tok) (l:Sp) (nodes:List NodeD) (w:World) (h:J B P txt rest l nodes w) (hr:rest.length≤1073741824):
  Calls Tryz.prog 232 #[.pointer (some ⟨P,0,none⟩)] w fun e w'=>e= .returned (.int .i64 (kindT rest:Int))∧w=w':=by
 obtain⟨rv,z,nv,hb,ht,_⟩:=h
 obtain⟨c0,c1,c2,c3,c4,c5,c6,_⟩:=hb.cells
 cases rest with
 | nil=>
  obtain⟨p,c,rfl⟩:=ht.empty
  clear hb ht
  go_enter Tryz.func232,Tryz.ntmps232
  go_wp2_with fail
  go_ret
  exact⟨rfl,rfl⟩
 | cons t r=>
  obtain⟨g,o,c,rfl,hc,k0,k1,k2,_⟩:=ht.head
  have d0:(((r.length:Int)+1)==0)=false:=beq_eq_false_iff_ne.2 (by omega)
  have d1:(((r.length+1:Nat):Int)==0)=false:=beq_eq_false_iff_ne.2 (by omega)
  clear hb ht
  go_enter Tryz.func232,Tryz.ntmps232
  go_wp2_with fail
  go_ret
  exact⟨rfl,rfl⟩
theorem here_any (B P:Nat) (txt:List UInt8) (rest:List Tok) (l:Sp) (nodes:List NodeD) (w:World) (h:J B P txt rest l nodes w) (hr:rest.length≤1073741824) (hs:txt.length≤1073741824):
  Calls Tryz.prog 238 #[.pointer (some ⟨P,0,none⟩)] w fun e w'=>e= .returned (.int .i64 (hereT txt.length rest:Int))∧w=w':=by
 obtain⟨rv,z,nv,hb,ht,_⟩:=h
 obtain⟨c0,c1,c2,c3,c4,c5,c6,_⟩:=hb.cells
 have sl:=bs_size txt
 cases rest with
 | nil=>
  obtain⟨p,c,rfl⟩:=ht.empty
  clear hb ht
  go_enter Tryz.func238,Tryz.ntmps238
  go_wp2_with fail
  go_ret
  exact⟨rfl,rfl⟩
 | cons t r=>
  obtain⟨g,o,c,rfl,hc,k0,k1,k2,_⟩:=ht.head
  have d0:(((r.length:Int)+1)==0)=false:=beq_eq_false_iff_ne.2 (by omega)
  have d1:(((r.length+1:Nat):Int)==0)=false:=beq_eq_false_iff_ne.2 (by omega)
  clear hb ht
  go_enter Tryz.func238,Tryz.ntmps238
  go_wp2_with fail
  go_ret
  exact⟨rfl,rfl⟩
theorem JBox.put {w:World}{P:Nat}{txt:List UInt8}{rv nv:Value}{l:Sp}{a:Nat}{er:Int} (h:JBox w P txt rv l nv a er) (a2:Nat) (e2:Int):
  JBox ((w.setCell ⟨P,5,none⟩ (.int .i64 a2)).setCell ⟨P,6,none⟩ (.int .i64 e2)) P txt rv l nv a2 e2:=by
 unfold JBox at h ⊢
 simp[World.setCell,Array.getElem?_modify,h]
def BadE (B P:Nat) (a:Nat) (er:Int) (w:World) (e:Ending) (w':World):Prop:=e= .returned (.bool false)∧JBad B P (nodesN P w) a er w'∧Fr B P w w'
theorem fail_any (B P:Nat) (txt:List UInt8) (rest:List Tok) (l:Sp) (nodes:List NodeD) (er:Int) (w:World) (h:J B P txt rest l nodes w) (hr:rest.length≤1073741824) (hs:txt.length≤1073741824):
  Calls Tryz.prog 195 #[.pointer (some ⟨P,0,none⟩), .int .i64 er] w (BadE B P (hereT txt.length rest) er w):=by
 have C:=hid (here_any B P txt rest l nodes w h hr hs)
 have hN:=h.nodesN
 obtain⟨rv,z,nv,hb,ht,hzn,hna,hBP⟩:=h
 have HNA:=hid (hna.other hb (by decide) (by decide) (by decide) (grown_trans (grown_set w P 5 (.int .i64 (hereT txt.length rest:Int))) (grown_set _ P 6 (.int .i64 er))))
 have HN:Hid (nodesN P w≤z.length):=hid (by rw[hN,←hzn,List.length_map];exact Nat.le_refl _)
 obtain⟨c0,c1,c2,c3,c4,c5,c6,f1,f2,f3,f4,f5,f6⟩:=hb.cells
 have HP:=hid (hb.put (hereT txt.length rest) er)
 have HF:=hid ((Fr.setP (B:=B) (P:=P) (i:=5) (w:=w) (u:= .int .i64 (hereT txt.length rest:Int)) hBP).trans (Fr.setP (i:=6) (u:= .int .i64 er) hBP))
 clear hb ht hN hzn hna
 go_enter Tryz.func195,Tryz.ntmps195
 go_wp2_with fail
 refine C.out.mono ?_
 rintro e w1 ⟨rfl,rfl⟩
 go_wp2_with fail
 go_ret
 exact⟨rfl,⟨_,_,_,_,_,HP.out,HNA.out,hBP,HN.out⟩,HF.out⟩
theorem JBox.step {w:World}{P:Nat}{txt:List UInt8}{rv nv:Value}{l:Sp}{a:Nat}{er:Int} (h:JBox w P txt rv l nv a er) (rv2:Value) (l2:Sp):
  JBox (((w.setCell ⟨P,2,none⟩ (.int .i64 l2.1)).setCell ⟨P,3,none⟩ (.int .i64 l2.2)).setCell ⟨P,1,none⟩ rv2) P txt rv2 l2 nv a er:=by
 unfold JBox at h ⊢
 simp[World.setCell,Array.getElem?_modify,h]
theorem skip_any (B P:Nat) (txt:List UInt8) (t:Tok) (r:List Tok) (l:Sp) (nodes:List NodeD) (w:World) (h:J B P txt (t::r) l nodes w) (hr:r.length≤1073741824):
  Calls Tryz.prog 233 #[.pointer (some ⟨P,0,none⟩)] w fun e w'=>e= .returned (.tuple #[])∧J B P txt r (t.sf,t.st) nodes w'∧w.grownBy w' (some P):=by
 obtain⟨rv,z,nv,hb,ht,hz,hn,hBP⟩:=h
 obtain⟨c0,c1,c2,c3,c4,c5,c6,f1,f2,f3,f4,f5,f6⟩:=hb.cells
 obtain⟨g,o,c,rfl,hc,k0,k1,k2,htr⟩:=ht.head
 have HB:=hid (hb.step (.slice (if c=1 then some ⟨g,o,none⟩ else some ⟨g,o+3,none⟩) r.length (c-1)) (t.sf,t.st))
 have HG:=hid (grown_trans (grown_trans (grown_set w P 2 (.int .i64 (t.sf:Int))) (grown_set _ P 3 (.int .i64 (t.st:Int)))) (grown_set _ P 1 (.slice (if c=1 then some ⟨g,o,none⟩ else some ⟨g,o+3,none⟩) r.length (c-1))))
 have HX:=hid hb
 have HT:=hid htr
 have HN:=hid hn
 have d0:(0:Int)<(r.length:Int)+1:=by omega
 have d1:(1:Int)≤(r.length:Int)+1:=by omega
 have d2:(r.length:Int)+1≤(c:Int):=by omega
 clear hb ht htr hn
 go_enter Tryz.func233,Tryz.ntmps233
 go_wp2_with fail
 go_region
 go_end0
 refine⟨rfl,J.keep ⟨_,z,nv,HB.out,HT.out.same (fun g2 cur hg2=>?_),hz,HN.out.other HX.out (by decide) (by decide) (by decide) HG.out,hBP⟩ (Below.refl _ _).drew,grown_trans HG.out ⟨rfl,rfl,rfl,Nat.le_refl _,fun _ _ _=>rfl⟩⟩
 ·refine HG.out.block g2 (cell_it hg2) (fun e=>?_)
  have e2:g2=P:=Option.some.inj e
  subst e2
  have h1:=HX.out
  unfold JBox at h1
  rw[hg2] at h1
  injection h1 with h1
  injection h1 with _ h1
  exact absurd h1 (by decide)
theorem Fr.ofP {B P:Nat}{w w':World} (hg:w.grownBy w' (some P)) (hBP:B≤P) (hB:B≤w.heap.size):Fr B P w w':=
 ⟨(Below.refl B w).grown hg hB (fun k hk=>by cases hk;exact hBP),hg.size,fun k o hk hne _=>by rw[hg.block k (cell_it hk) (fun e=>hne (Option.some.inj e))];exact hk⟩
theorem takes_yes (B P:Nat) (txt:List UInt8) (t:Tok) (r:List Tok) (l:Sp) (nodes:List NodeD) (w:World) (h:J B P txt (t::r) l nodes w) (hr:r.length≤1048576) (k:Nat) (hk:t.kind=k):
  Calls Tryz.prog 261 #[.pointer (some ⟨P,0,none⟩), .int .i64 (k:Int)] w fun e w'=>e= .returned (.bool true)∧J B P txt r (t.sf,t.st) nodes w'∧w.grownBy w' (some P):=by
 have C1:=kind_any B P txt (t::r) l nodes w h (by simp only[List.length_cons];omega)
 have hkk:kindT (t::r)=k:=hk
 rw[hkk] at C1
 have HC1:=hid C1
 have HC2:=hid (skip_any B P txt t r l nodes w h (by omega))
 have d0:((k:Int) !=(k:Int))=false:=by rw[bne,beq_self_eq_true];rfl
 clear C1 h hk hkk
 go_enter Tryz.func261,Tryz.ntmps261
 go_wp2_with fail
 refine HC1.out.mono ?_
 rintro e w1 ⟨rfl,rfl⟩
 go_wp2_with fail
 refine HC2.out.mono ?_
 rintro e w2 ⟨rfl,hj,hf⟩
 go_wp2_with fail
 go_ret
 exact⟨rfl,hj,hf⟩
theorem takes_no (B P:Nat) (txt:List UInt8) (rest:List Tok) (l:Sp) (nodes:List NodeD) (w:World) (h:J B P txt rest l nodes w) (hr:rest.length≤1048577) (k:Nat) (hk:kindT rest≠k):
  Calls Tryz.prog 261 #[.pointer (some ⟨P,0,none⟩), .int .i64 (k:Int)] w fun e w'=>e= .returned (.bool false)∧w=w':=by
 have C1:=kind_any B P txt rest l nodes w h (by omega)
 obtain⟨q,hq⟩: ∃q,kindT rest=q:=⟨_,rfl⟩
 rw[hq] at C1 hk
 have HC1:=hid C1
 have d0:((q:Int) !=(k:Int))=true:=bne_iff_ne.2 (by omega)
 clear C1 h hk hq
 go_enter Tryz.func261,Tryz.ntmps261
 go_wp2_with fail
 refine HC1.out.mono ?_
 rintro e w1 ⟨rfl,rfl⟩
 go_wp2_with fail
 go_ret
 exact⟨rfl,rfl⟩
theorem kindOf_any (k:Nat) (w:World):Calls Tryz.prog 231 #[.int .i64 (k:Int)] w fun e w'=>e= .returned (.int .i64 (kindOfT k:Int))∧w=w':=by
 unfold kindOfT
 by_cases h12:k=12
 ·subst h12
  go_enter Tryz.func231,Tryz.ntmps231
  go_wp2_with fail
  go_ret
  exact⟨rfl,rfl⟩
 have d12:((k:Int)==12)=false:=beq_eq_false_iff_ne.2 (by omega)
 rw[if_neg h12]
 by_cases h10:k=10
 ·subst h10
  go_enter Tryz.func231,Tryz.ntmps231
  go_wp2_with fail
  go_ret
  exact⟨rfl,rfl⟩
 have d10:((k:Int)==10)=false:=beq_eq_false_iff_ne.2 (by omega)
 by_cases h11:k=11
 ·subst h11
  go_enter Tryz.func231,Tryz.ntmps231
  go_wp2_with fail
  go_ret
  exact⟨rfl,rfl⟩
 have d11:((k:Int)==11)=false:=beq_eq_false_iff_ne.2 (by omega)
 rw[if_neg (by omega)]
 by_cases h9:k=9
 ·subst h9
  go_enter Tryz.func231,Tryz.ntmps231
  go_wp2_with fail
  go_ret
  exact⟨rfl,rfl⟩
 have d9:((k:Int)==9)=false:=beq_eq_false_iff_ne.2 (by omega)
 rw[if_neg h9]
 by_cases h8:k=8
 ·subst h8
  go_enter Tryz.func231,Tryz.ntmps231
  go_wp2_with fail
  go_ret
  exact⟨rfl,rfl⟩
 have d8:((k:Int)==8)=false:=beq_eq_false_iff_ne.2 (by omega)
 rw[if_neg h8]
 by_cases h4:k=4
 ·subst h4
  go_enter Tryz.func231,Tryz.ntmps231
  go_wp2_with fail
  go_ret
  exact⟨rfl,rfl⟩
 have d4:((k:Int)==4)=false:=beq_eq_false_iff_ne.2 (by omega)
 rw[if_neg h4]
 by_cases h2:k=2
 ·subst h2
  go_enter Tryz.func231,Tryz.ntmps231
  go_wp2_with fail
  go_ret
  exact⟨rfl,rfl⟩
 have d2:((k:Int)==2)=false:=beq_eq_false_iff_ne.2 (by omega)
 rw[if_neg h2]
 clear h12 h10 h11 h9 h8 h4 h2
 go_enter Tryz.func231,Tryz.ntmps231
 go_wp2_with fail
 go_ret
 exact⟨rfl,rfl⟩
end Go.Proofs.YtlibkhbachmcgaaGreatDoor
namespace Go.Proofs.YtlibkhbachmcgaaGreatDoor
set_option linter.unusedSimpArgs false
set_option linter.unusedVariables false
open Go.RowKit Go.Maps Go.WideMaps
open Go.Lib hiding intOf
structure FrX (B P b:Nat) (w w':World):Prop where
 bel:Below B w w'
 sz:w.heap.size≤w'.heap.size
 blk: ∀(k:Nat) (o:Obj),w.heap[k]?=some o→k≠P→k≠b→Safe o→w'.heap[k]?=some o
theorem FrX.trans {B P b:Nat}{w w1 w2:World} (h1:FrX B P b w w1) (h2:FrX B P b w1 w2):FrX B P b w w2:=
 ⟨h1.bel.trans h2.bel,Nat.le_trans h1.sz h2.sz,fun k o hk hP hb hs=>h2.blk k o (h1.blk k o hk hP hb hs) hP hb hs⟩
theorem Fr.toX {B P b:Nat}{w w':World} (h:Fr B P w w'):FrX B P b w w':=⟨h.bel,h.sz,fun k o hk hP _ hs=>h.blk k o hk hP hs⟩
theorem FrX.grown {B P b:Nat}{w w':World} (hg:w.grownBy w' (some b)) (hB:B≤w.heap.size) (hb:B≤b):FrX B P b w w':=
 ⟨(Below.refl B w).grown hg hB (fun k hk=>by cases hk;exact hb),hg.size,fun k o hk _ hne _=>by rw[hg.block k (cell_it hk) (fun e=>hne (Option.some.inj e))];exact hk⟩
theorem FrX.out {B P b:Nat}{w w1 w2:World} (h1:Fr B P w w1) (h2:FrX B P b w1 w2) (hb:w.heap.size≤b):Fr B P w w2:=
 ⟨h1.bel.trans h2.bel,Nat.le_trans h1.sz h2.sz,fun k o hk hP hs=>h2.blk k o (h1.blk k o hk hP hs) hP (by have:=cell_it hk;omega) hs⟩
theorem HM.fr {B P b:Nat}{had:List (List UInt8)}{w w':World} (h:HM b had w) (hf:Fr B P w w') (hP:b≠P):HM b had w':=by
 obtain⟨es,c,h1⟩:=h.obj
 exact h.same ((hf.blk b _ h1 hP trivial).trans h1.symm)
theorem J.map {B P b:Nat}{txt:List UInt8}{rest:List Tok}{l:Sp}{nodes:List NodeD}{w w':World} (h:J B P txt rest l nodes w) {es:Array MapEntry}{c:Nat} (hb:w.heap[b]?=some (.map es c)) (hg:w.grownBy w' (some b)):J B P txt rest l nodes w':=by
 obtain⟨rv,z,nv,h1,h2,h3,h4,h5⟩:=h
 have hne: ∀(k:Nat) (o:Obj),w.heap[k]?=some o→(∀es c,o≠ .map es c)→w'.heap[k]?=w.heap[k]?:=fun k o hk ho=>hg.block k (cell_it hk) (fun e=>by
  have e2:k=b:=Option.some.inj e
  subst e2
  rw[hb] at hk
  exact ho es c (Option.some.inj hk).symm)
 have hrow: ∀ {e:TypeId}{s:Nat}{v:Value}{n:Nat}{xs:List Value},w.ownsRow B e s v n xs→w'.ownsRow B e s v n xs:=fun {e s v n xs} hr=>hr.kept hg (by
  rcases hr.2 with⟨rfl,_⟩ | ⟨g,cap,cur,rfl,_,hgc,_⟩
  ·exact .inl rfl
  ·refine .inr (fun e2=>?_)
   have e3:g=b:=Option.some.inj e2
   subst e3
   rw[hb] at hgc
   cases hgc)
 refine⟨rv,z,nv,?_,h2.same (fun g cur hk=>hne g _ hk (fun _ _ h=>by cases h)),h3,⟨hrow h4.row,fun y hy=>hrow (h4.kids y hy),fun y hy=>hrow (h4.pcs y hy),h4.ak,h4.ap⟩,h5⟩
 have:=hne P _ h1 (fun _ _ h=>by cases h)
 exact this.trans h1
def TB (txt:List UInt8) (rest:List Tok):Prop:=rest.length≤65537∧ ∀t∈rest,t.sf≤t.st∧t.st≤txt.length
theorem TB.drop {txt:List UInt8}{rest:List Tok} (h:TB txt rest) (k:Nat):TB txt (rest.drop k):=⟨by rw[List.length_drop];have:=h.1;omega,fun t ht=>h.2 t (List.mem_of_mem_drop ht)⟩
def VE (B P:Nat) (txt:List UInt8) (r:JR) (w:World) (e:Ending) (w':World):Prop:=match r with
 | .ok rr l ns=>e= .returned (.bool true)∧J B P txt rr l ns w'∧Fr B P w w'
 | .bad a er=>BadE B P a er w e w'
def VC (w0:World) (P:Nat) (txt:List UInt8) (lv:Nat):Prop:= ∀(w:World) (rest:List Tok) (l:Sp) (nodes:List NodeD) (key:Sp) (lev:Int),J w0.heap.size P txt rest l nodes w→Below w0.heap.size w0 w→TB txt rest→nodes.length+rest.length≤131074→lev=33-(lv:Int)→
 Calls Tryz.prog 194 #[.pointer (some ⟨P,0,none⟩), .int .i64 lev, .agg #[.int .i64 (key.1:Int), .int .i64 (key.2:Int)]] w (VE w0.heap.size P txt (valueM txt lv rest l nodes key) w)
theorem item_any (w0:World) (P:Nat) (txt:List UInt8) (lv:Nat) (IH:VC w0 P txt lv) (w:World) (rest:List Tok) (l:Sp) (nodes:List NodeD) (lev:Int) (h:J w0.heap.size P txt rest l nodes w) (hb:Below w0.heap.size w0 w) (ht:TB txt rest) (hN:nodes.length+rest.length≤131074) (hl:lev=33-(lv:Int)):
  Calls Tryz.prog 235 #[.pointer (some ⟨P,0,none⟩), .int .i64 lev] w (VE w0.heap.size P txt (valueM txt lv rest l nodes (0,0)) w):=by
 have C:=hid (IH w rest l nodes (0,0) lev h hb ht hN hl)
 obtain⟨R,hR⟩: ∃R,valueM txt lv rest l nodes (0,0)=R:=⟨_,rfl⟩
 rw[hR] at C ⊢
 clear hR h hb ht hl IH
 cases R with
 | ok rr l2 ns=>
  go_enter Tryz.func235,Tryz.ntmps235
  go_wp2_with fail
  refine C.out.mono ?_
  rintro e w1 ⟨rfl,hj,hf⟩
  go_wp2_with fail
  go_ret
  exact⟨rfl,hj,hf⟩
 | bad a er=>
  go_enter Tryz.func235,Tryz.ntmps235
  go_wp2_with fail
  refine C.out.mono ?_
  rintro e w1 ⟨rfl,hj,hf⟩
  go_wp2_with fail
  go_ret
  exact⟨rfl,hj,hf⟩
theorem readJ_len: ∀(f:Nat) (l:List UInt8) (i:Nat) (acc:List UInt8),(readGo f l i acc).1.length≤acc.length+4*l.length
 | 0,_,_,_=>by simp[readGo]
 | _+1,[],_,_=>by simp[readGo]
 | f+1,c::r,i,acc=>by
  unfold readGo
  split
  ·simp
  ·split
   ·simp
   ·rename_i h
    have hp:=partL_bd (c::r) (List.cons_ne_nil _ _)
    obtain⟨P,hP⟩: ∃P,partL (c::r)=P:=⟨_,rfl⟩
    rw[hP] at hp h ⊢
    have:=readJ_len f ((c::r).drop P.2.toNat) (i+P.2.toNat) (acc++encodeRune P.1)
    have h4:=Lib.runeCells_le P.1
    rw[Lib.runeCells_length] at h4
    rw[List.length_drop,List.length_append] at this
    omega
theorem unq_len1 (l:List UInt8):(unqL l).1.length≤4*l.length:=by
 have h:(readL l 0).1.length≤4*l.length:=by
  unfold readL
  split
  ·have:=readJ_len (l.length+1) (l.drop ((0:Int).toNat+1)) ((0:Int).toNat+1) []
   rw[List.length_drop] at this
   simp only[List.length_nil] at this
   omega
  ·simp
 unfold unqL
 split
 ·simp
 ·exact h
def ME (B P b:Nat) (txt:List UInt8) (r:JR×List (List UInt8)) (w:World) (e:Ending) (w':World):Prop:=match r with
 | (.ok rr l ns,had)=>e= .returned (.bool true)∧J B P txt rr l ns w'∧HM b had w'∧FrX B P b w w'
 | (.bad a er,_)=>e= .returned (.bool false)∧JBad B P (nodesN P w) a er w'∧FrX B P b w w'
abbrev SpH (w:World) (X P:Nat) (txt:List UInt8) (t:Tok) (w':World):Prop:=w'.cell? ⟨P,0,none⟩=some (.string (bs txt))∧w'.cell? ⟨X,0,none⟩=some (.int .i64 (t.sf:Int))∧w'.cell? ⟨X,1,none⟩=some (.int .i64 (t.st:Int))∧Hid (Below w.heap.size w w'∧P<w.heap.size∧X<w.heap.size)
theorem SpH.drew {w w1:World}{X P:Nat}{txt:List UInt8}{t:Tok} (h:SpH w X P txt t w1):SpH w X P txt t w1.drew:=by
 obtain⟨a,b,c,d⟩:=h
 exact⟨a,b,c,hid ⟨d.out.1.drew,d.out.2⟩⟩
theorem SpH.step {w w1 w2:World}{X P:Nat}{txt:List UInt8}{t:Tok} (h:SpH w X P txt t w1) (hb:Below w1.heap.size w1 w2):SpH w X P txt t w2:=by
 obtain⟨a,b,c,d⟩:=h
 obtain⟨e1,e2,e3⟩:=d.out
 have l1:P<w1.heap.size:=Nat.lt_of_lt_of_le e2 e1.size
 have l2:X<w1.heap.size:=Nat.lt_of_lt_of_le e3 e1.size
 exact⟨by rw[hb.cell (p:=⟨P,0,none⟩) l1];exact a,by rw[hb.cell (p:=⟨X,0,none⟩) l2];exact b,by rw[hb.cell (p:=⟨X,1,none⟩) l2];exact c,hid ⟨below_of_new e1 hb,e2,e3⟩⟩
theorem SpH.bel {w w1:World}{X P:Nat}{txt:List UInt8}{t:Tok} (h:SpH w X P txt t w1):Below w.heap.size w w1:=h.2.2.2.out.1
theorem J.box {B P:Nat}{txt:List UInt8}{rest:List Tok}{l:Sp}{nodes:List NodeD}{w:World} (h:J B P txt rest l nodes w):P<w.heap.size∧B≤P∧w.cell? ⟨P,0,none⟩=some (.string (bs txt))∧ ∀b es c,w.heap[b]?=some (.map es c)→b≠P:=by
 obtain⟨rv,z,nv,h1,h2,h3,h4,h5⟩:=h
 refine⟨h1.lt,h5,h1.cells.1,fun b es c hb e=>?_⟩
 subst e
 unfold JBox at h1
 rw[hb] at h1
 cases h1
theorem cell_new2 (w:World) (cs:Array Value) (t:TypeId) (j:Nat) (u:Value) (h:cs.toList[j]?=some u):(w.alloc (.cells cs t)).cell? ⟨w.heap.size,j,none⟩=some u:=by
 have:=World.news_of_block (w:=w.alloc (.cells cs t)) (heap_alloc_new w _) j u h
 have ha:((⟨w.heap.size,0,none⟩:Addr).add j)=⟨w.heap.size,j,none⟩:=by unfold Addr.add;split<;>simp_all
 rw[ha] at this
 exact this
theorem grown_cell {w w':World}{r:Option Nat} (hg:w.grownBy w' r) {X:Nat} (hX:X<w.heap.size) (hne:some X≠r) (i:Nat):w'.cell? ⟨X,i,none⟩=w.cell? ⟨X,i,none⟩:=cell_same (hg.block X hX hne) i
theorem member_any (w0:World) (P:Nat) (txt:List UInt8) (lv:Nat) (IH:VC w0 P txt lv) (b:Nat) (had:List (List UInt8)) (w:World) (rest:List Tok) (l:Sp) (nodes:List NodeD) (lev:Int)
  (h:J w0.heap.size P txt rest l nodes w) (hb:Below w0.heap.size w0 w) (ht:TB txt rest) (hN:nodes.length+rest.length≤131074) (hl:lev=33-(lv:Int)) (hm:HM b had w) (hBb:w0.heap.size≤b) (hhad:had.length≤65537) (hs:txt.length≤65536) (hSV:SVar w0) (hT:Tabs w0):
  Calls Tryz.prog 237 #[.pointer (some ⟨P,0,none⟩), .int .i64 lev, .map (some b)] w (ME w0.heap.size P b txt (kidM txt (valueM txt lv) true had rest l nodes) w):=by
 have htl:=ht.1
 have HNW:=hid h.nodesN
 obtain⟨hPl,hBP,hc0,hmP⟩:=h.box
 obtain⟨es,cm,hobj⟩:=hm.obj
 have hbP:b≠P:=hmP b es cm hobj
 have CK:=hid (kind_any _ P txt rest l nodes w h (by omega))
 have sl:=bs_size txt
 obtain⟨R,hR⟩: ∃R,kidM txt (valueM txt lv) true had rest l nodes=R:=⟨_,rfl⟩
 rw[hR]
 by_cases h8:kindT rest=8
 ·cases rest with
  | nil=>cases h8
  | cons t r=>
   have ht8:t.kind=8:=h8
   rw[h8] at CK
   obtain⟨hss,hst⟩:=ht.2 t List.mem_cons_self
   have hkm:kidM txt (valueM txt lv) true had (t::r) l nodes=if(unqL ((txt.drop t.sf).take (t.st-t.sf))).1∈had then(.bad t.sf 7,had) else
     match r with
     | []=>(.bad txt.length 2,(unqL ((txt.drop t.sf).take (t.st-t.sf))).1::had)
     | c::r2=>if c.kind≠7 then(.bad c.sf 2,(unqL ((txt.drop t.sf).take (t.st-t.sf))).1::had) else
      (valueM txt lv r2 (c.sf,c.st) nodes (t.sf,t.st),(unqL ((txt.drop t.sf).take (t.st-t.sf))).1::had):=by
    unfold kidM
    rw[if_neg (by decide)]
    simp only[ht8]
    rw[if_neg (by simp)]
    cases r<;>rfl
   rw[hkm] at hR
   clear hkm
   obtain⟨U,hU⟩: ∃U,unqL ((txt.drop t.sf).take (t.st-t.sf))=U:=⟨_,rfl⟩
   obtain⟨key,un,ue⟩:=U
   have CU:Hid (∀w',Below w0.heap.size w0 w'→Calls Tryz.prog 158 #[.string ((bs txt).extract t.sf t.st)] w' fun e w2=>e= .returned (.tuple #[.string (bs key), .int .i64 un, .int .i64 ue])∧Below w'.heap.size w' w2):=hid (fun w' hb'=>by
    have:=unquote_any ((txt.drop t.sf).take (t.st-t.sf)) w' (by rw[List.length_take,List.length_drop];omega) (hSV.keep hb') (hT.keep hb')
    rw[hU] at this
    have e:(bs txt).extract t.sf t.st=bs ((txt.drop t.sf).take (t.st-t.sf)):=by rw[bs_extract,bs_data]
    rw[e]
    exact this)
   have hkl:key.length≤1073741824:=by
    have:=unq_len1 ((txt.drop t.sf).take (t.st-t.sf))
    rw[hU] at this
    rw[List.length_take,List.length_drop] at this
    simp only[] at this
    omega
   rw[hU] at hR
   simp only[] at hR
   have HR:=hid hR
   clear hR
   have ba:=below_alloc1 w (.cells #[.int .i64 (t.sf:Int), .int .i64 (t.st:Int)] 42)
   have hS:SpH (w.alloc (.cells #[.int .i64 (t.sf:Int), .int .i64 (t.st:Int)] 42)) w.heap.size P txt t (w.alloc (.cells #[.int .i64 (t.sf:Int), .int .i64 (t.st:Int)] 42)):=
    ⟨by rw[ba.cell (p:=⟨P,0,none⟩) hPl];exact hc0,cell_new2 w _ _ 0 _ rfl,cell_new2 w _ _ 1 _ rfl,hid ⟨Below.refl _ _,by simp;omega,by simp⟩⟩
   have HJ7:=hid (h.keep ba)
   have HM7:=hid (World.ownsMap.alloc hm (.cells #[.int .i64 (t.sf:Int), .int .i64 (t.st:Int)] 42))
   obtain⟨rv,z,nv,jb,jt,_⟩:=h
   obtain⟨q0,q1,_⟩:=jb.cells
   obtain⟨g,o,c,rfl,hc,k0,k1,k2,_⟩:=jt.head
   have d0:(0:Int)<(r.length:Int)+1:=by omega
   have i1:(0:Int)≤(t.sf:Int):=by omega
   have i2:(t.sf:Int)≤(t.st:Int):=by omega
   have i3:(t.st:Int)≤(txt.length:Int):=by omega
   have HW:=hid hb
   have hBw:w0.heap.size≤w.heap.size:=hb.size
   have HBall:Hid (∀w',Below (w.alloc (.cells #[.int .i64 (t.sf:Int), .int .i64 (t.st:Int)] 42)).heap.size (w.alloc (.cells #[.int .i64 (t.sf:Int), .int .i64 (t.st:Int)] 42)) w'→Below w0.heap.size w0 w'):=hid (fun w' h'=>(hb.trans (ba.mono hBw)).trans (h'.mono (by simp;omega)))
   have HFA:Hid (Fr w0.heap.size P w (w.alloc (.cells #[.int .i64 (t.sf:Int), .int .i64 (t.st:Int)] 42))):=hid (Fr.of_below ba hBw)
   have hz7:(w.alloc (.cells #[.int .i64 (t.sf:Int), .int .i64 (t.st:Int)] 42)).heap.size=w.heap.size+1:=by simp
   have hbl:b<w.heap.size:=hm.lt
   have HKEY:Hid (keyOf Tryz.prog 9 (.string (bs key))=some (.string key)):=hid (by
    have:=keyOf_string_mk (P:=Tryz.prog) Tryz.underlying9 (s:=bs key) (by rw[bs_size];unfold maxLen;omega)
    rw[bs_data] at this
    exact this)
   have HKL:=hid hkl
   have HTB:=hid ht
   clear jb jt hU hb ba hkl hm hobj ht
   go_enter Tryz.func237,Tryz.ntmps237
   go_wp2_with fail
   refine CK.out.mono ?_
   rintro e w1 ⟨rfl,rfl⟩
   go_upto_region 4 with fail
   go_region_held3 (fun w'=>SpH (w.alloc (.cells #[.int .i64 (t.sf:Int), .int .i64 (t.st:Int)] 42)) w.heap.size P txt t w') ((first | exact SpH.drew (by assumption) | exact SpH.step (by assumption) (by assumption) | assumption))
    ((go_at_call 158;(with_reducible refine(CU.out _ (HBall.out _ (SpH.bel (by assumption:SpH (w.alloc (.cells #[.int .i64 (t.sf:Int), .int .i64 (t.st:Int)] 42)) w.heap.size P txt t _)))).mono ?_);rintro e w5 ⟨rfl,hb5⟩;have hn5:SpH (w.alloc (.cells #[.int .i64 (t.sf:Int), .int .i64 (t.st:Int)] 42)) w.heap.size P txt t w5:=SpH.step (by assumption) hb5))
   have hbel:=hn5.bel
   have HJ5:=hid (HJ7.out.keep hbel)
   have HM5:Hid (HM b had w5):=hid (HM.same HM7.out (hbel.block b (by rw[hz7];omega)))
   have HF5:Hid (Fr w0.heap.size P w w5):=hid (HFA.out.trans (Fr.of_below hbel (by rw[hz7];omega)))
   have x0:w5.cell? ⟨w.heap.size,0,none⟩=some (.int .i64 (t.sf:Int)):=hn5.2.1
   have x1:w5.cell? ⟨w.heap.size,1,none⟩=some (.int .i64 (t.st:Int)):=hn5.2.2.1
   have hz5:w.heap.size<w5.heap.size:=by have:=hbel.size;rw[hz7] at this;omega
   have hlook:=HM5.out.look key HKL.out
   clear hn5 hbel hS
   by_cases hk:key∈had
   ·rw[decide_eq_true hk] at hlook
    have HF:=hid (HR.out.symm.trans (if_pos hk))
    have CF:=hid (fail_any _ P txt (t::r) l nodes 7 w5 HJ5.out (by simp only[List.length_cons] at htl ⊢;omega) (by omega))
    clear hk x0 x1
    go_wp2_with fail
    refine CF.out.mono ?_
    rintro e w6 ⟨rfl,hj6,hf6⟩
    go_wp2_with fail
    go_ret
    rw[HF.out]
    exact⟨rfl,hj6.mono (Nat.le_of_eq (HNW.out.trans HJ5.out.nodesN.symm)),(HF5.out.trans hf6).toX⟩
   ·rw[decide_eq_false hk] at hlook
    have HR2:=hid (HR.out.symm.trans (if_neg hk))
    obtain⟨es5,cm5,hobj5⟩:=HM5.out.obj
    have HO5:=hid hobj5
    have hown:w5.ownsMap Tryz.prog 9 (plainElem Tryz.prog 4) b had.length (hadD had):=HM5.out
    clear hk hobj5
    go_wp2_with (at_mapUpdate;refine wpList_mapUpdate_own _ rfl _ _ _ 138 rfl 9 4 lawK Tryz.underlying138 _ b had.length _ rfl hown (by unfold maxLen;omega) _ _ (.string key) rfl rfl HKEY.out _ [] (plainElem_bool Tryz.underlying4 true) ?_;intro w6 hown6 hg6)
    have HM6:Hid (HM b (key::had) w6):=hid hown6
    have HJ6:=hid (HJ5.out.map HO5.out hg6)
    have HF6:Hid (FrX w0.heap.size P b w w6):=hid (HF5.out.toX.trans (FrX.grown hg6 (by omega) hBb))
    have y0:w6.cell? ⟨w.heap.size,0,none⟩=some (.int .i64 (t.sf:Int)):=by rw[grown_cell hg6 hz5 (by simp;omega)];exact x0
    have y1:w6.cell? ⟨w.heap.size,1,none⟩=some (.int .i64 (t.st:Int)):=by rw[grown_cell hg6 hz5 (by simp;omega)];exact x1
    have hz6:w.heap.size<w6.heap.size:=by have:=hg6.size;omega
    clear hown hown6 hg6 hlook x0 x1
    have CSk:=hid (skip_any _ P txt t r l nodes w6 HJ6.out (by simp only[List.length_cons] at htl;omega))
    have hr7:r.length≤65536:=by simp only[List.length_cons] at htl;omega
    cases r with
    | nil=>
     have HF:Hid (R=(.bad txt.length 2,key::had)):=HR2
     go_wp2_with fail
     refine CSk.out.mono ?_
     rintro e w7 ⟨rfl,hj7,hg7⟩
     have HF7:=hid (HF6.out.trans (Fr.ofP (B:=w0.heap.size) hg7 hBP (by omega)).toX)
     have CT:=hid (takes_no _ P txt [] _ nodes w7 hj7 (by simp) 7 (by decide))
     have HN7:=hid hj7.nodesN
     have CF:=hid (fail_any _ P txt [] _ nodes 2 w7 hj7 (by simp) (by omega))
     clear hj7 hg7 y0 y1
     go_wp2_with fail
     refine CT.out.mono ?_
     rintro e w8 ⟨rfl,rfl⟩
     go_wp2_with fail
     refine CF.out.mono ?_
     rintro e w9 ⟨rfl,hj9,hf9⟩
     go_wp2_with fail
     go_ret
     rw[HF.out]
     exact⟨rfl,hj9.mono (Nat.le_of_eq (HNW.out.trans HN7.out.symm)),HF7.out.trans hf9.toX⟩
    | cons c r2=>
     simp only[List.length_cons] at hr7
     by_cases h7:c.kind=7
     ·have HF:Hid (R=(valueM txt lv r2 (c.sf,c.st) nodes (t.sf,t.st),key::had)):=hid (HR2.out.trans (if_neg (fun h=>h h7)))
      go_wp2_with fail
      refine CSk.out.mono ?_
      rintro e w7 ⟨rfl,hj7,hg7⟩
      have HF7:=hid (HF6.out.trans (Fr.ofP (B:=w0.heap.size) hg7 hBP (by omega)).toX)
      have HM7':Hid (HM b (key::had) w7):=hid (HM6.out.same (hg7.block b HM6.out.lt (by simpa using hbP)))
      have CT:=hid (takes_yes _ P txt c r2 _ nodes w7 hj7 (by omega) 7 h7)
      have v0:w7.cell? ⟨w.heap.size,0,none⟩=some (.int .i64 (t.sf:Int)):=by rw[grown_cell hg7 hz6 (by simp;omega)];exact y0
      have v1:w7.cell? ⟨w.heap.size,1,none⟩=some (.int .i64 (t.st:Int)):=by rw[grown_cell hg7 hz6 (by simp;omega)];exact y1
      have hz7':w.heap.size<w7.heap.size:=by have:=hg7.size;omega
      clear hj7 hg7 y0 y1 h7
      go_wp2_with fail
      refine CT.out.mono ?_
      rintro e w8 ⟨rfl,hj8,hg8⟩
      have HF8:=hid (HF7.out.trans (Fr.ofP (B:=w0.heap.size) hg8 hBP (by omega)).toX)
      have HM8:Hid (HM b (key::had) w8):=hid (HM7'.out.same (hg8.block b HM7'.out.lt (by simpa using hbP)))
      have u0:w8.cell? ⟨w.heap.size,0,none⟩=some (.int .i64 (t.sf:Int)):=by rw[grown_cell hg8 hz7' (by simp;omega)];exact v0
      have u1:w8.cell? ⟨w.heap.size,1,none⟩=some (.int .i64 (t.st:Int)):=by rw[grown_cell hg8 hz7' (by simp;omega)];exact v1
      have HN8:=hid hj8.nodesN
      have CV:=hid (IH w8 r2 (c.sf,c.st) nodes (t.sf,t.st) (33-(lv:Int)) hj8 (HW.out.trans HF8.out.bel) (HTB.out.drop 2) (by simp only[List.length_cons] at hN;omega) rfl)
      obtain⟨Q,hQ⟩: ∃Q,valueM txt lv r2 (c.sf,c.st) nodes (t.sf,t.st)=Q:=⟨_,rfl⟩
      rw[hQ] at CV HF
      clear hj8 hg8 v0 v1 hQ
      cases Q with
      | ok rr l2 ns=>
       go_wp2_with fail
       refine CV.out.mono ?_
       rintro e w9 ⟨rfl,hj9,hf9⟩
       have HM9:=hid (HM8.out.fr hf9 hbP)
       go_wp2_with fail
       go_ret
       rw[HF.out]
       exact⟨rfl,hj9,HM9.out,HF8.out.trans hf9.toX⟩
      | bad a er=>
       go_wp2_with fail
       refine CV.out.mono ?_
       rintro e w9 ⟨rfl,hj9,hf9⟩
       go_wp2_with fail
       go_ret
       rw[HF.out]
       exact⟨rfl,hj9.mono (Nat.le_of_eq (HNW.out.trans HN8.out.symm)),HF8.out.trans hf9.toX⟩
     ·have HF:Hid (R=(.bad c.sf 2,key::had)):=hid (HR2.out.trans (if_pos h7))
      go_wp2_with fail
      refine CSk.out.mono ?_
      rintro e w7 ⟨rfl,hj7,hg7⟩
      have HF7:=hid (HF6.out.trans (Fr.ofP (B:=w0.heap.size) hg7 hBP (by omega)).toX)
      have CT:=hid (takes_no _ P txt (c::r2) _ nodes w7 hj7 (by simp only[List.length_cons];omega) 7 h7)
      have HN7:=hid hj7.nodesN
      have CF:=hid (fail_any _ P txt (c::r2) _ nodes 2 w7 hj7 (by simp only[List.length_cons];omega) (by omega))
      clear hj7 hg7 y0 y1 h7
      go_wp2_with fail
      refine CT.out.mono ?_
      rintro e w8 ⟨rfl,rfl⟩
      go_wp2_with fail
      refine CF.out.mono ?_
      rintro e w9 ⟨rfl,hj9,hf9⟩
      go_wp2_with fail
      go_ret
      rw[HF.out]
      exact⟨rfl,hj9.mono (Nat.le_of_eq (HNW.out.trans HN7.out.symm)),HF7.out.trans hf9.toX⟩
 ·have hkm:kidM txt (valueM txt lv) true had rest l nodes=(.bad (hereT txt.length rest) 2,had):=by
   unfold kidM
   rw[if_neg (by decide)]
   cases rest with
   | nil=>rfl
   | cons t r=>exact if_pos h8
  rw[hkm] at hR
  subst hR
  have CF:=hid (fail_any _ P txt rest l nodes 2 w h (by omega) (by omega))
  obtain⟨q,hq⟩: ∃q,kindT rest=q:=⟨_,rfl⟩
  rw[hq] at CK h8
  have d8:((q:Int) !=8)=true:=bne_iff_ne.2 (by omega)
  clear hkm hq h8
  go_enter Tryz.func237,Tryz.ntmps237
  go_wp2_with fail
  refine CK.out.mono ?_
  rintro e w1 ⟨rfl,rfl⟩
  go_wp2_with fail
  refine CF.out.mono ?_
  rintro e w6 ⟨rfl,hj6,hf6⟩
  go_wp2_with fail
  go_ret
  exact⟨rfl,hj6,hf6.toX⟩
theorem Tryz.infoInt:(Tryz.prog.info? 3).map (fun i=>(i.zero,i.size,i.bytes))=some (some (.int .i64 0),1,8):=by kernel_rfl
theorem Tryz.infoSpan:(Tryz.prog.info? 42).map (fun i=>(i.zero,i.size,i.bytes))=some (some (.agg #[.int .i64 0, .int .i64 0]),2,16):=by kernel_rfl
theorem Tryz.infoNode:(Tryz.prog.info? 192).map (fun i=>(i.zero,i.size,i.bytes))=some (some (.agg #[.int .i64 0, .int .i64 0, .int .i64 0, .int .i64 0, .int .i64 0, .slice none 0 0, .slice none 0 0]),7,88):=by kernel_rfl
theorem own_obj {w:World}{B:Nat}{e:TypeId}{s:Nat}{v:Value}{n:Nat}{xs:List Value} (h:w.ownsRow B e s v n xs): ∀k,v.ownBlock=some k→ ∃cur,w.heap[k]?=some (.cells cur e (0,0)):=by
 intro k hk
 rcases h.2 with⟨rfl,_⟩ | ⟨g,cap,cur,rfl,_,hg,_⟩
 ·cases hk
 ·have:g=k:=Option.some.inj hk
  subst this
  exact⟨cur,hg⟩
theorem rest_kept {w w':World}{P:Nat}{txt:List UInt8}{rv nv:Value}{l:Sp}{a:Nat}{er:Int}{rest:List Tok}{r:Option Nat} (hb:JBox w P txt rv l nv a er) (ht:TV w rv rest) (hg:w.grownBy w' r)
  (hr: ∀k,r=some k→ ∃cs t,w.heap[k]?=some (.cells cs t (0,0))∧t≠210∧t≠188):JBox w' P txt rv l nv a er∧TV w' rv rest:=by
 refine⟨?_,ht.same (fun g cur hk=>hg.block g (cell_it hk) (fun e=>?_))⟩
 ·refine(hg.block P hb.lt (fun e=>?_)).trans hb
  obtain⟨cs,t,h1,h2,_⟩:=hr P e.symm
  have h0:=hb
  unfold JBox at h0
  rw[h1] at h0
  injection h0 with h0
  injection h0 with _ h0
  exact h2 h0
 ·obtain⟨cs,t,h1,_,h2⟩:=hr g e.symm
  rw[h1] at hk
  injection hk with hk
  injection hk with _ hk
  exact h2 hk
theorem one_news (w:World) (cs:Array Value) (t:TypeId): ∀j u,cs.toList[j]?=some u→(w.alloc (.cells cs t)).cell? ((⟨w.heap.size,0,none⟩:Addr).add j)=some u:=
 fun j u hj=>World.news_of_block (w:=w.alloc (.cells cs t)) (heap_alloc_new w _) j u hj
theorem grown_of_alloc {w w':World}{o:Obj}{r:Option Nat} (h:(w.alloc o).grownBy w' r):w.grownBy w' r:=(World.grownBy_alloc w o r).trans h
theorem wpList_kid {ops:Array Oper}{rest:List Oper}{o:Oper}{a:Act}{Q:Exit→Act→World→Prop} (hgd:o.guard=none) (s x:Operand)
  (ho:o.op= .call { callee:= .builtin .append,args:= #[s,x],argTypes:= #[43,43] })
  (B:Nat) (w:World) (v:Value) (l:List Nat) (k:Nat) (hs:a.eval s=v) (hown:w.ownsRow B 3 1 v l.length (intCells l)) (hx:a.eval x= .slice (some ⟨w.heap.size,0,none⟩) 1 1) (hl:l.length≤4294967295) (hB:B≤w.heap.size)
  (hK: ∀kv w',w'.ownsRow B 3 1 kv (l.length+1) (intCells l++ [.int .i64 (k:Int)])→w.grownBy w' v.ownBlock→(kv.ownBlock=v.ownBlock∨kv.ownBlock=some (w.heap.size+1))→wpList Tryz.prog ops Q rest (a.put o.dst kv) w'):
  wpList Tryz.prog ops Q (o::rest) a (w.alloc (.cells #[.int .i64 (k:Int)] 3)):=by
 obtain⟨i0,hi0,hz0,hz1,hz2⟩:=info_parts Tryz.infoInt
 refine wpList_append_lies _ hgd s x 43 ho B 3 i0 _ 1 8 Tryz.underlying43 hi0 hz0 hz1 hz2 rfl (by decide) v _ (intCells l) hs (World.ownsRow.alloc hown _) ⟨w.heap.size,0,none⟩ 1 1 [.int .i64 (k:Int)] hx (by rfl) (one_news w #[.int .i64 (k:Int)] _)
  (fun u hu=>by rw[List.mem_singleton.1 hu];rfl) (by decide) (by unfold maxLen;omega) (by omega) (by simp;omega) _ rfl ?_
 intro g cap w' h5 h6 h7 _
 refine hK _ w' h5 (grown_of_alloc h6) ?_
 rcases h7 with h7 | h7
 ·exact .inl h7.symm
 ·exact .inr (by rw[h7];simp[Value.ownBlock])
theorem step_pc {ops:Array Oper}{o:Oper}{a:Act}{K:Act→World→Prop}{Q:Exit→Act→World→Prop}{E:Prop} (hgd:o.guard=none) (s x:Operand)
  (ho:o.op= .call { callee:= .builtin .append,args:= #[s,x],argTypes:= #[64,64] })
  (B:Nat) (w:World) (v:Value) (l:List Sp) (k:Sp) (hs:a.eval s=v) (hown:w.ownsRow B 42 2 v l.length (spCells l)) (hx:a.eval x= .slice (some ⟨w.heap.size,0,none⟩) 1 1) (hl:l.length≤4294967295) (hB:B≤w.heap.size)
  (hK: ∀kv w',w'.ownsRow B 42 2 kv (l.length+1) (spCells l++ [.int .i64 (k.1:Int), .int .i64 (k.2:Int)])→w.grownBy w' v.ownBlock→(kv.ownBlock=v.ownBlock∨kv.ownBlock=some (w.heap.size+1))→K (a.put o.dst kv) w'):
  if Region.wanted o (yielded ops a.tmps)=true then Oper.wp Tryz.prog o a (w.alloc (.cells #[.int .i64 (k.1:Int), .int .i64 (k.2:Int)] 42)) K Q else E:=by
 obtain⟨i0,hi0,hz0,hz1,hz2⟩:=info_parts Tryz.infoSpan
 refine step_append_lies _ hgd s x 64 ho B 42 i0 _ 2 16 Tryz.underlying64 hi0 hz0 hz1 hz2 rfl (by decide) v _ (spCells l) hs (World.ownsRow.alloc hown _) ⟨w.heap.size,0,none⟩ 1 1 [.int .i64 (k.1:Int), .int .i64 (k.2:Int)] hx (by rfl) (one_news w #[.int .i64 (k.1:Int), .int .i64 (k.2:Int)] _)
  (fun u hu=>by
   rcases List.mem_cons.1 hu with rfl | hu
   ·rfl
   ·rw[List.mem_singleton.1 hu];rfl) (by decide) (by unfold maxLen;omega) (by omega) (by simp;omega) _ rfl ?_
 intro g cap w' h5 h6 h7 _
 refine hK _ w' h5 (grown_of_alloc h6) ?_
 rcases h7 with h7 | h7
 ·exact .inl h7.symm
 ·exact .inr (by rw[h7];simp[Value.ownBlock])
theorem step_node {ops:Array Oper}{o:Oper}{a:Act}{K:Act→World→Prop}{Q:Exit→Act→World→Prop}{E:Prop} (hgd:o.guard=none) (s x:Operand)
  (ho:o.op= .call { callee:= .builtin .append,args:= #[s,x],argTypes:= #[144,144] })
  (B:Nat) (w:World) (v:Value) (z:List ND) (y:NodeD) (cs:Array Value) (hcs:cs.toList=ndCells (y, .slice none 0 0, .slice none 0 0)) (hs:a.eval s=v) (hown:w.ownsRow B 192 7 v z.length (nodeCells z)) (hx:a.eval x= .slice (some ⟨w.heap.size,0,none⟩) 1 1) (hl:z.length≤4294967295) (hB:B≤w.heap.size)
  (hK: ∀nv w',w'.ownsRow B 192 7 nv (z.length+1) (nodeCells z++ndCells (y, .slice none 0 0, .slice none 0 0))→w.grownBy w' v.ownBlock→K (a.put o.dst nv) w'):
  if Region.wanted o (yielded ops a.tmps)=true then Oper.wp Tryz.prog o a (w.alloc (.cells cs 192)) K Q else E:=by
 obtain⟨i0,hi0,hz0,hz1,hz2⟩:=info_parts Tryz.infoNode
 refine step_append_lies _ hgd s x 144 ho B 192 i0 _ 7 88 Tryz.underlying144 hi0 hz0 hz1 hz2 rfl (by decide) v _ (nodeCells z) hs (World.ownsRow.alloc hown _) ⟨w.heap.size,0,none⟩ 1 1 _ hx (by rw[hcs];rfl) (one_news w cs _)
  (fun u hu=>by
   rw[hcs] at hu
   simp only[ndCells,List.mem_cons,List.not_mem_nil,or_false] at hu
   rcases hu with rfl | rfl | rfl | rfl | rfl | rfl | rfl<;>rfl) (by decide) (by unfold maxLen;omega) (by omega) (by simp;omega) _ rfl ?_
 intro g cap w' h5 h6 h7 _
 rw[hcs] at h5
 exact hK _ w' h5 (grown_of_alloc h6)
theorem NodesAt.cellK {B:Nat}{z:List ND}{g cap:Nat}{w w1:World} (h:NodesAt B z (.slice (some ⟨g,0,none⟩) z.length cap) w) {n:Nat}{y:ND} (hy:z[n]?=some y) (hg:w.grownBy w1 y.2.1.ownBlock):w1.cell? ⟨g,n*7+5,none⟩=some y.2.1∧w1.frozen? ⟨g,n*7+5,none⟩=false:=by
 have hn:=(List.getElem?_eq_some_iff.1 hy).1
 have hrow1:=h.row.kept hg (own_ne h.row (h.kids y (List.mem_of_getElem? hy)) (by decide))
 refine⟨?_,World.ownsRow.frozenAt hrow1 _⟩
 rw[World.ownsRow.cellAt hrow1 _ (by omega),nodeCells_at z n y hy 5 (by omega)]
 rfl
theorem NodesAt.cellP {B:Nat}{z:List ND}{g cap:Nat}{w w1:World} (h:NodesAt B z (.slice (some ⟨g,0,none⟩) z.length cap) w) {n:Nat}{y:ND} (hy:z[n]?=some y) (hg:w.grownBy w1 y.2.2.ownBlock):w1.cell? ⟨g,n*7+6,none⟩=some y.2.2∧w1.frozen? ⟨g,n*7+6,none⟩=false:=by
 have hn:=(List.getElem?_eq_some_iff.1 hy).1
 have hrow1:=h.row.kept hg (own_ne h.row (h.pcs y (List.mem_of_getElem? hy)) (by decide))
 refine⟨?_,World.ownsRow.frozenAt hrow1 _⟩
 rw[World.ownsRow.cellAt hrow1 _ (by omega),nodeCells_at z n y hy 6 (by omega)]
 rfl
theorem closure_any (w0:World) (P:Nat) (txt:List UInt8) (lv:Nat) (IH:VC w0 P txt lv) (b:Nat) (had:List (List UInt8)) (w:World) (rest:List Tok) (l:Sp) (nodes:List NodeD) (lev:Int) (X Y:Nat)
  (hX:w.cell? ⟨X,0,none⟩=some (.pointer (some ⟨P,0,none⟩))) (hY:w.cell? ⟨Y,0,none⟩=some (.map (some b)))
  (h:J w0.heap.size P txt rest l nodes w) (hb:Below w0.heap.size w0 w) (ht:TB txt rest) (hN:nodes.length+rest.length≤131074) (hl:lev=33-(lv:Int)) (hm:HM b had w) (hBb:w0.heap.size≤b) (hhad:had.length≤65537) (hs:txt.length≤65536) (hSV:SVar w0) (hT:Tabs w0):
  Calls Tryz.prog 236 #[.int .i64 lev, .pointer (some ⟨X,0,none⟩), .pointer (some ⟨Y,0,none⟩)] w (ME w0.heap.size P b txt (kidM txt (valueM txt lv) true had rest l nodes) w):=by
 have C:=hid (member_any w0 P txt lv IH b had w rest l nodes lev h hb ht hN hl hm hBb hhad hs hSV hT)
 obtain⟨R,hR⟩: ∃R,kidM txt (valueM txt lv) true had rest l nodes=R:=⟨_,rfl⟩
 rw[hR] at C ⊢
 clear hR h hb ht hl IH hm
 obtain⟨Q,had2⟩:=R
 cases Q with
 | ok rr l2 ns=>
  go_enter Tryz.func236,Tryz.ntmps236
  go_wp2_with fail
  refine C.out.mono ?_
  rintro e w1 ⟨rfl,hj,hmm,hf⟩
  go_wp2_with fail
  go_ret
  exact⟨rfl,hj,hmm,hf⟩
 | bad a er=>
  go_enter Tryz.func236,Tryz.ntmps236
  go_wp2_with fail
  refine C.out.mono ?_
  rintro e w1 ⟨rfl,hj,hf⟩
  go_wp2_with fail
  go_ret
  exact⟨rfl,hj,hf⟩
end Go.Proofs.YtlibkhbachmcgaaGreatDoor
