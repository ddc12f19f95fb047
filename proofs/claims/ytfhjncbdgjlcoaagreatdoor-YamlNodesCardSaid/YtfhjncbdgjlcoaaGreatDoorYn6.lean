import Derived.Test.YtfhjncbdgjlcoaaGreatDoorYn5
set_option linter.unusedVariables false
set_option linter.unusedSimpArgs false
set_option maxRecDepth 100000
set_option maxHeartbeats 8000000
namespace Go.Proofs.YtfhjncbdgjlcoaaGreatDoor
open Tryz
section
open Go.RowKit
open Go.Lib hiding intOf
def J (B P:Nat) (txt:aC) (rest:List aR) (l:Sp) (nodes:List aM) (w:World):Prop:=
 ∃rv z nv,dO w P txt rv l nv 0 0/\TV w rv rest/\z.map (·.1)=nodes/\cK B z nv w/\B<=P
theorem J.keep {B P:Nat}{txt:aC}{rest:List aR}{l:Sp}{nodes:List aM}{w w':World} (h:J B P txt rest l nodes w) (hb:aA w w'):J B P txt rest l nodes w':=by
 obtain⟨rv,z,nv,c,a,e,b,d⟩:=h;exact⟨rv,z,nv,c.keep hb,a.keep hb,e,b.keep hb,d⟩
def uP (B P N:Nat) (a:Nat) (er:Int) (w:World):Prop:= ∃txt rv l z nv,dO w P txt rv l nv a er/\cK B z nv w/\B<=P/\N<=z.length
theorem uP.mono {B P N M:Nat}{a:Nat}{er:Int}{w:World} (h:uP B P N a er w) (hm:M<=N):uP B P M a er w:=by
 obtain⟨b,rv,l,z,nv,e,c,f,d⟩:=h;exact⟨b,rv,l,z,nv,e,c,f,bF hm d⟩
def nodesN (P:Nat) (w:World):Nat:=match w.cell? (P,4) with
 | some (.slice _ n _)=>n
 | _=>0
theorem J.nodesN {B P:Nat}{txt:aC}{rest:List aR}{l:Sp}{nodes:List aM}{w:World} (h:J B P txt rest l nodes w):nodesN P w=nodes.length:=by
 obtain⟨rv,z,nv,b,h2,d,a,h5⟩:=h;obtain⟨p,c,rfl⟩:=a.slice;have:=b.cells.2.2.2.2.1;unfold Go.Proofs.YtfhjncbdgjlcoaaGreatDoor.nodesN;rw[this,<-d,bP]
theorem dP (w:World) (P i:Nat) (u:Value):w.grownBy (w.setCell ⟨P,i,none⟩ u) (some P):=
 ⟨rfl,rfl,rfl,by simp[World.setCell],λk _ a=>eW w ⟨P,i,none⟩ u k (λe=>a (by rw[e]))⟩
theorem gX {w w1 w2:World}{r:Option Nat} (h1:w.grownBy w1 r) (h2:w1.grownBy w2 r):w.grownBy w2 r:=
 ⟨h2.os.trans h1.os,h2.tape.trans h1.tape,h2.output.trans h1.output,bF h1.size h2.size,λk b a=>(h2.block k (iG b h1.size) a).trans (h1.block k b a)⟩
theorem uQ (B P:Nat) (txt:aC) (rest:List aR) (l:Sp) (nodes:List aM) (w:World) (h:J B P txt rest l nodes w) (hr:rest.length<=1073741824):
  Calls prog 187 #[some P] w λe w'=>e= .returned (.int .i64 (dY rest:Int))/\w=w':=I5
theorem Dy (B P:Nat) (txt:aC) (rest:List aR) (l:Sp) (nodes:List aM) (w:World) (h:J B P txt rest l nodes w) (hr:rest.length<=1073741824) (hs:txt.length<=1073741824):
  Calls prog 193 #[some P] w λe w'=>e= .returned (.int .i64 (cH txt.length rest:Int))/\w=w':=by
 have NH:=trivial;exact I5
theorem dO.put {w:World}{P:Nat}{txt:aC}{rv nv:Value}{l:Sp}{a:Nat}{er:Int} (h:dO w P txt rv l nv a er) (a2:Nat) (e2:Int):
  dO ((w.setCell ⟨P,5,none⟩ (.int .i64 a2)).setCell ⟨P,6,none⟩ (.int .i64 e2)) P txt rv l nv a2 e2:=D8
def Dz (B P:Nat) (a:Nat) (er:Int) (w:World) (e:Ending) (w':World):Prop:=e= .returned (.bool false)/\uP B P (nodesN P w) a er w'/\Fr B P w w'
theorem qM (B P:Nat) (txt:aC) (rest:List aR) (l:Sp) (nodes:List aM) (er:Int) (w:World) (h:J B P txt rest l nodes w) (hr:rest.length<=1073741824) (hs:txt.length<=1073741824):
  Calls prog 152 #[some P,er] w (Dz B P (cH txt.length rest) er w):=by
 have C:=hid (Dy B P txt rest l nodes w h hr hs);have g:=h.nodesN;obtain⟨rv,z,nv,d,k,c,b,a⟩:=h;have f:=hid (b.other d b_ b_ b_ (gX (dP w P 5 (.int .i64 (cH txt.length rest:Int))) (dP _ P 6 (.int .i64 er))));have j:Hid (nodesN P w<=z.length):=hid (by rw[g,<-c,bP];exact aF _);obtain⟨c0,c1,c2,c3,c4,c5,c6,f1,f2,f3,f4,f5,f6⟩:=d.cells;have n:=hid (d.put (cH txt.length rest) er);have m:=hid ((Fr.setP (B:=B) (P:=P) (i:=5) (w:=w) (u:= .int .i64 (cH txt.length rest:Int)) a).trans (Fr.setP (i:=6) (u:= .int .i64 er) a));clear d k g c b;go_in;go_wp2_with fail;refine C.out.mono ?_;rintro e w1 ⟨rfl,rfl⟩;go_wp2;go_ret;exact⟨rfl,⟨_,_,_,_,_,n.out,f.out,a,j.out⟩,m.out⟩
theorem dO.step {w:World}{P:Nat}{txt:aC}{rv nv:Value}{l:Sp}{a:Nat}{er:Int} (h:dO w P txt rv l nv a er) (rv2:Value) (l2:Sp):
  dO (((w.setCell ⟨P,2,none⟩ (.int .i64 l2.1)).setCell ⟨P,3,none⟩ (.int .i64 l2.2)).setCell ⟨P,1,none⟩ rv2) P txt rv2 l2 nv a er:=D8
theorem Ea (B P:Nat) (txt:aC) (t:aR) (r:List aR) (l:Sp) (nodes:List aM) (w:World) (h:J B P txt (t::r) l nodes w) (hr:r.length<=1073741824):
  Calls prog 188 #[some P] w λe w'=>e= .returned (.tuple #[])/\J B P txt r (t.sf,t.st) nodes w'/\w.grownBy w' (some P):=by
 obtain⟨rv,z,nv,f,k,s,m,j⟩:=h;obtain⟨c0,c1,c2,c3,c4,c5,c6,f1,f2,f3,f4,f5,f6⟩:=f.cells;obtain⟨g,o,c,rfl,hc,k0,k1,k2,d⟩:=k.head;have q:=hid (f.step (.slice (if c=1 then some ⟨g,o,none⟩ else some ⟨g,o+3,none⟩) r.length (c-1)) (t.sf,t.st));have i:=hid (gX (gX (dP w P 2 (.int .i64 (t.sf:Int))) (dP _ P 3 (.int .i64 (t.st:Int)))) (dP _ P 1 (.slice (if c=1 then some ⟨g,o,none⟩ else some ⟨g,o+3,none⟩) r.length (c-1))));have n:=hid f;have p:=hid d;have u:=hid m;have d0:(0:Int)<(r.length:Int)+1:=a_
 have d1:(1:Int)<=(r.length:Int)+1:=a_
 have d2:(r.length:Int)+1<=(c:Int):=a_
 clear f k d m;go_in;go_wp2;go_region;go_end0;refine⟨rfl,J.keep ⟨_,z,nv,q.out,p.out.same (λg2 cur b=>?_),s,u.out.other n.out b_ b_ b_ i.out,j⟩ (aD _ _).drew,gX i.out ⟨rfl,rfl,rfl,aF _,λ_ _ _=>rfl⟩⟩
 .refine i.out.block g2 (aG b) (λe=>?_);have e2:g2=P:=bA e;subst e2;have a:=n.out;unfold dO at a;rw[b] at a;injection a with a;injection a with _ a;exact absurd a b_
theorem Fr.ofP {B P:Nat}{w w':World} (hg:w.grownBy w' (some P)) (hBP:B<=P) (hB:B<=w.heap.size):Fr B P w w':=
 ⟨(aD B w).grown hg hB (λk a=>by cases a;exact hBP),hg.size,λk o a b _=>by rw[hg.block k (aG a) (λe=>b (bA e))];exact a⟩
theorem uR (B P:Nat) (txt:aC) (t:aR) (r:List aR) (l:Sp) (nodes:List aM) (w:World) (h:J B P txt (t::r) l nodes w) (hr:r.length<=1048576) (k:Nat) (hk:t.kind=k):
  Calls prog 212 #[some P,k] w λe w'=>e= .returned (.bool true)/\J B P txt r (t.sf,t.st) nodes w'/\w.grownBy w' (some P):=by
 have C1:=uQ B P txt (t::r) l nodes w h K';have a:dY (t::r)=k:=hk;rw[a] at C1;have c:=hid C1;have b:=hid (Ea B P txt t r l nodes w h a_);have d0:((k:Int) !=(k:Int))=false:=by rw[bne,beq_self_eq_true];rfl
 clear C1 h hk a;go_in;go_wp2_with fail;refine c.out.mono ?_;rintro e w1 ⟨rfl,rfl⟩;go_wp2_with fail;refine b.out.mono ?_;rintro e w2 ⟨rfl,f,d⟩;go_wp2;go_ret;exact⟨rfl,f,d⟩
theorem tC (B P:Nat) (txt:aC) (rest:List aR) (l:Sp) (nodes:List aM) (w:World) (h:J B P txt rest l nodes w) (hr:rest.length<=1048577) (k:Nat) (hk:dY rest≠k):
  Calls prog 212 #[some P,k] w λe w'=>e= .returned (.bool false)/\w=w':=by
 have C1:=uQ B P txt rest l nodes w h a_;obtain⟨q,b⟩:=exQ<|dY rest;rw[b] at C1 hk;have a:=hid C1;have d0:((q:Int) !=(k:Int))=true:=eN.2 a_;clear C1 h hk b;go_in;go_wp2_with fail;refine a.out.mono ?_;rintro e w1 ⟨rfl,rfl⟩;go_wp2;go_ret;exact bo
theorem Ag (k:Nat) (w:World):Calls prog 186 #[k] w λe w'=>e= .returned (.int .i64 (eD k:Int))/\w=w':=by
 have M1:=trivial;exact IU
end
section
open Go.RowKit Go.Maps Go.WideMaps
open Go.Lib hiding intOf
structure kL (B P b:Nat) (w w':World):Prop where
 bel:Below B w w'
 sz:w.heap.size<=w'.heap.size
 blk: ∀(k:Nat) (o:Obj),w.heap[k]?=some o->k≠P->k≠b->Ac o->w'.heap[k]?=some o
theorem kL.trans {B P b:Nat}{w w1 w2:World} (h1:kL B P b w w1) (h2:kL B P b w1 w2):kL B P b w w2:=
 ⟨h1.bel.trans h2.bel,bF h1.sz h2.sz,λk o d hP a c=>h2.blk k o (h1.blk k o d hP a c) hP a c⟩
theorem Fr.toX {B P b:Nat}{w w':World} (h:Fr B P w w'):kL B P b w w':=⟨h.bel,h.sz,λk o a hP _ c=>h.blk k o a hP c⟩
theorem kL.grown {B P b:Nat}{w w':World} (hg:w.grownBy w' (some b)) (hB:B<=w.heap.size) (hb:B<=b):kL B P b w w':=
 ⟨(aD B w).grown hg hB (λk a=>by cases a;exact hb),hg.size,λk o a _ c _=>by rw[hg.block k (aG a) (λe=>c (bA e))];exact a⟩
theorem kL.out {B P b:Nat}{w w1 w2:World} (h1:Fr B P w w1) (h2:kL B P b w1 w2) (hb:w.heap.size<=b):Fr B P w w2:=
 ⟨h1.bel.trans h2.bel,bF h1.sz h2.sz,λk o a hP c=>h2.blk k o (h1.blk k o a hP c) hP (by have:=aG a;omega) c⟩
theorem HM.fr {B P b:Nat}{had:List aC}{w w':World} (h:HM b had w) (hf:Fr B P w w') (hP:b≠P):HM b had w':=by
 obtain⟨es,c,a⟩:=h.obj;exact h.same ((hf.blk b _ a hP trivial).trans a.symm)
theorem J.map {B P b:Nat}{txt:aC}{rest:List aR}{l:Sp}{nodes:List aM}{w w':World} (h:J B P txt rest l nodes w) {es:Array MapEntry}{c:Nat} (hb:w.heap[b]?=some (.map es c)) (hg:w.grownBy w' (some b)):J B P txt rest l nodes w':=by
 obtain⟨rv,z,nv,q,t,u,j,x⟩:=h;have d: ∀(k:Nat) (o:Obj),w.heap[k]?=some o->(∀es c,o≠ .map es c)->w'.heap[k]?=w.heap[k]?:=λk o f r=>hg.block k (aG f) (λe=>by have e2:k=b:=bA e;subst e2;rw[hb] at f;exact r es c (bA f).symm);have a: ∀ {e:TypeId}{s:Nat}{v:Value}{n:Nat}{xs:List Value},w.ownsRow B e s v n xs->w'.ownsRow B e s v n xs:=λ{e s v n xs} hr=>hr.kept hg (by
  rcases hr.2 with⟨rfl,_⟩ | ⟨g,cap,m,rfl,_,i,_⟩
  .exact .inl rfl
  .refine .inr (λe2=>?_);have e3:g=b:=bA e2;subst e3;rw[hb] at i;cases i)
 refine⟨rv,z,nv,?_,t.same (λg m f=>d g _ f (λ_ _ h=>by cases h)),u,⟨a j.row,λy p=>a (j.kids y p),λy p=>a (j.pcs y p),j.ak,j.ap⟩,x⟩;have:=d P _ q (λ_ _ h=>by cases h);exact this.trans q
def TB (txt:aC) (rest:List aR):Prop:=rest.length<=65537/\ ∀t∈rest,t.sf<=t.st/\t.st<=txt.length
theorem TB.drop {txt:aC}{rest:List aR} (h:TB txt rest) (k:Nat):TB txt (rest.drop k):=⟨by rw[bC];have:=h.1;omega,λt a=>h.2 t (List.mem_of_mem_drop a)⟩
def VE (B P:Nat) (txt:aC) (r:JR) (w:World) (e:Ending) (w':World):Prop:=match r with
 | .ok rr l ns=>e= .returned (.bool true)/\J B P txt rr l ns w'/\Fr B P w w'
 | .bad a er=>Dz B P a er w e w'
def VC (w0:World) (P:Nat) (txt:aC) (lv:Nat):Prop:= ∀(w:World) (rest:List aR) (l:Sp) (nodes:List aM) (key:Sp) (lev:Int),J w0.heap.size P txt rest l nodes w->Below w0.heap.size w0 w->TB txt rest->nodes.length+rest.length<=131074->lev=33-(lv:Int)->
 Calls prog 151 #[some P,lev, .agg #[key.1,key.2]] w (VE w0.heap.size P txt (bS txt lv rest l nodes key) w)
theorem Uk (w0:World) (P:Nat) (txt:aC) (lv:Nat) (IH:VC w0 P txt lv) (w:World) (rest:List aR) (l:Sp) (nodes:List aM) (lev:Int) (h:J w0.heap.size P txt rest l nodes w) (hb:aA w0 w) (ht:TB txt rest) (hN:nodes.length+rest.length<=131074) (hl:lev=33-(lv:Int)):
  Calls prog 190 #[some P,lev] w (VE w0.heap.size P txt (bS txt lv rest l nodes (0,0)) w):=by
 have C:=hid (IH w rest l nodes (0,0) lev h hb ht hN hl);obtain⟨R,c⟩:=exQ<|bS txt lv rest l nodes (0,0);rw[c] at C ⊢;clear c h hb ht hl IH;cases R with
 | ok rr l2 ns=>exact fs
 | bad a er=>exact fs
theorem Kb: ∀(f:Nat) (l:aC) (i:Nat) (acc:aC),(eG f l i acc).1.length<=acc.length+4*l.length
 | 0,_,_,_=>by simp[eG]
 | _+1,[],_,_=>by simp[eG]
 | f+1,c::r,i,acc=>by
  unfold eG;split
  .simp
  .split
   .simp
   .rename_i h;have hp:=sR (c::r) (List.cons_ne_nil _ _);obtain⟨P,hP⟩:=exQ<|fK (c::r);rw[hP] at hp h ⊢;have:=Kb f ((c::r).drop P.2.toNat) (i+P.2.toNat) (acc++encodeRune P.1);have a:=Lib.runeCells_le P.1;rw[Lib.runeCells_length] at a;rw[bC,aZ] at this;omega
theorem Ul (l:aC):(eH l).1.length<=4*l.length:=by
 have h:(cD l 0).1.length<=4*l.length:=by
  unfold cD;split
  .have:=Kb (l.length+1) (l.drop ((0:Int).toNat+1)) ((0:Int).toNat+1) [];rw[bC] at this;simp only[lQ] at this;omega
  .simp
 unfold eH;split
 .simp
 .exact h
def ME (B P b:Nat) (txt:aC) (r:JR×List aC) (w:World) (e:Ending) (w':World):Prop:=match r with
 | (.ok rr l ns,had)=>e= .returned (.bool true)/\J B P txt rr l ns w'/\HM b had w'/\kL B P b w w'
 | (.bad a er,_)=>e= .returned (.bool false)/\uP B P (nodesN P w) a er w'/\kL B P b w w'
abbrev jH (w:World) (X P:Nat) (txt:List UInt8) (t:aR) (w':World):Prop:=w'.cell? (P,0)=some (.string (bs txt))/\w'.cell? (X,0)=some (.int .i64 (t.sf:Int))/\w'.cell? (X,1)=some (.int .i64 (t.st:Int))/\Hid (Below w.heap.size w w'/\P<w.heap.size/\X<w.heap.size)
theorem jH.drew {w w1:World}{X P:Nat}{txt:aC}{t:aR} (h:jH w X P txt t w1):jH w X P txt t w1.drew:=by
 obtain⟨a,b,c,d⟩:=h;exact⟨a,b,c,hid ⟨d.out.1.drew,d.out.2⟩⟩
theorem jH.step {w w1 w2:World}{X P:Nat}{txt:aC}{t:aR} (h:jH w X P txt t w1) (hb:aA w1 w2):jH w X P txt t w2:=by
 obtain⟨a,b,c,d⟩:=h;obtain⟨e1,e2,e3⟩:=d.out;have l1:P<w1.heap.size:=iG e2 e1.size;have l2:X<w1.heap.size:=iG e3 e1.size;exact⟨by rw[hb.cell (p:=⟨P,0,none⟩) l1];exact a,by rw[hb.cell (p:=⟨X,0,none⟩) l2];exact b,by rw[hb.cell (p:=⟨X,1,none⟩) l2];exact c,hid ⟨aE e1 hb,e2,e3⟩⟩
theorem jH.bel {w w1:World}{X P:Nat}{txt:aC}{t:aR} (h:jH w X P txt t w1):aA w w1:=h.2.2.2.out.1
theorem J.box {B P:Nat}{txt:aC}{rest:List aR}{l:Sp}{nodes:List aM}{w:World} (h:J B P txt rest l nodes w):P<w.heap.size/\B<=P/\w.cell? (P,0)=some (.string (bs txt))/\ ∀b es c,w.heap[b]?=some (.map es c)->b≠P:=by
 obtain⟨rv,z,nv,a,h2,h3,h4,d⟩:=h;refine⟨a.lt,d,a.cells.1,λb es c f e=>?_⟩;subst e;unfold dO at a;rw[f] at a;cases a
theorem xU (w:World) (cs:Array Value) (t:TypeId) (j:Nat) (u:Value) (h:cs.toList[j]?=some u):(w.alloc (.cells cs t)).cell? (w.heap.size,j)=some u:=by
 have:=World.news_of_block (w:=w.alloc (.cells cs t)) (heap_alloc_new w _) j u h;have a:((⟨w.heap.size,0,none⟩:Addr).add j)=⟨w.heap.size,j,none⟩:=by unfold Addr.add;split<;>simp_all
 rw[a] at this;exact this
theorem wA {w w':World}{r:Option Nat} (hg:w.grownBy w' r) {X:Nat} (hX:X<w.heap.size) (hne:some X≠r) (i:Nat):w'.cell? (X,i)=w.cell? (X,i):=jQ (hg.block X hX hne) i
theorem Um (w0:World) (P:Nat) (txt:aC) (lv:Nat) (IH:VC w0 P txt lv) (b:Nat) (had:List aC) (w:World) (rest:List aR) (l:Sp) (nodes:List aM) (lev:Int)
  (h:J w0.heap.size P txt rest l nodes w) (hb:aA w0 w) (ht:TB txt rest) (hN:nodes.length+rest.length<=131074) (hl:lev=33-(lv:Int)) (hm:HM b had w) (hBb:w0.heap.size<=b) (hhad:had.length<=65537) (hs:txt.length<=65536) (hSV:eQ w0) (hT:dE w0):
  Calls prog 192 #[some P,lev, .map (some b)] w (ME w0.heap.size P b txt (gU txt (bS txt lv) true had rest l nodes) w):=by
 have Y:=ht.1;have L:=hid h.nodesN;obtain⟨al,aa,av,az⟩:=h.box;obtain⟨es,cm,F⟩:=hm.obj;have V:b≠P:=az b es cm F;have CK:=hid (uQ _ P txt rest l nodes w h a_);have sl:=aP txt;obtain⟨R,I⟩:=exQ<|gU txt (bS txt lv) true had rest l nodes;rw[I];by_cases h8:dY rest=8
 .cases rest with
  | nil=>cases h8
  | cons t r=>
   have ay:t.kind=8:=h8;rw[h8] at CK;obtain⟨hss,hst⟩:=ht.2 t kR;have v:gU txt (bS txt lv) true had (t::r) l nodes=if(eH ((txt.drop t.sf).take (t.st-t.sf))).1∈had then(.bad t.sf 7,had) else
     match r with
     | []=>(.bad txt.length 2,(eH ((txt.drop t.sf).take (t.st-t.sf))).1::had)
     | c::r2=>if c.kind≠7 then(.bad c.sf 2,(eH ((txt.drop t.sf).take (t.st-t.sf))).1::had) else
      (bS txt lv r2 (c.sf,c.st) nodes (t.sf,t.st),(eH ((txt.drop t.sf).take (t.st-t.sf))).1::had):=by
    unfold gU;rw[if_neg b_];simp only[ay];rw[if_neg e_];cases r<;>rfl
   rw[v] at I;clear v;obtain⟨U,hU⟩:=exQ<|eH ((txt.drop t.sf).take (t.st-t.sf));obtain⟨d,un,ue⟩:=U;have CU:Hid (∀w',aA w0 w'->Calls prog 112 #[((bs txt).extract t.sf t.st)] w' (aT w' (.tuple #[bs d,un,ue]))):=hid (λw' ag=>by have:=zM ((txt.drop t.sf).take (t.st-t.sf)) w' (by rw[bR,bC];omega) (hSV.keep ag) (hT.keep ag);rw[hU] at this;have e:(bs txt).extract t.sf t.st=bs ((txt.drop t.sf).take (t.st-t.sf)):=(by rw[gO,aY]);rw[e];exact this);have ak:d.length<=1073741824:=by
    have:=Ul ((txt.drop t.sf).take (t.st-t.sf));rw[hU] at this;rw[bR,bC] at this;simp only[] at this;omega
   rw[hU] at I;simp only[] at I;have HR:=hid I;clear I;have ba:=aL w (.cells #[t.sf,t.st] 42);have hS:jH (w.alloc (.cells #[t.sf,t.st] 42)) w.heap.size P txt t (w.alloc (.cells #[t.sf,t.st] 42)):=
    ⟨by rw[ba.cell (p:=⟨P,0,none⟩) al];exact av,xU w _ _ 0 _ rfl,xU w _ _ 1 _ rfl,hid ⟨aD _ _,by simp;omega,e_⟩⟩
   have am:=hid (h.keep ba);have ax:=hid (World.ownsMap.alloc hm (.cells #[t.sf,t.st] 42));obtain⟨rv,z,nv,jb,jt,_⟩:=h;obtain⟨q0,q1,_⟩:=jb.cells;obtain⟨g,o,c,rfl,hc,k0,k1,k2,_⟩:=jt.head;have d0:(0:Int)<(r.length:Int)+1:=a_;have i1:(0:Int)<=(t.sf:Int):=a_;have i2:(t.sf:Int)<=(t.st:Int):=a_;have i3:(t.st:Int)<=(txt.length:Int):=a_;have HW:=hid hb;have ae:w0.heap.size<=w.heap.size:=hb.size;have W:Hid (∀w',Below (w.alloc (.cells #[t.sf,t.st] 42)).heap.size (w.alloc (.cells #[t.sf,t.st] 42)) w'->aA w0 w'):=hid (λw' h'=>(hb.trans (ba.mono ae)).trans (h'.mono h_));have aG:Hid (Fr w0.heap.size P w (w.alloc (.cells #[t.sf,t.st] 42))):=hid (Fr.of_below ba ae);have S:(w.alloc (.cells #[t.sf,t.st] 42)).heap.size=w.heap.size+1:=e_;have hbl:b<w.heap.size:=hm.lt;have aj:Hid (keyOf prog 9 (.string (bs d))=some (.string d)):=hid (by have:=keyOf_string_mk (P:=prog) underlying9 (s:=bs d) GW;rw[aY] at this;exact this);have aB:=hid ak;have ap:=hid ht;clear jb jt hU hb ba ak hm F ht;go_in;go_wp2_with fail;refine CK.out.mono ?_;rintro e w1 ⟨rfl,rfl⟩;go_upto_region 4 with fail;go_region_held3 (λw'=>jH (w.alloc (.cells #[t.sf,t.st] 42)) w.heap.size P txt t w') ((first | exact jH.drew m_ | exact jH.step m_ m_ | assumption))
    ((go_at_call 112;(with_reducible refine(CU.out _ (W.out _ (jH.bel (by assumption:jH (w.alloc (.cells #[t.sf,t.st] 42)) w.heap.size P txt t _)))).mono ?_);rintro e w5 ⟨rfl,aH⟩;have C:jH (w.alloc (.cells #[t.sf,t.st] 42)) w.heap.size P txt t w5:=jH.step m_ aH))
   have f:=C.bel;have Z:=hid (am.out.keep f);have M:Hid (HM b had w5):=hid (HM.same ax.out (f.block b (by rw[S];omega)));have ai:Hid (Fr w0.heap.size P w w5):=hid (aG.out.trans (Fr.of_below f (by rw[S];omega)));have x0:w5.cell? (w.heap.size,0)=some (.int .i64 (t.sf:Int)):=C.2.1;have x1:w5.cell? (w.heap.size,1)=some (.int .i64 (t.st:Int)):=C.2.2.1;have ad:w.heap.size<w5.heap.size:=by have:=f.size;rw[S] at this;omega
   have k:=M.out.look d aB.out;clear C f hS;by_cases hk:d∈had
   .rw[aQ hk] at k;have E:=hid (HR.out.symm.trans (if_pos hk));have CF:=hid (qM _ P txt (t::r) l nodes 7 w5 Z.out (by simp only[bM] at Y ⊢;omega) a_);clear hk x0 x1;go_wp2_with fail;refine CF.out.mono ?_;rintro e w6 ⟨rfl,N,X⟩;go_wp2;go_ret;rw[E.out];exact⟨rfl,N.mono (mP (L.out.trans Z.out.nodesN.symm)),(ai.out.trans X).toX⟩
   .rw[aJ hk] at k;have O:=hid (HR.out.symm.trans (if_neg hk));obtain⟨es5,cm5,x⟩:=M.out.obj;have an:=hid x;have G:w5.ownsMap prog 9 (plainElem prog 4) b had.length (tB had):=M.out;clear hk x;go_wp2_with (at_mapUpdate;refine wpList_mapUpdate_own _ rfl _ _ _ 124 rfl 9 4 Dx underlying124 _ b had.length _ rfl G r_ _ _ (.string d) rfl rfl aj.out _ [] (plainElem_bool underlying4 true) ?_;intro w6 u n);have ah:Hid (HM b (d::had) w6):=hid u;have ar:=hid (Z.out.map an.out n);have aE:Hid (kL w0.heap.size P b w w6):=hid (ai.out.toX.trans (kL.grown n a_ hBb));have y0:w6.cell? (w.heap.size,0)=some (.int .i64 (t.sf:Int)):=by rw[wA n ad h_];exact x0
    have y1:w6.cell? (w.heap.size,1)=some (.int .i64 (t.st:Int)):=by rw[wA n ad h_];exact x1
    have ab:w.heap.size<w6.heap.size:=by have:=n.size;omega
    clear G u n k x0 x1;have aw:=hid (Ea _ P txt t r l nodes w6 ar.out (by simp only[bM] at Y;omega));have ao:r.length<=65536:=by simp only[bM] at Y;omega
    cases r with
    | nil=>
     have NI:=trivial;exact I6
    | cons c r2=>
     simp only[bM] at ao;by_cases h7:c.kind=7
     .have NK:=trivial;exact I6
     .have NJ:=trivial;exact I6
 .have v:gU txt (bS txt lv) true had rest l nodes=(.bad (cH txt.length rest) 2,had):=by
   unfold gU;rw[if_neg b_];cases rest with
   | nil=>rfl
   | cons t r=>exact if_pos h8
  rw[v] at I;subst I;have CF:=hid (qM _ P txt rest l nodes 2 w h a_ a_);obtain⟨q,hq⟩:=exQ<|dY rest;rw[hq] at CK h8;have d8:((q:Int) !=8)=true:=eN.2 a_;clear v hq h8;go_in;go_wp2_with fail;refine CK.out.mono ?_;rintro e w1 ⟨rfl,rfl⟩;go_wp2_with fail;refine CF.out.mono ?_;rintro e w6 ⟨rfl,N,X⟩;go_wp2;go_ret;exact⟨rfl,N,X.toX⟩
theorem infoInt:(prog.info? 3).map (λi=>(i.zero,i.size,i.bytes))=some (some (.int .i64 0),1,8):=d'
theorem infoSpan:(prog.info? 42).map (λi=>(i.zero,i.size,i.bytes))=some (some (.agg #[(0:Int),(0:Int)]),2,16):=d'
theorem infoNode:(prog.info? 167).map (λi=>(i.zero,i.size,i.bytes))=some (some (.agg #[(0:Int),(0:Int),(0:Int),(0:Int),(0:Int),(),()]),7,88):=d'
theorem lI {w:World}{B:Nat}{e:TypeId}{s:Nat}{v:Value}{n:Nat}{xs:List Value} (h:w.ownsRow B e s v n xs): ∀k,v.ownBlock=some k-> ∃cur,w.heap[k]?=some (.cells cur e (0,0)):=by
 intro k a;rcases h.2 with⟨rfl,_⟩ | ⟨g,cap,cur,rfl,_,b,_⟩
 .cases a
 .have:g=k:=bA a;subst this;exact⟨cur,b⟩
theorem wB {w w':World}{P:Nat}{txt:aC}{rv nv:Value}{l:Sp}{a:Nat}{er:Int}{rest:List aR}{r:Option Nat} (hb:dO w P txt rv l nv a er) (ht:TV w rv rest) (hg:w.grownBy w' r)
  (hr: ∀k,r=some k-> ∃cs t,w.heap[k]?=some (.cells cs t (0,0))/\t≠179/\t≠163):dO w' P txt rv l nv a er/\TV w' rv rest:=by
 have SL:=trivial;exact QA
theorem tD (w:World) (cs:Array Value) (t:TypeId): ∀j u,cs.toList[j]?=some u->(w.alloc (.cells cs t)).cell? ((⟨w.heap.size,0,none⟩:Addr).add j)=some u:=
 λj u a=>World.news_of_block (w:=w.alloc (.cells cs t)) (heap_alloc_new w _) j u a
theorem uS {w w':World}{o:Obj}{r:Option Nat} (h:(w.alloc o).grownBy w' r):w.grownBy w' r:=(World.grownBy_alloc w o r).trans h
theorem Kc {ops:Array Oper}{rest:List Oper}{o:Oper}{a:Act}{Q:Exit->Act->World->Prop} (hgd:o.guard=none) (s x:Operand)
  (ho:o.op= .call { callee:= .builtin .append,args:= #[s,x],argTypes:= #[43,43] })
  (B:Nat) (w:World) (v:Value) (l:List Nat) (k:Nat) (hs:a.eval s=v) (hown:w.ownsRow B 3 1 v l.length (dH l)) (hx:a.eval x= .slice (some ⟨w.heap.size,0,none⟩) 1 1) (hl:l.length<=4294967295) (hB:B<=w.heap.size)
  (hK: ∀kv w',w'.ownsRow B 3 1 kv (l.length+1) (dH l++ [.int .i64 (k:Int)])->w.grownBy w' v.ownBlock->(kv.ownBlock=v.ownBlock\/kv.ownBlock=some (w.heap.size+1))->wpList prog ops Q rest (a.put o.dst kv) w'):
  wpList prog ops Q (o::rest) a (w.alloc (.cells #[k] 3)):=by
 have OP:=trivial;exact JX
theorem Eb {ops:Array Oper}{o:Oper}{a:Act}{K:Act->World->Prop}{Q:Exit->Act->World->Prop}{E:Prop} (hgd:o.guard=none) (s x:Operand)
  (ho:o.op= .call { callee:= .builtin .append,args:= #[s,x],argTypes:= #[55,55] })
  (B:Nat) (w:World) (v:Value) (l:List Sp) (k:Sp) (hs:a.eval s=v) (hown:w.ownsRow B 42 2 v l.length (lS l)) (hx:a.eval x= .slice (some ⟨w.heap.size,0,none⟩) 1 1) (hl:l.length<=4294967295) (hB:B<=w.heap.size)
  (hK: ∀kv w',w'.ownsRow B 42 2 kv (l.length+1) (lS l++ [.int .i64 (k.1:Int), .int .i64 (k.2:Int)])->w.grownBy w' v.ownBlock->(kv.ownBlock=v.ownBlock\/kv.ownBlock=some (w.heap.size+1))->K (a.put o.dst kv) w'):
  if Region.wanted o (yielded ops a.tmps)=true then Oper.wp prog o a (w.alloc (.cells #[k.1,k.2] 42)) K Q else E:=by
 obtain⟨i0,p,f,m,b⟩:=info_parts infoSpan;refine step_append_lies _ hgd s x 55 ho B 42 i0 _ 2 16 underlying55 p f m b rfl b_ v _ (lS l) hs (World.ownsRow.alloc hown _) ⟨w.heap.size,0,none⟩ 1 1 [k.1,k.2] hx DS (tD w #[k.1,k.2] _)
  (λu hu=>by
   rcases fT.1 hu with rfl | hu
   .rfl
   .rw[kT.1 hu];rfl) b_ r_ a_ h_ _ rfl ?_
 intro g cap w' A y r _;refine hK _ w' A (uS y) ?_;exact fx
theorem Un {ops:Array Oper}{o:Oper}{a:Act}{K:Act->World->Prop}{Q:Exit->Act->World->Prop}{E:Prop} (hgd:o.guard=none) (s x:Operand)
  (ho:o.op= .call { callee:= .builtin .append,args:= #[s,x],argTypes:= #[132,132] })
  (B:Nat) (w:World) (v:Value) (z:List ND) (y:aM) (cs:Array Value) (hcs:cs.toList=gP (y, .slice none 0 0, .slice none 0 0)) (hs:a.eval s=v) (hown:w.ownsRow B 167 7 v z.length (jR z)) (hx:a.eval x= .slice (some ⟨w.heap.size,0,none⟩) 1 1) (hl:z.length<=4294967295) (hB:B<=w.heap.size)
  (hK: ∀nv w',w'.ownsRow B 167 7 nv (z.length+1) (jR z++gP (y, .slice none 0 0, .slice none 0 0))->w.grownBy w' v.ownBlock->K (a.put o.dst nv) w'):
  if Region.wanted o (yielded ops a.tmps)=true then Oper.wp prog o a (w.alloc (.cells cs 167)) K Q else E:=by
 obtain⟨i0,f,c,d,b⟩:=info_parts infoNode;refine step_append_lies _ hgd s x 132 ho B 167 i0 _ 7 88 underlying132 f c d b rfl b_ v _ (jR z) hs (World.ownsRow.alloc hown _) ⟨w.heap.size,0,none⟩ 1 1 _ hx (by rw[hcs];rfl) (tD w cs _)
  (λu e=>by rw[hcs] at e;simp only[gP,fT,List.not_mem_nil,or_false] at e;rcases e with rfl|rfl|rfl|rfl|rfl|rfl|rfl<;>rfl) b_ r_ a_ h_ _ rfl ?_
 intro g cap w' h i h7 _;rw[hcs] at h;exact hK _ w' h (uS i)
theorem cK.cellK {B:Nat}{z:List ND}{g cap:Nat}{w w1:World} (h:cK B z (.slice (some ⟨g,0,none⟩) z.length cap) w) {n:Nat}{y:ND} (hy:z[n]?=some y) (hg:w.grownBy w1 y.2.1.ownBlock):w1.cell? (g,n*7+5)=some y.2.1/\w1.frozen? ⟨g,n*7+5,none⟩=false:=by
 have hn:=(aW.1 hy).1;have a:=h.row.kept hg (gW h.row (h.kids y (bH hy)) b_);refine⟨?_,World.ownsRow.frozenAt a _⟩;rw[World.ownsRow.cellAt a _ a_,xS z n y hy 5 a_];rfl
theorem cK.cellP {B:Nat}{z:List ND}{g cap:Nat}{w w1:World} (h:cK B z (.slice (some ⟨g,0,none⟩) z.length cap) w) {n:Nat}{y:ND} (hy:z[n]?=some y) (hg:w.grownBy w1 y.2.2.ownBlock):w1.cell? (g,n*7+6)=some y.2.2/\w1.frozen? ⟨g,n*7+6,none⟩=false:=by
 have hn:=(aW.1 hy).1;have a:=h.row.kept hg (gW h.row (h.pcs y (bH hy)) b_);refine⟨?_,World.ownsRow.frozenAt a _⟩;rw[World.ownsRow.cellAt a _ a_,xS z n y hy 6 a_];rfl
theorem Uo (w0:World) (P:Nat) (txt:aC) (lv:Nat) (IH:VC w0 P txt lv) (b:Nat) (had:List aC) (w:World) (rest:List aR) (l:Sp) (nodes:List aM) (lev:Int) (X Y:Nat)
  (hX:w.cell? (X,0)=some (.pointer (some ⟨P,0,none⟩))) (hY:w.cell? (Y,0)=some (.map (some b)))
  (h:J w0.heap.size P txt rest l nodes w) (hb:aA w0 w) (ht:TB txt rest) (hN:nodes.length+rest.length<=131074) (hl:lev=33-(lv:Int)) (hm:HM b had w) (hBb:w0.heap.size<=b) (hhad:had.length<=65537) (hs:txt.length<=65536) (hSV:eQ w0) (hT:dE w0):
  Calls prog 191 #[lev,some X,some Y] w (ME w0.heap.size P b txt (gU txt (bS txt lv) true had rest l nodes) w):=by
 have C:=hid (Um w0 P txt lv IH b had w rest l nodes lev h hb ht hN hl hm hBb hhad hs hSV hT);obtain⟨R,c⟩:=exQ<|gU txt (bS txt lv) true had rest l nodes;rw[c] at C ⊢;clear c h hb ht hl IH hm;obtain⟨Q,had2⟩:=R;cases Q with
 | ok rr l2 ns=>
  go_in;go_wp2_with fail;refine C.out.mono ?_;rintro e w1 ⟨rfl,g,f,d⟩;go_wp2;go_ret;exact⟨rfl,g,f,d⟩
 | bad a er=>exact fs
end
end Go.Proofs.YtfhjncbdgjlcoaaGreatDoor
