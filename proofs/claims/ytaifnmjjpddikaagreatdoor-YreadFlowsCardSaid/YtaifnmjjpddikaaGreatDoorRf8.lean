import Derived.Test.YtaifnmjjpddikaaGreatDoorRf7
import Derived.Test.YtaifnmjjpddikaaGreatDoorRf5
set_option maxRecDepth 100000
set_option maxHeartbeats 8000000
namespace Go.Proofs.YtaifnmjjpddikaaGreatDoor
set_option linter.unusedSimpArgs false
set_option linter.unusedVariables false
open Go.RowKit Go.Maps Go.WideMaps
open Go.Lib hiding intOf
theorem tW {w:World}{B:Nat}{e:TypeId}{s:Nat}{v:Value}{n:Nat}{xs:List Value} (h:w.ownsRow B e s v (n+1) xs): ∃g cap,v= .slice (some ⟨g,0,none⟩) (n+1) cap:=by
 rcases h.2 with⟨_,h1⟩ | ⟨g,cap,cur,rfl,_⟩
 ·omega
 ·exact⟨g,cap,rfl⟩
theorem Ay (f:aD->aD): ∀(n:Nat) (l:List aD) (x:aD),l[n]?=some x->iM f n l=l.set n (f x)
 | n,[],x,h=>by simp at h
 | 0,y::l,x,h=>by
  obtain rfl:y=x:=by simpa using h
  rfl
 | n+1,y::l,x,h=>by
  rw[cD] at h;rw[iM,Ay f n l x h];rfl
def JZ (B P:Nat) (txt:List UInt8) (rest:List aL) (l:Sp) (z:List ND) (nv:Value) (w:World):Prop:= ∃rv,cK w P txt rv l nv 0 0/\TV w rv rest/\cH B z nv w/\B<=P
theorem J.toZ {B P:Nat}{txt:List UInt8}{rest:List aL}{l:Sp}{nodes:List aD}{w:World} (h:J B P txt rest l nodes w): ∃z nv,z.map (·.1)=nodes/\JZ B P txt rest l z nv w:=by
 obtain⟨rv,z,nv,h1,h2,h3,h4,h5⟩:=h;exact⟨z,nv,h3,rv,h1,h2,h4,h5⟩
theorem JZ.toJ {B P:Nat}{txt:List UInt8}{rest:List aL}{l:Sp}{z:List ND}{nv:Value}{w:World} (h:JZ B P txt rest l z nv w):J B P txt rest l (z.map (·.1)) w:=by
 obtain⟨rv,h1,h2,h3,h4⟩:=h;exact⟨rv,z,nv,h1,h2,rfl,h3,h4⟩
theorem JZ.cells {B P:Nat}{txt:List UInt8}{rest:List aL}{l:Sp}{z:List ND}{nv:Value}{w:World} (h:JZ B P txt rest l z nv w):w.cell? ⟨P,3,none⟩=some (.int .i64 (l.2:Int))/\w.cell? ⟨P,4,none⟩=some nv/\P<w.heap.size:=by
 obtain⟨rv,h1,h2,h3,h4⟩:=h;exact⟨h1.cells.2.2.2.1,h1.cells.2.2.2.2.1,h1.lt⟩
theorem JZ.form {B P:Nat}{txt:List UInt8}{rest:List aL}{l:Sp}{z:List ND}{nv:Value}{w:World} (h:JZ B P txt rest l z nv w) (hz:z≠ []): ∃g cap,nv= .slice (some ⟨g,0,none⟩) z.length cap/\z.length<=cap:=by
 obtain⟨rv,h1,h2,h3,h4⟩:=h;obtain⟨g,cap,cur,e1,e2,_⟩:=h3.form hz;exact⟨g,cap,e1,e2⟩
theorem JZ.keep {B P:Nat}{txt:List UInt8}{rest:List aL}{l:Sp}{z:List ND}{nv:Value}{w w':World} (h:JZ B P txt rest l z nv w) (hb:Below w.heap.size w w'):JZ B P txt rest l z nv w':=by
 obtain⟨rv,h1,h2,h3,h4⟩:=h;exact⟨rv,h1.keep hb,h2.keep hb,h3.keep hb,h4⟩
section
variable {B P:Nat}{txt:List UInt8}{rest:List aL}{l:Sp}{z:List ND}{w w1:World}{g cap:Nat}
theorem JZ.at_ (h:JZ B P txt rest l z (.slice (some ⟨g,0,none⟩) z.length cap) w):cH B z (.slice (some ⟨g,0,none⟩) z.length cap) w:=by
 obtain⟨rv,h1,h2,h3,h4⟩:=h;exact h3
theorem JZ.kid (h:JZ B P txt rest l z (.slice (some ⟨g,0,none⟩) z.length cap) w) {n k:Nat}{y:ND} (hy:z[n]?=some y) {kv:Value}{H:Nat} (hH:w.heap.size<=H) (hB:B<=w.heap.size)
  (hr:w1.ownsRow B 3 1 kv (y.1.kids.length+1) (dV y.1.kids++ [.int .i64 (k:Int)])) (hg:w.grownBy w1 y.2.1.ownBlock) (hat:kv.ownBlock=y.2.1.ownBlock\/kv.ownBlock=some H):
  JZ B P txt rest l (z.set n ({ y.1 with kids:=y.1.kids++ [k] },kv,y.2.2)) (.slice (some ⟨g,0,none⟩) (z.set n ({ y.1 with kids:=y.1.kids++ [k] },kv,y.2.2)).length cap) (w1.setCell ⟨g,n*7+5,none⟩ kv)/\Fr B P w (w1.setCell ⟨g,n*7+5,none⟩ kv):=by
 obtain⟨rv,h1,h2,h3,h4⟩:=h;have hkm:=h3.kids y (aX hy);obtain⟨a1,a2⟩:=tV h1 h2 hg (λk hk=>by obtain⟨cur,hc⟩:=tU hkm k hk;exact⟨cur,_,hc,by decide,by decide⟩);have hrow1:=h3.row.kept hg (iC h3.row hkm (by decide));obtain⟨cur,hcur⟩:=tU hrow1 g rfl;obtain⟨b1,b2⟩:=tV a1 a2 (gM w1 g (n*7+5) kv) (λk hk=>by have e:g=k:=bD hk;subst e;exact⟨cur,_,hcur,by decide,by decide⟩);have hgB:B<=g:=(World.ownsRow.lt hrow1 g rfl).1;refine⟨⟨rv,?_,b2,h3.kid hy hH hr hg hat,h4⟩,(Fr.grown hkm (by decide) hg hB).trans (Fr.setM hcur (by decide) hgB)⟩;rw[List.length_set];exact b1
theorem JZ.pc (h:JZ B P txt rest l z (.slice (some ⟨g,0,none⟩) z.length cap) w) {n:Nat}{k:Sp}{y:ND} (hy:z[n]?=some y) {kv:Value}{H:Nat} (hH:w.heap.size<=H) (hB:B<=w.heap.size)
  (hr:w1.ownsRow B 59 2 kv (y.1.pcs.length+1) (lN y.1.pcs++ [.int .i64 (k.1:Int), .int .i64 (k.2:Int)])) (hg:w.grownBy w1 y.2.2.ownBlock) (hat:kv.ownBlock=y.2.2.ownBlock\/kv.ownBlock=some H):
  JZ B P txt rest l (z.set n ({ y.1 with pcs:=y.1.pcs++ [k] },y.2.1,kv)) (.slice (some ⟨g,0,none⟩) (z.set n ({ y.1 with pcs:=y.1.pcs++ [k] },y.2.1,kv)).length cap) (w1.setCell ⟨g,n*7+6,none⟩ kv)/\Fr B P w (w1.setCell ⟨g,n*7+6,none⟩ kv):=by
 obtain⟨rv,h1,h2,h3,h4⟩:=h;have hkm:=h3.pcs y (aX hy);obtain⟨a1,a2⟩:=tV h1 h2 hg (λk hk=>by obtain⟨cur,hc⟩:=tU hkm k hk;exact⟨cur,_,hc,by decide,by decide⟩);have hrow1:=h3.row.kept hg (iC h3.row hkm (by decide));obtain⟨cur,hcur⟩:=tU hrow1 g rfl;obtain⟨b1,b2⟩:=tV a1 a2 (gM w1 g (n*7+6) kv) (λk hk=>by have e:g=k:=bD hk;subst e;exact⟨cur,_,hcur,by decide,by decide⟩);have hgB:B<=g:=(World.ownsRow.lt hrow1 g rfl).1;refine⟨⟨rv,?_,b2,h3.pc hy hH hr hg hat,h4⟩,(Fr.grown hkm (by decide) hg hB).trans (Fr.setM hcur (by decide) hgB)⟩;rw[List.length_set];exact b1
end
theorem Hk {z:List ND}{n k:Nat}{pc:Sp}{y:ND}{u v:Value} (hy:z[n]?=some y):
  ((z.set n ({ y.1 with kids:=y.1.kids++ [k] },u,y.2.2)).set n ({ y.1 with kids:=y.1.kids++ [k],pcs:=y.1.pcs++ [pc] },u,v)).map (·.1)=dU n k pc (z.map (·.1)):=by
 unfold dU;rw[Ay _ n _ y.1 (by rw[cU,hy];rfl),List.map_set,List.map_set,List.set_set]
def restN (P:Nat) (w:World):Nat:=match w.cell? ⟨P,1,none⟩ with
 | some (.slice _ n _)=>n
 | _=>0
theorem J.restN {B P:Nat}{txt:List UInt8}{rest:List aL}{l:Sp}{nodes:List aD}{w:World} (h:J B P txt rest l nodes w):restN P w=rest.length:=by
 obtain⟨rv,z,nv,h1,h2,h3,h4,h5⟩:=h;obtain⟨p,c,rfl,_⟩:=h2;have:=h1.cells.2.1;unfold Go.Proofs.YtaifnmjjpddikaaGreatDoor.restN;rw[this]
theorem J.cast {B P:Nat}{txt:List UInt8}{rest:List aL}{l:Sp}{nodes nodes2:List aD}{w:World} (h:J B P txt rest l nodes w) (e:nodes=nodes2):J B P txt rest l nodes2 w:=e ▸ h
theorem Ry (w0:World) (P:Nat) (txt:List UInt8) (lv:Nat) (IH:VC w0 P txt lv) (w:World) (rest:List aL) (l:Sp) (pre:List aD) (x:aD) (post nodes:List aD) (lev:Int)
  (h:J w0.heap.size P txt rest l nodes w) (hmid:fJ pre x post nodes) (hb:Below w0.heap.size w0 w) (ht:TB txt rest) (hN:nodes.length+rest.length<=131074) (hl:lev+1=33-(lv:Int)) (hlev:0<=lev/\lev<=32) (hs:txt.length<=65536):
  Calls Tryz.prog 58 #[.pointer (some ⟨P,0,none⟩), .int .i64 (pre.length:Int), .int .i64 lev, .int .i64 5, .func (.func 59) #[.pointer (some ⟨P,0,none⟩)] #[]] w
   (VE w0.heap.size P txt (gS txt (bP txt lv) 5 false pre.length rest l nodes) w):=by
 obtain⟨R,hR⟩:=exQ<|gS txt (bP txt lv) 5 false pre.length rest l nodes;rw[hR];have htl:=ht.1;have hnw:=h.nodesN;have hBw:w0.heap.size<=w.heap.size:=hb.size;obtain⟨hPl,hBP,_,_⟩:=h.box;obtain⟨hl0,hl1⟩:=hlev;have HB:=hid hb;have HT:=hid ht;by_cases h5:eP rest=5
 ·cases rest with
  | nil=>cases h5
  | cons t r=>
   have h5':t.kind=5:=h5;have hR':JR.ok r (t.sf,t.st) nodes=R:=by
    unfold gS at hR;simp only[h5',if_true] at hR;exact hR
   have CT:=hid (rY _ P txt t r l nodes w h (by simp only[aT] at htl;omega) 5 h5');subst hR';clear hR h hb ht hnw;go_enter Tryz.func58,Tryz.ntmps58;go_wp2_with fail;refine CT.out.mono ?_;rintro e w1 ⟨rfl,hj,hg⟩;go_wp2_with fail;go_ret;exact⟨rfl,hj,Fr.ofP hg hBP hBw⟩
 ·have hloop: ∃f,rest.length<f/\iA txt (bP txt lv) 5 false pre.length f [] rest l nodes=R:=by
   unfold gS at hR;cases rest with
   | nil=>exact⟨1,by simp,hR⟩
   | cons t r=>
    have h5': ¬t.kind=5:=h5;simp only[h5',if_false] at hR;exact⟨_,by simp,hR⟩
  obtain⟨f0,hf0,hLp⟩:=hloop;have CT:=hid (qT _ P txt rest l nodes w h (by omega) 5 h5);have HJ:=hid h;have HL:=hid hLp;have HM:=hid hmid;have HNW:=hid hnw;clear hR h5 hLp h hb ht hmid hnw;go_enter Tryz.func58,Tryz.ntmps58;go_wp2_with fail;refine CT.out.mono ?_;rintro e w1 ⟨rfl,rfl⟩;go_wp2_with fail;go_loopw [11] (λ_ wr=> ∃(rs:List aL) (ls:Sp) (ns:List aD) (x:aD) (post:List aD) (f:Nat),Hid (J w0.heap.size P txt rs ls ns wr)/\Hid (fJ pre x post ns)/\Hid (iA txt (bP txt lv) 5 false pre.length f [] rs ls ns=R)/\rs.length<f/\nodes.length<=ns.length/\Hid (TB txt rs)/\ns.length+rs.length<=131074/\Hid (Fr w0.heap.size P w wr)) (λ_ wr=>restN P wr)
  case atStart=>exact⟨rest,l,nodes,x,post,f0,HJ,HM,HL,hf0,aE _,HT,hN,hid (Fr.refl _ _ _)⟩
  case round=>
   clear hN hf0 HM HL HJ CT HT htl;obtain⟨rs,ls,ns,x,post,f,HJ,HM,HL,hf,hnn,HT,hN,HFr⟩:=hrel;obtain⟨f,rfl⟩: ∃f',f=f'+1:=⟨f-1,by omega⟩;have hrn:=HJ.out.restN;have HNR:=hid HJ.out.nodesN;have hL:=HL.out;unfold iA gE at hL;rw[if_pos rfl] at hL;have hwr:w0.heap.size<=wr.heap.size:=aW hBw HFr.out.sz;have CI:=Rt w0 P txt lv IH;obtain⟨Q,hQ⟩:=exQ<|bP txt lv rs ls ns (0,0);have CI2:Hid (∀w',Below wr.heap.size wr w'->Calls Tryz.prog 59 #[.pointer (some ⟨P,0,none⟩), .int .i64 (33-(lv:Int))] w' (VE w0.heap.size P txt Q w')):=hid (λw' hb'=>by have:=CI w' rs ls ns (33-(lv:Int)) (HJ.out.keep hb') ((HB.out.trans HFr.out.bel).trans (hb'.mono hwr)) HT.out hN rfl;rw[hQ] at this;exact this);rw[hQ] at hL;have HQ:=hid hQ;obtain⟨rv,z0,nv0,b1,b2,b3,b4,b5⟩:=HJ.out;obtain⟨p0,cap0,rfl⟩:=b4.slice;obtain⟨q0,q1,q2,q3,q4,_⟩:=b1.cells;have hz0:z0.length=ns.length:=(by rw[<-b3,bU]);rw[hz0] at q4;clear b1 b2 b3 b4 CI hQ HL hz0;cases Q with
   | bad a er=>
    have HNB:Hid (nodesN P w<=nodesN P wr.drew):=hid (by have e1:=HNW.out;have e2:=HNR.out;show nodesN P w<=nodesN P wr;omega);have HF:Hid (JR.bad a er=R):=hid hL;clear hL;go_wp2_with fail;go_region;go_wp2_with fail;refine(CI2.out _ (aB _ _).drew).mono ?_;rintro e w4 ⟨rfl,hj4,hf4⟩;have HF4:=hid (HFr.out.trans ((Fr.of_below (aB _ _).drew hwr).trans hf4));clear hf4;go_wp2_with fail;go_ret;rw[<-HF.out];exact⟨rfl,hj4.mono HNB.out,HF4.out⟩
   | ok r1 l1 ns1=>
    obtain⟨more,rfl,hm1,hm2,⟨kd,hkd⟩,hm3⟩:=mP txt lv _ _ _ _ _ _ _ HQ.out;have HMid:=hid (HM.out.add hm3 hm1 ns.length (ls.2,eQ txt.length r1));have hT1:TB txt r1:=by rw[hkd];exact HT.out.drop kd
    have hT1l:=hT1.1;have hHT:eQ txt.length r1<=65536:=by
     cases r1 with
     | nil=>exact hs
     | cons t r'=>have:=hT1.2 t iB;show t.sf<=65536;omega
    have HT1:=hid hT1;have hy0: ∃x0,(ns++more)[pre.length]?=some x0/\x0.kids.length<=131074/\x0.pcs.length<=131074:=by
     obtain⟨e1,e2,e3,e4⟩:=HM.out;refine⟨x,by rw[e1,pN,kX (aE _),Nat.sub_self];rfl,?_,?_⟩<;>
     ·have:=congrArg List.length e1;simp only[aS,aT] at this;omega
    have hpl:pre.length<ns.length:=by
     have:=congrArg List.length HM.out.1;simp only[aS,aT] at this;omega
    have hLs:=hid hL;clear hL hT1 hkd hm3 HM HQ HJ HT;go_wp2_with fail;go_region;go_wp2_with fail;refine(CI2.out _ (aB _ _).drew).mono ?_;rintro e w4 ⟨rfl,hj4,hf4⟩;have HF4:=hid (HFr.out.trans ((Fr.of_below (aB _ _).drew hwr).trans hf4));have hw4:w0.heap.size<=w4.heap.size:=aW hBw HF4.out.sz;obtain⟨z,nv,hz,hJ4⟩:=hj4.toZ;obtain⟨x0,hx0,hk0,hp0⟩:=hy0;obtain⟨y,hy,rfl⟩: ∃y:ND,z[pre.length]?=some y/\y.1=x0:=by
     rw[<-hz,cU] at hx0;obtain⟨y,h1,h2⟩:=rT.1 hx0;exact⟨y,h1,h2⟩
    have hzl:z.length=ns.length+more.length:=(by rw[<-bU (f:=(·.1)),hz,aS]);obtain⟨g,cap,rfl,hcap⟩:=hJ4.form (λe=>by rw[e] at hy;simp at hy);obtain⟨a5,_⟩:=hJ4.at_.at_ hy 5 (by omega) rfl;have hkm:=hJ4.at_.kids y (aX hy);have c4:=hJ4.cells.2.1;rw[hzl] at c4;have hzi:(pre.length:Int)<((ns.length+more.length:Nat):Int):=(by omega);have HJ4:=hid hJ4;have HY:=hid hy;have HZ:=hid hz;have HZL:=hid hzl;clear hf4 hj4 hx0 hz hzl hJ4 hy q0 q1 q2 q3 q4;go_wp2_with (at_builtin;go_must (refine Hi (by rfl) (.tmp 42) (.tmp 44) rfl w0.heap.size w4 y.2.1 y.1.kids ns.length rfl hkm rfl (by omega) hw4 ?_);intro kv w5 hr5 hg5 hat5;obtain⟨ck,fk⟩:=HJ4.out.at_.cellK HY.out hg5;obtain⟨gk,pk,rfl⟩:=tW hr5);obtain⟨hJ6,hF6⟩:=HJ4.out.kid (k:=ns.length) HY.out (H:=w4.heap.size+1) (by omega) hw4 hr5 hg5 hat5;obtain⟨W6,hW6⟩:=exQ<|w5.setCell ⟨g,pre.length*7+5,none⟩ (.slice (some ⟨gk,0,none⟩) (y.1.kids.length+1) pk);rw[hW6] at hJ6 hF6;rw[hW6];obtain⟨kv,hkv⟩:=exQ (.slice (some ⟨gk,0,none⟩) (y.1.kids.length+1) pk:Value);rw[hkv] at hJ6;have hpl1:pre.length<z.length:=(aQ.1 HY.out).1;have hy1:(z.set pre.length ({ y.1 with kids:=y.1.kids++ [ns.length] },kv,y.2.2))[pre.length]?=some ({ y.1 with kids:=y.1.kids++ [ns.length] },kv,y.2.2):=(by rw[List.getElem?_set,if_pos rfl,if_pos hpl1]);have HF6:=hid (HF4.out.trans hF6);have hw6:w0.heap.size<=W6.heap.size:=aW hBw HF6.out.sz;have HJ6:=hid hJ6;have HY1:=hid hy1;have p6:W6.cell? ⟨g,pre.length*7+6,none⟩=some y.2.2:=(hJ6.at_.at_ hy1 6 (by omega) rfl).1;have hg6:g<W6.heap.size:=World.block_lt_of_cell? W6 _ p6;have hpm:=(hJ6.keep (aB _ _).drew).at_.pcs _ (aX hy1);have CH:=hid (Av _ P txt r1 _ _ W6.drew (hJ6.keep (aB _ _).drew).toJ (by omega) (by omega));clear ck fk hr5 hg5 hat5 a5 c4 hkm hJ6 hF6 hy1 hW6 hkv;go_region_law ((first
     | (go_simp;go_at_call 62;(with_reducible refine CH.out.mono ?_);rintro e w' ⟨rfl,rfl⟩)
     | (refine Hj (by rfl) (.tmp 52) (.tmp 57) (by rfl) w0.heap.size W6.drew y.2.2 y.1.pcs (ls.2,eQ txt.length r1) (by rfl) hpm (by rfl) (by omega) hw6 ?_;intro kv2 w7 hr7 hg7 hat7;obtain⟨ck7,fk7⟩:=(HJ6.out.keep (aB _ _).drew).at_.cellP HY1.out hg7;obtain⟨gk2,pk2,rfl⟩:=tW hr7)))
    all_goals
     obtain⟨hJ8,hF8⟩:=(HJ6.out.keep (aB _ _).drew).pc (k:=(ls.2,eQ txt.length r1)) HY1.out (H:=W6.drew.heap.size+1) (by omega) hw6 hr7 hg7 hat7;have hj8:=hJ8.toJ.cast ((Hk (z:=z) (n:=pre.length) (k:=ns.length) (pc:=(ls.2,eQ txt.length r1)) HY.out).trans (congrArg (dU pre.length ns.length (ls.2,eQ txt.length r1)) HZ.out));obtain⟨W8,hW8⟩:=exQ<|w7.setCell ⟨g,pre.length*7+6,none⟩ (.slice (some ⟨gk2,0,none⟩) (y.1.pcs.length+1) pk2);rw[hW8] at hF8 hj8;rw[hW8];have HF8:=hid (HF6.out.trans ((Fr.of_below (aB _ _).drew hw6).trans hF8));have HJ8:=hid hj8;clear ck7 fk7 hr7 hg7 hat7 hJ8 hF8 hj8 hW8 HY1 HJ6 HY HJ4 p6 hpm hg6;by_cases h5:eP r1=5
     ·cases r1 with
      | nil=>cases h5
      | cons t r'=>
       have h5':t.kind=5:=h5;have hR:JR.ok r' (t.sf,t.st) (dU pre.length ns.length (ls.2,t.sf) (ns++more))=R:=by
        have:=hLs.out;simp only[h5',if_true] at this;exact this
       have CT:=hid (rY _ P txt t r' _ _ W8 HJ8.out (by simp only[aT] at hT1l;omega) 5 h5');clear hm1 hm2 hN h5 h5' HMid;go_wp2_with fail;refine CT.out.mono ?_;rintro e w9 ⟨rfl,hj9,hg9⟩;have HF9:=hid (HF8.out.trans (Fr.ofP hg9 hBP (aW hBw HF8.out.sz)));have HJ9:=hid hj9;clear hg9 hj9;go_wp2_with fail;go_ret;rw[<-hR];exact⟨rfl,HJ9.out,HF9.out⟩
     ·have CT5:=hid (qT _ P txt r1 _ _ W8 HJ8.out (by omega) 5 h5);by_cases h6:eP r1=6
      ·cases r1 with
       | nil=>cases h6
       | cons t r'=>
        have h6':t.kind=6:=h6;have h5': ¬t.kind=5:=h5;have hR:iA txt (bP txt lv) 5 false pre.length f [] r' (t.sf,t.st) (dU pre.length ns.length (ls.2,t.sf) (ns++more))=R:=by
         have:=hLs.out;simp only[h5',h6',if_true,if_false] at this;exact this
        have HR:=hid hR;have CT:=hid (rY _ P txt t r' _ _ W8 HJ8.out (by simp only[aT] at hT1l;omega) 6 h6');have hNN:(dU pre.length ns.length (ls.2,t.sf) (ns++more)).length+r'.length<=131074:=by
         unfold dU;rw[pO,aS];simp only[aT] at hm2;omega
        have hnn2:nodes.length<=(dU pre.length ns.length (ls.2,t.sf) (ns++more)).length:=by
         unfold dU;rw[pO,aS];omega
        have hlt:r'.length<rs.length/\r'.length<f:=by simp only[aT] at hm2;omega
        have HT2:Hid (TB txt r'):=hid (HT1.out.drop 1);clear hm1 hm2 hN h5 h6 h5' h6' hR;go_wp2_with fail;refine CT5.out.mono ?_;rintro e w9 ⟨rfl,rfl⟩;go_wp2_with fail;refine CT.out.mono ?_;rintro e w9 ⟨rfl,hj9,hg9⟩;have HF9:=hid (HF8.out.trans (Fr.ofP hg9 hBP (aW hBw HF8.out.sz)));have HJ9:=hid hj9;have hr9:=hj9.restN;clear hg9 hj9;go_wp2_with fail;go_roundw
        ·exact⟨r',_,_,_,_,f,HJ9,HMid,HR,hlt.2,hnn2,HT2,hNN,HF9⟩
        ·rw[hrn,hr9];exact hlt.1
      ·have CT6:=hid (qT _ P txt r1 _ _ W8 HJ8.out (by omega) 6 h6);have hR:JR.bad (eQ txt.length r1) 2=R:=by
        have:=hLs.out;cases r1 with
        | nil=>exact this
        | cons t r'=>
         have h5': ¬t.kind=5:=h5;have h6': ¬t.kind=6:=h6;simp only[h5',h6',if_false] at this;exact this
       have HNB:Hid (nodesN P w<=nodesN P W8):=hid (by have e1:=HNW.out;have e2:=HJ8.out.nodesN;unfold dU at e2;rw[pO,aS] at e2;omega);have CF:=hid (oB _ P txt r1 _ _ 2 W8 HJ8.out (by omega) (by omega));clear hm1 hm2 hN h5 h6 HMid;go_wp2_with fail;refine CT5.out.mono ?_;rintro e w9 ⟨rfl,rfl⟩;go_wp2_with fail;refine CT6.out.mono ?_;rintro e w9 ⟨rfl,rfl⟩;go_wp2_with fail;refine CF.out.mono ?_;rintro e w9 ⟨rfl,hj9,hf9⟩;have HF9:=hid (HF8.out.trans hf9);have HJ9:=hid hj9;clear hf9 hj9;go_wp2_with fail;go_ret;rw[<-hR];exact⟨rfl,HJ9.out.mono HNB.out,HF9.out⟩
theorem J.apart {B P:Nat}{txt:List UInt8}{rest:List aL}{l:Sp}{nodes:List aD}{w:World} (h:J B P txt rest l nodes w) {X:Nat}{cs:Array Value}{t:TypeId} (hX:w.heap[X]?=some (.cells cs t)) (ht:t≠75):X≠P:=by
 obtain⟨rv,z,nv,h1,_⟩:=h;intro e;subst e;unfold cK at h1;rw[hX] at h1;injection h1 with h1;injection h1 with _ h1 _;exact ht h1
theorem HM.apart {b:Nat}{had:List (List UInt8)}{w:World} (h:HM b had w) {X:Nat}{cs:Array Value}{t:TypeId} (hX:w.heap[X]?=some (.cells cs t)):X≠b:=by
 obtain⟨es,c,h1⟩:=h.obj;intro e;subst e;rw[hX] at h1;cases h1
theorem kI {w:World}{X:Nat}{u:Value}{t:TypeId} (h:w.heap[X]?=some (.cells #[u] t)):w.cell? ⟨X,0,none⟩=some u/\X<w.heap.size:=by
 refine⟨?_,aF h⟩;have:=World.news_of_block h 0 u rfl;have ha:((⟨X,0,none⟩:Addr).add 0)=⟨X,0,none⟩:=by unfold Addr.add;split<;>simp_all
 rw[ha] at this;exact this
theorem Rz {txt:List UInt8}{V:VF}{had:List (List UInt8)}{rest:List aL}{last:Sp}{nodes:List aD}{r:List aL}{l:Sp}{ns:List aD}{had':List (List UInt8)}
  (h:gE txt V true had rest last nodes=(.ok r l ns,had')):had'.length<=had.length+1:=by
 unfold gE at h;rw[if_neg (by decide)] at h;split at h
 ·injection h with h _;cases h
 ·split at h
  ·injection h with h _;cases h
  ·split at h
   ·injection h with h _;cases h
   ·split at h
    ·injection h with h _;cases h
    ·split at h
     ·injection h with h _;cases h
     ·injection h with _ h;rw[<-h];simp
def KE (B P b:Nat) (txt:List UInt8) (r:JR) (w:World) (e:Ending) (w':World):Prop:=match r with
 | .ok rr l ns=>e= .returned (.bool true)/\J B P txt rr l ns w'/\iO B P b w w'
 | .bad a er=>e= .returned (.bool false)/\rV B P (nodesN P w) a er w'/\iO B P b w w'
theorem Sa (w0:World) (P:Nat) (txt:List UInt8) (lv:Nat) (IH:VC w0 P txt lv) (b X Y:Nat) (w:World) (rest:List aL) (l:Sp) (pre:List aD) (x:aD) (post nodes:List aD) (lev:Int)
  (h:J w0.heap.size P txt rest l nodes w) (hmid:fJ pre x post nodes) (hb:Below w0.heap.size w0 w) (ht:TB txt rest) (hN:nodes.length+rest.length<=131074) (hl:lev+1=33-(lv:Int)) (hlev:0<=lev/\lev<=32) (hs:txt.length<=65536)
  (hX:w.heap[X]?=some (.cells #[.pointer (some ⟨P,0,none⟩)] 73)) (hY:w.heap[Y]?=some (.cells #[.map (some b)] 110)) (hm:HM b [] w) (hBb:w0.heap.size<=b) (hSV:cO w0) (hT:cC w0):
  Calls Tryz.prog 58 #[.pointer (some ⟨P,0,none⟩), .int .i64 (pre.length:Int), .int .i64 lev, .int .i64 3, .func (.func 60) #[] #[.pointer (some ⟨X,0,none⟩), .pointer (some ⟨Y,0,none⟩)]] w
   (KE w0.heap.size P b txt (gS txt (bP txt lv) 3 true pre.length rest l nodes) w):=by
 obtain⟨R,hR⟩:=exQ<|gS txt (bP txt lv) 3 true pre.length rest l nodes;rw[hR];have htl:=ht.1;have hnw:=h.nodesN;have hBw:w0.heap.size<=w.heap.size:=hb.size;obtain⟨hPl,hBP,_,_⟩:=h.box;obtain⟨hl0,hl1⟩:=hlev;have hXP:=h.apart hX (by decide);have hYP:=h.apart hY (by decide);have hXb:X≠b:=hm.apart hX;have hYb:Y≠b:=hm.apart hY;obtain⟨_,_,hbo⟩:=hm.obj;have hbP:b≠P:=h.box.2.2.2 b _ _ hbo;have HXY:=hid (aI hX hY);have HM0:=hid hm;have HS:=hid (aI hSV hT);have HB:=hid hb;have HT:=hid ht;by_cases h5:eP rest=3
 ·cases rest with
  | nil=>cases h5
  | cons t r=>
   have h5':t.kind=3:=h5;have hR':JR.ok r (t.sf,t.st) nodes=R:=by
    unfold gS at hR;simp only[h5',if_true] at hR;exact hR
   have CT:=hid (rY _ P txt t r l nodes w h (by simp only[aT] at htl;omega) 3 h5');subst hR';clear hR h hb ht hnw hX hY hm hSV hT hbo;go_enter Tryz.func58,Tryz.ntmps58;go_wp2_with fail;refine CT.out.mono ?_;rintro e w1 ⟨rfl,hj,hg⟩;go_wp2_with fail;go_ret;exact⟨rfl,hj,(Fr.ofP hg hBP hBw).toX⟩
 ·have hloop: ∃f,rest.length<f/\iA txt (bP txt lv) 3 true pre.length f [] rest l nodes=R:=by
   unfold gS at hR;cases rest with
   | nil=>exact⟨1,by simp,hR⟩
   | cons t r=>
    have h5': ¬t.kind=3:=h5;simp only[h5',if_false] at hR;exact⟨_,by simp,hR⟩
  obtain⟨f0,hf0,hLp⟩:=hloop;have CT:=hid (qT _ P txt rest l nodes w h (by omega) 3 h5);have HJ:=hid h;have HL:=hid hLp;have HMi:=hid hmid;have HNW:=hid hnw;clear hR h5 hLp h hb ht hmid hnw hX hY hm hSV hT hbo;go_enter Tryz.func58,Tryz.ntmps58;go_wp2_with fail;refine CT.out.mono ?_;rintro e w1 ⟨rfl,rfl⟩;go_wp2_with fail;go_loopw [11] (λ_ wr=> ∃(had:List (List UInt8)) (rs:List aL) (ls:Sp) (ns:List aD) (x:aD) (post:List aD) (f:Nat),Hid (HM b had wr)/\had.length+rs.length<=65537/\Hid (J w0.heap.size P txt rs ls ns wr)/\Hid (fJ pre x post ns)/\Hid (iA txt (bP txt lv) 3 true pre.length f had rs ls ns=R)/\rs.length<f/\nodes.length<=ns.length/\Hid (TB txt rs)/\ns.length+rs.length<=131074/\Hid (iO w0.heap.size P b w wr)) (λ_ wr=>restN P wr)
  case atStart=>exact⟨[],rest,l,nodes,x,post,f0,HM0,by simpa using htl,HJ,HMi,HL,hf0,aE _,HT,hN,hid (Fr.refl _ _ _).toX⟩
  case round=>
   clear hN hf0 HMi HL HJ CT HT htl HM0;obtain⟨had,rs,ls,ns,x,post,f,HMh,hhad,HJ,HMi,HL,hf,hnn,HT,hN,HFr⟩:=hrel;obtain⟨f,rfl⟩: ∃f',f=f'+1:=⟨f-1,by omega⟩;have hrn:=HJ.out.restN;have HNR:=hid HJ.out.nodesN;have hL:=HL.out;unfold iA at hL;have hwr:w0.heap.size<=wr.heap.size:=aW hBw HFr.out.sz;obtain⟨Q,hQ⟩:=exQ<|gE txt (bP txt lv) true had rs ls ns;have hXr:=kI (HFr.out.blk X _ HXY.out.1 hXP hXb (by rfl));have hYr:=kI (HFr.out.blk Y _ HXY.out.2 hYP hYb (by rfl));have CI2:Hid (∀w',Below wr.heap.size wr w'->Calls Tryz.prog 60 #[.int .i64 (33-(lv:Int)), .pointer (some ⟨X,0,none⟩), .pointer (some ⟨Y,0,none⟩)] w' (ME w0.heap.size P b txt Q w')):=hid (λw' hb'=>by have:=Rx w0 P txt lv IH b had w' rs ls ns (33-(lv:Int)) X Y (by rw[hb'.cell (p:=⟨X,0,none⟩) hXr.2];exact hXr.1) (by rw[hb'.cell (p:=⟨Y,0,none⟩) hYr.2];exact hYr.1) (HJ.out.keep hb') ((HB.out.trans HFr.out.bel).trans (hb'.mono hwr)) HT.out hN rfl (HMh.out.fr (Fr.of_below (B:=w0.heap.size) (P:=P) hb' hwr) hbP) hBb (by omega) hs HS.out.1 HS.out.2;rw[hQ] at this;exact this);clear hXr hYr;rw[hQ] at hL;have HQ:=hid hQ;obtain⟨rv,z0,nv0,b1,b2,b3,b4,b5⟩:=HJ.out;obtain⟨p0,cap0,rfl⟩:=b4.slice;obtain⟨q0,q1,q2,q3,q4,_⟩:=b1.cells;have hz0:z0.length=ns.length:=(by rw[<-b3,bU]);rw[hz0] at q4;clear b1 b2 b3 b4 hQ HL hz0;obtain⟨Q,had2⟩:=Q;cases Q with
   | bad a er=>
    have HNB:Hid (nodesN P w<=nodesN P wr.drew):=hid (by have e1:=HNW.out;have e2:=HNR.out;show nodesN P w<=nodesN P wr;omega);have HF:Hid (JR.bad a er=R):=hid hL;clear hL;go_wp2_with fail;go_region;go_wp2_with fail;refine(CI2.out _ (aB _ _).drew).mono ?_;rintro e w4 ⟨rfl,hj4,hf4⟩;have HF4:=hid (HFr.out.trans ((Fr.of_below (aB _ _).drew hwr).toX.trans hf4));clear hf4;go_wp2_with fail;go_ret;rw[<-HF.out];exact⟨rfl,hj4.mono HNB.out,HF4.out⟩
   | ok r1 l1 ns1=>
    obtain⟨more,rfl,hm1,hm2,⟨kd,hkd⟩,hm3⟩:=xI (mP txt lv) HQ.out;have hh2:=Rz HQ.out;have HMid:=hid (HMi.out.add hm3 hm1 ns.length (ls.2,eQ txt.length r1));have hT1:TB txt r1:=by rw[hkd];exact HT.out.drop kd
    have hT1l:=hT1.1;have hHT:eQ txt.length r1<=65536:=by
     cases r1 with
     | nil=>exact hs
     | cons t r'=>have:=hT1.2 t iB;show t.sf<=65536;omega
    have HT1:=hid hT1;have hy0: ∃x0,(ns++more)[pre.length]?=some x0/\x0.kids.length<=131074/\x0.pcs.length<=131074:=by
     obtain⟨e1,e2,e3,e4⟩:=HMi.out;refine⟨x,by rw[e1,pN,kX (aE _),Nat.sub_self];rfl,?_,?_⟩<;>
     ·have:=congrArg List.length e1;simp only[aS,aT] at this;omega
    have hpl:pre.length<ns.length:=by
     have:=congrArg List.length HMi.out.1;simp only[aS,aT] at this;omega
    have hLs:=hid hL;clear hL hT1 hkd hm3 HMi HQ HJ HT;go_wp2_with fail;go_region;go_wp2_with fail;refine(CI2.out _ (aB _ _).drew).mono ?_;rintro e w4 ⟨rfl,hj4,hm4,hf4⟩;have HF4:=hid (HFr.out.trans ((Fr.of_below (aB _ _).drew hwr).toX.trans hf4));have HM4:=hid hm4;have hw4:w0.heap.size<=w4.heap.size:=aW hBw HF4.out.sz;obtain⟨z,nv,hz,hJ4⟩:=hj4.toZ;obtain⟨x0,hx0,hk0,hp0⟩:=hy0;obtain⟨y,hy,rfl⟩: ∃y:ND,z[pre.length]?=some y/\y.1=x0:=by
     rw[<-hz,cU] at hx0;obtain⟨y,h1,h2⟩:=rT.1 hx0;exact⟨y,h1,h2⟩
    have hzl:z.length=ns.length+more.length:=(by rw[<-bU (f:=(·.1)),hz,aS]);obtain⟨g,cap,rfl,hcap⟩:=hJ4.form (λe=>by rw[e] at hy;simp at hy);obtain⟨a5,_⟩:=hJ4.at_.at_ hy 5 (by omega) rfl;have hkm:=hJ4.at_.kids y (aX hy);have c4:=hJ4.cells.2.1;rw[hzl] at c4;have hzi:(pre.length:Int)<((ns.length+more.length:Nat):Int):=(by omega);have HJ4:=hid hJ4;have HY:=hid hy;have HZ:=hid hz;have HZL:=hid hzl;clear hf4 hj4 hm4 hx0 hz hzl hJ4 hy q0 q1 q2 q3 q4;go_wp2_with (at_builtin;go_must (refine Hi (by rfl) (.tmp 42) (.tmp 44) rfl w0.heap.size w4 y.2.1 y.1.kids ns.length rfl hkm rfl (by omega) hw4 ?_);intro kv w5 hr5 hg5 hat5;obtain⟨ck,fk⟩:=HJ4.out.at_.cellK HY.out hg5;obtain⟨gk,pk,rfl⟩:=tW hr5);obtain⟨hJ6,hF6⟩:=HJ4.out.kid (k:=ns.length) HY.out (H:=w4.heap.size+1) (by omega) hw4 hr5 hg5 hat5;obtain⟨W6,hW6⟩:=exQ<|w5.setCell ⟨g,pre.length*7+5,none⟩ (.slice (some ⟨gk,0,none⟩) (y.1.kids.length+1) pk);rw[hW6] at hJ6 hF6;rw[hW6];obtain⟨kv,hkv⟩:=exQ (.slice (some ⟨gk,0,none⟩) (y.1.kids.length+1) pk:Value);rw[hkv] at hJ6;have hpl1:pre.length<z.length:=(aQ.1 HY.out).1;have hy1:(z.set pre.length ({ y.1 with kids:=y.1.kids++ [ns.length] },kv,y.2.2))[pre.length]?=some ({ y.1 with kids:=y.1.kids++ [ns.length] },kv,y.2.2):=(by rw[List.getElem?_set,if_pos rfl,if_pos hpl1]);have HF6:=hid (HF4.out.trans hF6.toX);have HM6:Hid (HM b had2 W6):=hid (HM4.out.fr hF6 hbP);have hw6:w0.heap.size<=W6.heap.size:=aW hBw HF6.out.sz;have HJ6:=hid hJ6;have HY1:=hid hy1;have p6:W6.cell? ⟨g,pre.length*7+6,none⟩=some y.2.2:=(hJ6.at_.at_ hy1 6 (by omega) rfl).1;have hg6:g<W6.heap.size:=World.block_lt_of_cell? W6 _ p6;have hpm:=(hJ6.keep (aB _ _).drew).at_.pcs _ (aX hy1);have CH:=hid (Av _ P txt r1 _ _ W6.drew (hJ6.keep (aB _ _).drew).toJ (by omega) (by omega));clear ck fk hr5 hg5 hat5 a5 c4 hkm hJ6 hF6 hy1 hW6 hkv;go_region_law ((first
     | (go_simp;go_at_call 62;(with_reducible refine CH.out.mono ?_);rintro e w' ⟨rfl,rfl⟩)
     | (refine Hj (by rfl) (.tmp 52) (.tmp 57) (by rfl) w0.heap.size W6.drew y.2.2 y.1.pcs (ls.2,eQ txt.length r1) (by rfl) hpm (by rfl) (by omega) hw6 ?_;intro kv2 w7 hr7 hg7 hat7;obtain⟨ck7,fk7⟩:=(HJ6.out.keep (aB _ _).drew).at_.cellP HY1.out hg7;obtain⟨gk2,pk2,rfl⟩:=tW hr7)))
    all_goals
     obtain⟨hJ8,hF8⟩:=(HJ6.out.keep (aB _ _).drew).pc (k:=(ls.2,eQ txt.length r1)) HY1.out (H:=W6.drew.heap.size+1) (by omega) hw6 hr7 hg7 hat7;have hj8:=hJ8.toJ.cast ((Hk (z:=z) (n:=pre.length) (k:=ns.length) (pc:=(ls.2,eQ txt.length r1)) HY.out).trans (congrArg (dU pre.length ns.length (ls.2,eQ txt.length r1)) HZ.out));obtain⟨W8,hW8⟩:=exQ<|w7.setCell ⟨g,pre.length*7+6,none⟩ (.slice (some ⟨gk2,0,none⟩) (y.1.pcs.length+1) pk2);rw[hW8] at hF8 hj8;rw[hW8];have HF8:=hid (HF6.out.trans ((Fr.of_below (aB _ _).drew hw6).trans hF8).toX);have HJ8:=hid hj8;have HM8:Hid (HM b had2 W8):=hid (HM6.out.fr ((Fr.of_below (aB _ _).drew hw6).trans hF8) hbP);clear ck7 fk7 hr7 hg7 hat7 hJ8 hF8 hj8 hW8 HY1 HJ6 HY HJ4 p6 hpm hg6;by_cases h5:eP r1=3
     ·cases r1 with
      | nil=>cases h5
      | cons t r'=>
       have h5':t.kind=3:=h5;have hR:JR.ok r' (t.sf,t.st) (dU pre.length ns.length (ls.2,t.sf) (ns++more))=R:=by
        have:=hLs.out;simp only[h5',if_true] at this;exact this
       have CT:=hid (rY _ P txt t r' _ _ W8 HJ8.out (by simp only[aT] at hT1l;omega) 3 h5');clear hm1 hm2 hN h5 h5' HMid;go_wp2_with fail;refine CT.out.mono ?_;rintro e w9 ⟨rfl,hj9,hg9⟩;have HF9:=hid (HF8.out.trans (Fr.ofP (B:=w0.heap.size) hg9 hBP (aW hBw HF8.out.sz)).toX);have HJ9:=hid hj9;clear hg9 hj9;go_wp2_with fail;go_ret;rw[<-hR];exact⟨rfl,HJ9.out,HF9.out⟩
     ·have CT5:=hid (qT _ P txt r1 _ _ W8 HJ8.out (by omega) 3 h5);by_cases h6:eP r1=6
      ·cases r1 with
       | nil=>cases h6
       | cons t r'=>
        have h6':t.kind=6:=h6;have h5': ¬t.kind=3:=h5;have hR:iA txt (bP txt lv) 3 true pre.length f had2 r' (t.sf,t.st) (dU pre.length ns.length (ls.2,t.sf) (ns++more))=R:=by
         have:=hLs.out;simp only[h5',h6',if_true,if_false] at this;exact this
        have HR:=hid hR;have CT:=hid (rY _ P txt t r' _ _ W8 HJ8.out (by simp only[aT] at hT1l;omega) 6 h6');have hNN:(dU pre.length ns.length (ls.2,t.sf) (ns++more)).length+r'.length<=131074:=by
         unfold dU;rw[pO,aS];simp only[aT] at hm2;omega
        have hhl:had2.length+r'.length<=65537:=by simp only[aT] at hm2;omega
        have hnn2:nodes.length<=(dU pre.length ns.length (ls.2,t.sf) (ns++more)).length:=by
         unfold dU;rw[pO,aS];omega
        have hlt:r'.length<rs.length/\r'.length<f:=by simp only[aT] at hm2;omega
        have HT2:Hid (TB txt r'):=hid (HT1.out.drop 1);clear hm1 hm2 hN h5 h6 h5' h6' hR;go_wp2_with fail;refine CT5.out.mono ?_;rintro e w9 ⟨rfl,rfl⟩;go_wp2_with fail;refine CT.out.mono ?_;rintro e w9 ⟨rfl,hj9,hg9⟩;have HF9:=hid (HF8.out.trans (Fr.ofP (B:=w0.heap.size) hg9 hBP (aW hBw HF8.out.sz)).toX);have HJ9:=hid hj9;have hr9:=hj9.restN;have HM9:Hid (HM b had2 w9):=hid (HM8.out.fr (Fr.ofP (B:=w0.heap.size) hg9 hBP (aW hBw HF8.out.sz)) hbP);clear hg9 hj9;go_wp2_with fail;go_roundw
        ·exact⟨had2,r',_,_,_,_,f,HM9,hhl,HJ9,HMid,HR,hlt.2,hnn2,HT2,hNN,HF9⟩
        ·rw[hrn,hr9];exact hlt.1
      ·have CT6:=hid (qT _ P txt r1 _ _ W8 HJ8.out (by omega) 6 h6);have hR:JR.bad (eQ txt.length r1) 2=R:=by
        have:=hLs.out;cases r1 with
        | nil=>exact this
        | cons t r'=>
         have h5': ¬t.kind=3:=h5;have h6': ¬t.kind=6:=h6;simp only[h5',h6',if_false] at this;exact this
       have HNB:Hid (nodesN P w<=nodesN P W8):=hid (by have e1:=HNW.out;have e2:=HJ8.out.nodesN;unfold dU at e2;rw[pO,aS] at e2;omega);have CF:=hid (oB _ P txt r1 _ _ 2 W8 HJ8.out (by omega) (by omega));clear hm1 hm2 hN h5 h6 HMid;go_wp2_with fail;refine CT5.out.mono ?_;rintro e w9 ⟨rfl,rfl⟩;go_wp2_with fail;refine CT6.out.mono ?_;rintro e w9 ⟨rfl,rfl⟩;go_wp2_with fail;refine CF.out.mono ?_;rintro e w9 ⟨rfl,hj9,hf9⟩;have HF9:=hid (HF8.out.trans hf9.toX);have HJ9:=hid hj9;clear hf9 hj9;go_wp2_with fail;go_ret;rw[<-hR];exact⟨rfl,HJ9.out.mono HNB.out,HF9.out⟩
def W1 (w:World) (P:Nat) (key:Sp):World:=(w.alloc (.cells #[.pointer (some ⟨P,0,none⟩)] 73)).alloc (.cells #[.int .i64 (key.1:Int), .int .i64 (key.2:Int)] 59)
theorem W1.bel (w:World) (P:Nat) (key:Sp):Below w.heap.size w (W1 w P key):=(aH w _).trans ((aH _ _).mono (by simp))
theorem W1.X (w:World) (P:Nat) (key:Sp):(W1 w P key).heap[w.heap.size]?=some (.cells #[.pointer (some ⟨P,0,none⟩)] 73):=by
 have h:=(aH (w.alloc (.cells #[.pointer (some ⟨P,0,none⟩)] 73)) (.cells #[.int .i64 (key.1:Int), .int .i64 (key.2:Int)] 59)).block w.heap.size (by simp);exact h.trans (heap_alloc_new w _)
theorem W1.Y (w:World) (P:Nat) (key:Sp):(W1 w P key).heap[w.heap.size+1]?=some (.cells #[.int .i64 (key.1:Int), .int .i64 (key.2:Int)] 59):=by
 have h:=heap_alloc_new (w.alloc (.cells #[.pointer (some ⟨P,0,none⟩)] 73)) (.cells #[.int .i64 (key.1:Int), .int .i64 (key.2:Int)] 59);have e:(w.alloc (.cells #[.pointer (some ⟨P,0,none⟩)] 73)).heap.size=w.heap.size+1:=by simp
 rw[e] at h;exact h
theorem qU {w:World}{X:Nat}{u v:Value}{t:TypeId} (h:w.heap[X]?=some (.cells #[u,v] t)):w.cell? ⟨X,0,none⟩=some u/\w.cell? ⟨X,1,none⟩=some v:=by
 have h0:=World.news_of_block h 0 u rfl;have h1:=World.news_of_block h 1 v rfl;have ha:((⟨X,0,none⟩:Addr).add 0)=⟨X,0,none⟩:=by unfold Addr.add;split<;>simp_all
 have hb:((⟨X,0,none⟩:Addr).add 1)=⟨X,1,none⟩:=by unfold Addr.add;split<;>simp_all
 rw[ha] at h0;rw[hb] at h1;exact⟨h0,h1⟩
theorem VE.bad_of {B P:Nat}{txt:List UInt8}{a:Nat}{er:Int}{w w1 w':World}{e:Ending} (h:Aw B P a er w1 e w') (hn:nodesN P w<=nodesN P w1) (hf:Fr B P w w1):VE B P txt (.bad a er) w e w':=
 ⟨h.1,h.2.1.mono hn,hf.trans h.2.2⟩
theorem Hl (w0:World) (P:Nat) (txt:List UInt8) (hs:txt.length<=65536) (w:World) (rest:List aL) (l:Sp) (nodes:List aD) (key:Sp) (lev:Int) (h:J w0.heap.size P txt rest l nodes w) (hb:Below w0.heap.size w0 w) (hr:rest.length<=65537)
  (hk:cJ (eP rest)=0):
  Calls Tryz.prog 27 #[.pointer (some ⟨P,0,none⟩), .int .i64 lev, .agg #[.int .i64 (key.1:Int), .int .i64 (key.2:Int)]] w (VE w0.heap.size P txt (.bad (eQ txt.length rest) 2) w):=by
 have h1:=h.keep (W1.bel w P key);have CK:=hid (rX _ P txt rest l nodes _ h1 (by omega));have CO:=hid (xS (eP rest) (W1 w P key));rw[hk] at CO;have CF:=hid (oB _ P txt rest l nodes 2 _ h1 (by omega) (by omega));have hX:=(kI (W1.X w P key)).1;have HN:=hid (nU (h.nodesN.trans h1.nodesN.symm));have HF:=hid (Fr.of_below (P:=P) (W1.bel w P key) hb.size);clear h h1 hb;go_enter Tryz.func27,Tryz.ntmps27;go_upto_region 1 with fail;change Code.wp _ _ _ _ (W1 w P key);go_wp2_with fail;refine CK.out.mono ?_;rintro e w2 ⟨rfl,rfl⟩;go_wp2_with fail;refine CO.out.mono ?_;rintro e w2 ⟨rfl,rfl⟩;go_wp2_with fail;refine CF.out.mono ?_;rintro e w3 hE;have HE:=hid (VE.bad_of (txt:=txt) hE HN.out HF.out);obtain⟨rfl, -, -⟩:=hE;go_wp2_with fail;go_ret;exact HE.out
theorem Sb (w0:World) (P:Nat) (txt:List UInt8) (hs:txt.length<=65536) (w:World) (rest:List aL) (l:Sp) (nodes:List aD) (key:Sp) (lev:Int) (h:J w0.heap.size P txt rest l nodes w) (hb:Below w0.heap.size w0 w) (hr:rest.length<=65537)
  (hk:cJ (eP rest)≠0) (hlev:32<lev):
  Calls Tryz.prog 27 #[.pointer (some ⟨P,0,none⟩), .int .i64 lev, .agg #[.int .i64 (key.1:Int), .int .i64 (key.2:Int)]] w (VE w0.heap.size P txt (.bad (eQ txt.length rest) 5) w):=by
 have h1:=h.keep (W1.bel w P key);have CK:=hid (rX _ P txt rest l nodes _ h1 (by omega));have CO:=hid (xS (eP rest) (W1 w P key));obtain⟨q,hq⟩:=exQ<|cJ (eP rest);rw[hq] at CO hk;have d0:((q:Int)==0)=false:=aG.2 (by omega);have d1:decide (32<lev)=true:=aN hlev;have CF:=hid (oB _ P txt rest l nodes 5 _ h1 (by omega) (by omega));have hX:=(kI (W1.X w P key)).1;have HN:=hid (nU (h.nodesN.trans h1.nodesN.symm));have HF:=hid (Fr.of_below (P:=P) (W1.bel w P key) hb.size);clear h h1 hb;go_enter Tryz.func27,Tryz.ntmps27;go_upto_region 1 with fail;change Code.wp _ _ _ _ (W1 w P key);go_wp2_with fail;refine CK.out.mono ?_;rintro e w2 ⟨rfl,rfl⟩;go_wp2_with fail;refine CO.out.mono ?_;rintro e w2 ⟨rfl,rfl⟩;go_wp2_with fail;refine CF.out.mono ?_;rintro e w3 hE;have HE:=hid (VE.bad_of (txt:=txt) hE HN.out HF.out);obtain⟨rfl, -, -⟩:=hE;go_wp2_with fail;go_ret;exact HE.out
theorem Sc (w0:World) (P:Nat) (txt:List UInt8) (hs:txt.length<=65536) (w:World) (rest:List aL) (l:Sp) (nodes:List aD) (key:Sp) (lev:Int) (h:J w0.heap.size P txt rest l nodes w) (hb:Below w0.heap.size w0 w) (hr:rest.length<=65537)
  (hk:cJ (eP rest)≠0) (hlev:lev<=32) (hm:nodes.length=4096):
  Calls Tryz.prog 27 #[.pointer (some ⟨P,0,none⟩), .int .i64 lev, .agg #[.int .i64 (key.1:Int), .int .i64 (key.2:Int)]] w (VE w0.heap.size P txt (.bad (eQ txt.length rest) 6) w):=by
 have h1:=h.keep (W1.bel w P key);have CK:=hid (rX _ P txt rest l nodes _ h1 (by omega));have CO:=hid (xS (eP rest) (W1 w P key));obtain⟨q,hq⟩:=exQ<|cJ (eP rest);rw[hq] at CO hk;have d0:((q:Int)==0)=false:=aG.2 (by omega);have d1:decide (32<lev)=false:=aJ (by omega);have CF:=hid (oB _ P txt rest l nodes 6 _ h1 (by omega) (by omega));have hX:=(kI (W1.X w P key)).1;have HN:=hid (nU (h.nodesN.trans h1.nodesN.symm));have HF:=hid (Fr.of_below (P:=P) (W1.bel w P key) hb.size);obtain⟨rv,z,nv,b1,_,b3,b4,_⟩:=h1;obtain⟨p0,c0,rfl⟩:=b4.slice;have q4:=b1.cells.2.2.2.2.1;have hz:z.length=4096:=by rw[<-hm,<-b3,bU]
 rw[hz] at q4;clear h hb b1 b3 b4 hz hm;go_enter Tryz.func27,Tryz.ntmps27;go_upto_region 1 with fail;change Code.wp _ _ _ _ (W1 w P key);go_wp2_with fail;refine CK.out.mono ?_;rintro e w2 ⟨rfl,rfl⟩;go_wp2_with fail;refine CO.out.mono ?_;rintro e w2 ⟨rfl,rfl⟩;go_wp2_with fail;refine CF.out.mono ?_;rintro e w3 hE;have HE:=hid (VE.bad_of (txt:=txt) hE HN.out HF.out);obtain⟨rfl, -, -⟩:=hE;go_wp2_with fail;go_ret;exact HE.out
def KO (B P:Nat) (txt:List UInt8) (n:Nat) (R:JR) (b:Bool) (w:World):Prop:=match R with
 | .ok rr l ns=>b=true/\J B P txt rr l ns w/\n<ns.length
 | .bad a er=>b=false/\rV B P (n+1) a er w
theorem cH.to {B P:Nat}{txt:List UInt8}{rv nv:Value}{l:Sp}{a:Nat}{er:Int}{z:List ND}{w:World}{n:Nat} (hb:cK w P txt rv l nv a er) (h:cH B z nv w) (hn:n<z.length):
  ∃g cap y,nv= .slice (some ⟨g,0,none⟩) z.length cap/\z[n]?=some y/\w.cell? ⟨g,n*7+2,none⟩=some (.int .i64 (y.1.st:Int))/\w.frozen? ⟨g,n*7+2,none⟩=false/\(∀X cs t,w.heap[X]?=some (.cells cs t (0,0))->81≠t->X≠g)/\
   cK (w.setCell ⟨g,n*7+2,none⟩ (.int .i64 (l.2:Int))) P txt rv l nv a er/\(∀rest,TV w rv rest->TV (w.setCell ⟨g,n*7+2,none⟩ (.int .i64 (l.2:Int))) rv rest)/\
   cH B (z.set n ({ y.1 with st:=l.2 },y.2)) nv (w.setCell ⟨g,n*7+2,none⟩ (.int .i64 (l.2:Int)))/\ ∀P',Fr B P' w (w.setCell ⟨g,n*7+2,none⟩ (.int .i64 (l.2:Int))):=by
 obtain⟨g,cap,cur,rfl,_,hgB,hcur⟩:=h.form (λe=>by rw[e] at hn;simp at hn);have hy:z[n]?=some z[n]:=bJ hn;obtain⟨c1,c2⟩:=h.at_ hy 2 (by omega) rfl;have hf:=h.field (y':=({ z[n].1 with st:=l.2 },z[n].2)) hy 2 (by omega) (.int .i64 (l.2:Int)) rfl rfl rfl rfl;rw[List.length_set] at hf;have hk:=λrest (ht:TV w rv rest)=>tV hb ht (gM w g (n*7+2) (.int .i64 (l.2:Int))) (λk hk=>by have e:g=k:=bD hk;subst e;exact⟨cur,_,hcur,by decide,by decide⟩);refine⟨g,cap,z[n],rfl,hy,c1,c2,λX cs t hX hne e=>?_,?_,λrest ht=>(hk rest ht).2,hf,λP'=>Fr.setM hcur (by decide) hgB⟩
 ·subst e;rw[hX] at hcur;injection hcur with hcur;injection hcur with _ hcur;exact hne hcur.symm
 ·refine((gM w g (n*7+2) (.int .i64 (l.2:Int))).block P hb.lt (λe=>?_)).trans hb;have e:P=g:=bD e;subst e;unfold cK at hb;rw[hcur] at hb;injection hb with hb;injection hb with _ hb;exact absurd hb (by decide)
theorem KO.fin {B P:Nat}{txt:List UInt8}{n:Nat}{R:JR}{b:Bool}{w:World} (h:KO B P txt n R b w): ∃(lt g cap len st:Nat),w.cell? ⟨P,3,none⟩=some (.int .i64 (lt:Int))/\w.cell? ⟨P,4,none⟩=some (.slice (some ⟨g,0,none⟩) len cap)/\n<len/\
  w.cell? ⟨g,n*7+2,none⟩=some (.int .i64 (st:Int))/\w.frozen? ⟨g,n*7+2,none⟩=false/\(∀X cs t,w.heap[X]?=some (.cells cs t (0,0))->81≠t->X≠g)/\P≠g/\
  (∀w00,nodesN P w00<=n+1->Fr B P w00 w->VE B P txt (mC n R) w00 (.returned (.bool b)) (w.setCell ⟨g,n*7+2,none⟩ (.int .i64 (lt:Int)))):=by
 cases R with
 | ok rr l ns=>
  obtain⟨rfl,⟨rv,z,nv,h1,h2,rfl,h4,h5⟩,h6⟩:=h;rw[bU] at h6;obtain⟨g,cap,y,rfl,hy,c1,c2,hX,a1,a2,a3,a4⟩:=cH.to h1 h4 h6;obtain⟨_,_,_,e3,e4,_⟩:=h1.cells;refine⟨l.2,g,cap,z.length,y.1.st,e3,e4,h6,c1,c2,hX,hX P _ _ h1 (by decide),λw00 _ hf=>⟨rfl,⟨rv,_,_,a1,a2 _ h2,?_,a3,h5⟩,hf.trans (a4 P)⟩⟩;unfold jP;rw[Ay _ n _ y.1 (by rw[cU,hy];rfl),List.map_set]
 | bad a er=>
  obtain⟨rfl,txt',rv,l,z,nv,h1,h4,h5,h6⟩:=h;obtain⟨g,cap,y,rfl,hy,c1,c2,hX,a1,a2,a3,a4⟩:=cH.to h1 h4 (show n<z.length by omega);obtain⟨_,_,_,e3,e4,_⟩:=h1.cells;exact⟨l.2,g,cap,z.length,y.1.st,e3,e4,by omega,c1,c2,hX,hX P _ _ h1 (by decide),λw00 hn hf=>⟨rfl,⟨txt',rv,l,_,_,a1,a3,h5,by rw[List.length_set];omega⟩,hf.trans (a4 P)⟩⟩
theorem Hm {k:Nat} (h4:k≠4) (h2:k≠2):cJ k≠5/\cJ k≠6:=by
 unfold cJ;rw[if_neg h4,if_neg h2];constructor<;>(repeat' split)<;>decide
theorem fJ.lt {pre:List aD}{x:aD}{post nodes:List aD} (h:fJ pre x post nodes):pre.length<nodes.length:=by
 rw[h.1,aS,aT];omega
theorem KO.of {B P:Nat}{txt:List UInt8}{n:Nat}{R:JR}{w w':World}{e:Ending} (h:VE B P txt R w e w') (hn:nodesN P w=n+1) (hl: ∀rr l ns,R= .ok rr l ns->n<ns.length):
  ∃b,e= .returned (.bool b)/\KO B P txt n R b w'/\Fr B P w w':=by
 cases R with
 | ok rr l ns=>exact⟨true,h.1,⟨rfl,h.2.1,hl _ _ _ rfl⟩,h.2.2⟩
 | bad a er=>
  refine⟨false,h.1,⟨rfl,?_⟩,h.2.2⟩;have:=h.2.1;rw[hn] at this;exact this
theorem KO.ofX {B P b0:Nat}{txt:List UInt8}{n:Nat}{R:JR}{w w':World}{e:Ending} (h:KE B P b0 txt R w e w') (hn:nodesN P w=n+1) (hl: ∀rr l ns,R= .ok rr l ns->n<ns.length):
  ∃b,e= .returned (.bool b)/\KO B P txt n R b w'/\iO B P b0 w w':=by
 cases R with
 | ok rr l ns=>exact⟨true,h.1,⟨rfl,h.2.1,hl _ _ _ rfl⟩,h.2.2⟩
 | bad a er=>
  refine⟨false,h.1,⟨rfl,?_⟩,h.2.2⟩;have:=h.2.1;rw[hn] at this;exact this
theorem VE.drew {B P:Nat}{txt:List UInt8}{R:JR}{w w':World}{e:Ending} (h:VE B P txt R w e w'):VE B P txt R w e w'.drew:=by
 cases R with
 | ok rr l ns=>exact⟨h.1,h.2.1.keep (aB _ _).drew,h.2.2.trans (Fr.of_below (aB _ _).drew (by have:=h.2.1.box;omega))⟩
 | bad a er=>
  obtain⟨h1,⟨txt',rv,l,z,nv,j1,j2,j3,j4⟩,h3⟩:=h;exact⟨h1,⟨txt',rv,l,z,nv,j1.keep (aB _ _).drew,j2.keep (aB _ _).drew,j3,j4⟩,h3.trans (Fr.of_below (aB _ _).drew (by have:=j1.lt;omega))⟩
def WM (w:World):World:=(w.alloc (.map #[] 0)).alloc (.cells #[.map (some w.heap.size)] 110)
theorem WM.facts (w:World):Below w.heap.size w (WM w)/\HM w.heap.size [] (WM w)/\(WM w).heap[w.heap.size+1]?=some (.cells #[.map (some w.heap.size)] 110):=by
 have b1:=aH w (.map #[] 0);have b2:=aH (w.alloc (.map #[] 0)) (.cells #[.map (some w.heap.size)] 110);have hz:(w.alloc (.map #[] 0)).heap.size=w.heap.size+1:=by simp
 have h1:=heap_alloc_new (w.alloc (.map #[] 0)) (.cells #[.map (some w.heap.size)] 110);rw[hz] at h1;exact⟨b1.trans (b2.mono (by simp)),World.ownsMap.alloc (World.ownsMap_made w _ _ _) _,h1⟩
structure PF (val:Nat->Value) (S:World->Prop) (W0:World) (ob:Obj) (Own:Value->World->Prop) (P:Nat) (d:Nat->Bool) (v:Nat->Value) (w':World):Prop where
 cl: ∀i,i<19->i≠16->d i=true->v (38+i)=val i
 st:S w'
 up:d 16=true->d 15=true/\d 4=true
 up2:d 19=true->d 16=true
 w0:d 15=false->w'=W0
 w1:d 15=true->d 16=false->w'=W0.alloc ob
 w2:d 16=true->d 19=false->Own (v 54) w'
 w3:d 19=true-> ∃nv w1,Own nv w1/\w'=w1.setCell ⟨P,4,none⟩ nv
section
variable {val:Nat->Value}{S:World->Prop}{W0:World}{ob:Obj}{Own:Value->World->Prop}{P:Nat}{d:Nat->Bool}{v:Nat->Value}{w':World}
theorem Sd {d:Nat->Bool}{i j:Nat} (h:bI d i j=true):j=i\/d j=true:=by
 unfold bI at h;by_cases hj:j=i
 ·exact .inl hj
 ·rw[if_neg hj] at h;exact .inr h
theorem qV {v:Nat->Value}{k:Nat}{x:Value}:bZ v (some k) x k=x:=if_pos rfl
theorem gU {v:Nat->Value}{k j:Nat}{x:Value} (h:j≠k):bZ v (some k) x j=v j:=if_neg h
theorem PF.clSet (h:PF val S W0 ob Own P d v w') {i k:Nat} (hk:k=38+i) {x:Value} (hx:i=16\/x=val i): ∀j,j<19->j≠16->bI d i j=true->bZ v (some k) x (38+j)=val j:=by
 subst hk;intro j hj h16 hd;by_cases hji:j=i
 ·subst hji;rw[qV];exact hx.resolve_left h16
 ·rw[gU (by omega)];exact h.cl j hj h16 ((Sd hd).resolve_left hji)
theorem PF.pure (h:PF val S W0 ob Own P d v w') {i k:Nat} (hk:k=38+i) {x:Value} (hx:x=val i) (h15:i≠15) (h16:i≠16) (h19:i≠19):PF val S W0 ob Own P (bI d i) (bZ v (some k) x) w':=by
 have e15:bI d i 15=d 15:=lO (Ne.symm h15);have e16:bI d i 16=d 16:=lO (Ne.symm h16);have e19:bI d i 19=d 19:=lO (Ne.symm h19);refine⟨h.clSet hk (.inr hx),h.st,λa=>?_,λa=>?_,λa=>?_,λa b=>?_,λa b=>?_,λa=>?_⟩
 ·rw[e16] at a;obtain⟨a1,a2⟩:=h.up a;refine⟨by rw[e15];exact a1,?_⟩;by_cases h4:4=i
  ·rw[h4];exact vI
  ·rw[lO h4];exact a2
 ·rw[e19] at a;rw[e16];exact h.up2 a
 ·rw[e15] at a;exact h.w0 a
 ·rw[e15] at a;rw[e16] at b;exact h.w1 a b
 ·rw[e16] at a;rw[e19] at b;rw[gU (by omega)];exact h.w2 a b
 ·rw[e19] at a;exact h.w3 a
theorem PF.mk' (h:PF val S W0 ob Own P d v w') (hd:d 15=false) {x:Value} (hx:x=val 15) (hS:S (W0.alloc ob)):PF val S W0 ob Own P (bI d 15) (bZ v (some 53) x) (W0.alloc ob):=by
 have e16:bI d 15 16=d 16:=lO (by decide);have e19:bI d 15 19=d 19:=lO (by decide);have h16:d 16=false:=by
  cases hc:d 16 with
  | false=>rfl
  | true=>have:=(h.up hc).1;rw[hd] at this;cases this
 have h19:d 19=false:=by
  cases hc:d 19 with
  | false=>rfl
  | true=>have:=h.up2 hc;rw[h16] at this;cases this
 refine⟨h.clSet rfl (.inr hx),hS,λa=>?_,λa=>?_,λa=>?_,λ_ _=>rfl,λa=>?_,λa=>?_⟩
 ·rw[e16,h16] at a;cases a
 ·rw[e19,h19] at a;cases a
 ·rw[vI] at a;cases a
 ·rw[e16,h16] at a;cases a
 ·rw[e19,h19] at a;cases a
theorem PF.app (h:PF val S W0 ob Own P d v w') (h15:d 15=true) (h4:d 4=true) (h16:d 16=false) {x:Value}{w2:World} (hS:S w2) (ho:Own x w2):PF val S W0 ob Own P (bI d 16) (bZ v (some 54) x) w2:=by
 have e15:bI d 16 15=d 15:=lO (by decide);have e4:bI d 16 4=d 4:=lO (by decide);have e19:bI d 16 19=d 19:=lO (by decide);have h19:d 19=false:=by
  cases hc:d 19 with
  | false=>rfl
  | true=>have:=h.up2 hc;rw[h16] at this;cases this
 refine⟨h.clSet rfl (.inl rfl),hS,λa=>⟨by rw[e15];exact h15,by rw[e4];exact h4⟩,λa=>vI,λa=>?_,λa b=>?_,λa b=>?_,λa=>?_⟩
 ·rw[e15,h15] at a;cases a
 ·rw[vI] at b;cases b
 ·rw[qV];exact ho
 ·rw[e19,h19] at a;cases a
theorem PF.sto (h:PF val S W0 ob Own P d v w') (h16:d 16=true) (h19:d 19=false) {x:Value}{k:Option Tmp} (hk:k=none) (hS:S (w'.setCell ⟨P,4,none⟩ (v 54))):PF val S W0 ob Own P (bI d 19) (bZ v k x) (w'.setCell ⟨P,4,none⟩ (v 54)):=by
 subst hk;have e15:bI d 19 15=d 15:=lO (by decide);have e4:bI d 19 4=d 4:=lO (by decide);have e16:bI d 19 16=d 16:=lO (by decide);refine⟨λj hj h1 h2=>?_,hS,λa=>?_,λa=>by rw[e16];exact h16,λa=>?_,λa b=>?_,λa b=>?_,λa=>⟨v 54,w',h.w2 h16 h19,rfl⟩⟩
 ·rw[lO (by omega)] at h2;exact h.cl j hj h1 h2
 ·rw[e15,e4];exact h.up h16
 ·rw[e15,(h.up h16).1] at a;cases a
 ·rw[e16,h16] at b;cases b
 ·rw[vI] at b;cases b
end
theorem Se {o:Oper}{a:Act}{K:Act->World->Prop}{Q:Exit->Act->World->Prop} (hgd:o.guard=none) (s x:Operand)
  (ho:o.op= .call { callee:= .builtin .append,args:= #[s,x],argTypes:= #[47,47] })
  (B:Nat) (w:World) (v:Value) (z:List ND) (y:aD) (cs:Array Value) (hcs:cs.toList=fN (y, .slice none 0 0, .slice none 0 0)) (hs:a.eval s=v) (hown:w.ownsRow B 81 7 v z.length (iW z)) (hx:a.eval x= .slice (some ⟨w.heap.size,0,none⟩) 1 1) (hl:z.length<=4294967295) (hB:B<=w.heap.size)
  (hK: ∀nv w',w'.ownsRow B 81 7 nv (z.length+1) (iW z++fN (y, .slice none 0 0, .slice none 0 0))->w.grownBy w' v.ownBlock->K (a.put o.dst nv) w'):
  Oper.wp Tryz.prog o a (w.alloc (.cells cs 81)) K Q:=by
 have h:=Rw (ops:= #[]) (Q:=Q) (E:=True) hgd s x ho B w v z y cs hcs hs hown hx hl hB hK;rw[if_pos (by simp[Region.wanted,hgd])] at h;exact h
theorem Sf {i:Nat} (h:i<20):i=0\/i=1\/i=2\/i=3\/i=4\/i=5\/i=6\/i=7\/i=8\/i=9\/i=10\/i=11\/i=12\/i=13\/i=14\/i=15\/i=16\/i=17\/i=18\/i=19:=by omega
def Hn (P:Nat) (p0:Option Addr) (nodes:List aD) (c0 q g o:Nat) (r:List aL) (c:Nat) (t:aL) (key:Sp) (H:Nat):Nat->Value
 | 0=> .pointer (some ⟨P,0,none⟩)
 | 1=> .pointer (some ⟨P,0,none⟩)
 | 2=> .pointer (some ⟨P,0,none⟩)
 | 3=> .pointer (some ⟨P,4,none⟩)
 | 4=> .slice p0 nodes.length c0
 | 5=> .int .i64 (q:Int)
 | 6=> .pointer (some ⟨P,0,none⟩)
 | 7=> .pointer (some ⟨P,0,none⟩)
 | 8=> .pointer (some ⟨P,1,none⟩)
 | 9=> .slice (some ⟨g,o,none⟩) (r.length+1) c
 | 10=> .pointer (some ⟨g,o,none⟩)
 | 11=> .pointer (some ⟨g,o+1,none⟩)
 | 12=> .agg #[.int .i64 (t.sf:Int), .int .i64 (t.st:Int)]
 | 13=> .agg #[.int .i64 (key.1:Int), .int .i64 (key.2:Int)]
 | 14=> .agg #[.int .i64 (q:Int), .int .i64 (t.sf:Int), .int .i64 (t.st:Int), .int .i64 (key.1:Int), .int .i64 (key.2:Int), .slice none 0 0, .slice none 0 0]
 | 15=> .slice (some ⟨H,0,none⟩) 1 1
 | 17=> .pointer (some ⟨P,0,none⟩)
 | 18=> .pointer (some ⟨P,4,none⟩)
 | _=>undef
def SP (W0:World) (X Y g P:Nat) (rv:Value) (w':World):Prop:=(w'.heap[X]?=W0.heap[X]?/\w'.heap[Y]?=W0.heap[Y]?/\w'.heap[g]?=W0.heap[g]?)/\w'.cell? ⟨P,1,none⟩=some rv
theorem cK.nodes {w:World}{P:Nat}{txt:List UInt8}{rv nv:Value}{l:Sp}{a:Nat}{er:Int} (h:cK w P txt rv l nv a er) (nv2:Value):cK (w.setCell ⟨P,4,none⟩ nv2) P txt rv l nv2 a er:=by
 unfold cK at h ⊢;simp[World.setCell,Array.getElem?_modify,h]
theorem TV.head' {w:World}{v:Value}{t:aL}{r:List aL} (h:TV w v (t::r)): ∃g o c,v= .slice (some ⟨g,o,none⟩) (r.length+1) c/\r.length+1<=c/\w.cell? ⟨g,o,none⟩=some (.int .i64 t.kind)/\w.cell? ⟨g,o+1,none⟩=some (.int .i64 t.sf)/\w.cell? ⟨g,o+2,none⟩=some (.int .i64 t.st)/\
  ∃cur,w.heap[g]?=some (.cells cur 77 (0,0)):=by
 obtain⟨p,c,h1,h2,h3⟩:=h;rcases h3 with h3 | ⟨g,o,cur,rfl,h4,h5⟩
 ·cases h3
 ·simp only[aT] at h1 h2;have h0:=h5 0 t rfl;rw[Nat.zero_mul,Nat.add_zero] at h0;exact⟨g,o,c,h1,h2,h0.1,h0.2.1,h0.2.2,cur,h4⟩
theorem JZ.node {B P:Nat}{txt:List UInt8}{rest:List aL}{l:Sp}{z:List ND}{nv:Value}{w w2:World} (h:JZ B P txt rest l z nv w) {x:aD} (hk:x.kids= []) (hp:x.pcs= []) (hB:B<=w.heap.size) {nv2:Value}
  (hr:w2.ownsRow B 81 7 nv2 (z.length+1) (iW z++fN (x, .slice none 0 0, .slice none 0 0))) (hg:w.grownBy w2 nv.ownBlock):
  J B P txt rest l (z.map (·.1)++ [x]) (w2.setCell ⟨P,4,none⟩ nv2)/\Fr B P w (w2.setCell ⟨P,4,none⟩ nv2):=by
 obtain⟨rv,h1,h2,h3,h4⟩:=h;obtain⟨a1,a2⟩:=tV h1 h2 hg (λk hk=>by obtain⟨cur,hc⟩:=tU h3.row k hk;exact⟨cur,_,hc,by decide,by decide⟩);have hp2:=h3.push hk hp hr hg;refine⟨⟨rv,z++ [(x, .slice none 0 0, .slice none 0 0)],nv2,a1.nodes nv2,?_,by simp,hp2.other a1 (by decide) (by decide) (by decide) (gM w2 P 4 nv2),h4⟩,(Fr.grown h3.row (by decide) hg hB).trans (Fr.setP h4)⟩;exact a2.same (λg cur hg2=>(gM w2 P 4 nv2).block g (aF hg2) (λe=>by have e2:g=P:=bD e;subst e2;unfold cK at a1;rw[a1] at hg2;injection hg2 with hg2;injection hg2 with _ hg2;exact absurd hg2 (by decide)))
theorem Sg (w0:World) (P:Nat) (txt:List UInt8) (hs:txt.length<=65536) (w:World) (t:aL) (r:List aL) (l:Sp) (nodes:List aD) (key:Sp) (lev:Int) (h:J w0.heap.size P txt (t::r) l nodes w) (hb:Below w0.heap.size w0 w) (hr:r.length<=65537)
  (hk:cJ t.kind≠0) (lv:Nat) (IH:VC w0 P txt lv) (hlev:lev+1=33-(lv:Int)) (hlev0:0<=lev/\lev<=32) (hm:nodes.length≠4096) (hN:nodes.length+(r.length+1)<=131074) (ht:TB txt (t::r)) (hSV:cO w0) (hT:cC w0):
  Calls Tryz.prog 27 #[.pointer (some ⟨P,0,none⟩), .int .i64 lev, .agg #[.int .i64 (key.1:Int), .int .i64 (key.2:Int)]] w (VE w0.heap.size P txt (bP txt (lv+1) (t::r) l nodes key) w):=by
 obtain⟨R1,hR1⟩: ∃R1,(if t.kind=4 then gS txt (bP txt lv) 5 false nodes.length r (t.sf,t.st) (nodes++ [⟨cJ t.kind,t.sf,t.st,key,[],[]⟩]) else
   if t.kind=2 then gS txt (bP txt lv) 3 true nodes.length r (t.sf,t.st) (nodes++ [⟨cJ t.kind,t.sf,t.st,key,[],[]⟩]) else
   JR.ok r (t.sf,t.st) (nodes++ [⟨cJ t.kind,t.sf,t.st,key,[],[]⟩]))=R1:=⟨_,rfl⟩
 have hval:bP txt (lv+1) (t::r) l nodes key=mC nodes.length R1:=by
  rw[<-hR1];show (if cJ t.kind=0 then _ else _)=_;rw[if_neg hk,if_neg hm]
 rw[hval];have HR1:=hid hR1;have HTB:=hid ht;have HS:=hid (aI hSV hT);have HNw:=hid h.nodesN;have h1:=h.keep (W1.bel w P key);have CK:=hid (rX _ P txt (t::r) l nodes _ h1 (by simp only[aT];omega));have CO:=hid (xS (eP (t::r)) (W1 w P key));obtain⟨q,hq⟩:=exQ<|cJ t.kind;rw[show cJ (eP (t::r))=q from hq] at CO;rw[hq] at hk HR1;have HQ:=hid hq;have d0:((q:Int)==0)=false:=aG.2 (by omega);have d1:decide (32<lev)=false:=aJ (by omega);have hX:=(kI (W1.X w P key)).1;have hY:=qU (W1.Y w P key);have HF:=hid (Fr.of_below (P:=P) (W1.bel w P key) hb.size);have HB:=hid hb;have hBw:=hb.size;have hPw:=h.box.1;obtain⟨hPl,hBP,_,_⟩:=h1.box;obtain⟨rv,z,nv,b1,b2,b3,b4,b5⟩:=h1;obtain⟨p0,c0,rfl⟩:=b4.slice;obtain⟨q0,q1,_,_,q4,_,_,_,_,_,f4,_⟩:=b1.cells;obtain⟨g,o,c,rfl,hc,k0,k1,k2,hgT⟩:=b2.head';have hz:z.length=nodes.length:=by rw[<-b3,bU]
 rw[hz] at q4;have dm:((nodes.length:Int)==4096)=false:=aG.2 (by omega);have hsz:=(W1.bel w P key).size;have hXl:w.heap.size<(W1 w P key).heap.size:=aF (W1.X w P key);have hYl:w.heap.size+1<(W1 w P key).heap.size:=aF (W1.Y w P key);obtain⟨gcur,hgT⟩:=hgT;have hW0':w0.heap.size<=(W1 w P key).drew.heap.size:=aW hBw hsz;have b4d:=b4.keep (aB _ (W1 w P key)).drew;have b1d:=b1.keep (aB _ (W1 w P key)).drew;have b2d:=b2.keep (aB _ (W1 w P key)).drew;have hJZ:JZ w0.heap.size P txt (t::r) l z (.slice p0 z.length c0) (W1 w P key).drew:=⟨_,b1d,b2d,b4d,hBP⟩;have e:(P:Nat)≠w.heap.size:=by omega
 have HS2:Hid (∀w2,(W1 w P key).drew.grownBy w2 (Value.slice p0 z.length c0).ownBlock->SP (W1 w P key).drew w.heap.size (w.heap.size+1) g P (.slice (some ⟨g,o,none⟩) (r.length+1) c) w2/\w2.cell? ⟨P,4,none⟩=some (.slice p0 nodes.length c0)/\w2.frozen? ⟨P,4,none⟩=false/\ ∀u,SP (W1 w P key).drew w.heap.size (w.heap.size+1) g P (.slice (some ⟨g,o,none⟩) (r.length+1) c) (w2.setCell ⟨P,4,none⟩ u)):=hid (λw2 hg=>by
  have off: ∀(k:Nat) (cs:Array Value) (tt:TypeId),(W1 w P key).drew.heap[k]?=some (.cells cs tt (0,0))->81≠tt->w2.heap[k]?=(W1 w P key).drew.heap[k]?:=λk cs tt hk hne=>hg.block k (aF hk) (λe=>by obtain⟨cur,hc⟩:=tU b4d.row k e.symm;rw[hk] at hc;injection hc with hc;injection hc with _ hc;exact hne hc.symm);have oX:=off _ _ _ (W1.X w P key) (by decide);have oY:=off _ _ _ (W1.Y w P key) (by decide);have oG:=off _ _ _ hgT (by decide);have oP:=off _ _ _ b1d (by decide);have j2:cK w2 P txt (.slice (some ⟨g,o,none⟩) (r.length+1) c) l (.slice p0 z.length c0) 0 0:=oP.trans b1d;obtain⟨_,e1,_,_,e4,_,_,_,_,_,g4,_⟩:=j2.cells;rw[hz] at e4;have hgP:g≠P:=λe=>by
   have hq:=b1;unfold cK at hq;have hgT':(W1 w P key).heap[P]?=some (.cells gcur 77 (0,0)):=e ▸ hgT;rw[hgT'] at hq;injection hq with hq;injection hq with _ hq;exact absurd hq (by decide)
  refine⟨⟨⟨oX,oY,oG⟩,e1⟩,e4,g4,λu=>⟨⟨?_,?_,?_⟩,(j2.nodes u).cells.2.1⟩⟩
  ·rw[dC w2 ⟨P,4,none⟩ u _ (by simp;omega)];exact oX
  ·rw[dC w2 ⟨P,4,none⟩ u _ (by simp;omega)];exact oY
  ·rw[dC w2 ⟨P,4,none⟩ u _ hgP];exact oG)
 have HJZ:=hid hJZ;have HZ0:=hid b4d;have HSs:SP (W1 w P key).drew w.heap.size (w.heap.size+1) g P (.slice (some ⟨g,o,none⟩) (r.length+1) c) (W1 w P key).drew:=⟨⟨rfl,rfl,rfl⟩,q1⟩;obtain⟨OB,hOB⟩: ∃ob:Obj, .cells #[.int .i64 (q:Int), .int .i64 (t.sf:Int), .int .i64 (t.st:Int), .int .i64 (key.1:Int), .int .i64 (key.2:Int), .slice none 0 0, .slice none 0 0] 81=ob:=⟨_,rfl⟩;have ba:=aH (W1 w P key).drew OB;have HS1:Hid (SP (W1 w P key).drew w.heap.size (w.heap.size+1) g P (.slice (some ⟨g,o,none⟩) (r.length+1) c) ((W1 w P key).drew.alloc OB)):=hid ⟨⟨ba.block _ hXl,ba.block _ hYl,ba.block _ (aF hgT)⟩,by rw[ba.cell (p:=⟨P,1,none⟩) hPl];exact q1⟩;have HP4:Hid (∀d v w',PF (Hn P p0 nodes c0 q g o r c t key (W1 w P key).drew.heap.size) (SP (W1 w P key).drew w.heap.size (w.heap.size+1) g P (.slice (some ⟨g,o,none⟩) (r.length+1) c)) (W1 w P key).drew OB (λnv w2=>w2.ownsRow w0.heap.size 81 7 nv (z.length+1) (iW z++fN (⟨q,t.sf,t.st,key,[],[]⟩, .slice none 0 0, .slice none 0 0))/\(W1 w P key).drew.grownBy w2 (Value.slice p0 z.length c0).ownBlock) P d v w'->d 4=false->w'.cell? ⟨P,4,none⟩=some (.slice p0 nodes.length c0)):=hid (λd v w' hF h4=>by
  have h16:d 16=false:=by
   cases hc:d 16 with
   | false=>rfl
   | true=>have:=(hF.up hc).2;rw[h4] at this;cases this
  cases h15:d 15 with
  | false=>rw[hF.w0 h15];exact q4
  | true=>rw[hF.w1 h15 h16,ba.cell (p:=⟨P,4,none⟩) hPl];exact q4)
 have hX0:(W1 w P key).drew.cell? ⟨w.heap.size,0,none⟩=some (.pointer (some ⟨P,0,none⟩)):=hX;have hY0:(W1 w P key).drew.cell? ⟨w.heap.size+1,0,none⟩=some (.int .i64 (key.1:Int)):=hY.1;have hY1:(W1 w P key).drew.cell? ⟨w.heap.size+1,1,none⟩=some (.int .i64 (key.2:Int)):=hY.2;have k1':(W1 w P key).drew.cell? ⟨g,o+1,none⟩=some (.int .i64 (t.sf:Int)):=k1;have k2':(W1 w P key).drew.cell? ⟨g,o+2,none⟩=some (.int .i64 (t.st:Int)):=k2;have dr:(0:Int)<(r.length:Int)+1:=by omega
 have hfol:Tryz.prog.follows .mixedOrders=true:=by kernel_rfl
 clear h hb b1 b2 b4 hm hq hval hR1 ht hSV hT b1d b2d b4d hJZ ba hgT hsz hXl hYl hPl e;go_enter Tryz.func27,Tryz.ntmps27;go_upto_region 1 with fail;change Code.wp _ _ _ _ (W1 w P key);go_wp2_with fail;refine CK.out.mono ?_;rintro e w2 ⟨rfl,rfl⟩;go_wp2_with fail;refine CO.out.mono ?_;rintro e w2 ⟨rfl,rfl⟩;go_upto_region 9 with fail;clear k0 k1 k2 q0 hX hY d0 d1 dm;obtain⟨W0,hW0e⟩:=exQ<|(W1 w P key).drew;refine vH hfol [38,39,40,41,42,43,44,45,46,47,48,49,50,51,52,53,54,55,56] 90 rfl (by kernel_rfl) (by kernel_rfl) (λd v w'=>PF (Hn P p0 nodes c0 q g o r c t key (W1 w P key).drew.heap.size) (SP (W1 w P key).drew w.heap.size (w.heap.size+1) g P (.slice (some ⟨g,o,none⟩) (r.length+1) c)) (W1 w P key).drew OB (λnv w2=>w2.ownsRow w0.heap.size 81 7 nv (z.length+1) (iW z++fN (⟨q,t.sf,t.st,key,[],[]⟩, .slice none 0 0, .slice none 0 0))/\(W1 w P key).drew.grownBy w2 (Value.slice p0 z.length c0).ownBlock) P d v w') ⟨λ_ _ _ h=>absurd h (by decide),HSs,λh=>absurd h (by decide),λh=>absurd h (by decide),λ_=>rfl,λh=>absurd h (by decide),λh=>absurd h (by decide),λh=>absurd h (by decide)⟩ ?_ ?_
 ·intro d a w' i o' ho hi hall hfr hF R' hR;have hi20:i<20:=(cM.1 ho).1;have q3:a.tmps[3]?.getD undef= .pointer (some ⟨w.heap.size,0,none⟩):=by rw[<-aO];exact hfr 3 (by decide)
  have q5:a.tmps[5]?.getD undef= .pointer (some ⟨w.heap.size+1,0,none⟩):=by rw[<-aO];exact hfr 5 (by decide)
  have q7:a.tmps[7]?.getD undef= .int .i64 (q:Int):=by rw[<-aO];exact hfr 7 (by decide)
  clear hfr;rw[hW0e] at hF hR hX0 hY0 hY1 k1' k2' HP4 HS1 HS2 HZ0 hW0';rcases Sf hi20 with rfl|rfl|rfl|rfl|rfl|rfl|rfl|rfl|rfl|rfl|rfl|rfl|rfl|rfl|rfl|rfl|rfl|rfl|rfl|rfl<;>simp only[dW,dA,cD,cS] at ho<;>subst ho
  ·have x0:=(fX hF.st.1.1 0).trans hX0;go_simp;exact hR _ _ (hF.pure (i:=0) rfl rfl (by decide) (by decide) (by decide))
  ·have x0:=(fX hF.st.1.1 0).trans hX0;go_simp;exact hR _ _ (hF.pure (i:=1) rfl rfl (by decide) (by decide) (by decide))
  ·simp[Region.binds] at hall;have c39:a.tmps[39]?.getD undef= .pointer (some ⟨P,0,none⟩):=by rw[<-aO];exact hF.cl 1 (by decide) (by decide) (by simp[hall])
   go_simp;exact hR _ _ (hF.pure (i:=2) rfl rfl (by decide) (by decide) (by decide))
  ·simp[Region.binds] at hall;have c40:a.tmps[40]?.getD undef= .pointer (some ⟨P,0,none⟩):=by rw[<-aO];exact hF.cl 2 (by decide) (by decide) (by simp[hall])
   go_simp;exact hR _ _ (hF.pure (i:=3) rfl rfl (by decide) (by decide) (by decide))
  ·simp[Region.binds] at hall;have c41:a.tmps[41]?.getD undef= .pointer (some ⟨P,4,none⟩):=by rw[<-aO];exact hF.cl 3 (by decide) (by decide) (by simp[hall])
   have x4:=HP4.out d _ w' hF hi;go_simp;exact hR _ _ (hF.pure (i:=4) rfl rfl (by decide) (by decide) (by decide))
  ·go_simp;exact hR _ _ (hF.pure (i:=5) rfl rfl (by decide) (by decide) (by decide))
  ·have x0:=(fX hF.st.1.1 0).trans hX0;go_simp;exact hR _ _ (hF.pure (i:=6) rfl rfl (by decide) (by decide) (by decide))
  ·simp[Region.binds] at hall;have c44:a.tmps[44]?.getD undef= .pointer (some ⟨P,0,none⟩):=by rw[<-aO];exact hF.cl 6 (by decide) (by decide) (by simp[hall])
   go_simp;exact hR _ _ (hF.pure (i:=7) rfl rfl (by decide) (by decide) (by decide))
  ·simp[Region.binds] at hall;have c45:a.tmps[45]?.getD undef= .pointer (some ⟨P,0,none⟩):=by rw[<-aO];exact hF.cl 7 (by decide) (by decide) (by simp[hall])
   go_simp;exact hR _ _ (hF.pure (i:=8) rfl rfl (by decide) (by decide) (by decide))
  ·simp[Region.binds] at hall;have c46:a.tmps[46]?.getD undef= .pointer (some ⟨P,1,none⟩):=by rw[<-aO];exact hF.cl 8 (by decide) (by decide) (by simp[hall])
   have x0:=hF.st.2;go_simp;exact hR _ _ (hF.pure (i:=9) rfl rfl (by decide) (by decide) (by decide))
  ·simp[Region.binds] at hall;have c47:a.tmps[47]?.getD undef= .slice (some ⟨g,o,none⟩) (r.length+1) c:=by rw[<-aO];exact hF.cl 9 (by decide) (by decide) (by simp[hall])
   go_simp;exact hR _ _ (hF.pure (i:=10) rfl rfl (by decide) (by decide) (by decide))
  ·simp[Region.binds] at hall;have c48:a.tmps[48]?.getD undef= .pointer (some ⟨g,o,none⟩):=by rw[<-aO];exact hF.cl 10 (by decide) (by decide) (by simp[hall])
   go_simp;exact hR _ _ (hF.pure (i:=11) rfl rfl (by decide) (by decide) (by decide))
  ·simp[Region.binds] at hall;have c49:a.tmps[49]?.getD undef= .pointer (some ⟨g,o+1,none⟩):=by rw[<-aO];exact hF.cl 11 (by decide) (by decide) (by simp[hall])
   have x1:=(fX hF.st.1.2.2 (o+1)).trans k1';have x2:=(fX hF.st.1.2.2 (o+2)).trans k2';go_simp;exact hR _ _ (hF.pure (i:=12) rfl rfl (by decide) (by decide) (by decide))
  ·have x1:=(fX hF.st.1.2.1 0).trans hY0;have x2:=(fX hF.st.1.2.1 1).trans hY1;go_simp;exact hR _ _ (hF.pure (i:=13) rfl rfl (by decide) (by decide) (by decide))
  ·simp[Region.binds] at hall;have c43:a.tmps[43]?.getD undef= .int .i64 (q:Int):=by rw[<-aO];exact hF.cl 5 (by decide) (by decide) (by simp[hall])
   have c50:a.tmps[50]?.getD undef= .agg #[.int .i64 (t.sf:Int), .int .i64 (t.st:Int)]:=by rw[<-aO];exact hF.cl 12 (by decide) (by decide) (by simp[hall])
   have c51:a.tmps[51]?.getD undef= .agg #[.int .i64 (key.1:Int), .int .i64 (key.2:Int)]:=by rw[<-aO];exact hF.cl 13 (by decide) (by decide) (by simp[hall])
   go_simp;exact hR _ _ (hF.pure (i:=14) rfl rfl (by decide) (by decide) (by decide))
  ·simp[Region.binds] at hall;have c52:a.tmps[52]?.getD undef= .agg #[.int .i64 (q:Int), .int .i64 (t.sf:Int), .int .i64 (t.st:Int), .int .i64 (key.1:Int), .int .i64 (key.2:Int), .slice none 0 0, .slice none 0 0]:=by rw[<-aO];exact hF.cl 14 (by decide) (by decide) (by simp[hall])
   obtain rfl:=hF.w0 hi;go_simp;exact hR _ _ (hF.mk' hi rfl HS1.out)
  ·simp[Region.binds] at hall;have e4:d 4=true:=(by simp[hall]);have e15:d 15=true:=(by simp[hall]);have c42:a.tmps.getD 42 undef= .slice p0 nodes.length c0:=(by exact hF.cl 4 (by decide) (by decide) (e4));have c53:a.tmps.getD 53 undef= .slice (some ⟨W0.heap.size,0,none⟩) 1 1:=(by exact hF.cl 15 (by decide) (by decide) (e15));obtain rfl:=hF.w1 e15 hi;rw[<-hOB];exact Se rfl (.tmp 42) (.tmp 53) rfl w0.heap.size W0 (.slice p0 z.length c0) z ⟨q,t.sf,t.st,key,[],[]⟩ _ rfl (by rw[hz];exact c42) HZ0.out.row c53 (by omega) hW0' (λnv w2 hr2 hg2=>hR _ _ (hF.app e15 e4 hi (HS2.out w2 hg2).1 ⟨hr2,hg2⟩))
  ·simp[Region.binds] at hall;have c38:a.tmps[38]?.getD undef= .pointer (some ⟨P,0,none⟩):=by rw[<-aO];exact hF.cl 0 (by decide) (by decide) (by simp[hall])
   go_simp;exact hR _ _ (hF.pure (i:=17) rfl rfl (by decide) (by decide) (by decide))
  ·simp[Region.binds] at hall;have c55:a.tmps[55]?.getD undef= .pointer (some ⟨P,0,none⟩):=by rw[<-aO];exact hF.cl 17 (by decide) (by decide) (by simp[hall])
   go_simp;exact hR _ _ (hF.pure (i:=18) rfl rfl (by decide) (by decide) (by decide))
  ·simp[Region.binds] at hall;have e16:d 16=true:=(by simp[hall]);have e18:d 18=true:=(by simp[hall]);have c56:a.tmps[56]?.getD undef= .pointer (some ⟨P,4,none⟩):=by rw[<-aO];exact hF.cl 18 (by decide) (by decide) (e18)
   obtain⟨_,x4,f4,hS4⟩:=HS2.out w' (hF.w2 e16 hi).2;obtain⟨gn,cn,hV⟩:=tW (hF.w2 e16 hi).1;have hV:a.tmps.getD 54 undef= .slice (some ⟨gn,0,none⟩) (z.length+1) cn:=hV;rw[hz] at hV;have c54:a.tmps[54]?.getD undef= .slice (some ⟨gn,0,none⟩) (nodes.length+1) cn:=by rw[<-aO];exact hV
   have hfin:=λx=>hF.sto e16 hi (x:=x) (k:=none) rfl (hS4 _);simp only[hV] at hfin;go_simp;exact hR undef _ (hfin undef)
 ·intro v W9 hF;rw[hW0e] at hF HJZ hW0';obtain⟨nv2,w1,⟨hr2,hg2⟩,hW⟩:=hF.w3 (by decide);obtain⟨hj9,hf9⟩:=HJZ.out.node (x:=⟨q,t.sf,t.st,key,[],[]⟩) rfl rfl hW0' hr2 hg2;rw[<-hW] at hj9 hf9;have hj9:=hj9.cast (congrArg (· ++ [(⟨q,t.sf,t.st,key,[],[]⟩:aD)]) b3);have hx9:W9.heap[w.heap.size]?=some (.cells #[.pointer (some ⟨P,0,none⟩)] 73):=hF.st.1.1.trans (by rw[<-hW0e];exact W1.X w P key);have HF9:=hid (HF.out.trans ((Fr.of_below (by rw[<-hW0e];exact(aB _ (W1 w P key)).drew) (aW hBw HF.out.sz)).trans hf9));have x9:=(kI hx9).1;have HX9:=hid hx9;have CSk:=hid (Ax _ P txt t r l _ W9 hj9 (by omega));simp only[cE,eE,dF,eF];clear hF hr2 hg2 hW hj9 hf9 hx9 HJZ HP4 HS1 HS2 HZ0 HSs hX0 hY0 hY1 k1' k2' hW0' q1 q4 f4 CK CO;go_wp2_with fail;refine CSk.out.mono ?_;rintro e w10 ⟨rfl,hj10,hg10⟩;have hw9:=aW hBw HF9.out.sz;have hx10:w10.heap[w.heap.size]?=some (.cells #[.pointer (some ⟨P,0,none⟩)] 73):=(hg10.block _ (aF HX9.out) (λe=>by have:=bD e;omega)).trans HX9.out;have HF10:=hid (HF9.out.trans (Fr.ofP hg10 hBP hw9));have HX10:=hid hx10;have HJ10:=hid hj10;have x10:=(kI hx10).1;have hw10:w0.heap.size<=w10.heap.size:=aW hBw HF10.out.sz;have HB10:Hid (Below w0.heap.size w0 w10):=hid (HB.out.trans HF10.out.bel);have hn10:nodesN P w10=nodes.length+1:=by rw[hj10.nodesN,aS];rfl
  have HN10:=hid hn10;have hmid:fJ nodes (⟨q,t.sf,t.st,key,[],[]⟩:aD) [] (nodes++ [(⟨q,t.sf,t.st,key,[],[]⟩:aD)]):=⟨rfl,by simp,by simp,λy hy=>by cases hy⟩;have HMid:=hid hmid;have hlen:(nodes++ [(⟨q,t.sf,t.st,key,[],[]⟩:aD)]).length+r.length<=131074:=by rw[aS,eD];omega
  have HT10:Hid (TB txt r):=hid (HTB.out.drop 1);clear hj10 hg10 hx10 HX9 x9 CSk hn10 hmid HF9;go_upto_block 1 with fail;go_cut [9] (λs9 wx=> ∃b,s9= .bool b/\Hid (KO w0.heap.size P txt nodes.length R1 b wx)/\Hid (Fr w0.heap.size P w wx)/\Hid (wx.heap[w.heap.size]?=some (.cells #[.pointer (some ⟨P,0,none⟩)] 73)))
  case first=>
   by_cases h4:t.kind=4
   ·have hq5:q=5:=by rw[<-HQ.out,h4];rfl
    subst hq5;have hR:=HR1.out;rw[if_pos h4] at hR;have CA:=Ry w0 P txt lv IH w10 r (t.sf,t.st) nodes _ [] _ lev HJ10.out HMid.out HB10.out HT10.out hlen hlev hlev0 hs;rw[hR] at CA;have HCA:=hid CA;have HKO:Hid (∀e w',VE w0.heap.size P txt R1 w10 e w'-> ∃b,e= .returned (.bool b)/\KO w0.heap.size P txt nodes.length R1 b w'/\Fr w0.heap.size P w10 w'):=hid (λe w' hE=>KO.of hE HN10.out (λrr ll ns he=>by obtain⟨x',post',hm,_⟩:=xJ (mP txt lv) HMid.out (hR.trans he);exact hm.lt));clear CA hR h4 HR1;go_wp2_with fail;refine HCA.out.mono ?_;rintro e w11 hE;obtain⟨b,rfl,hko,hfr⟩:=HKO.out _ _ hE;have HK11:=hid hko;have HX11:=hid (hfr.blk _ _ HX10.out (by omega) (by rfl));have HF11:=hid (HF10.out.trans hfr);clear hko hfr hE;go_wp2_with fail;go_meet;exact⟨b,rfl,HK11,HF11,HX11⟩
   ·by_cases h2:t.kind=2
    ·have hq6:q=6:=by rw[<-HQ.out,h2];rfl
     subst hq6;have hR:=HR1.out;rw[if_neg h4,if_pos h2] at hR;obtain⟨m1,m2,m3⟩:=WM.facts w10;have hJM:=HJ10.out.keep m1;have hXM:=(m1.block _ (aF HX10.out)).trans HX10.out;have hlM:=aF HX10.out;have CA:=Sa w0 P txt lv IH w10.heap.size w.heap.size (w10.heap.size+1) (WM w10) r (t.sf,t.st) nodes _ [] _ lev hJM HMid.out (HB10.out.trans (m1.mono hw10)) HT10.out hlen hlev hlev0 hs hXM m3 m2 hw10 HS.out.1 HS.out.2;rw[hR] at CA;have HCA:=hid CA;have HKO:Hid (∀e w',KE w0.heap.size P w10.heap.size txt R1 (WM w10) e w'-> ∃b,e= .returned (.bool b)/\KO w0.heap.size P txt nodes.length R1 b w'/\iO w0.heap.size P w10.heap.size (WM w10) w'):=hid (λe w' hE=>KO.ofX hE (by rw[hJM.nodesN,aS];rfl) (λrr ll ns he=>by obtain⟨x',post',hm,_⟩:=xJ (mP txt lv) HMid.out (hR.trans he);exact hm.lt));have HM1:=hid m1;clear CA hR h4 h2 HR1 m1 m2 m3 hJM hXM;have hmm:= @run_makeMap Tryz.prog;go_wp2_with fail;refine HCA.out.mono ?_;rintro e w11 hE;obtain⟨b,rfl,hko,hfr⟩:=HKO.out _ _ hE;have HK11:=hid hko;have HX11:=hid (hfr.blk _ _ ((HM1.out.block _ hlM).trans HX10.out) (by omega) (by omega) (by rfl));have HF11:=hid (HF10.out.trans (iO.out (Fr.of_below HM1.out hw10) hfr (aE _)));clear hko hfr hE;go_wp2_with fail;go_meet;exact⟨b,rfl,HK11,HF11,HX11⟩
    ·have hR:=HR1.out;rw[if_neg h4,if_neg h2] at hR;have hq5:((q:Int)==5)=false:=aG.2 (by have:=Hm h4 h2;rw[HQ.out] at this;omega);have hq6:((q:Int)==6)=false:=aG.2 (by have:=Hm h4 h2;rw[HQ.out] at this;omega);have HK:Hid (KO w0.heap.size P txt nodes.length R1 true w10):=hid (by rw[<-hR];exact⟨rfl,HJ10.out,HMid.out.lt⟩);clear hR h4 h2 HR1;go_wp2_with fail;go_meet;exact⟨true,rfl,HK,HF10,HX10⟩
  case rest=>
   obtain⟨b,rfl,HK,HFx,HX⟩:=hcut;obtain⟨lt,g',cap',len,st,c3,c4,hnl,cst,cfz,hoff,hPg,hfin⟩:=HK.out.fin;have xX:=(kI HX.out).1;have hXg:=hoff _ _ _ HX.out (by decide);have hnz:(0:Int)<=(nodes.length:Int):=(by omega);have hnz2:(nodes.length:Int)<(len:Int):=(by omega);have HFin:=hid (hfin w (by rw[HNw.out];omega) HFx.out);clear hoff hfin HMid HX10 HJ10 HF10 HX HK x10;go_upto_region 18 with fail;go_region
   all_goals
    go_wp2_with fail;go_ret;exact HFin.out.drew
theorem Ho (w0:World) (P:Nat) (txt:List UInt8) (hs:txt.length<=65536) (hSV:cO w0) (hT:cC w0): ∀lv,lv<=32->VC w0 P txt lv
 | 0,_=>λw rest l nodes key lev h hb ht hN hl=>by
  unfold bP;by_cases hk:cJ (eP rest)=0
  ·rw[if_pos hk];exact Hl w0 P txt hs w rest l nodes key lev h hb ht.1 hk
  ·rw[if_neg hk];exact Sb w0 P txt hs w rest l nodes key lev h hb ht.1 hk (by omega)
 | lv+1,hlv=>λw rest l nodes key lev h hb ht hN hl=>by
  by_cases hk:cJ (eP rest)=0
  ·have e:bP txt (lv+1) rest l nodes key= .bad (eQ txt.length rest) 2:=by unfold bP;rw[if_pos hk]
   rw[e];exact Hl w0 P txt hs w rest l nodes key lev h hb ht.1 hk
  by_cases hm:nodes.length=4096
  ·have e:bP txt (lv+1) rest l nodes key= .bad (eQ txt.length rest) 6:=by unfold bP;rw[if_neg hk,if_pos hm]
   rw[e];exact Sc w0 P txt hs w rest l nodes key lev h hb ht.1 hk (by omega) hm
  ·cases rest with
   | nil=>exact absurd rfl hk
   | cons t r=>
    have htl:=ht.1;simp only[aT] at hN htl;exact Sg w0 P txt hs w t r l nodes key lev h hb (by omega) hk lv (Ho w0 P txt hs hSV hT lv (by omega)) (by omega) (by omega) hm hN ht hSV hT
end Go.Proofs.YtaifnmjjpddikaaGreatDoor
