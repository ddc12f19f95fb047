import Derived.Test.YtjnooaljcgkfpaaGreatDoorBk6
import Derived.Test.YtjnooaljcgkfpaaGreatDoorBk4
set_option maxRecDepth 100000
set_option maxHeartbeats 8000000
namespace Go.Proofs.YtjnooaljcgkfpaaGreatDoor
set_option linter.unusedSimpArgs false
set_option linter.unusedVariables false
open Go.RowKit Go.Maps Go.WideMaps
open Go.Lib hiding intOf
theorem vM {w:World}{B:Nat}{e:TypeId}{s:Nat}{v:Value}{n:Nat}{xs:List Value} (h:w.ownsRow B e s v (n+1) xs): ∃g cap,v= .slice (some ⟨g,0,none⟩) (n+1) cap:=by
 rcases h.2 with⟨_,h1⟩ | ⟨g,cap,cur,rfl,_⟩
 ·omega
 ·exact⟨g,cap,rfl⟩
theorem Dv (f:aF->aF): ∀(n:Nat) (l:List aF) (x:aF),l[n]?=some x->lS f n l=l.set n (f x)
 | n,[],x,h=>by simp at h
 | 0,y::l,x,h=>by
  obtain rfl:y=x:=by simpa using h
  rfl
 | n+1,y::l,x,h=>by
  rw[bM] at h;rw[lS,Dv f n l x h];rfl
def JZ (B P:Nat) (txt:List UInt8) (rest:List aS) (l:Sp) (z:List ND) (nv:Value) (w:World):Prop:= ∃rv,cK w P txt rv l nv 0 0/\TV w rv rest/\cI B z nv w/\B<=P
theorem J.toZ {B P:Nat}{txt:List UInt8}{rest:List aS}{l:Sp}{nodes:List aF}{w:World} (h:J B P txt rest l nodes w): ∃z nv,z.map (·.1)=nodes/\JZ B P txt rest l z nv w:=by
 obtain⟨rv,z,nv,a,b,c,e,f⟩:=h;exact⟨z,nv,c,rv,a,b,e,f⟩
theorem JZ.toJ {B P:Nat}{txt:List UInt8}{rest:List aS}{l:Sp}{z:List ND}{nv:Value}{w:World} (h:JZ B P txt rest l z nv w):J B P txt rest l (z.map (·.1)) w:=by
 obtain⟨rv,b,c,e,a⟩:=h;exact⟨rv,z,nv,b,c,rfl,e,a⟩
theorem JZ.cells {B P:Nat}{txt:List UInt8}{rest:List aS}{l:Sp}{z:List ND}{nv:Value}{w:World} (h:JZ B P txt rest l z nv w):w.cell? ⟨P,3,none⟩=some (.int .i64 (l.2:Int))/\w.cell? ⟨P,4,none⟩=some nv/\P<w.heap.size:=by
 obtain⟨rv,a,h2,h3,h4⟩:=h;exact⟨a.cells.2.2.2.1,a.cells.2.2.2.2.1,a.lt⟩
theorem JZ.form {B P:Nat}{txt:List UInt8}{rest:List aS}{l:Sp}{z:List ND}{nv:Value}{w:World} (h:JZ B P txt rest l z nv w) (hz:z≠ []): ∃g cap,nv= .slice (some ⟨g,0,none⟩) z.length cap/\z.length<=cap:=by
 obtain⟨rv,h1,h2,a,h4⟩:=h;obtain⟨g,cap,cur,e1,e2,_⟩:=a.form hz;exact⟨g,cap,e1,e2⟩
theorem JZ.keep {B P:Nat}{txt:List UInt8}{rest:List aS}{l:Sp}{z:List ND}{nv:Value}{w w':World} (h:JZ B P txt rest l z nv w) (hb:Below w.heap.size w w'):JZ B P txt rest l z nv w':=by
 obtain⟨rv,b,c,e,a⟩:=h;exact⟨rv,b.keep hb,c.keep hb,e.keep hb,a⟩
section
variable {B P:Nat}{txt:List UInt8}{rest:List aS}{l:Sp}{z:List ND}{w w1:World}{g cap:Nat}
theorem JZ.at_ (h:JZ B P txt rest l z (.slice (some ⟨g,0,none⟩) z.length cap) w):cI B z (.slice (some ⟨g,0,none⟩) z.length cap) w:=by
 obtain⟨rv,h1,h2,a,h4⟩:=h;exact a
theorem JZ.kid (h:JZ B P txt rest l z (.slice (some ⟨g,0,none⟩) z.length cap) w) {n k:Nat}{y:ND} (hy:z[n]?=some y) {kv:Value}{H:Nat} (hH:w.heap.size<=H) (hB:B<=w.heap.size)
  (hr:w1.ownsRow B 3 1 kv (y.1.kids.length+1) (eO y.1.kids++ [.int .i64 (k:Int)])) (hg:w.grownBy w1 y.2.1.ownBlock) (hat:kv.ownBlock=y.2.1.ownBlock\/kv.ownBlock=some H):
  JZ B P txt rest l (z.set n ({ y.1 with kids:=y.1.kids++ [k] },kv,y.2.2)) (.slice (some ⟨g,0,none⟩) (z.set n ({ y.1 with kids:=y.1.kids++ [k] },kv,y.2.2)).length cap) (w1.setCell ⟨g,n*7+5,none⟩ kv)/\Fr B P w (w1.setCell ⟨g,n*7+5,none⟩ kv):=by
 obtain⟨rv,m,o,f,p⟩:=h;have c:=f.kids y (bA hy);obtain⟨a1,a2⟩:=vL m o hg (λk j=>by obtain⟨cur,q⟩:=vK c k j;exact⟨cur,_,q,by decide,by decide⟩);have a:=f.row.kept hg (jA f.row c (by decide));obtain⟨cur,b⟩:=vK a g rfl;obtain⟨b1,b2⟩:=vL a1 a2 (iB w1 g (n*7+5) kv) (λk j=>by have e:g=k:=bC j;subst e;exact⟨cur,_,b,by decide,by decide⟩);have i:B<=g:=(World.ownsRow.lt a g rfl).1;refine⟨⟨rv,?_,b2,f.kid hy hH hr hg hat,p⟩,(Fr.grown c (by decide) hg hB).trans (Fr.setM b (by decide) i)⟩;rw[List.length_set];exact b1
theorem JZ.pc (h:JZ B P txt rest l z (.slice (some ⟨g,0,none⟩) z.length cap) w) {n:Nat}{k:Sp}{y:ND} (hy:z[n]?=some y) {kv:Value}{H:Nat} (hH:w.heap.size<=H) (hB:B<=w.heap.size)
  (hr:w1.ownsRow B 76 2 kv (y.1.pcs.length+1) (nB y.1.pcs++ [.int .i64 (k.1:Int), .int .i64 (k.2:Int)])) (hg:w.grownBy w1 y.2.2.ownBlock) (hat:kv.ownBlock=y.2.2.ownBlock\/kv.ownBlock=some H):
  JZ B P txt rest l (z.set n ({ y.1 with pcs:=y.1.pcs++ [k] },y.2.1,kv)) (.slice (some ⟨g,0,none⟩) (z.set n ({ y.1 with pcs:=y.1.pcs++ [k] },y.2.1,kv)).length cap) (w1.setCell ⟨g,n*7+6,none⟩ kv)/\Fr B P w (w1.setCell ⟨g,n*7+6,none⟩ kv):=by
 obtain⟨rv,m,o,f,p⟩:=h;have c:=f.pcs y (bA hy);obtain⟨a1,a2⟩:=vL m o hg (λk j=>by obtain⟨cur,q⟩:=vK c k j;exact⟨cur,_,q,by decide,by decide⟩);have a:=f.row.kept hg (jA f.row c (by decide));obtain⟨cur,b⟩:=vK a g rfl;obtain⟨b1,b2⟩:=vL a1 a2 (iB w1 g (n*7+6) kv) (λk j=>by have e:g=k:=bC j;subst e;exact⟨cur,_,b,by decide,by decide⟩);have i:B<=g:=(World.ownsRow.lt a g rfl).1;refine⟨⟨rv,?_,b2,f.pc hy hH hr hg hat,p⟩,(Fr.grown c (by decide) hg hB).trans (Fr.setM b (by decide) i)⟩;rw[List.length_set];exact b1
end
theorem Km {z:List ND}{n k:Nat}{pc:Sp}{y:ND}{u v:Value} (hy:z[n]?=some y):
  ((z.set n ({ y.1 with kids:=y.1.kids++ [k] },u,y.2.2)).set n ({ y.1 with kids:=y.1.kids++ [k],pcs:=y.1.pcs++ [pc] },u,v)).map (·.1)=fL n k pc (z.map (·.1)):=by
 unfold fL;rw[Dv _ n _ y.1 (by rw[cW,hy];rfl),List.map_set,List.map_set,List.set_set]
def restN (P:Nat) (w:World):Nat:=match w.cell? ⟨P,1,none⟩ with
 | some (.slice _ n _)=>n
 | _=>0
theorem J.restN {B P:Nat}{txt:List UInt8}{rest:List aS}{l:Sp}{nodes:List aF}{w:World} (h:J B P txt rest l nodes w):restN P w=rest.length:=by
 obtain⟨rv,z,nv,a,b,h3,h4,h5⟩:=h;obtain⟨p,c,rfl,_⟩:=b;have:=a.cells.2.1;unfold Go.Proofs.YtjnooaljcgkfpaaGreatDoor.restN;rw[this]
theorem J.cast {B P:Nat}{txt:List UInt8}{rest:List aS}{l:Sp}{nodes nodes2:List aF}{w:World} (h:J B P txt rest l nodes w) (e:nodes=nodes2):J B P txt rest l nodes2 w:=e ▸ h
theorem Xf (w0:World) (P:Nat) (txt:List UInt8) (lv:Nat) (IH:VC w0 P txt lv) (w:World) (rest:List aS) (l:Sp) (pre:List aF) (x:aF) (post nodes:List aF) (lev:Int)
  (h:J w0.heap.size P txt rest l nodes w) (hmid:fX pre x post nodes) (hb:Below w0.heap.size w0 w) (ht:TB txt rest) (hN:nodes.length+rest.length<=131074) (hl:lev+1=33-(lv:Int)) (hlev:0<=lev/\lev<=32) (hs:txt.length<=65536):
  Calls Tryz.prog 204 #[.pointer (some ⟨P,0,none⟩), .int .i64 (pre.length:Int), .int .i64 lev, .int .i64 5, .func (.func 205) #[.pointer (some ⟨P,0,none⟩)] #[]] w
   (VE w0.heap.size P txt (jV txt (bP txt lv) 5 false pre.length rest l nodes) w):=by
 obtain⟨R,i⟩:=exQ<|jV txt (bP txt lv) 5 false pre.length rest l nodes;rw[i];have aQ:=ht.1;have af:=h.nodesN;have m:w0.heap.size<=w.heap.size:=hb.size;obtain⟨hPl,aq,_,_⟩:=h.box;obtain⟨hl0,hl1⟩:=hlev;have HB:=hid hb;have HT:=hid ht;by_cases h5:fG rest=5
 ·cases rest with
  | nil=>cases h5
  | cons t r=>
   have b:t.kind=5:=h5;have a1:JR.ok r (t.sf,t.st) nodes=R:=by
    unfold jV at i;simp only[b,if_true] at i;exact i
   have CT:=hid (tS _ P txt t r l nodes w h (by simp only[aL] at aQ;omega) 5 b);subst a1;clear i h hb ht af;go_enter Tryz.func204,Tryz.ntmps204;go_wp2_with fail;refine CT.out.mono ?_;rintro e w1 ⟨rfl,hj,hg⟩;go_wp2_with fail;go_ret;exact⟨rfl,hj,Fr.ofP hg aq m⟩
 ·have al: ∃f,rest.length<f/\kI txt (bP txt lv) 5 false pre.length f [] rest l nodes=R:=by
   unfold jV at i;cases rest with
   | nil=>exact⟨1,by simp,i⟩
   | cons t r=>
    have b: ¬t.kind=5:=h5;simp only[b,if_false] at i;exact⟨_,by simp,i⟩
  obtain⟨f0,aN,aR⟩:=al;have CT:=hid (sH _ P txt rest l nodes w h (by omega) 5 h5);have O:=hid h;have HL:=hid aR;have X:=hid hmid;have aM:=hid af;clear i h5 aR h hb ht hmid af;go_enter Tryz.func204,Tryz.ntmps204;go_wp2_with fail;refine CT.out.mono ?_;rintro e w1 ⟨rfl,rfl⟩;go_wp2_with fail;go_loopw [11] (λ_ wr=> ∃(rs:List aS) (ls:Sp) (ns:List aF) (x:aF) (post:List aF) (f:Nat),Hid (J w0.heap.size P txt rs ls ns wr)/\Hid (fX pre x post ns)/\Hid (kI txt (bP txt lv) 5 false pre.length f [] rs ls ns=R)/\rs.length<f/\nodes.length<=ns.length/\Hid (TB txt rs)/\ns.length+rs.length<=131074/\Hid (Fr w0.heap.size P w wr)) (λ_ wr=>restN P wr)
  case atStart=>exact⟨rest,l,nodes,x,post,f0,O,X,HL,aN,aD _,HT,hN,hid (Fr.refl _ _ _)⟩
  case round=>
   clear hN aN X HL O CT HT aQ;obtain⟨rs,ls,ns,x,post,f,O,X,HL,hf,hnn,HT,hN,N⟩:=hrel;obtain⟨f,rfl⟩: ∃f',f=f'+1:=⟨f-1,by omega⟩;have a0:=O.out.restN;have aY:=hid O.out.nodesN;have hL:=HL.out;unfold kI jN at hL;rw[if_pos rfl] at hL;have W:w0.heap.size<=wr.heap.size:=aV m N.out.sz;have CI:=Xa w0 P txt lv IH;obtain⟨Q,hQ⟩:=exQ<|bP txt lv rs ls ns (0,0);have CI2:Hid (∀w',Below wr.heap.size wr w'->Calls Tryz.prog 205 #[.pointer (some ⟨P,0,none⟩), .int .i64 (33-(lv:Int))] w' (VE w0.heap.size P txt Q w')):=hid (λw' aG=>by have:=CI w' rs ls ns (33-(lv:Int)) (O.out.keep aG) ((HB.out.trans N.out.bel).trans (aG.mono W)) HT.out hN rfl;rw[hQ] at this;exact this);rw[hQ] at hL;have HQ:=hid hQ;obtain⟨rv,z0,nv0,b1,b2,b3,b4,b5⟩:=O.out;obtain⟨p0,cap0,rfl⟩:=b4.slice;obtain⟨q0,q1,q2,q3,q4,_⟩:=b1.cells;have aJ:z0.length=ns.length:=(by rw[<-b3,cA]);rw[aJ] at q4;clear b1 b2 b3 b4 CI hQ HL aJ;cases Q with
   | bad a er=>
    have ai:Hid (nodesN P w<=nodesN P wr.drew):=hid (by have e1:=aM.out;have e2:=aY.out;show nodesN P w<=nodesN P wr;omega);have HF:Hid (JR.bad a er=R):=hid hL;clear hL;go_wp2_with fail;go_region;go_wp2_with fail;refine(CI2.out _ (aB _ _).drew).mono ?_;rintro e w4 ⟨rfl,G,q⟩;have L:=hid (N.out.trans ((Fr.of_below (aB _ _).drew W).trans q));clear q;go_wp2_with fail;go_ret;rw[<-HF.out];exact⟨rfl,G.mono ai.out,L.out⟩
   | ok r1 l1 ns1=>
    obtain⟨more,rfl,M,u,⟨kd,aw⟩,az⟩:=pL txt lv _ _ _ _ _ _ _ HQ.out;have A:=hid (X.out.add az M ns.length (ls.2,fC txt.length r1));have K:TB txt r1:=by rw[aw];exact HT.out.drop kd
    have V:=K.1;have hHT:fC txt.length r1<=65536:=by
     cases r1 with
     | nil=>exact hs
     | cons t r'=>have:=K.2 t fV;show t.sf<=65536;omega
    have a2:=hid K;have a3: ∃x0,(ns++more)[pre.length]?=some x0/\x0.kids.length<=131074/\x0.pcs.length<=131074:=by
     obtain⟨e1,e2,e3,e4⟩:=X.out;refine⟨x,by rw[e1,dY,jO (aD _),Nat.sub_self];rfl,?_,?_⟩<;>
     ·have:=congrArg List.length e1;simp only[aI,aL] at this;omega
    have hpl:pre.length<ns.length:=by
     have:=congrArg List.length X.out.1;simp only[aI,aL] at this;omega
    have aj:=hid hL;clear hL K aw az X HQ O HT;go_wp2_with fail;go_region;go_wp2_with fail;refine(CI2.out _ (aB _ _).drew).mono ?_;rintro e w4 ⟨rfl,G,q⟩;have L:=hid (N.out.trans ((Fr.of_below (aB _ _).drew W).trans q));have aK:w0.heap.size<=w4.heap.size:=aV m L.out.sz;obtain⟨z,nv,hz,p⟩:=G.toZ;obtain⟨x0,Z,hk0,hp0⟩:=a3;obtain⟨y,hy,rfl⟩: ∃y:ND,z[pre.length]?=some y/\y.1=x0:=by
     rw[<-hz,cW] at Z;obtain⟨y,h1,h2⟩:=nU.1 Z;exact⟨y,h1,h2⟩
    have ae:z.length=ns.length+more.length:=(by rw[<-cA (f:=(·.1)),hz,aI]);obtain⟨g,cap,rfl,hcap⟩:=p.form (λe=>by rw[e] at hy;simp at hy);obtain⟨a5,_⟩:=p.at_.at_ hy 5 (by omega) rfl;have aE:=p.at_.kids y (bA hy);have c4:=p.cells.2.1;rw[ae] at c4;have hzi:(pre.length:Int)<((ns.length+more.length:Nat):Int):=(by omega);have ak:=hid p;have HY:=hid hy;have HZ:=hid hz;have HZL:=hid ae;clear q G Z hz ae p hy q0 q1 q2 q3 q4;go_wp2_with (at_builtin;go_must (refine Kk (by rfl) (.tmp 42) (.tmp 44) rfl w0.heap.size w4 y.2.1 y.1.kids ns.length rfl aE rfl (by omega) aK ?_);intro kv w5 ap ao T;obtain⟨ck,fk⟩:=ak.out.at_.cellK HY.out ao;obtain⟨gk,pk,rfl⟩:=vM ap);obtain⟨j,ar⟩:=ak.out.kid (k:=ns.length) HY.out (H:=w4.heap.size+1) (by omega) aK ap ao T;obtain⟨W6,ab⟩:=exQ<|w5.setCell ⟨g,pre.length*7+5,none⟩ (.slice (some ⟨gk,0,none⟩) (y.1.kids.length+1) pk);rw[ab] at j ar;rw[ab];obtain⟨kv,aO⟩:=exQ (.slice (some ⟨gk,0,none⟩) (y.1.kids.length+1) pk:Value);rw[aO] at j;have aT:pre.length<z.length:=(aP.1 HY.out).1;have I:(z.set pre.length ({ y.1 with kids:=y.1.kids++ [ns.length] },kv,y.2.2))[pre.length]?=some ({ y.1 with kids:=y.1.kids++ [ns.length] },kv,y.2.2):=(by rw[List.getElem?_set,if_pos rfl,if_pos aT]);have av:=hid (L.out.trans ar);have an:w0.heap.size<=W6.heap.size:=aV m av.out.sz;have Y:=hid j;have au:=hid I;have p6:W6.cell? ⟨g,pre.length*7+6,none⟩=some y.2.2:=(j.at_.at_ I 6 (by omega) rfl).1;have aZ:g<W6.heap.size:=World.block_lt_of_cell? W6 _ p6;have ay:=(j.keep (aB _ _).drew).at_.pcs _ (bA I);have CH:=hid (Ds _ P txt r1 _ _ W6.drew (j.keep (aB _ _).drew).toJ (by omega) (by omega));clear ck fk ap ao T a5 c4 aE j ar I ab aO;go_region_law ((first
     | (go_simp;go_at_call 208;(with_reducible refine CH.out.mono ?_);rintro e w' ⟨rfl,rfl⟩)
     | (refine Kl (by rfl) (.tmp 52) (.tmp 57) (by rfl) w0.heap.size W6.drew y.2.2 y.1.pcs (ls.2,fC txt.length r1) (by rfl) ay (by rfl) (by omega) an ?_;intro kv2 w7 ad ag U;obtain⟨ck7,fk7⟩:=(Y.out.keep (aB _ _).drew).at_.cellP au.out ag;obtain⟨gk2,pk2,rfl⟩:=vM ad)))
    all_goals
     obtain⟨ax,am⟩:=(Y.out.keep (aB _ _).drew).pc (k:=(ls.2,fC txt.length r1)) au.out (H:=W6.drew.heap.size+1) (by omega) an ad ag U;have ah:=ax.toJ.cast ((Km (z:=z) (n:=pre.length) (k:=ns.length) (pc:=(ls.2,fC txt.length r1)) HY.out).trans (congrArg (fL pre.length ns.length (ls.2,fC txt.length r1)) HZ.out));obtain⟨W8,aa⟩:=exQ<|w7.setCell ⟨g,pre.length*7+6,none⟩ (.slice (some ⟨gk2,0,none⟩) (y.1.pcs.length+1) pk2);rw[aa] at am ah;rw[aa];have D:=hid (av.out.trans ((Fr.of_below (aB _ _).drew an).trans am));have o:=hid ah;clear ck7 fk7 ad ag U ax am ah aa au Y HY ak p6 ay aZ;by_cases h5:fG r1=5
     ·cases r1 with
      | nil=>cases h5
      | cons t r'=>
       have b:t.kind=5:=h5;have i:JR.ok r' (t.sf,t.st) (fL pre.length ns.length (ls.2,t.sf) (ns++more))=R:=by
        have:=aj.out;simp only[b,if_true] at this;exact this
       have CT:=hid (tS _ P txt t r' _ _ W8 o.out (by simp only[aL] at V;omega) 5 b);clear M u hN h5 b A;go_wp2_with fail;refine CT.out.mono ?_;rintro e w9 ⟨rfl,c,E⟩;have s:=hid (D.out.trans (Fr.ofP E aq (aV m D.out.sz)));have F:=hid c;clear E c;go_wp2_with fail;go_ret;rw[<-i];exact⟨rfl,F.out,s.out⟩
     ·have CT5:=hid (sH _ P txt r1 _ _ W8 o.out (by omega) 5 h5);by_cases h6:fG r1=6
      ·cases r1 with
       | nil=>cases h6
       | cons t r'=>
        have C:t.kind=6:=h6;have b: ¬t.kind=5:=h5;have i:kI txt (bP txt lv) 5 false pre.length f [] r' (t.sf,t.st) (fL pre.length ns.length (ls.2,t.sf) (ns++more))=R:=by
         have:=aj.out;simp only[b,C,if_true,if_false] at this;exact this
        have HR:=hid i;have CT:=hid (tS _ P txt t r' _ _ W8 o.out (by simp only[aL] at V;omega) 6 C);have aW:(fL pre.length ns.length (ls.2,t.sf) (ns++more)).length+r'.length<=131074:=by
         unfold fL;rw[rB,aI];simp only[aL] at u;omega
        have aA:nodes.length<=(fL pre.length ns.length (ls.2,t.sf) (ns++more)).length:=by
         unfold fL;rw[rB,aI];omega
        have aC:r'.length<rs.length/\r'.length<f:=by simp only[aL] at u;omega
        have aX:Hid (TB txt r'):=hid (a2.out.drop 1);clear M u hN h5 h6 b C i;go_wp2_with fail;refine CT5.out.mono ?_;rintro e w9 ⟨rfl,rfl⟩;go_wp2_with fail;refine CT.out.mono ?_;rintro e w9 ⟨rfl,c,E⟩;have s:=hid (D.out.trans (Fr.ofP E aq (aV m D.out.sz)));have F:=hid c;have aU:=c.restN;clear E c;go_wp2_with fail;go_roundw
        ·exact⟨r',_,_,_,_,f,F,A,HR,aC.2,aA,aX,aW,s⟩
        ·rw[a0,aU];exact aC.1
      ·have CT6:=hid (sH _ P txt r1 _ _ W8 o.out (by omega) 6 h6);have i:JR.bad (fC txt.length r1) 2=R:=by
        have:=aj.out;cases r1 with
        | nil=>exact this
        | cons t r'=>
         have b: ¬t.kind=5:=h5;have C: ¬t.kind=6:=h6;simp only[b,C,if_false] at this;exact this
       have ai:Hid (nodesN P w<=nodesN P W8):=hid (by have e1:=aM.out;have e2:=o.out.nodesN;unfold fL at e2;rw[rB,aI] at e2;omega);have CF:=hid (pQ _ P txt r1 _ _ 2 W8 o.out (by omega) (by omega));clear M u hN h5 h6 A;go_wp2_with fail;refine CT5.out.mono ?_;rintro e w9 ⟨rfl,rfl⟩;go_wp2_with fail;refine CT6.out.mono ?_;rintro e w9 ⟨rfl,rfl⟩;go_wp2_with fail;refine CF.out.mono ?_;rintro e w9 ⟨rfl,c,aH⟩;have s:=hid (D.out.trans aH);have F:=hid c;clear aH c;go_wp2_with fail;go_ret;rw[<-i];exact⟨rfl,F.out.mono ai.out,s.out⟩
theorem J.apart {B P:Nat}{txt:List UInt8}{rest:List aS}{l:Sp}{nodes:List aF}{w:World} (h:J B P txt rest l nodes w) {X:Nat}{cs:Array Value}{t:TypeId} (hX:w.heap[X]?=some (.cells cs t)) (ht:t≠209):X≠P:=by
 obtain⟨rv,z,nv,a,_⟩:=h;intro e;subst e;unfold cK at a;rw[hX] at a;injection a with a;injection a with _ a _;exact ht a
theorem HM.apart {b:Nat}{had:List (List UInt8)}{w:World} (h:HM b had w) {X:Nat}{cs:Array Value}{t:TypeId} (hX:w.heap[X]?=some (.cells cs t)):X≠b:=by
 obtain⟨es,c,a⟩:=h.obj;intro e;subst e;rw[hX] at a;cases a
theorem lT {w:World}{X:Nat}{u:Value}{t:TypeId} (h:w.heap[X]?=some (.cells #[u] t)):w.cell? ⟨X,0,none⟩=some u/\X<w.heap.size:=by
 refine⟨?_,aE h⟩;have:=World.news_of_block h 0 u rfl;have a:((⟨X,0,none⟩:Addr).add 0)=⟨X,0,none⟩:=by unfold Addr.add;split<;>simp_all
 rw[a] at this;exact this
theorem Xg {txt:List UInt8}{V:VF}{had:List (List UInt8)}{rest:List aS}{last:Sp}{nodes:List aF}{r:List aS}{l:Sp}{ns:List aF}{had':List (List UInt8)}
  (h:jN txt V true had rest last nodes=(.ok r l ns,had')):had'.length<=had.length+1:=by
 unfold jN at h;rw[if_neg (by decide)] at h;split at h
 ·injection h with h _;cases h
 ·split at h
  ·injection h with h _;cases h
  ·split at h
   ·injection h with h _;cases h
   ·split at h
    ·injection h with h _;cases h
    ·split at h
     ·injection h with h _;cases h
     ·injection h with _ h;rw[<-h];simp
def KE (B P b:Nat) (txt:List UInt8) (r:JR) (w:World) (e:Ending) (w':World):Prop:=match r with
 | .ok rr l ns=>e= .returned (.bool true)/\J B P txt rr l ns w'/\jQ B P b w w'
 | .bad a er=>e= .returned (.bool false)/\tP B P (nodesN P w) a er w'/\jQ B P b w w'
theorem Xh (w0:World) (P:Nat) (txt:List UInt8) (lv:Nat) (IH:VC w0 P txt lv) (b X Y:Nat) (w:World) (rest:List aS) (l:Sp) (pre:List aF) (x:aF) (post nodes:List aF) (lev:Int)
  (h:J w0.heap.size P txt rest l nodes w) (hmid:fX pre x post nodes) (hb:Below w0.heap.size w0 w) (ht:TB txt rest) (hN:nodes.length+rest.length<=131074) (hl:lev+1=33-(lv:Int)) (hlev:0<=lev/\lev<=32) (hs:txt.length<=65536)
  (hX:w.heap[X]?=some (.cells #[.pointer (some ⟨P,0,none⟩)] 207)) (hY:w.heap[Y]?=some (.cells #[.map (some b)] 92)) (hm:HM b [] w) (hBb:w0.heap.size<=b) (hSV:dC w0) (hT:cD w0):
  Calls Tryz.prog 204 #[.pointer (some ⟨P,0,none⟩), .int .i64 (pre.length:Int), .int .i64 lev, .int .i64 3, .func (.func 206) #[] #[.pointer (some ⟨X,0,none⟩), .pointer (some ⟨Y,0,none⟩)]] w
   (KE w0.heap.size P b txt (jV txt (bP txt lv) 3 true pre.length rest l nodes) w):=by
 obtain⟨R,m⟩:=exQ<|jV txt (bP txt lv) 3 true pre.length rest l nodes;rw[m];have aA:=ht.1;have ar:=h.nodesN;have o:w0.heap.size<=w.heap.size:=hb.size;obtain⟨hPl,ae,_,_⟩:=h.box;obtain⟨hl0,hl1⟩:=hlev;have bi:=h.apart hX (by decide);have bc:=h.apart hY (by decide);have bb:X≠b:=hm.apart hX;have ba:Y≠b:=hm.apart hY;obtain⟨_,_,ak⟩:=hm.obj;have ag:b≠P:=h.box.2.2.2 b _ _ ak;have aM:=hid (aT hX hY);have a2:=hid hm;have HS:=hid (aT hSV hT);have HB:=hid hb;have HT:=hid ht;by_cases h5:fG rest=3
 ·cases rest with
  | nil=>cases h5
  | cons t r=>
   have c:t.kind=3:=h5;have bm:JR.ok r (t.sf,t.st) nodes=R:=by
    unfold jV at m;simp only[c,if_true] at m;exact m
   have CT:=hid (tS _ P txt t r l nodes w h (by simp only[aL] at aA;omega) 3 c);subst bm;clear m h hb ht ar hX hY hm hSV hT ak;go_enter Tryz.func204,Tryz.ntmps204;go_wp2_with fail;refine CT.out.mono ?_;rintro e w1 ⟨rfl,hj,hg⟩;go_wp2_with fail;go_ret;exact⟨rfl,hj,(Fr.ofP hg ae o).toX⟩
 ·have az: ∃f,rest.length<f/\kI txt (bP txt lv) 3 true pre.length f [] rest l nodes=R:=by
   unfold jV at m;cases rest with
   | nil=>exact⟨1,by simp,m⟩
   | cons t r=>
    have c: ¬t.kind=3:=h5;simp only[c,if_false] at m;exact⟨_,by simp,m⟩
  obtain⟨f0,a4,a7⟩:=az;have CT:=hid (sH _ P txt rest l nodes w h (by omega) 3 h5);have HJ:=hid h;have HL:=hid a7;have q:=hid hmid;have a3:=hid ar;clear m h5 a7 h hb ht hmid ar hX hY hm hSV hT ak;go_enter Tryz.func204,Tryz.ntmps204;go_wp2_with fail;refine CT.out.mono ?_;rintro e w1 ⟨rfl,rfl⟩;go_wp2_with fail;go_loopw [11] (λ_ wr=> ∃(u:List (List UInt8)) (rs:List aS) (ls:Sp) (ns:List aF) (x:aF) (post:List aF) (f:Nat),Hid (HM b u wr)/\u.length+rs.length<=65537/\Hid (J w0.heap.size P txt rs ls ns wr)/\Hid (fX pre x post ns)/\Hid (kI txt (bP txt lv) 3 true pre.length f u rs ls ns=R)/\rs.length<f/\nodes.length<=ns.length/\Hid (TB txt rs)/\ns.length+rs.length<=131074/\Hid (jQ w0.heap.size P b w wr)) (λ_ wr=>restN P wr)
  case atStart=>exact⟨[],rest,l,nodes,x,post,f0,a2,by simpa using aA,HJ,q,HL,a4,aD _,HT,hN,hid (Fr.refl _ _ _).toX⟩
  case round=>
   clear hN a4 q HL HJ CT HT aA a2;obtain⟨u,rs,ls,ns,x,post,f,bn,hhad,HJ,q,HL,hf,hnn,HT,hN,F⟩:=hrel;obtain⟨f,rfl⟩: ∃f',f=f'+1:=⟨f-1,by omega⟩;have bj:=HJ.out.restN;have bg:=hid HJ.out.nodesN;have hL:=HL.out;unfold kI at hL;have T:w0.heap.size<=wr.heap.size:=aV o F.out.sz;obtain⟨Q,hQ⟩:=exQ<|jN txt (bP txt lv) true u rs ls ns;have aJ:=lT (F.out.blk X _ aM.out.1 bi bb (by rfl));have aG:=lT (F.out.blk Y _ aM.out.2 bc ba (by rfl));have CI2:Hid (∀w',Below wr.heap.size wr w'->Calls Tryz.prog 206 #[.int .i64 (33-(lv:Int)), .pointer (some ⟨X,0,none⟩), .pointer (some ⟨Y,0,none⟩)] w' (ME w0.heap.size P b txt Q w')):=hid (λw' L=>by have:=Xe w0 P txt lv IH b u w' rs ls ns (33-(lv:Int)) X Y (by rw[L.cell (p:=⟨X,0,none⟩) aJ.2];exact aJ.1) (by rw[L.cell (p:=⟨Y,0,none⟩) aG.2];exact aG.1) (HJ.out.keep L) ((HB.out.trans F.out.bel).trans (L.mono T)) HT.out hN rfl (bn.out.fr (Fr.of_below (B:=w0.heap.size) (P:=P) L T) ag) hBb (by omega) hs HS.out.1 HS.out.2;rw[hQ] at this;exact this);clear aJ aG;rw[hQ] at hL;have HQ:=hid hQ;obtain⟨rv,z0,nv0,b1,b2,b3,b4,b5⟩:=HJ.out;obtain⟨p0,cap0,rfl⟩:=b4.slice;obtain⟨q0,q1,q2,q3,q4,_⟩:=b1.cells;have a0:z0.length=ns.length:=(by rw[<-b3,cA]);rw[a0] at q4;clear b1 b2 b3 b4 hQ HL a0;obtain⟨Q,i⟩:=Q;cases Q with
   | bad a er=>
    have aw:Hid (nodesN P w<=nodesN P wr.drew):=hid (by have e1:=a3.out;have e2:=bg.out;show nodesN P w<=nodesN P wr;omega);have HF:Hid (JR.bad a er=R):=hid hL;clear hL;go_wp2_with fail;go_region;go_wp2_with fail;refine(CI2.out _ (aB _ _).drew).mono ?_;rintro e w4 ⟨rfl,U,I⟩;have Z:=hid (F.out.trans ((Fr.of_below (aB _ _).drew T).toX.trans I));clear I;go_wp2_with fail;go_ret;rw[<-HF.out];exact⟨rfl,U.mono aw.out,Z.out⟩
   | ok r1 l1 ns1=>
    obtain⟨more,rfl,ad,C,⟨kd,aO⟩,aU⟩:=zX (pL txt lv) HQ.out;have hh2:=Xg HQ.out;have M:=hid (q.out.add aU ad ns.length (ls.2,fC txt.length r1));have W:TB txt r1:=by rw[aO];exact HT.out.drop kd
    have aj:=W.1;have hHT:fC txt.length r1<=65536:=by
     cases r1 with
     | nil=>exact hs
     | cons t r'=>have:=W.2 t fV;show t.sf<=65536;omega
    have bo:=hid W;have bp: ∃x0,(ns++more)[pre.length]?=some x0/\x0.kids.length<=131074/\x0.pcs.length<=131074:=by
     obtain⟨e1,e2,e3,e4⟩:=q.out;refine⟨x,by rw[e1,dY,jO (aD _),Nat.sub_self];rfl,?_,?_⟩<;>
     ·have:=congrArg List.length e1;simp only[aI,aL] at this;omega
    have hpl:pre.length<ns.length:=by
     have:=congrArg List.length q.out.1;simp only[aI,aL] at this;omega
    have ax:=hid hL;clear hL W aO aU q HQ HJ HT;go_wp2_with fail;go_region;go_wp2_with fail;refine(CI2.out _ (aB _ _).drew).mono ?_;rintro e w4 ⟨rfl,U,aK,I⟩;have Z:=hid (F.out.trans ((Fr.of_below (aB _ _).drew T).toX.trans I));have bq:=hid aK;have a1:w0.heap.size<=w4.heap.size:=aV o Z.out.sz;obtain⟨z,nv,hz,D⟩:=U.toZ;obtain⟨x0,am,hk0,hp0⟩:=bp;obtain⟨y,hy,rfl⟩: ∃y:ND,z[pre.length]?=some y/\y.1=x0:=by
     rw[<-hz,cW] at am;obtain⟨y,h1,h2⟩:=nU.1 am;exact⟨y,h1,h2⟩
    have aq:z.length=ns.length+more.length:=(by rw[<-cA (f:=(·.1)),hz,aI]);obtain⟨g,cap,rfl,hcap⟩:=D.form (λe=>by rw[e] at hy;simp at hy);obtain⟨a5,_⟩:=D.at_.at_ hy 5 (by omega) rfl;have aY:=D.at_.kids y (bA hy);have c4:=D.cells.2.1;rw[aq] at c4;have hzi:(pre.length:Int)<((ns.length+more.length:Nat):Int):=(by omega);have ay:=hid D;have HY:=hid hy;have HZ:=hid hz;have HZL:=hid aq;clear I U aK am hz aq D hy q0 q1 q2 q3 q4;go_wp2_with (at_builtin;go_must (refine Kk (by rfl) (.tmp 42) (.tmp 44) rfl w0.heap.size w4 y.2.1 y.1.kids ns.length rfl aY rfl (by omega) a1 ?_);intro kv w5 aE aC ah;obtain⟨ck,fk⟩:=ay.out.at_.cellK HY.out aC;obtain⟨gk,pk,rfl⟩:=vM aE);obtain⟨s,af⟩:=ay.out.kid (k:=ns.length) HY.out (H:=w4.heap.size+1) (by omega) a1 aE aC ah;obtain⟨W6,ao⟩:=exQ<|w5.setCell ⟨g,pre.length*7+5,none⟩ (.slice (some ⟨gk,0,none⟩) (y.1.kids.length+1) pk);rw[ao] at s af;rw[ao];obtain⟨kv,a6⟩:=exQ (.slice (some ⟨gk,0,none⟩) (y.1.kids.length+1) pk:Value);rw[a6] at s;have a8:pre.length<z.length:=(aP.1 HY.out).1;have V:(z.set pre.length ({ y.1 with kids:=y.1.kids++ [ns.length] },kv,y.2.2))[pre.length]?=some ({ y.1 with kids:=y.1.kids++ [ns.length] },kv,y.2.2):=(by rw[List.getElem?_set,if_pos rfl,if_pos a8]);have aN:=hid (Z.out.trans af.toX);have bs:Hid (HM b i W6):=hid (bq.out.fr af ag);have ab:w0.heap.size<=W6.heap.size:=aV o aN.out.sz;have al:=hid s;have aH:=hid V;have p6:W6.cell? ⟨g,pre.length*7+6,none⟩=some y.2.2:=(s.at_.at_ V 6 (by omega) rfl).1;have bh:g<W6.heap.size:=World.block_lt_of_cell? W6 _ p6;have aR:=(s.keep (aB _ _).drew).at_.pcs _ (bA V);have CH:=hid (Ds _ P txt r1 _ _ W6.drew (s.keep (aB _ _).drew).toJ (by omega) (by omega));clear ck fk aE aC ah a5 c4 aY s af V ao a6;go_region_law ((first
     | (go_simp;go_at_call 208;(with_reducible refine CH.out.mono ?_);rintro e w' ⟨rfl,rfl⟩)
     | (refine Kl (by rfl) (.tmp 52) (.tmp 57) (by rfl) w0.heap.size W6.drew y.2.2 y.1.pcs (ls.2,fC txt.length r1) (by rfl) aR (by rfl) (by omega) ab ?_;intro kv2 w7 ap au ai;obtain⟨ck7,fk7⟩:=(al.out.keep (aB _ _).drew).at_.cellP aH.out au;obtain⟨gk2,pk2,rfl⟩:=vM ap)))
    all_goals
     obtain⟨aQ,aa⟩:=(al.out.keep (aB _ _).drew).pc (k:=(ls.2,fC txt.length r1)) aH.out (H:=W6.drew.heap.size+1) (by omega) ab ap au ai;have av:=aQ.toJ.cast ((Km (z:=z) (n:=pre.length) (k:=ns.length) (pc:=(ls.2,fC txt.length r1)) HY.out).trans (congrArg (fL pre.length ns.length (ls.2,fC txt.length r1)) HZ.out));obtain⟨W8,an⟩:=exQ<|w7.setCell ⟨g,pre.length*7+6,none⟩ (.slice (some ⟨gk2,0,none⟩) (y.1.pcs.length+1) pk2);rw[an] at aa av;rw[an];have E:=hid (aN.out.trans ((Fr.of_below (aB _ _).drew ab).trans aa).toX);have A:=hid av;have br:Hid (HM b i W8):=hid (bs.out.fr ((Fr.of_below (aB _ _).drew ab).trans aa) ag);clear ck7 fk7 ap au ai aQ aa av an aH al HY ay p6 aR bh;by_cases h5:fG r1=3
     ·cases r1 with
      | nil=>cases h5
      | cons t r'=>
       have c:t.kind=3:=h5;have m:JR.ok r' (t.sf,t.st) (fL pre.length ns.length (ls.2,t.sf) (ns++more))=R:=by
        have:=ax.out;simp only[c,if_true] at this;exact this
       have CT:=hid (tS _ P txt t r' _ _ W8 A.out (by simp only[aL] at aj;omega) 3 c);clear ad C hN h5 c M;go_wp2_with fail;refine CT.out.mono ?_;rintro e w9 ⟨rfl,j,G⟩;have K:=hid (E.out.trans (Fr.ofP (B:=w0.heap.size) G ae (aV o E.out.sz)).toX);have O:=hid j;clear G j;go_wp2_with fail;go_ret;rw[<-m];exact⟨rfl,O.out,K.out⟩
     ·have CT5:=hid (sH _ P txt r1 _ _ W8 A.out (by omega) 3 h5);by_cases h6:fG r1=6
      ·cases r1 with
       | nil=>cases h6
       | cons t r'=>
        have N:t.kind=6:=h6;have c: ¬t.kind=3:=h5;have m:kI txt (bP txt lv) 3 true pre.length f i r' (t.sf,t.st) (fL pre.length ns.length (ls.2,t.sf) (ns++more))=R:=by
         have:=ax.out;simp only[c,N,if_true,if_false] at this;exact this
        have HR:=hid m;have CT:=hid (tS _ P txt t r' _ _ W8 A.out (by simp only[aL] at aj;omega) 6 N);have bd:(fL pre.length ns.length (ls.2,t.sf) (ns++more)).length+r'.length<=131074:=by
         unfold fL;rw[rB,aI];simp only[aL] at C;omega
        have bl:i.length+r'.length<=65537:=by simp only[aL] at C;omega
        have aW:nodes.length<=(fL pre.length ns.length (ls.2,t.sf) (ns++more)).length:=by
         unfold fL;rw[rB,aI];omega
        have aX:r'.length<rs.length/\r'.length<f:=by simp only[aL] at C;omega
        have bf:Hid (TB txt r'):=hid (bo.out.drop 1);clear ad C hN h5 h6 c N m;go_wp2_with fail;refine CT5.out.mono ?_;rintro e w9 ⟨rfl,rfl⟩;go_wp2_with fail;refine CT.out.mono ?_;rintro e w9 ⟨rfl,j,G⟩;have K:=hid (E.out.trans (Fr.ofP (B:=w0.heap.size) G ae (aV o E.out.sz)).toX);have O:=hid j;have a9:=j.restN;have bk:Hid (HM b i w9):=hid (br.out.fr (Fr.ofP (B:=w0.heap.size) G ae (aV o E.out.sz)) ag);clear G j;go_wp2_with fail;go_roundw
        ·exact⟨i,r',_,_,_,_,f,bk,bl,O,M,HR,aX.2,aW,bf,bd,K⟩
        ·rw[bj,a9];exact aX.1
      ·have CT6:=hid (sH _ P txt r1 _ _ W8 A.out (by omega) 6 h6);have m:JR.bad (fC txt.length r1) 2=R:=by
        have:=ax.out;cases r1 with
        | nil=>exact this
        | cons t r'=>
         have c: ¬t.kind=3:=h5;have N: ¬t.kind=6:=h6;simp only[c,N,if_false] at this;exact this
       have aw:Hid (nodesN P w<=nodesN P W8):=hid (by have e1:=a3.out;have e2:=A.out.nodesN;unfold fL at e2;rw[rB,aI] at e2;omega);have CF:=hid (pQ _ P txt r1 _ _ 2 W8 A.out (by omega) (by omega));clear ad C hN h5 h6 M;go_wp2_with fail;refine CT5.out.mono ?_;rintro e w9 ⟨rfl,rfl⟩;go_wp2_with fail;refine CT6.out.mono ?_;rintro e w9 ⟨rfl,rfl⟩;go_wp2_with fail;refine CF.out.mono ?_;rintro e w9 ⟨rfl,j,aZ⟩;have K:=hid (E.out.trans aZ.toX);have O:=hid j;clear aZ j;go_wp2_with fail;go_ret;rw[<-m];exact⟨rfl,O.out.mono aw.out,K.out⟩
def W1 (w:World) (P:Nat) (key:Sp):World:=(w.alloc (.cells #[.pointer (some ⟨P,0,none⟩)] 207)).alloc (.cells #[.int .i64 (key.1:Int), .int .i64 (key.2:Int)] 76)
theorem W1.bel (w:World) (P:Nat) (key:Sp):Below w.heap.size w (W1 w P key):=(aH w _).trans ((aH _ _).mono (by simp))
theorem W1.X (w:World) (P:Nat) (key:Sp):(W1 w P key).heap[w.heap.size]?=some (.cells #[.pointer (some ⟨P,0,none⟩)] 207):=by
 have h:=(aH (w.alloc (.cells #[.pointer (some ⟨P,0,none⟩)] 207)) (.cells #[.int .i64 (key.1:Int), .int .i64 (key.2:Int)] 76)).block w.heap.size (by simp);exact h.trans (heap_alloc_new w _)
theorem W1.Y (w:World) (P:Nat) (key:Sp):(W1 w P key).heap[w.heap.size+1]?=some (.cells #[.int .i64 (key.1:Int), .int .i64 (key.2:Int)] 76):=by
 have h:=heap_alloc_new (w.alloc (.cells #[.pointer (some ⟨P,0,none⟩)] 207)) (.cells #[.int .i64 (key.1:Int), .int .i64 (key.2:Int)] 76);have e:(w.alloc (.cells #[.pointer (some ⟨P,0,none⟩)] 207)).heap.size=w.heap.size+1:=by simp
 rw[e] at h;exact h
theorem sJ {w:World}{X:Nat}{u v:Value}{t:TypeId} (h:w.heap[X]?=some (.cells #[u,v] t)):w.cell? ⟨X,0,none⟩=some u/\w.cell? ⟨X,1,none⟩=some v:=by
 have a:=World.news_of_block h 0 u rfl;have b:=World.news_of_block h 1 v rfl;have e:((⟨X,0,none⟩:Addr).add 0)=⟨X,0,none⟩:=by unfold Addr.add;split<;>simp_all
 have c:((⟨X,0,none⟩:Addr).add 1)=⟨X,1,none⟩:=by unfold Addr.add;split<;>simp_all
 rw[e] at a;rw[c] at b;exact⟨a,b⟩
theorem VE.bad_of {B P:Nat}{txt:List UInt8}{a:Nat}{er:Int}{w w1 w':World}{e:Ending} (h:Dt B P a er w1 e w') (hn:nodesN P w<=nodesN P w1) (hf:Fr B P w w1):VE B P txt (.bad a er) w e w':=
 ⟨h.1,h.2.1.mono hn,hf.trans h.2.2⟩
theorem Kn (w0:World) (P:Nat) (txt:List UInt8) (hs:txt.length<=65536) (w:World) (rest:List aS) (l:Sp) (nodes:List aF) (key:Sp) (lev:Int) (h:J w0.heap.size P txt rest l nodes w) (hb:Below w0.heap.size w0 w) (hr:rest.length<=65537)
  (hk:eJ (fG rest)=0):
  Calls Tryz.prog 177 #[.pointer (some ⟨P,0,none⟩), .int .i64 lev, .agg #[.int .i64 (key.1:Int), .int .i64 (key.2:Int)]] w (VE w0.heap.size P txt (.bad (fC txt.length rest) 2) w):=by
 have a:=h.keep (W1.bel w P key);have CK:=hid (tR _ P txt rest l nodes _ a (by omega));have CO:=hid (Ah (fG rest) (W1 w P key));rw[hk] at CO;have CF:=hid (pQ _ P txt rest l nodes 2 _ a (by omega) (by omega));have hX:=(lT (W1.X w P key)).1;have c:=hid (pN (h.nodesN.trans a.nodesN.symm));have f:=hid (Fr.of_below (P:=P) (W1.bel w P key) hb.size);clear h a hb;go_enter Tryz.func177,Tryz.ntmps177;go_upto_region 1 with fail;change Code.wp _ _ _ _ (W1 w P key);go_wp2_with fail;refine CK.out.mono ?_;rintro e w2 ⟨rfl,rfl⟩;go_wp2_with fail;refine CO.out.mono ?_;rintro e w2 ⟨rfl,rfl⟩;go_wp2_with fail;refine CF.out.mono ?_;rintro e w3 b;have i:=hid (VE.bad_of (txt:=txt) b c.out f.out);obtain⟨rfl, -, -⟩:=b;go_wp2_with fail;go_ret;exact i.out
theorem Xi (w0:World) (P:Nat) (txt:List UInt8) (hs:txt.length<=65536) (w:World) (rest:List aS) (l:Sp) (nodes:List aF) (key:Sp) (lev:Int) (h:J w0.heap.size P txt rest l nodes w) (hb:Below w0.heap.size w0 w) (hr:rest.length<=65537)
  (hk:eJ (fG rest)≠0) (hlev:32<lev):
  Calls Tryz.prog 177 #[.pointer (some ⟨P,0,none⟩), .int .i64 lev, .agg #[.int .i64 (key.1:Int), .int .i64 (key.2:Int)]] w (VE w0.heap.size P txt (.bad (fC txt.length rest) 5) w):=by
 have a:=h.keep (W1.bel w P key);have CK:=hid (tR _ P txt rest l nodes _ a (by omega));have CO:=hid (Ah (fG rest) (W1 w P key));obtain⟨q,f⟩:=exQ<|eJ (fG rest);rw[f] at CO hk;have d0:((q:Int)==0)=false:=aG.2 (by omega);have d1:decide (32<lev)=true:=aN hlev;have CF:=hid (pQ _ P txt rest l nodes 5 _ a (by omega) (by omega));have hX:=(lT (W1.X w P key)).1;have c:=hid (pN (h.nodesN.trans a.nodesN.symm));have i:=hid (Fr.of_below (P:=P) (W1.bel w P key) hb.size);clear h a hb;go_enter Tryz.func177,Tryz.ntmps177;go_upto_region 1 with fail;change Code.wp _ _ _ _ (W1 w P key);go_wp2_with fail;refine CK.out.mono ?_;rintro e w2 ⟨rfl,rfl⟩;go_wp2_with fail;refine CO.out.mono ?_;rintro e w2 ⟨rfl,rfl⟩;go_wp2_with fail;refine CF.out.mono ?_;rintro e w3 b;have j:=hid (VE.bad_of (txt:=txt) b c.out i.out);obtain⟨rfl, -, -⟩:=b;go_wp2_with fail;go_ret;exact j.out
theorem Xj (w0:World) (P:Nat) (txt:List UInt8) (hs:txt.length<=65536) (w:World) (rest:List aS) (l:Sp) (nodes:List aF) (key:Sp) (lev:Int) (h:J w0.heap.size P txt rest l nodes w) (hb:Below w0.heap.size w0 w) (hr:rest.length<=65537)
  (hk:eJ (fG rest)≠0) (hlev:lev<=32) (hm:nodes.length=4096):
  Calls Tryz.prog 177 #[.pointer (some ⟨P,0,none⟩), .int .i64 lev, .agg #[.int .i64 (key.1:Int), .int .i64 (key.2:Int)]] w (VE w0.heap.size P txt (.bad (fC txt.length rest) 6) w):=by
 have a:=h.keep (W1.bel w P key);have CK:=hid (tR _ P txt rest l nodes _ a (by omega));have CO:=hid (Ah (fG rest) (W1 w P key));obtain⟨q,f⟩:=exQ<|eJ (fG rest);rw[f] at CO hk;have d0:((q:Int)==0)=false:=aG.2 (by omega);have d1:decide (32<lev)=false:=aJ (by omega);have CF:=hid (pQ _ P txt rest l nodes 6 _ a (by omega) (by omega));have hX:=(lT (W1.X w P key)).1;have i:=hid (pN (h.nodesN.trans a.nodesN.symm));have j:=hid (Fr.of_below (P:=P) (W1.bel w P key) hb.size);obtain⟨rv,z,nv,b1,_,b3,b4,_⟩:=a;obtain⟨p0,c0,rfl⟩:=b4.slice;have q4:=b1.cells.2.2.2.2.1;have c:z.length=4096:=by rw[<-hm,<-b3,cA]
 rw[c] at q4;clear h hb b1 b3 b4 c hm;go_enter Tryz.func177,Tryz.ntmps177;go_upto_region 1 with fail;change Code.wp _ _ _ _ (W1 w P key);go_wp2_with fail;refine CK.out.mono ?_;rintro e w2 ⟨rfl,rfl⟩;go_wp2_with fail;refine CO.out.mono ?_;rintro e w2 ⟨rfl,rfl⟩;go_wp2_with fail;refine CF.out.mono ?_;rintro e w3 b;have k:=hid (VE.bad_of (txt:=txt) b i.out j.out);obtain⟨rfl, -, -⟩:=b;go_wp2_with fail;go_ret;exact k.out
def KO (B P:Nat) (txt:List UInt8) (n:Nat) (R:JR) (b:Bool) (w:World):Prop:=match R with
 | .ok rr l ns=>b=true/\J B P txt rr l ns w/\n<ns.length
 | .bad a er=>b=false/\tP B P (n+1) a er w
theorem cI.to {B P:Nat}{txt:List UInt8}{rv nv:Value}{l:Sp}{a:Nat}{er:Int}{z:List ND}{w:World}{n:Nat} (hb:cK w P txt rv l nv a er) (h:cI B z nv w) (hn:n<z.length):
  ∃g cap y,nv= .slice (some ⟨g,0,none⟩) z.length cap/\z[n]?=some y/\w.cell? ⟨g,n*7+2,none⟩=some (.int .i64 (y.1.st:Int))/\w.frozen? ⟨g,n*7+2,none⟩=false/\(∀X cs t,w.heap[X]?=some (.cells cs t (0,0))->215≠t->X≠g)/\
   cK (w.setCell ⟨g,n*7+2,none⟩ (.int .i64 (l.2:Int))) P txt rv l nv a er/\(∀rest,TV w rv rest->TV (w.setCell ⟨g,n*7+2,none⟩ (.int .i64 (l.2:Int))) rv rest)/\
   cI B (z.set n ({ y.1 with st:=l.2 },y.2)) nv (w.setCell ⟨g,n*7+2,none⟩ (.int .i64 (l.2:Int)))/\ ∀P',Fr B P' w (w.setCell ⟨g,n*7+2,none⟩ (.int .i64 (l.2:Int))):=by
 obtain⟨g,cap,cur,rfl,_,c,b⟩:=h.form (λe=>by rw[e] at hn;simp at hn);have m:z[n]?=some z[n]:=bH hn;obtain⟨c1,c2⟩:=h.at_ m 2 (by omega) rfl;have o:=h.field (y':=({ z[n].1 with st:=l.2 },z[n].2)) m 2 (by omega) (.int .i64 (l.2:Int)) rfl rfl rfl rfl;rw[List.length_set] at o;have j:=λrest (i:TV w rv rest)=>vL hb i (iB w g (n*7+2) (.int .i64 (l.2:Int))) (λk j=>by have e:g=k:=bC j;subst e;exact⟨cur,_,b,by decide,by decide⟩);refine⟨g,cap,z[n],rfl,m,c1,c2,λX cs t p f e=>?_,?_,λrest i=>(j rest i).2,o,λP'=>Fr.setM b (by decide) c⟩
 ·subst e;rw[p] at b;injection b with b;injection b with _ b;exact f b.symm
 ·refine((iB w g (n*7+2) (.int .i64 (l.2:Int))).block P hb.lt (λe=>?_)).trans hb;have e:P=g:=bC e;subst e;unfold cK at hb;rw[b] at hb;injection hb with hb;injection hb with _ hb;exact absurd hb (by decide)
theorem KO.fin {B P:Nat}{txt:List UInt8}{n:Nat}{R:JR}{b:Bool}{w:World} (h:KO B P txt n R b w): ∃(lt g cap len st:Nat),w.cell? ⟨P,3,none⟩=some (.int .i64 (lt:Int))/\w.cell? ⟨P,4,none⟩=some (.slice (some ⟨g,0,none⟩) len cap)/\n<len/\
  w.cell? ⟨g,n*7+2,none⟩=some (.int .i64 (st:Int))/\w.frozen? ⟨g,n*7+2,none⟩=false/\(∀X cs t,w.heap[X]?=some (.cells cs t (0,0))->215≠t->X≠g)/\P≠g/\
  (∀w00,nodesN P w00<=n+1->Fr B P w00 w->VE B P txt (vD n R) w00 (.returned (.bool b)) (w.setCell ⟨g,n*7+2,none⟩ (.int .i64 (lt:Int)))):=by
 cases R with
 | ok rr l ns=>
  obtain⟨rfl,⟨rv,z,nv,c,o,rfl,j,k⟩,f⟩:=h;rw[cA] at f;obtain⟨g,cap,y,rfl,m,c1,c2,e,a1,a2,a3,a4⟩:=cI.to c j f;obtain⟨_,_,_,e3,e4,_⟩:=c.cells;refine⟨l.2,g,cap,z.length,y.1.st,e3,e4,f,c1,c2,e,e P _ _ c (by decide),λw00 _ i=>⟨rfl,⟨rv,_,_,a1,a2 _ o,?_,a3,k⟩,i.trans (a4 P)⟩⟩;unfold nT;rw[Dv _ n _ y.1 (by rw[cW,m];rfl),List.map_set]
 | bad a er=>
  obtain⟨rfl,txt',rv,l,z,nv,c,j,k,f⟩:=h;obtain⟨g,cap,y,rfl,m,c1,c2,e,a1,a2,a3,a4⟩:=cI.to c j (show n<z.length by omega);obtain⟨_,_,_,e3,e4,_⟩:=c.cells;exact⟨l.2,g,cap,z.length,y.1.st,e3,e4,by omega,c1,c2,e,e P _ _ c (by decide),λw00 hn i=>⟨rfl,⟨txt',rv,l,_,_,a1,a3,k,by rw[List.length_set];omega⟩,i.trans (a4 P)⟩⟩
theorem Ko {k:Nat} (h4:k≠4) (h2:k≠2):eJ k≠5/\eJ k≠6:=by
 unfold eJ;rw[if_neg h4,if_neg h2];constructor<;>(repeat' split)<;>decide
theorem fX.lt {pre:List aF}{x:aF}{post nodes:List aF} (h:fX pre x post nodes):pre.length<nodes.length:=by
 rw[h.1,aI,aL];omega
theorem KO.of {B P:Nat}{txt:List UInt8}{n:Nat}{R:JR}{w w':World}{e:Ending} (h:VE B P txt R w e w') (hn:nodesN P w=n+1) (hl: ∀rr l ns,R= .ok rr l ns->n<ns.length):
  ∃b,e= .returned (.bool b)/\KO B P txt n R b w'/\Fr B P w w':=by
 cases R with
 | ok rr l ns=>exact⟨true,h.1,⟨rfl,h.2.1,hl _ _ _ rfl⟩,h.2.2⟩
 | bad a er=>
  refine⟨false,h.1,⟨rfl,?_⟩,h.2.2⟩;have:=h.2.1;rw[hn] at this;exact this
theorem KO.ofX {B P b0:Nat}{txt:List UInt8}{n:Nat}{R:JR}{w w':World}{e:Ending} (h:KE B P b0 txt R w e w') (hn:nodesN P w=n+1) (hl: ∀rr l ns,R= .ok rr l ns->n<ns.length):
  ∃b,e= .returned (.bool b)/\KO B P txt n R b w'/\jQ B P b0 w w':=by
 cases R with
 | ok rr l ns=>exact⟨true,h.1,⟨rfl,h.2.1,hl _ _ _ rfl⟩,h.2.2⟩
 | bad a er=>
  refine⟨false,h.1,⟨rfl,?_⟩,h.2.2⟩;have:=h.2.1;rw[hn] at this;exact this
theorem VE.drew {B P:Nat}{txt:List UInt8}{R:JR}{w w':World}{e:Ending} (h:VE B P txt R w e w'):VE B P txt R w e w'.drew:=by
 cases R with
 | ok rr l ns=>exact⟨h.1,h.2.1.keep (aB _ _).drew,h.2.2.trans (Fr.of_below (aB _ _).drew (by have:=h.2.1.box;omega))⟩
 | bad a er=>
  obtain⟨b,⟨txt',rv,l,z,nv,j1,j2,j3,j4⟩,c⟩:=h;exact⟨b,⟨txt',rv,l,z,nv,j1.keep (aB _ _).drew,j2.keep (aB _ _).drew,j3,j4⟩,c.trans (Fr.of_below (aB _ _).drew (by have:=j1.lt;omega))⟩
def WM (w:World):World:=(w.alloc (.map #[] 0)).alloc (.cells #[.map (some w.heap.size)] 92)
theorem WM.facts (w:World):Below w.heap.size w (WM w)/\HM w.heap.size [] (WM w)/\(WM w).heap[w.heap.size+1]?=some (.cells #[.map (some w.heap.size)] 92):=by
 have b1:=aH w (.map #[] 0);have b2:=aH (w.alloc (.map #[] 0)) (.cells #[.map (some w.heap.size)] 92);have b:(w.alloc (.map #[] 0)).heap.size=w.heap.size+1:=by simp
 have a:=heap_alloc_new (w.alloc (.map #[] 0)) (.cells #[.map (some w.heap.size)] 92);rw[b] at a;exact⟨b1.trans (b2.mono (by simp)),World.ownsMap.alloc (World.ownsMap_made w _ _ _) _,a⟩
structure PF (val:Nat->Value) (S:World->Prop) (W0:World) (ob:Obj) (Own:Value->World->Prop) (P:Nat) (d:Nat->Bool) (v:Nat->Value) (w':World):Prop where
 cl: ∀i,i<19->i≠16->d i=true->v (38+i)=val i
 st:S w'
 up:d 16=true->d 15=true/\d 4=true
 up2:d 19=true->d 16=true
 w0:d 15=false->w'=W0
 w1:d 15=true->d 16=false->w'=W0.alloc ob
 w2:d 16=true->d 19=false->Own (v 54) w'
 w3:d 19=true-> ∃nv w1,Own nv w1/\w'=w1.setCell ⟨P,4,none⟩ nv
section
variable {val:Nat->Value}{S:World->Prop}{W0:World}{ob:Obj}{Own:Value->World->Prop}{P:Nat}{d:Nat->Bool}{v:Nat->Value}{w':World}
theorem Xk {d:Nat->Bool}{i j:Nat} (h:bK d i j=true):j=i\/d j=true:=by
 unfold bK at h;by_cases hj:j=i
 ·exact .inl hj
 ·rw[if_neg hj] at h;exact .inr h
theorem Kq {v:Nat->Value}{k:Nat}{x:Value}:dH v (some k) x k=x:=if_pos rfl
theorem Kr {v:Nat->Value}{k j:Nat}{x:Value} (h:j≠k):dH v (some k) x j=v j:=if_neg h
theorem PF.clSet (h:PF val S W0 ob Own P d v w') {i k:Nat} (hk:k=38+i) {x:Value} (hx:i=16\/x=val i): ∀j,j<19->j≠16->bK d i j=true->dH v (some k) x (38+j)=val j:=by
 subst hk;intro j c a b;by_cases hji:j=i
 ·subst hji;rw[Kq];exact hx.resolve_left a
 ·rw[Kr (by omega)];exact h.cl j c a ((Xk b).resolve_left hji)
theorem PF.pure (h:PF val S W0 ob Own P d v w') {i k:Nat} (hk:k=38+i) {x:Value} (hx:x=val i) (h15:i≠15) (h16:i≠16) (h19:i≠19):PF val S W0 ob Own P (bK d i) (dH v (some k) x) w':=by
 have e15:bK d i 15=d 15:=nC (Ne.symm h15);have e16:bK d i 16=d 16:=nC (Ne.symm h16);have e19:bK d i 19=d 19:=nC (Ne.symm h19);refine⟨h.clSet hk (.inr hx),h.st,λa=>?_,λa=>?_,λa=>?_,λa b=>?_,λa b=>?_,λa=>?_⟩
 ·rw[e16] at a;obtain⟨a1,a2⟩:=h.up a;refine⟨by rw[e15];exact a1,?_⟩;by_cases h4:4=i
  ·rw[h4];exact xC
  ·rw[nC h4];exact a2
 ·rw[e19] at a;rw[e16];exact h.up2 a
 ·rw[e15] at a;exact h.w0 a
 ·rw[e15] at a;rw[e16] at b;exact h.w1 a b
 ·rw[e16] at a;rw[e19] at b;rw[Kr (by omega)];exact h.w2 a b
 ·rw[e19] at a;exact h.w3 a
theorem PF.mk' (h:PF val S W0 ob Own P d v w') (hd:d 15=false) {x:Value} (hx:x=val 15) (hS:S (W0.alloc ob)):PF val S W0 ob Own P (bK d 15) (dH v (some 53) x) (W0.alloc ob):=by
 have e16:bK d 15 16=d 16:=nC (by decide);have e19:bK d 15 19=d 19:=nC (by decide);have b:d 16=false:=by
  cases hc:d 16 with
  | false=>rfl
  | true=>have:=(h.up hc).1;rw[hd] at this;cases this
 have c:d 19=false:=by
  cases hc:d 19 with
  | false=>rfl
  | true=>have:=h.up2 hc;rw[b] at this;cases this
 refine⟨h.clSet rfl (.inr hx),hS,λa=>?_,λa=>?_,λa=>?_,λ_ _=>rfl,λa=>?_,λa=>?_⟩
 ·rw[e16,b] at a;cases a
 ·rw[e19,c] at a;cases a
 ·rw[xC] at a;cases a
 ·rw[e16,b] at a;cases a
 ·rw[e19,c] at a;cases a
theorem PF.app (h:PF val S W0 ob Own P d v w') (h15:d 15=true) (h4:d 4=true) (h16:d 16=false) {x:Value}{w2:World} (hS:S w2) (ho:Own x w2):PF val S W0 ob Own P (bK d 16) (dH v (some 54) x) w2:=by
 have e15:bK d 16 15=d 15:=nC (by decide);have e4:bK d 16 4=d 4:=nC (by decide);have e19:bK d 16 19=d 19:=nC (by decide);have c:d 19=false:=by
  cases hc:d 19 with
  | false=>rfl
  | true=>have:=h.up2 hc;rw[h16] at this;cases this
 refine⟨h.clSet rfl (.inl rfl),hS,λa=>⟨by rw[e15];exact h15,by rw[e4];exact h4⟩,λa=>xC,λa=>?_,λa b=>?_,λa b=>?_,λa=>?_⟩
 ·rw[e15,h15] at a;cases a
 ·rw[xC] at b;cases b
 ·rw[Kq];exact ho
 ·rw[e19,c] at a;cases a
theorem PF.sto (h:PF val S W0 ob Own P d v w') (h16:d 16=true) (h19:d 19=false) {x:Value}{k:Option Tmp} (hk:k=none) (hS:S (w'.setCell ⟨P,4,none⟩ (v 54))):PF val S W0 ob Own P (bK d 19) (dH v k x) (w'.setCell ⟨P,4,none⟩ (v 54)):=by
 subst hk;have e15:bK d 19 15=d 15:=nC (by decide);have e4:bK d 19 4=d 4:=nC (by decide);have e16:bK d 19 16=d 16:=nC (by decide);refine⟨λj e f c=>?_,hS,λa=>?_,λa=>by rw[e16];exact h16,λa=>?_,λa b=>?_,λa b=>?_,λa=>⟨v 54,w',h.w2 h16 h19,rfl⟩⟩
 ·rw[nC (by omega)] at c;exact h.cl j e f c
 ·rw[e15,e4];exact h.up h16
 ·rw[e15,(h.up h16).1] at a;cases a
 ·rw[e16,h16] at b;cases b
 ·rw[xC] at b;cases b
end
theorem Xl {o:Oper}{a:Act}{K:Act->World->Prop}{Q:Exit->Act->World->Prop} (hgd:o.guard=none) (s x:Operand)
  (ho:o.op= .call { callee:= .builtin .append,args:= #[s,x],argTypes:= #[172,172] })
  (B:Nat) (w:World) (v:Value) (z:List ND) (y:aF) (cs:Array Value) (hcs:cs.toList=gD (y, .slice none 0 0, .slice none 0 0)) (hs:a.eval s=v) (hown:w.ownsRow B 215 7 v z.length (jW z)) (hx:a.eval x= .slice (some ⟨w.heap.size,0,none⟩) 1 1) (hl:z.length<=4294967295) (hB:B<=w.heap.size)
  (hK: ∀nv w',w'.ownsRow B 215 7 nv (z.length+1) (jW z++gD (y, .slice none 0 0, .slice none 0 0))->w.grownBy w' v.ownBlock->K (a.put o.dst nv) w'):
  Oper.wp Tryz.prog o a (w.alloc (.cells cs 215)) K Q:=by
 have h:=Xd (ops:= #[]) (Q:=Q) (E:=True) hgd s x ho B w v z y cs hcs hs hown hx hl hB hK;rw[if_pos (by simp[Region.wanted,hgd])] at h;exact h
theorem Xm {i:Nat} (h:i<20):i=0\/i=1\/i=2\/i=3\/i=4\/i=5\/i=6\/i=7\/i=8\/i=9\/i=10\/i=11\/i=12\/i=13\/i=14\/i=15\/i=16\/i=17\/i=18\/i=19:=by omega
def Ks (P:Nat) (p0:Option Addr) (nodes:List aF) (c0 q g o:Nat) (r:List aS) (c:Nat) (t:aS) (key:Sp) (H:Nat):Nat->Value
 | 0=> .pointer (some ⟨P,0,none⟩)
 | 1=> .pointer (some ⟨P,0,none⟩)
 | 2=> .pointer (some ⟨P,0,none⟩)
 | 3=> .pointer (some ⟨P,4,none⟩)
 | 4=> .slice p0 nodes.length c0
 | 5=> .int .i64 (q:Int)
 | 6=> .pointer (some ⟨P,0,none⟩)
 | 7=> .pointer (some ⟨P,0,none⟩)
 | 8=> .pointer (some ⟨P,1,none⟩)
 | 9=> .slice (some ⟨g,o,none⟩) (r.length+1) c
 | 10=> .pointer (some ⟨g,o,none⟩)
 | 11=> .pointer (some ⟨g,o+1,none⟩)
 | 12=> .agg #[.int .i64 (t.sf:Int), .int .i64 (t.st:Int)]
 | 13=> .agg #[.int .i64 (key.1:Int), .int .i64 (key.2:Int)]
 | 14=> .agg #[.int .i64 (q:Int), .int .i64 (t.sf:Int), .int .i64 (t.st:Int), .int .i64 (key.1:Int), .int .i64 (key.2:Int), .slice none 0 0, .slice none 0 0]
 | 15=> .slice (some ⟨H,0,none⟩) 1 1
 | 17=> .pointer (some ⟨P,0,none⟩)
 | 18=> .pointer (some ⟨P,4,none⟩)
 | _=>undef
def SP (W0:World) (X Y g P:Nat) (rv:Value) (w':World):Prop:=(w'.heap[X]?=W0.heap[X]?/\w'.heap[Y]?=W0.heap[Y]?/\w'.heap[g]?=W0.heap[g]?)/\w'.cell? ⟨P,1,none⟩=some rv
theorem cK.nodes {w:World}{P:Nat}{txt:List UInt8}{rv nv:Value}{l:Sp}{a:Nat}{er:Int} (h:cK w P txt rv l nv a er) (nv2:Value):cK (w.setCell ⟨P,4,none⟩ nv2) P txt rv l nv2 a er:=by
 unfold cK at h ⊢;simp[World.setCell,Array.getElem?_modify,h]
theorem TV.head' {w:World}{v:Value}{t:aS}{r:List aS} (h:TV w v (t::r)): ∃g o c,v= .slice (some ⟨g,o,none⟩) (r.length+1) c/\r.length+1<=c/\w.cell? ⟨g,o,none⟩=some (.int .i64 t.kind)/\w.cell? ⟨g,o+1,none⟩=some (.int .i64 t.sf)/\w.cell? ⟨g,o+2,none⟩=some (.int .i64 t.st)/\
  ∃cur,w.heap[g]?=some (.cells cur 211 (0,0)):=by
 obtain⟨p,c,e,f,b⟩:=h;rcases b with b | ⟨g,o,cur,rfl,i,j⟩
 ·cases b
 ·simp only[aL] at e f;have a:=j 0 t rfl;rw[Nat.zero_mul,Nat.add_zero] at a;exact⟨g,o,c,e,f,a.1,a.2.1,a.2.2,cur,i⟩
theorem JZ.node {B P:Nat}{txt:List UInt8}{rest:List aS}{l:Sp}{z:List ND}{nv:Value}{w w2:World} (h:JZ B P txt rest l z nv w) {x:aF} (hk:x.kids= []) (hp:x.pcs= []) (hB:B<=w.heap.size) {nv2:Value}
  (hr:w2.ownsRow B 215 7 nv2 (z.length+1) (jW z++gD (x, .slice none 0 0, .slice none 0 0))) (hg:w.grownBy w2 nv.ownBlock):
  J B P txt rest l (z.map (·.1)++ [x]) (w2.setCell ⟨P,4,none⟩ nv2)/\Fr B P w (w2.setCell ⟨P,4,none⟩ nv2):=by
 obtain⟨rv,i,j,b,f⟩:=h;obtain⟨a1,a2⟩:=vL i j hg (λk hk=>by obtain⟨cur,m⟩:=vK b.row k hk;exact⟨cur,_,m,by decide,by decide⟩);have c:=b.push hk hp hr hg;refine⟨⟨rv,z++ [(x, .slice none 0 0, .slice none 0 0)],nv2,a1.nodes nv2,?_,by simp,c.other a1 (by decide) (by decide) (by decide) (iB w2 P 4 nv2),f⟩,(Fr.grown b.row (by decide) hg hB).trans (Fr.setP f)⟩;exact a2.same (λg cur a=>(iB w2 P 4 nv2).block g (aE a) (λe=>by have e2:g=P:=bC e;subst e2;unfold cK at a1;rw[a1] at a;injection a with a;injection a with _ a;exact absurd a (by decide)))
theorem Xn (w0:World) (P:Nat) (txt:List UInt8) (hs:txt.length<=65536) (w:World) (t:aS) (r:List aS) (l:Sp) (nodes:List aF) (key:Sp) (lev:Int) (h:J w0.heap.size P txt (t::r) l nodes w) (hb:Below w0.heap.size w0 w) (hr:r.length<=65537)
  (hk:eJ t.kind≠0) (lv:Nat) (IH:VC w0 P txt lv) (hlev:lev+1=33-(lv:Int)) (hlev0:0<=lev/\lev<=32) (hm:nodes.length≠4096) (hN:nodes.length+(r.length+1)<=131074) (ht:TB txt (t::r)) (hSV:dC w0) (hT:cD w0):
  Calls Tryz.prog 177 #[.pointer (some ⟨P,0,none⟩), .int .i64 lev, .agg #[.int .i64 (key.1:Int), .int .i64 (key.2:Int)]] w (VE w0.heap.size P txt (bP txt (lv+1) (t::r) l nodes key) w):=by
 obtain⟨R1,av⟩: ∃R1,(if t.kind=4 then jV txt (bP txt lv) 5 false nodes.length r (t.sf,t.st) (nodes++ [⟨eJ t.kind,t.sf,t.st,key,[],[]⟩]) else
   if t.kind=2 then jV txt (bP txt lv) 3 true nodes.length r (t.sf,t.st) (nodes++ [⟨eJ t.kind,t.sf,t.st,key,[],[]⟩]) else
   JR.ok r (t.sf,t.st) (nodes++ [⟨eJ t.kind,t.sf,t.st,key,[],[]⟩]))=R1:=⟨_,rfl⟩
 have af:bP txt (lv+1) (t::r) l nodes key=vD nodes.length R1:=by
  rw[<-av];show (if eJ t.kind=0 then _ else _)=_;rw[if_neg hk,if_neg hm]
 rw[af];have F:=hid av;have a9:=hid ht;have HS:=hid (aT hSV hT);have a5:=hid h.nodesN;have h1:=h.keep (W1.bel w P key);have CK:=hid (tR _ P txt (t::r) l nodes _ h1 (by simp only[aL];omega));have CO:=hid (Ah (fG (t::r)) (W1 w P key));obtain⟨q,K⟩:=exQ<|eJ t.kind;rw[show eJ (fG (t::r))=q from K] at CO;rw[K] at hk F;have HQ:=hid K;have d0:((q:Int)==0)=false:=aG.2 (by omega);have d1:decide (32<lev)=false:=aJ (by omega);have hX:=(lT (W1.X w P key)).1;have hY:=sJ (W1.Y w P key);have HF:=hid (Fr.of_below (P:=P) (W1.bel w P key) hb.size);have HB:=hid hb;have ab:=hb.size;have hPw:=h.box.1;obtain⟨az,a2,_,_⟩:=h1.box;obtain⟨rv,z,nv,b1,b2,b3,b4,b5⟩:=h1;obtain⟨p0,c0,rfl⟩:=b4.slice;obtain⟨q0,q1,_,_,q4,_,_,_,_,_,f4,_⟩:=b1.cells;obtain⟨g,o,c,rfl,hc,k0,k1,k2,I⟩:=b2.head';have hz:z.length=nodes.length:=by rw[<-b3,cA]
 rw[hz] at q4;have dm:((nodes.length:Int)==4096)=false:=aG.2 (by omega);have a0:=(W1.bel w P key).size;have aM:w.heap.size<(W1 w P key).heap.size:=aE (W1.X w P key);have aN:w.heap.size+1<(W1 w P key).heap.size:=aE (W1.Y w P key);obtain⟨gcur,I⟩:=I;have E:w0.heap.size<=(W1 w P key).drew.heap.size:=aV ab a0;have b4d:=b4.keep (aB _ (W1 w P key)).drew;have b1d:=b1.keep (aB _ (W1 w P key)).drew;have b2d:=b2.keep (aB _ (W1 w P key)).drew;have aR:JZ w0.heap.size P txt (t::r) l z (.slice p0 z.length c0) (W1 w P key).drew:=⟨_,b1d,b2d,b4d,a2⟩;have e:(P:Nat)≠w.heap.size:=by omega
 have ae:Hid (∀w2,(W1 w P key).drew.grownBy w2 (Value.slice p0 z.length c0).ownBlock->SP (W1 w P key).drew w.heap.size (w.heap.size+1) g P (.slice (some ⟨g,o,none⟩) (r.length+1) c) w2/\w2.cell? ⟨P,4,none⟩=some (.slice p0 nodes.length c0)/\w2.frozen? ⟨P,4,none⟩=false/\ ∀u,SP (W1 w P key).drew w.heap.size (w.heap.size+1) g P (.slice (some ⟨g,o,none⟩) (r.length+1) c) (w2.setCell ⟨P,4,none⟩ u)):=hid (λw2 hg=>by
  have off: ∀(k:Nat) (cs:Array Value) (tt:TypeId),(W1 w P key).drew.heap[k]?=some (.cells cs tt (0,0))->215≠tt->w2.heap[k]?=(W1 w P key).drew.heap[k]?:=λk cs tt hk bb=>hg.block k (aE hk) (λe=>by obtain⟨cur,hc⟩:=vK b4d.row k e.symm;rw[hk] at hc;injection hc with hc;injection hc with _ hc;exact bb hc.symm);have oX:=off _ _ _ (W1.X w P key) (by decide);have oY:=off _ _ _ (W1.Y w P key) (by decide);have oG:=off _ _ _ I (by decide);have oP:=off _ _ _ b1d (by decide);have j2:cK w2 P txt (.slice (some ⟨g,o,none⟩) (r.length+1) c) l (.slice p0 z.length c0) 0 0:=oP.trans b1d;obtain⟨_,e1,_,_,e4,_,_,_,_,_,g4,_⟩:=j2.cells;rw[hz] at e4;have bg:g≠P:=λe=>by
   have K:=b1;unfold cK at K;have aP:(W1 w P key).heap[P]?=some (.cells gcur 211 (0,0)):=e ▸ I;rw[aP] at K;injection K with K;injection K with _ K;exact absurd K (by decide)
  refine⟨⟨⟨oX,oY,oG⟩,e1⟩,e4,g4,λu=>⟨⟨?_,?_,?_⟩,(j2.nodes u).cells.2.1⟩⟩
  ·rw[eQ w2 ⟨P,4,none⟩ u _ (by simp;omega)];exact oX
  ·rw[eQ w2 ⟨P,4,none⟩ u _ (by simp;omega)];exact oY
  ·rw[eQ w2 ⟨P,4,none⟩ u _ bg];exact oG)
 have aA:=hid aR;have ay:=hid b4d;have a1:SP (W1 w P key).drew w.heap.size (w.heap.size+1) g P (.slice (some ⟨g,o,none⟩) (r.length+1) c) (W1 w P key).drew:=⟨⟨rfl,rfl,rfl⟩,q1⟩;obtain⟨OB,a7⟩: ∃ob:Obj, .cells #[.int .i64 (q:Int), .int .i64 (t.sf:Int), .int .i64 (t.st:Int), .int .i64 (key.1:Int), .int .i64 (key.2:Int), .slice none 0 0, .slice none 0 0] 215=ob:=⟨_,rfl⟩;have ba:=aH (W1 w P key).drew OB;have am:Hid (SP (W1 w P key).drew w.heap.size (w.heap.size+1) g P (.slice (some ⟨g,o,none⟩) (r.length+1) c) ((W1 w P key).drew.alloc OB)):=hid ⟨⟨ba.block _ aM,ba.block _ aN,ba.block _ (aE I)⟩,by rw[ba.cell (p:=⟨P,1,none⟩) az];exact q1⟩;have ao:Hid (∀d v w',PF (Ks P p0 nodes c0 q g o r c t key (W1 w P key).drew.heap.size) (SP (W1 w P key).drew w.heap.size (w.heap.size+1) g P (.slice (some ⟨g,o,none⟩) (r.length+1) c)) (W1 w P key).drew OB (λnv w2=>w2.ownsRow w0.heap.size 215 7 nv (z.length+1) (jW z++gD (⟨q,t.sf,t.st,key,[],[]⟩, .slice none 0 0, .slice none 0 0))/\(W1 w P key).drew.grownBy w2 (Value.slice p0 z.length c0).ownBlock) P d v w'->d 4=false->w'.cell? ⟨P,4,none⟩=some (.slice p0 nodes.length c0)):=hid (λd v w' j T=>by
  have a8:d 16=false:=by
   cases hc:d 16 with
   | false=>rfl
   | true=>have:=(j.up hc).2;rw[T] at this;cases this
  cases h15:d 15 with
  | false=>rw[j.w0 h15];exact q4
  | true=>rw[j.w1 h15 a8,ba.cell (p:=⟨P,4,none⟩) az];exact q4)
 have Z:(W1 w P key).drew.cell? ⟨w.heap.size,0,none⟩=some (.pointer (some ⟨P,0,none⟩)):=hX;have ax:(W1 w P key).drew.cell? ⟨w.heap.size+1,0,none⟩=some (.int .i64 (key.1:Int)):=hY.1;have aK:(W1 w P key).drew.cell? ⟨w.heap.size+1,1,none⟩=some (.int .i64 (key.2:Int)):=hY.2;have k1':(W1 w P key).drew.cell? ⟨g,o+1,none⟩=some (.int .i64 (t.sf:Int)):=k1;have k2':(W1 w P key).drew.cell? ⟨g,o+2,none⟩=some (.int .i64 (t.st:Int)):=k2;have dr:(0:Int)<(r.length:Int)+1:=by omega
 have a4:Tryz.prog.follows .mixedOrders=true:=by kernel_rfl
 clear h hb b1 b2 b4 hm K af av ht hSV hT b1d b2d b4d aR ba I a0 aM aN az e;go_enter Tryz.func177,Tryz.ntmps177;go_upto_region 1 with fail;change Code.wp _ _ _ _ (W1 w P key);go_wp2_with fail;refine CK.out.mono ?_;rintro e w2 ⟨rfl,rfl⟩;go_wp2_with fail;refine CO.out.mono ?_;rintro e w2 ⟨rfl,rfl⟩;go_upto_region 9 with fail;clear k0 k1 k2 q0 hX hY d0 d1 dm;obtain⟨W0,H⟩:=exQ<|(W1 w P key).drew;refine Do a4 [38,39,40,41,42,43,44,45,46,47,48,49,50,51,52,53,54,55,56] 90 rfl (by kernel_rfl) (by kernel_rfl) (λd v w'=>PF (Ks P p0 nodes c0 q g o r c t key (W1 w P key).drew.heap.size) (SP (W1 w P key).drew w.heap.size (w.heap.size+1) g P (.slice (some ⟨g,o,none⟩) (r.length+1) c)) (W1 w P key).drew OB (λnv w2=>w2.ownsRow w0.heap.size 215 7 nv (z.length+1) (jW z++gD (⟨q,t.sf,t.st,key,[],[]⟩, .slice none 0 0, .slice none 0 0))/\(W1 w P key).drew.grownBy w2 (Value.slice p0 z.length c0).ownBlock) P d v w') ⟨λ_ _ _ h=>absurd h (by decide),a1,λh=>absurd h (by decide),λh=>absurd h (by decide),λ_=>rfl,λh=>absurd h (by decide),λh=>absurd h (by decide),λh=>absurd h (by decide)⟩ ?_ ?_
 ·intro d a w' i o' ho hi f n j R' m;have a3:i<20:=(dW.1 ho).1;have q3:a.tmps[3]?.getD undef= .pointer (some ⟨w.heap.size,0,none⟩):=by rw[<-aU];exact n 3 (by decide)
  have q5:a.tmps[5]?.getD undef= .pointer (some ⟨w.heap.size+1,0,none⟩):=by rw[<-aU];exact n 5 (by decide)
  have q7:a.tmps[7]?.getD undef= .int .i64 (q:Int):=by rw[<-aU];exact n 7 (by decide)
  clear n;rw[H] at j m Z ax aK k1' k2' ao am ae ay E;rcases Xm a3 with rfl|rfl|rfl|rfl|rfl|rfl|rfl|rfl|rfl|rfl|rfl|rfl|rfl|rfl|rfl|rfl|rfl|rfl|rfl|rfl<;>simp only[fN,dG,bM,cP] at ho<;>subst ho
  ·have x0:=(kY j.st.1.1 0).trans Z;go_simp;exact m _ _ (j.pure (i:=0) rfl rfl (by decide) (by decide) (by decide))
  ·have x0:=(kY j.st.1.1 0).trans Z;go_simp;exact m _ _ (j.pure (i:=1) rfl rfl (by decide) (by decide) (by decide))
  ·simp[Region.binds] at f;have c39:a.tmps[39]?.getD undef= .pointer (some ⟨P,0,none⟩):=by rw[<-aU];exact j.cl 1 (by decide) (by decide) (by simp[f])
   go_simp;exact m _ _ (j.pure (i:=2) rfl rfl (by decide) (by decide) (by decide))
  ·simp[Region.binds] at f;have c40:a.tmps[40]?.getD undef= .pointer (some ⟨P,0,none⟩):=by rw[<-aU];exact j.cl 2 (by decide) (by decide) (by simp[f])
   go_simp;exact m _ _ (j.pure (i:=3) rfl rfl (by decide) (by decide) (by decide))
  ·simp[Region.binds] at f;have c41:a.tmps[41]?.getD undef= .pointer (some ⟨P,4,none⟩):=by rw[<-aU];exact j.cl 3 (by decide) (by decide) (by simp[f])
   have x4:=ao.out d _ w' j hi;go_simp;exact m _ _ (j.pure (i:=4) rfl rfl (by decide) (by decide) (by decide))
  ·go_simp;exact m _ _ (j.pure (i:=5) rfl rfl (by decide) (by decide) (by decide))
  ·have x0:=(kY j.st.1.1 0).trans Z;go_simp;exact m _ _ (j.pure (i:=6) rfl rfl (by decide) (by decide) (by decide))
  ·simp[Region.binds] at f;have c44:a.tmps[44]?.getD undef= .pointer (some ⟨P,0,none⟩):=by rw[<-aU];exact j.cl 6 (by decide) (by decide) (by simp[f])
   go_simp;exact m _ _ (j.pure (i:=7) rfl rfl (by decide) (by decide) (by decide))
  ·simp[Region.binds] at f;have c45:a.tmps[45]?.getD undef= .pointer (some ⟨P,0,none⟩):=by rw[<-aU];exact j.cl 7 (by decide) (by decide) (by simp[f])
   go_simp;exact m _ _ (j.pure (i:=8) rfl rfl (by decide) (by decide) (by decide))
  ·simp[Region.binds] at f;have c46:a.tmps[46]?.getD undef= .pointer (some ⟨P,1,none⟩):=by rw[<-aU];exact j.cl 8 (by decide) (by decide) (by simp[f])
   have x0:=j.st.2;go_simp;exact m _ _ (j.pure (i:=9) rfl rfl (by decide) (by decide) (by decide))
  ·simp[Region.binds] at f;have c47:a.tmps[47]?.getD undef= .slice (some ⟨g,o,none⟩) (r.length+1) c:=by rw[<-aU];exact j.cl 9 (by decide) (by decide) (by simp[f])
   go_simp;exact m _ _ (j.pure (i:=10) rfl rfl (by decide) (by decide) (by decide))
  ·simp[Region.binds] at f;have c48:a.tmps[48]?.getD undef= .pointer (some ⟨g,o,none⟩):=by rw[<-aU];exact j.cl 10 (by decide) (by decide) (by simp[f])
   go_simp;exact m _ _ (j.pure (i:=11) rfl rfl (by decide) (by decide) (by decide))
  ·simp[Region.binds] at f;have c49:a.tmps[49]?.getD undef= .pointer (some ⟨g,o+1,none⟩):=by rw[<-aU];exact j.cl 11 (by decide) (by decide) (by simp[f])
   have x1:=(kY j.st.1.2.2 (o+1)).trans k1';have x2:=(kY j.st.1.2.2 (o+2)).trans k2';go_simp;exact m _ _ (j.pure (i:=12) rfl rfl (by decide) (by decide) (by decide))
  ·have x1:=(kY j.st.1.2.1 0).trans ax;have x2:=(kY j.st.1.2.1 1).trans aK;go_simp;exact m _ _ (j.pure (i:=13) rfl rfl (by decide) (by decide) (by decide))
  ·simp[Region.binds] at f;have c43:a.tmps[43]?.getD undef= .int .i64 (q:Int):=by rw[<-aU];exact j.cl 5 (by decide) (by decide) (by simp[f])
   have c50:a.tmps[50]?.getD undef= .agg #[.int .i64 (t.sf:Int), .int .i64 (t.st:Int)]:=by rw[<-aU];exact j.cl 12 (by decide) (by decide) (by simp[f])
   have c51:a.tmps[51]?.getD undef= .agg #[.int .i64 (key.1:Int), .int .i64 (key.2:Int)]:=by rw[<-aU];exact j.cl 13 (by decide) (by decide) (by simp[f])
   go_simp;exact m _ _ (j.pure (i:=14) rfl rfl (by decide) (by decide) (by decide))
  ·simp[Region.binds] at f;have c52:a.tmps[52]?.getD undef= .agg #[.int .i64 (q:Int), .int .i64 (t.sf:Int), .int .i64 (t.st:Int), .int .i64 (key.1:Int), .int .i64 (key.2:Int), .slice none 0 0, .slice none 0 0]:=by rw[<-aU];exact j.cl 14 (by decide) (by decide) (by simp[f])
   obtain rfl:=j.w0 hi;go_simp;exact m _ _ (j.mk' hi rfl am.out)
  ·simp[Region.binds] at f;have e4:d 4=true:=(by simp[f]);have e15:d 15=true:=(by simp[f]);have c42:a.tmps.getD 42 undef= .slice p0 nodes.length c0:=(by exact j.cl 4 (by decide) (by decide) (e4));have c53:a.tmps.getD 53 undef= .slice (some ⟨W0.heap.size,0,none⟩) 1 1:=(by exact j.cl 15 (by decide) (by decide) (e15));obtain rfl:=j.w1 e15 hi;rw[<-a7];exact Xl rfl (.tmp 42) (.tmp 53) rfl w0.heap.size W0 (.slice p0 z.length c0) z ⟨q,t.sf,t.st,key,[],[]⟩ _ rfl (by rw[hz];exact c42) ay.out.row c53 (by omega) E (λnv w2 ad aa=>m _ _ (j.app e15 e4 hi (ae.out w2 aa).1 ⟨ad,aa⟩))
  ·simp[Region.binds] at f;have c38:a.tmps[38]?.getD undef= .pointer (some ⟨P,0,none⟩):=by rw[<-aU];exact j.cl 0 (by decide) (by decide) (by simp[f])
   go_simp;exact m _ _ (j.pure (i:=17) rfl rfl (by decide) (by decide) (by decide))
  ·simp[Region.binds] at f;have c55:a.tmps[55]?.getD undef= .pointer (some ⟨P,0,none⟩):=by rw[<-aU];exact j.cl 17 (by decide) (by decide) (by simp[f])
   go_simp;exact m _ _ (j.pure (i:=18) rfl rfl (by decide) (by decide) (by decide))
  ·simp[Region.binds] at f;have e16:d 16=true:=(by simp[f]);have e18:d 18=true:=(by simp[f]);have c56:a.tmps[56]?.getD undef= .pointer (some ⟨P,4,none⟩):=by rw[<-aU];exact j.cl 18 (by decide) (by decide) (e18)
   obtain⟨_,x4,f4,bf⟩:=ae.out w' (j.w2 e16 hi).2;obtain⟨gn,cn,hV⟩:=vM (j.w2 e16 hi).1;have hV:a.tmps.getD 54 undef= .slice (some ⟨gn,0,none⟩) (z.length+1) cn:=hV;rw[hz] at hV;have c54:a.tmps[54]?.getD undef= .slice (some ⟨gn,0,none⟩) (nodes.length+1) cn:=by rw[<-aU];exact hV
   have D:=λx=>j.sto e16 hi (x:=x) (k:=none) rfl (bf _);simp only[hV] at D;go_simp;exact m undef _ (D undef)
 ·intro v W9 j;rw[H] at j aA E;obtain⟨nv2,w1,⟨ad,aa⟩,hW⟩:=j.w3 (by decide);obtain⟨R,aw⟩:=aA.out.node (x:=⟨q,t.sf,t.st,key,[],[]⟩) rfl rfl E ad aa;rw[<-hW] at R aw;have R:=R.cast (congrArg (· ++ [(⟨q,t.sf,t.st,key,[],[]⟩:aF)]) b3);have aC:W9.heap[w.heap.size]?=some (.cells #[.pointer (some ⟨P,0,none⟩)] 207):=j.st.1.1.trans (by rw[<-H];exact W1.X w P key);have ar:=hid (HF.out.trans ((Fr.of_below (by rw[<-H];exact(aB _ (W1 w P key)).drew) (aV ab HF.out.sz)).trans aw));have x9:=(lT aC).1;have an:=hid aC;have CSk:=hid (Du _ P txt t r l _ W9 R (by omega));simp only[cV,fO,eP,fP];clear j ad aa hW R aw aC aA ao am ae ay a1 Z ax aK k1' k2' E q1 q4 f4 CK CO;go_wp2_with fail;refine CSk.out.mono ?_;rintro e w10 ⟨rfl,M,Q⟩;have bd:=aV ab ar.out.sz;have V:w10.heap[w.heap.size]?=some (.cells #[.pointer (some ⟨P,0,none⟩)] 207):=(Q.block _ (aE an.out) (λe=>by have:=bC e;omega)).trans an.out;have C:=hid (ar.out.trans (Fr.ofP Q a2 bd));have s:=hid V;have G:=hid M;have x10:=(lT V).1;have L:w0.heap.size<=w10.heap.size:=aV ab C.out.sz;have ak:Hid (Below w0.heap.size w0 w10):=hid (HB.out.trans C.out.bel);have ah:nodesN P w10=nodes.length+1:=by rw[M.nodesN,aI];rfl
  have aO:=hid ah;have aj:fX nodes (⟨q,t.sf,t.st,key,[],[]⟩:aF) [] (nodes++ [(⟨q,t.sf,t.st,key,[],[]⟩:aF)]):=⟨rfl,by simp,by simp,λy hy=>by cases hy⟩;have A:=hid aj;have ag:(nodes++ [(⟨q,t.sf,t.st,key,[],[]⟩:aF)]).length+r.length<=131074:=by rw[aI,dQ];omega
  have ai:Hid (TB txt r):=hid (a9.out.drop 1);clear M Q V an x9 CSk ah aj ar;go_upto_block 1 with fail;go_cut [9] (λs9 wx=> ∃b,s9= .bool b/\Hid (KO w0.heap.size P txt nodes.length R1 b wx)/\Hid (Fr w0.heap.size P w wx)/\Hid (wx.heap[w.heap.size]?=some (.cells #[.pointer (some ⟨P,0,none⟩)] 207)))
  case first=>
   by_cases T:t.kind=4
   ·have aY:q=5:=by rw[<-HQ.out,T];rfl
    subst aY;have m:=F.out;rw[if_pos T] at m;have CA:=Xf w0 P txt lv IH w10 r (t.sf,t.st) nodes _ [] _ lev G.out A.out ak.out ai.out ag hlev hlev0 hs;rw[m] at CA;have au:=hid CA;have aq:Hid (∀e w',VE w0.heap.size P txt R1 w10 e w'-> ∃b,e= .returned (.bool b)/\KO w0.heap.size P txt nodes.length R1 b w'/\Fr w0.heap.size P w10 w'):=hid (λe w' hE=>KO.of hE aO.out (λrr ll ns he=>by obtain⟨x',post',hm,_⟩:=zY (pL txt lv) A.out (m.trans he);exact hm.lt));clear CA m T F;go_wp2_with fail;refine au.out.mono ?_;rintro e w11 hE;obtain⟨b,rfl,N,n⟩:=aq.out _ _ hE;have U:=hid N;have O:=hid (n.blk _ _ s.out (by omega) (by rfl));have W:=hid (C.out.trans n);clear N n hE;go_wp2_with fail;go_meet;exact⟨b,rfl,U,W,O⟩
   ·by_cases h2:t.kind=2
    ·have aW:q=6:=by rw[<-HQ.out,h2];rfl
     subst aW;have m:=F.out;rw[if_neg T,if_pos h2] at m;obtain⟨m1,m2,m3⟩:=WM.facts w10;have ap:=G.out.keep m1;have aQ:=(m1.block _ (aE s.out)).trans s.out;have bc:=aE s.out;have CA:=Xh w0 P txt lv IH w10.heap.size w.heap.size (w10.heap.size+1) (WM w10) r (t.sf,t.st) nodes _ [] _ lev ap A.out (ak.out.trans (m1.mono L)) ai.out ag hlev hlev0 hs aQ m3 m2 L HS.out.1 HS.out.2;rw[m] at CA;have au:=hid CA;have aq:Hid (∀e w',KE w0.heap.size P w10.heap.size txt R1 (WM w10) e w'-> ∃b,e= .returned (.bool b)/\KO w0.heap.size P txt nodes.length R1 b w'/\jQ w0.heap.size P w10.heap.size (WM w10) w'):=hid (λe w' hE=>KO.ofX hE (by rw[ap.nodesN,aI];rfl) (λrr ll ns he=>by obtain⟨x',post',hm,_⟩:=zY (pL txt lv) A.out (m.trans he);exact hm.lt));have aZ:=hid m1;clear CA m T h2 F m1 m2 m3 ap aQ;have hmm:= @run_makeMap Tryz.prog;go_wp2_with fail;refine au.out.mono ?_;rintro e w11 hE;obtain⟨b,rfl,N,n⟩:=aq.out _ _ hE;have U:=hid N;have O:=hid (n.blk _ _ ((aZ.out.block _ bc).trans s.out) (by omega) (by omega) (by rfl));have W:=hid (C.out.trans (jQ.out (Fr.of_below aZ.out L) n (aD _)));clear N n hE;go_wp2_with fail;go_meet;exact⟨b,rfl,U,W,O⟩
    ·have m:=F.out;rw[if_neg T,if_neg h2] at m;have aY:((q:Int)==5)=false:=aG.2 (by have:=Ko T h2;rw[HQ.out] at this;omega);have aW:((q:Int)==6)=false:=aG.2 (by have:=Ko T h2;rw[HQ.out] at this;omega);have HK:Hid (KO w0.heap.size P txt nodes.length R1 true w10):=hid (by rw[<-m];exact⟨rfl,G.out,A.out.lt⟩);clear m T h2 F;go_wp2_with fail;go_meet;exact⟨true,rfl,HK,C,s⟩
  case rest=>
   obtain⟨b,rfl,HK,a6,HX⟩:=hcut;obtain⟨lt,g',cap',len,st,c3,c4,hnl,cst,cfz,al,hPg,D⟩:=HK.out.fin;have xX:=(lT HX.out).1;have hXg:=al _ _ _ HX.out (by decide);have hnz:(0:Int)<=(nodes.length:Int):=(by omega);have hnz2:(nodes.length:Int)<(len:Int):=(by omega);have aX:=hid (D w (by rw[a5.out];omega) a6.out);clear al D A s G C HX HK x10;go_upto_region 18 with fail;go_region
   all_goals
    go_wp2_with fail;go_ret;exact aX.out.drew
theorem Kt (w0:World) (P:Nat) (txt:List UInt8) (hs:txt.length<=65536) (hSV:dC w0) (hT:cD w0): ∀lv,lv<=32->VC w0 P txt lv
 | 0,_=>λw rest l nodes key lev h hb ht hN hl=>by
  unfold bP;by_cases hk:eJ (fG rest)=0
  ·rw[if_pos hk];exact Kn w0 P txt hs w rest l nodes key lev h hb ht.1 hk
  ·rw[if_neg hk];exact Xi w0 P txt hs w rest l nodes key lev h hb ht.1 hk (by omega)
 | lv+1,hlv=>λw rest l nodes key lev h hb ht hN hl=>by
  by_cases hk:eJ (fG rest)=0
  ·have e:bP txt (lv+1) rest l nodes key= .bad (fC txt.length rest) 2:=by unfold bP;rw[if_pos hk]
   rw[e];exact Kn w0 P txt hs w rest l nodes key lev h hb ht.1 hk
  by_cases hm:nodes.length=4096
  ·have e:bP txt (lv+1) rest l nodes key= .bad (fC txt.length rest) 6:=by unfold bP;rw[if_neg hk,if_pos hm]
   rw[e];exact Xj w0 P txt hs w rest l nodes key lev h hb ht.1 hk (by omega) hm
  ·cases rest with
   | nil=>exact absurd rfl hk
   | cons t r=>
    have a:=ht.1;simp only[aL] at hN a;exact Xn w0 P txt hs w t r l nodes key lev h hb (by omega) hk lv (Kt w0 P txt hs hSV hT lv (by omega)) (by omega) (by omega) hm hN ht hSV hT
end Go.Proofs.YtjnooaljcgkfpaaGreatDoor
