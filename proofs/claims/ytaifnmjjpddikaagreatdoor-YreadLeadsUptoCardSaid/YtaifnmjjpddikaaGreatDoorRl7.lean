import Derived.Test.YtaifnmjjpddikaaGreatDoorRl6
import Derived.Test.YtaifnmjjpddikaaGreatDoorRl5
set_option maxRecDepth 100000
set_option maxHeartbeats 8000000
namespace Go.Proofs.YtaifnmjjpddikaaGreatDoor
set_option linter.unusedSimpArgs false
set_option linter.unusedVariables false
open Go.RowKit Go.Maps Go.WideMaps
open Go.Lib hiding intOf
theorem uK {w:World}{B:Nat}{e:TypeId}{s:Nat}{v:Value}{n:Nat}{xs:List Value} (h:w.ownsRow B e s v (n+1) xs): ∃g cap,v= .slice (some ⟨g,0,none⟩) (n+1) cap:=by
 rcases h.2 with⟨_,h1⟩ | ⟨g,cap,cur,rfl,_⟩
 ·omega
 ·exact⟨g,cap,rfl⟩
theorem Bo (f:aD->aD): ∀(n:Nat) (l:List aD) (x:aD),l[n]?=some x->modN f n l=l.set n (f x)
 | n,[],x,h=>by simp at h
 | 0,y::l,x,h=>by
  obtain rfl:y=x:=by simpa using h
  rfl
 | n+1,y::l,x,h=>by
  rw[cH] at h;rw[modN,Bo f n l x h];rfl
def JZ (B P:Nat) (txt:List UInt8) (rest:List aQ) (l:Sp) (z:List ND) (nv:Value) (w:World):Prop:= ∃rv,cK w P txt rv l nv 0 0/\TV w rv rest/\cI B z nv w/\B<=P
theorem J.toZ {B P:Nat}{txt:List UInt8}{rest:List aQ}{l:Sp}{nodes:List aD}{w:World} (h:J B P txt rest l nodes w): ∃z nv,z.map (·.1)=nodes/\JZ B P txt rest l z nv w:=by
 obtain⟨rv,z,nv,c,e,b,a,f⟩:=h;exact⟨z,nv,b,rv,c,e,a,f⟩
theorem JZ.toJ {B P:Nat}{txt:List UInt8}{rest:List aQ}{l:Sp}{z:List ND}{nv:Value}{w:World} (h:JZ B P txt rest l z nv w):J B P txt rest l (z.map (·.1)) w:=by
 obtain⟨rv,b,c,e,a⟩:=h;exact⟨rv,z,nv,b,c,rfl,e,a⟩
theorem JZ.cells {B P:Nat}{txt:List UInt8}{rest:List aQ}{l:Sp}{z:List ND}{nv:Value}{w:World} (h:JZ B P txt rest l z nv w):w.cell? ⟨P,3,none⟩=some (.int .i64 (l.2:Int))/\w.cell? ⟨P,4,none⟩=some nv/\P<w.heap.size:=by
 obtain⟨rv,a,h2,h3,h4⟩:=h;exact⟨a.cells.2.2.2.1,a.cells.2.2.2.2.1,a.lt⟩
theorem JZ.form {B P:Nat}{txt:List UInt8}{rest:List aQ}{l:Sp}{z:List ND}{nv:Value}{w:World} (h:JZ B P txt rest l z nv w) (hz:z≠ []): ∃g cap,nv= .slice (some ⟨g,0,none⟩) z.length cap/\z.length<=cap:=by
 obtain⟨rv,h1,h2,a,h4⟩:=h;obtain⟨g,cap,cur,e1,e2,_⟩:=a.form hz;exact⟨g,cap,e1,e2⟩
theorem JZ.keep {B P:Nat}{txt:List UInt8}{rest:List aQ}{l:Sp}{z:List ND}{nv:Value}{w w':World} (h:JZ B P txt rest l z nv w) (hb:Below w.heap.size w w'):JZ B P txt rest l z nv w':=by
 obtain⟨rv,b,c,e,a⟩:=h;exact⟨rv,b.keep hb,c.keep hb,e.keep hb,a⟩
section
variable {B P:Nat}{txt:List UInt8}{rest:List aQ}{l:Sp}{z:List ND}{w w1:World}{g cap:Nat}
theorem JZ.at_ (h:JZ B P txt rest l z (.slice (some ⟨g,0,none⟩) z.length cap) w):cI B z (.slice (some ⟨g,0,none⟩) z.length cap) w:=by
 obtain⟨rv,h1,h2,a,h4⟩:=h;exact a
theorem JZ.kid (h:JZ B P txt rest l z (.slice (some ⟨g,0,none⟩) z.length cap) w) {n k:Nat}{y:ND} (hy:z[n]?=some y) {kv:Value}{H:Nat} (hH:w.heap.size<=H) (hB:B<=w.heap.size)
  (hr:w1.ownsRow B 3 1 kv (y.1.kids.length+1) (eI y.1.kids++ [.int .i64 (k:Int)])) (hg:w.grownBy w1 y.2.1.ownBlock) (hat:kv.ownBlock=y.2.1.ownBlock\/kv.ownBlock=some H):
  JZ B P txt rest l (z.set n ({ y.1 with kids:=y.1.kids++ [k] },kv,y.2.2)) (.slice (some ⟨g,0,none⟩) (z.set n ({ y.1 with kids:=y.1.kids++ [k] },kv,y.2.2)).length cap) (w1.setCell ⟨g,n*7+5,none⟩ kv)/\Fr B P w (w1.setCell ⟨g,n*7+5,none⟩ kv):=by
 obtain⟨rv,o,q,f,m⟩:=h;have c:=f.kids y (aX hy);obtain⟨a1,a2⟩:=uJ o q hg (λk j=>by obtain⟨cur,p⟩:=uI c k j;exact⟨cur,_,p,by decide,by decide⟩);have a:=f.row.kept hg (iJ f.row c (by decide));obtain⟨cur,b⟩:=uI a g rfl;obtain⟨b1,b2⟩:=uJ a1 a2 (gT w1 g (n*7+5) kv) (λk j=>by have e:g=k:=bD j;subst e;exact⟨cur,_,b,by decide,by decide⟩);have i:B<=g:=(World.ownsRow.lt a g rfl).1;refine⟨⟨rv,?_,b2,f.kid hy hH hr hg hat,m⟩,(Fr.grown c (by decide) hg hB).trans (Fr.setM b (by decide) i)⟩;rw[List.length_set];exact b1
theorem JZ.pc (h:JZ B P txt rest l z (.slice (some ⟨g,0,none⟩) z.length cap) w) {n:Nat}{k:Sp}{y:ND} (hy:z[n]?=some y) {kv:Value}{H:Nat} (hH:w.heap.size<=H) (hB:B<=w.heap.size)
  (hr:w1.ownsRow B 59 2 kv (y.1.pcs.length+1) (mE y.1.pcs++ [.int .i64 (k.1:Int), .int .i64 (k.2:Int)])) (hg:w.grownBy w1 y.2.2.ownBlock) (hat:kv.ownBlock=y.2.2.ownBlock\/kv.ownBlock=some H):
  JZ B P txt rest l (z.set n ({ y.1 with pcs:=y.1.pcs++ [k] },y.2.1,kv)) (.slice (some ⟨g,0,none⟩) (z.set n ({ y.1 with pcs:=y.1.pcs++ [k] },y.2.1,kv)).length cap) (w1.setCell ⟨g,n*7+6,none⟩ kv)/\Fr B P w (w1.setCell ⟨g,n*7+6,none⟩ kv):=by
 obtain⟨rv,o,q,f,m⟩:=h;have c:=f.pcs y (aX hy);obtain⟨a1,a2⟩:=uJ o q hg (λk j=>by obtain⟨cur,p⟩:=uI c k j;exact⟨cur,_,p,by decide,by decide⟩);have a:=f.row.kept hg (iJ f.row c (by decide));obtain⟨cur,b⟩:=uI a g rfl;obtain⟨b1,b2⟩:=uJ a1 a2 (gT w1 g (n*7+6) kv) (λk j=>by have e:g=k:=bD j;subst e;exact⟨cur,_,b,by decide,by decide⟩);have i:B<=g:=(World.ownsRow.lt a g rfl).1;refine⟨⟨rv,?_,b2,f.pc hy hH hr hg hat,m⟩,(Fr.grown c (by decide) hg hB).trans (Fr.setM b (by decide) i)⟩;rw[List.length_set];exact b1
end
theorem Io {z:List ND}{n k:Nat}{pc:Sp}{y:ND}{u v:Value} (hy:z[n]?=some y):
  ((z.set n ({ y.1 with kids:=y.1.kids++ [k] },u,y.2.2)).set n ({ y.1 with kids:=y.1.kids++ [k],pcs:=y.1.pcs++ [pc] },u,v)).map (·.1)=eA n k pc (z.map (·.1)):=by
 unfold eA;rw[Bo _ n _ y.1 (by rw[cW,hy];rfl),List.map_set,List.map_set,List.set_set]
def restN (P:Nat) (w:World):Nat:=match w.cell? ⟨P,1,none⟩ with
 | some (.slice _ n _)=>n
 | _=>0
theorem J.restN {B P:Nat}{txt:List UInt8}{rest:List aQ}{l:Sp}{nodes:List aD}{w:World} (h:J B P txt rest l nodes w):restN P w=rest.length:=by
 obtain⟨rv,z,nv,a,b,h3,h4,h5⟩:=h;obtain⟨p,c,rfl,_⟩:=b;have:=a.cells.2.1;unfold Go.Proofs.YtaifnmjjpddikaaGreatDoor.restN;rw[this]
theorem J.cast {B P:Nat}{txt:List UInt8}{rest:List aQ}{l:Sp}{nodes nodes2:List aD}{w:World} (h:J B P txt rest l nodes w) (e:nodes=nodes2):J B P txt rest l nodes2 w:=e ▸ h
theorem Ta (w0:World) (P:Nat) (txt:List UInt8) (lv:Nat) (IH:VC w0 P txt lv) (w:World) (rest:List aQ) (l:Sp) (pre:List aD) (x:aD) (post nodes:List aD) (lev:Int)
  (h:J w0.heap.size P txt rest l nodes w) (hmid:eH pre x post nodes) (hb:Below w0.heap.size w0 w) (ht:TB txt rest) (hN:nodes.length+rest.length<=131074) (hl:lev+1=33-(lv:Int)) (hlev:0<=lev/\lev<=32) (hs:txt.length<=65536):
  Calls Tryz.prog 58 #[.pointer (some ⟨P,0,none⟩), .int .i64 (pre.length:Int), .int .i64 lev, .int .i64 5, .func (.func 59) #[.pointer (some ⟨P,0,none⟩)] #[]] w
   (VE w0.heap.size P txt (iI txt (bS txt lv) 5 false pre.length rest l nodes) w):=by
 obtain⟨R,i⟩:=exQ<|iI txt (bS txt lv) 5 false pre.length rest l nodes;rw[i];have aA:=ht.1;have aj:=h.nodesN;have o:w0.heap.size<=w.heap.size:=hb.size;obtain⟨hPl,ak,_,_⟩:=h.box;obtain⟨hl0,hl1⟩:=hlev;have HB:=hid hb;have HT:=hid ht;by_cases h5:eV rest=5
 ·cases rest with
  | nil=>cases h5
  | cons t r=>
   have b:t.kind=5:=h5;have a0:JR.ok r (t.sf,t.st) nodes=R:=by
    unfold iI at i;simp only[b,if_true] at i;exact i
   have CT:=hid (sQ _ P txt t r l nodes w h (by simp only[aV] at aA;omega) 5 b);subst a0;clear i h hb ht aj;go_enter Tryz.func58,Tryz.ntmps58;go_wp2_with fail;refine CT.out.mono ?_;rintro e w1 ⟨rfl,hj,hg⟩;go_wp2_with fail;go_ret;exact⟨rfl,hj,Fr.ofP hg ak o⟩
 ·have Y: ∃f,rest.length<f/\iP txt (bS txt lv) 5 false pre.length f [] rest l nodes=R:=by
   unfold iI at i;cases rest with
   | nil=>exact⟨1,by simp,i⟩
   | cons t r=>
    have b: ¬t.kind=5:=h5;simp only[b,if_false] at i;exact⟨_,by simp,i⟩
  obtain⟨f0,aK,aN⟩:=Y;have CT:=hid (rH _ P txt rest l nodes w h (by omega) 5 h5);have V:=hid h;have HL:=hid aN;have HM:=hid hmid;have aG:=hid aj;clear i h5 aN h hb ht hmid aj;go_enter Tryz.func58,Tryz.ntmps58;go_wp2_with fail;refine CT.out.mono ?_;rintro e w1 ⟨rfl,rfl⟩;go_wp2_with fail;go_loopw [11] (λ_ wr=> ∃(rs:List aQ) (ls:Sp) (ns:List aD) (x:aD) (post:List aD) (f:Nat),Hid (J w0.heap.size P txt rs ls ns wr)/\Hid (eH pre x post ns)/\Hid (iP txt (bS txt lv) 5 false pre.length f [] rs ls ns=R)/\rs.length<f/\nodes.length<=ns.length/\Hid (TB txt rs)/\ns.length+rs.length<=131074/\Hid (Fr w0.heap.size P w wr)) (λ_ wr=>restN P wr)
  case atStart=>exact⟨rest,l,nodes,x,post,f0,V,HM,HL,aK,aE _,HT,hN,hid (Fr.refl _ _ _)⟩
  case round=>
   clear hN aK HM HL V CT HT aA;obtain⟨rs,ls,ns,x,post,f,V,HM,HL,hf,hnn,HT,hN,I⟩:=hrel;obtain⟨f,rfl⟩: ∃f',f=f'+1:=⟨f-1,by omega⟩;have aS:=V.out.restN;have aZ:=hid V.out.nodesN;have hL:=HL.out;unfold iP gZ at hL;rw[if_pos rfl] at hL;have ae:w0.heap.size<=wr.heap.size:=aY o I.out.sz;have CI:=Sv w0 P txt lv IH;obtain⟨Q,hQ⟩:=exQ<|bS txt lv rs ls ns (0,0);have CI2:Hid (∀w',Below wr.heap.size wr w'->Calls Tryz.prog 59 #[.pointer (some ⟨P,0,none⟩), .int .i64 (33-(lv:Int))] w' (VE w0.heap.size P txt Q w')):=hid (λw' ax=>by have:=CI w' rs ls ns (33-(lv:Int)) (V.out.keep ax) ((HB.out.trans I.out.bel).trans (ax.mono ae)) HT.out hN rfl;rw[hQ] at this;exact this);rw[hQ] at hL;have HQ:=hid hQ;obtain⟨rv,z0,nv0,b1,b2,b3,b4,b5⟩:=V.out;obtain⟨p0,cap0,rfl⟩:=b4.slice;obtain⟨q0,q1,q2,q3,q4,_⟩:=b1.cells;have aH:z0.length=ns.length:=(by rw[<-b3,bK]);rw[aH] at q4;clear b1 b2 b3 b4 CI hQ HL aH;cases Q with
   | bad a er=>
    have aq:Hid (nodesN P w<=nodesN P wr.drew):=hid (by have e1:=aG.out;have e2:=aZ.out;show nodesN P w<=nodesN P wr;omega);have HF:Hid (JR.bad a er=R):=hid hL;clear hL;go_wp2_with fail;go_region;go_wp2_with fail;refine(CI2.out _ (aB _ _).drew).mono ?_;rintro e w4 ⟨rfl,K,q⟩;have N:=hid (I.out.trans ((Fr.of_below (aB _ _).drew ae).trans q));clear q;go_wp2_with fail;go_ret;rw[<-HF.out];exact⟨rfl,K.mono aq.out,N.out⟩
   | ok r1 l1 ns1=>
    obtain⟨more,rfl,L,F,⟨kd,aC⟩,aO⟩:=nO txt lv _ _ _ _ _ _ _ HQ.out;have E:=hid (HM.out.add aO L ns.length (ls.2,eW txt.length r1));have G:TB txt r1:=by rw[aC];exact HT.out.drop kd
    have U:=G.1;have hHT:eW txt.length r1<=65536:=by
     cases r1 with
     | nil=>exact hs
     | cons t r'=>have:=G.2 t gS;show t.sf<=65536;omega
    have aT:=hid G;have a3: ∃x0,(ns++more)[pre.length]?=some x0/\x0.kids.length<=131074/\x0.pcs.length<=131074:=by
     obtain⟨e1,e2,e3,e4⟩:=HM.out;refine⟨x,by rw[e1,mV,mC (aE _),Nat.sub_self];rfl,?_,?_⟩<;>
     ·have:=congrArg List.length e1;simp only[aW,aV] at this;omega
    have hpl:pre.length<ns.length:=by
     have:=congrArg List.length HM.out.1;simp only[aW,aV] at this;omega
    have al:=hid hL;clear hL G aC aO HM HQ V HT;go_wp2_with fail;go_region;go_wp2_with fail;refine(CI2.out _ (aB _ _).drew).mono ?_;rintro e w4 ⟨rfl,K,q⟩;have N:=hid (I.out.trans ((Fr.of_below (aB _ _).drew ae).trans q));have aw:w0.heap.size<=w4.heap.size:=aY o N.out.sz;obtain⟨z,nv,hz,p⟩:=K.toZ;obtain⟨x0,af,hk0,hp0⟩:=a3;obtain⟨y,hy,rfl⟩: ∃y:ND,z[pre.length]?=some y/\y.1=x0:=by
     rw[<-hz,cW] at af;obtain⟨y,h1,h2⟩:=rG.1 af;exact⟨y,h1,h2⟩
    have ar:z.length=ns.length+more.length:=(by rw[<-bK (f:=(·.1)),hz,aW]);obtain⟨g,cap,rfl,hcap⟩:=p.form (λe=>by rw[e] at hy;simp at hy);obtain⟨a5,_⟩:=p.at_.at_ hy 5 (by omega) rfl;have au:=p.at_.kids y (aX hy);have c4:=p.cells.2.1;rw[ar] at c4;have hzi:(pre.length:Int)<((ns.length+more.length:Nat):Int):=(by omega);have ao:=hid p;have HY:=hid hy;have HZ:=hid hz;have HZL:=hid ar;clear q K af hz ar p hy q0 q1 q2 q3 q4;go_wp2_with (at_builtin;go_must (refine Im (by rfl) (.tmp 42) (.tmp 44) rfl w0.heap.size w4 y.2.1 y.1.kids ns.length rfl au rfl (by omega) aw ?_);intro kv w5 ah ag T;obtain⟨ck,fk⟩:=ao.out.at_.cellK HY.out ag;obtain⟨gk,pk,rfl⟩:=uK ah);obtain⟨j,X⟩:=ao.out.kid (k:=ns.length) HY.out (H:=w4.heap.size+1) (by omega) aw ah ag T;obtain⟨W6,W⟩:=exQ<|w5.setCell ⟨g,pre.length*7+5,none⟩ (.slice (some ⟨gk,0,none⟩) (y.1.kids.length+1) pk);rw[W] at j X;rw[W];obtain⟨kv,ay⟩:=exQ (.slice (some ⟨gk,0,none⟩) (y.1.kids.length+1) pk:Value);rw[ay] at j;have az:pre.length<z.length:=(aR.1 HY.out).1;have M:(z.set pre.length ({ y.1 with kids:=y.1.kids++ [ns.length] },kv,y.2.2))[pre.length]?=some ({ y.1 with kids:=y.1.kids++ [ns.length] },kv,y.2.2):=(by rw[List.getElem?_set,if_pos rfl,if_pos az]);have aF:=hid (N.out.trans X);have Z:w0.heap.size<=W6.heap.size:=aY o aF.out.sz;have am:=hid j;have an:=hid M;have p6:W6.cell? ⟨g,pre.length*7+6,none⟩=some y.2.2:=(j.at_.at_ M 6 (by omega) rfl).1;have aP:g<W6.heap.size:=World.block_lt_of_cell? W6 _ p6;have av:=(j.keep (aB _ _).drew).at_.pcs _ (aX M);have CH:=hid (Bl _ P txt r1 _ _ W6.drew (j.keep (aB _ _).drew).toJ (by omega) (by omega));clear ck fk ah ag T a5 c4 au j X M W ay;go_region_law ((first
     | (go_simp;go_at_call 62;(with_reducible refine CH.out.mono ?_);rintro e w' ⟨rfl,rfl⟩)
     | (refine In (by rfl) (.tmp 52) (.tmp 57) (by rfl) w0.heap.size W6.drew y.2.2 y.1.pcs (ls.2,eW txt.length r1) (by rfl) av (by rfl) (by omega) Z ?_;intro kv2 w7 aa ai O;obtain⟨ck7,fk7⟩:=(am.out.keep (aB _ _).drew).at_.cellP an.out ai;obtain⟨gk2,pk2,rfl⟩:=uK aa)))
    all_goals
     obtain⟨aI,ap⟩:=(am.out.keep (aB _ _).drew).pc (k:=(ls.2,eW txt.length r1)) an.out (H:=W6.drew.heap.size+1) (by omega) Z aa ai O;have ad:=aI.toJ.cast ((Io (z:=z) (n:=pre.length) (k:=ns.length) (pc:=(ls.2,eW txt.length r1)) HY.out).trans (congrArg (eA pre.length ns.length (ls.2,eW txt.length r1)) HZ.out));obtain⟨W8,ab⟩:=exQ<|w7.setCell ⟨g,pre.length*7+6,none⟩ (.slice (some ⟨gk2,0,none⟩) (y.1.pcs.length+1) pk2);rw[ab] at ap ad;rw[ab];have C:=hid (aF.out.trans ((Fr.of_below (aB _ _).drew Z).trans ap));have m:=hid ad;clear ck7 fk7 aa ai O aI ap ad ab an am HY ao p6 av aP;by_cases h5:eV r1=5
     ·cases r1 with
      | nil=>cases h5
      | cons t r'=>
       have b:t.kind=5:=h5;have i:JR.ok r' (t.sf,t.st) (eA pre.length ns.length (ls.2,t.sf) (ns++more))=R:=by
        have:=al.out;simp only[b,if_true] at this;exact this
       have CT:=hid (sQ _ P txt t r' _ _ W8 m.out (by simp only[aV] at U;omega) 5 b);clear L F hN h5 b E;go_wp2_with fail;refine CT.out.mono ?_;rintro e w9 ⟨rfl,c,u⟩;have s:=hid (C.out.trans (Fr.ofP u ak (aY o C.out.sz)));have A:=hid c;clear u c;go_wp2_with fail;go_ret;rw[<-i];exact⟨rfl,A.out,s.out⟩
     ·have CT5:=hid (rH _ P txt r1 _ _ W8 m.out (by omega) 5 h5);by_cases h6:eV r1=6
      ·cases r1 with
       | nil=>cases h6
       | cons t r'=>
        have D:t.kind=6:=h6;have b: ¬t.kind=5:=h5;have i:iP txt (bS txt lv) 5 false pre.length f [] r' (t.sf,t.st) (eA pre.length ns.length (ls.2,t.sf) (ns++more))=R:=by
         have:=al.out;simp only[b,D,if_true,if_false] at this;exact this
        have HR:=hid i;have CT:=hid (sQ _ P txt t r' _ _ W8 m.out (by simp only[aV] at U;omega) 6 D);have a1:(eA pre.length ns.length (ls.2,t.sf) (ns++more)).length+r'.length<=131074:=by
         unfold eA;rw[oS,aW];simp only[aV] at F;omega
        have aM:nodes.length<=(eA pre.length ns.length (ls.2,t.sf) (ns++more)).length:=by
         unfold eA;rw[oS,aW];omega
        have aL:r'.length<rs.length/\r'.length<f:=by simp only[aV] at F;omega
        have aU:Hid (TB txt r'):=hid (aT.out.drop 1);clear L F hN h5 h6 b D i;go_wp2_with fail;refine CT5.out.mono ?_;rintro e w9 ⟨rfl,rfl⟩;go_wp2_with fail;refine CT.out.mono ?_;rintro e w9 ⟨rfl,c,u⟩;have s:=hid (C.out.trans (Fr.ofP u ak (aY o C.out.sz)));have A:=hid c;have a2:=c.restN;clear u c;go_wp2_with fail;go_roundw
        ·exact⟨r',_,_,_,_,f,A,E,HR,aL.2,aM,aU,a1,s⟩
        ·rw[aS,a2];exact aL.1
      ·have CT6:=hid (rH _ P txt r1 _ _ W8 m.out (by omega) 6 h6);have i:JR.bad (eW txt.length r1) 2=R:=by
        have:=al.out;cases r1 with
        | nil=>exact this
        | cons t r'=>
         have b: ¬t.kind=5:=h5;have D: ¬t.kind=6:=h6;simp only[b,D,if_false] at this;exact this
       have aq:Hid (nodesN P w<=nodesN P W8):=hid (by have e1:=aG.out;have e2:=m.out.nodesN;unfold eA at e2;rw[oS,aW] at e2;omega);have CF:=hid (pB _ P txt r1 _ _ 2 W8 m.out (by omega) (by omega));clear L F hN h5 h6 E;go_wp2_with fail;refine CT5.out.mono ?_;rintro e w9 ⟨rfl,rfl⟩;go_wp2_with fail;refine CT6.out.mono ?_;rintro e w9 ⟨rfl,rfl⟩;go_wp2_with fail;refine CF.out.mono ?_;rintro e w9 ⟨rfl,c,aJ⟩;have s:=hid (C.out.trans aJ);have A:=hid c;clear aJ c;go_wp2_with fail;go_ret;rw[<-i];exact⟨rfl,A.out.mono aq.out,s.out⟩
theorem J.apart {B P:Nat}{txt:List UInt8}{rest:List aQ}{l:Sp}{nodes:List aD}{w:World} (h:J B P txt rest l nodes w) {X:Nat}{cs:Array Value}{t:TypeId} (hX:w.heap[X]?=some (.cells cs t)) (ht:t≠75):X≠P:=by
 obtain⟨rv,z,nv,a,_⟩:=h;intro e;subst e;unfold cK at a;rw[hX] at a;injection a with a;injection a with _ a _;exact ht a
theorem HM.apart {b:Nat}{had:List (List UInt8)}{w:World} (h:HM b had w) {X:Nat}{cs:Array Value}{t:TypeId} (hX:w.heap[X]?=some (.cells cs t)):X≠b:=by
 obtain⟨es,c,a⟩:=h.obj;intro e;subst e;rw[hX] at a;cases a
theorem kR {w:World}{X:Nat}{u:Value}{t:TypeId} (h:w.heap[X]?=some (.cells #[u] t)):w.cell? ⟨X,0,none⟩=some u/\X<w.heap.size:=by
 refine⟨?_,aF h⟩;have:=World.news_of_block h 0 u rfl;have a:((⟨X,0,none⟩:Addr).add 0)=⟨X,0,none⟩:=by unfold Addr.add;split<;>simp_all
 rw[a] at this;exact this
theorem Tb {txt:List UInt8}{V:VF}{had:List (List UInt8)}{rest:List aQ}{last:Sp}{nodes:List aD}{r:List aQ}{l:Sp}{ns:List aD}{had':List (List UInt8)}
  (h:gZ txt V true had rest last nodes=(.ok r l ns,had')):had'.length<=had.length+1:=by
 unfold gZ at h;rw[if_neg (by decide)] at h;split at h
 ·injection h with h _;cases h
 ·split at h
  ·injection h with h _;cases h
  ·split at h
   ·injection h with h _;cases h
   ·split at h
    ·injection h with h _;cases h
    ·split at h
     ·injection h with h _;cases h
     ·injection h with _ h;rw[<-h];simp
def KE (B P b:Nat) (txt:List UInt8) (r:JR) (w:World) (e:Ending) (w':World):Prop:=match r with
 | .ok rr l ns=>e= .returned (.bool true)/\J B P txt rr l ns w'/\iR B P b w w'
 | .bad a er=>e= .returned (.bool false)/\sN B P (nodesN P w) a er w'/\iR B P b w w'
theorem Tc (w0:World) (P:Nat) (txt:List UInt8) (lv:Nat) (IH:VC w0 P txt lv) (b X Y:Nat) (w:World) (rest:List aQ) (l:Sp) (pre:List aD) (x:aD) (post nodes:List aD) (lev:Int)
  (h:J w0.heap.size P txt rest l nodes w) (hmid:eH pre x post nodes) (hb:Below w0.heap.size w0 w) (ht:TB txt rest) (hN:nodes.length+rest.length<=131074) (hl:lev+1=33-(lv:Int)) (hlev:0<=lev/\lev<=32) (hs:txt.length<=65536)
  (hX:w.heap[X]?=some (.cells #[.pointer (some ⟨P,0,none⟩)] 73)) (hY:w.heap[Y]?=some (.cells #[.map (some b)] 110)) (hm:HM b [] w) (hBb:w0.heap.size<=b) (hSV:cM w0) (hT:bZ w0):
  Calls Tryz.prog 58 #[.pointer (some ⟨P,0,none⟩), .int .i64 (pre.length:Int), .int .i64 lev, .int .i64 3, .func (.func 60) #[] #[.pointer (some ⟨X,0,none⟩), .pointer (some ⟨Y,0,none⟩)]] w
   (KE w0.heap.size P b txt (iI txt (bS txt lv) 3 true pre.length rest l nodes) w):=by
 obtain⟨R,m⟩:=exQ<|iI txt (bS txt lv) 3 true pre.length rest l nodes;rw[m];have av:=ht.1;have ay:=h.nodesN;have s:w0.heap.size<=w.heap.size:=hb.size;obtain⟨hPl,ab,_,_⟩:=h.box;obtain⟨hl0,hl1⟩:=hlev;have bp:=h.apart hX (by decide);have br:=h.apart hY (by decide);have bf:X≠b:=hm.apart hX;have bl:Y≠b:=hm.apart hY;obtain⟨_,_,au⟩:=hm.obj;have aa:b≠P:=h.box.2.2.2 b _ _ au;have a4:=hid (aJ hX hY);have aN:=hid hm;have HS:=hid (aJ hSV hT);have HB:=hid hb;have HT:=hid ht;by_cases h5:eV rest=3
 ·cases rest with
  | nil=>cases h5
  | cons t r=>
   have c:t.kind=3:=h5;have bi:JR.ok r (t.sf,t.st) nodes=R:=by
    unfold iI at m;simp only[c,if_true] at m;exact m
   have CT:=hid (sQ _ P txt t r l nodes w h (by simp only[aV] at av;omega) 3 c);subst bi;clear m h hb ht ay hX hY hm hSV hT au;go_enter Tryz.func58,Tryz.ntmps58;go_wp2_with fail;refine CT.out.mono ?_;rintro e w1 ⟨rfl,hj,hg⟩;go_wp2_with fail;go_ret;exact⟨rfl,hj,(Fr.ofP hg ab s).toX⟩
 ·have al: ∃f,rest.length<f/\iP txt (bS txt lv) 3 true pre.length f [] rest l nodes=R:=by
   unfold iI at m;cases rest with
   | nil=>exact⟨1,by simp,m⟩
   | cons t r=>
    have c: ¬t.kind=3:=h5;simp only[c,if_false] at m;exact⟨_,by simp,m⟩
  obtain⟨f0,a2,a7⟩:=al;have CT:=hid (rH _ P txt rest l nodes w h (by omega) 3 h5);have HJ:=hid h;have HL:=hid a7;have o:=hid hmid;have aU:=hid ay;clear m h5 a7 h hb ht hmid ay hX hY hm hSV hT au;go_enter Tryz.func58,Tryz.ntmps58;go_wp2_with fail;refine CT.out.mono ?_;rintro e w1 ⟨rfl,rfl⟩;go_wp2_with fail;go_loopw [11] (λ_ wr=> ∃(had:List (List UInt8)) (rs:List aQ) (ls:Sp) (ns:List aD) (x:aD) (post:List aD) (f:Nat),Hid (HM b had wr)/\had.length+rs.length<=65537/\Hid (J w0.heap.size P txt rs ls ns wr)/\Hid (eH pre x post ns)/\Hid (iP txt (bS txt lv) 3 true pre.length f had rs ls ns=R)/\rs.length<f/\nodes.length<=ns.length/\Hid (TB txt rs)/\ns.length+rs.length<=131074/\Hid (iR w0.heap.size P b w wr)) (λ_ wr=>restN P wr)
  case atStart=>exact⟨[],rest,l,nodes,x,post,f0,aN,by simpa using av,HJ,o,HL,a2,aE _,HT,hN,hid (Fr.refl _ _ _).toX⟩
  case round=>
   clear hN a2 o HL HJ CT HT av aN;obtain⟨had,rs,ls,ns,x,post,f,bc,hhad,HJ,o,HL,hf,hnn,HT,hN,u⟩:=hrel;obtain⟨f,rfl⟩: ∃f',f=f'+1:=⟨f-1,by omega⟩;have ba:=HJ.out.restN;have bh:=hid HJ.out.nodesN;have hL:=HL.out;unfold iP at hL;have Z:w0.heap.size<=wr.heap.size:=aY s u.out.sz;obtain⟨Q,hQ⟩:=exQ<|gZ txt (bS txt lv) true had rs ls ns;have ap:=kR (u.out.blk X _ a4.out.1 bp bf (by rfl));have ak:=kR (u.out.blk Y _ a4.out.2 br bl (by rfl));have CI2:Hid (∀w',Below wr.heap.size wr w'->Calls Tryz.prog 60 #[.int .i64 (33-(lv:Int)), .pointer (some ⟨X,0,none⟩), .pointer (some ⟨Y,0,none⟩)] w' (ME w0.heap.size P b txt Q w')):=hid (λw' K=>by have:=Sz w0 P txt lv IH b had w' rs ls ns (33-(lv:Int)) X Y (by rw[K.cell (p:=⟨X,0,none⟩) ap.2];exact ap.1) (by rw[K.cell (p:=⟨Y,0,none⟩) ak.2];exact ak.1) (HJ.out.keep K) ((HB.out.trans u.out.bel).trans (K.mono Z)) HT.out hN rfl (bc.out.fr (Fr.of_below (B:=w0.heap.size) (P:=P) K Z) aa) hBb (by omega) hs HS.out.1 HS.out.2;rw[hQ] at this;exact this);clear ap ak;rw[hQ] at hL;have HQ:=hid hQ;obtain⟨rv,z0,nv0,b1,b2,b3,b4,b5⟩:=HJ.out;obtain⟨p0,cap0,rfl⟩:=b4.slice;obtain⟨q0,q1,q2,q3,q4,_⟩:=b1.cells;have aZ:z0.length=ns.length:=(by rw[<-b3,bK]);rw[aZ] at q4;clear b1 b2 b3 b4 hQ HL aZ;obtain⟨Q,i⟩:=Q;cases Q with
   | bad a er=>
    have aG:Hid (nodesN P w<=nodesN P wr.drew):=hid (by have e1:=aU.out;have e2:=bh.out;show nodesN P w<=nodesN P wr;omega);have HF:Hid (JR.bad a er=R):=hid hL;clear hL;go_wp2_with fail;go_region;go_wp2_with fail;refine(CI2.out _ (aB _ _).drew).mono ?_;rintro e w4 ⟨rfl,U,G⟩;have af:=hid (u.out.trans ((Fr.of_below (aB _ _).drew Z).toX.trans G));clear G;go_wp2_with fail;go_ret;rw[<-HF.out];exact⟨rfl,U.mono aG.out,af.out⟩
   | ok r1 l1 ns1=>
    obtain⟨more,rfl,V,F,⟨kd,aS⟩,a8⟩:=vP (nO txt lv) HQ.out;have hh2:=Tb HQ.out;have N:=hid (o.out.add a8 V ns.length (ls.2,eW txt.length r1));have O:TB txt r1:=by rw[aS];exact HT.out.drop kd
    have ai:=O.1;have hHT:eW txt.length r1<=65536:=by
     cases r1 with
     | nil=>exact hs
     | cons t r'=>have:=O.2 t gS;show t.sf<=65536;omega
    have bb:=hid O;have bq: ∃x0,(ns++more)[pre.length]?=some x0/\x0.kids.length<=131074/\x0.pcs.length<=131074:=by
     obtain⟨e1,e2,e3,e4⟩:=o.out;refine⟨x,by rw[e1,mV,mC (aE _),Nat.sub_self];rfl,?_,?_⟩<;>
     ·have:=congrArg List.length e1;simp only[aW,aV] at this;omega
    have hpl:pre.length<ns.length:=by
     have:=congrArg List.length o.out.1;simp only[aW,aV] at this;omega
    have az:=hid hL;clear hL O aS a8 o HQ HJ HT;go_wp2_with fail;go_region;go_wp2_with fail;refine(CI2.out _ (aB _ _).drew).mono ?_;rintro e w4 ⟨rfl,U,aK,G⟩;have af:=hid (u.out.trans ((Fr.of_below (aB _ _).drew Z).toX.trans G));have bg:=hid aK;have aM:w0.heap.size<=w4.heap.size:=aY s af.out.sz;obtain⟨z,nv,hz,E⟩:=U.toZ;obtain⟨x0,aq,hk0,hp0⟩:=bq;obtain⟨y,hy,rfl⟩: ∃y:ND,z[pre.length]?=some y/\y.1=x0:=by
     rw[<-hz,cW] at aq;obtain⟨y,h1,h2⟩:=rG.1 aq;exact⟨y,h1,h2⟩
    have aH:z.length=ns.length+more.length:=(by rw[<-bK (f:=(·.1)),hz,aW]);obtain⟨g,cap,rfl,hcap⟩:=E.form (λe=>by rw[e] at hy;simp at hy);obtain⟨a5,_⟩:=E.at_.at_ hy 5 (by omega) rfl;have aI:=E.at_.kids y (aX hy);have c4:=E.cells.2.1;rw[aH] at c4;have hzi:(pre.length:Int)<((ns.length+more.length:Nat):Int):=(by omega);have aF:=hid E;have HY:=hid hy;have HZ:=hid hz;have HZL:=hid aH;clear G U aK aq hz aH E hy q0 q1 q2 q3 q4;go_wp2_with (at_builtin;go_must (refine Im (by rfl) (.tmp 42) (.tmp 44) rfl w0.heap.size w4 y.2.1 y.1.kids ns.length rfl aI rfl (by omega) aM ?_);intro kv w5 aw ar ah;obtain⟨ck,fk⟩:=aF.out.at_.cellK HY.out ar;obtain⟨gk,pk,rfl⟩:=uK aw);obtain⟨q,T⟩:=aF.out.kid (k:=ns.length) HY.out (H:=w4.heap.size+1) (by omega) aM aw ar ah;obtain⟨W6,aj⟩:=exQ<|w5.setCell ⟨g,pre.length*7+5,none⟩ (.slice (some ⟨gk,0,none⟩) (y.1.kids.length+1) pk);rw[aj] at q T;rw[aj];obtain⟨kv,aO⟩:=exQ (.slice (some ⟨gk,0,none⟩) (y.1.kids.length+1) pk:Value);rw[aO] at q;have aP:pre.length<z.length:=(aR.1 HY.out).1;have ae:(z.set pre.length ({ y.1 with kids:=y.1.kids++ [ns.length] },kv,y.2.2))[pre.length]?=some ({ y.1 with kids:=y.1.kids++ [ns.length] },kv,y.2.2):=(by rw[List.getElem?_set,if_pos rfl,if_pos aP]);have aT:=hid (af.out.trans T.toX);have bo:Hid (HM b i W6):=hid (bg.out.fr T aa);have W:w0.heap.size<=W6.heap.size:=aY s aT.out.sz;have aA:=hid q;have aC:=hid ae;have p6:W6.cell? ⟨g,pre.length*7+6,none⟩=some y.2.2:=(q.at_.at_ ae 6 (by omega) rfl).1;have a9:g<W6.heap.size:=World.block_lt_of_cell? W6 _ p6;have aL:=(q.keep (aB _ _).drew).at_.pcs _ (aX ae);have CH:=hid (Bl _ P txt r1 _ _ W6.drew (q.keep (aB _ _).drew).toJ (by omega) (by omega));clear ck fk aw ar ah a5 c4 aI q T ae aj aO;go_region_law ((first
     | (go_simp;go_at_call 62;(with_reducible refine CH.out.mono ?_);rintro e w' ⟨rfl,rfl⟩)
     | (refine In (by rfl) (.tmp 52) (.tmp 57) (by rfl) w0.heap.size W6.drew y.2.2 y.1.pcs (ls.2,eW txt.length r1) (by rfl) aL (by rfl) (by omega) W ?_;intro kv2 w7 am ax ag;obtain⟨ck7,fk7⟩:=(aA.out.keep (aB _ _).drew).at_.cellP aC.out ax;obtain⟨gk2,pk2,rfl⟩:=uK am)))
    all_goals
     obtain⟨a0,ad⟩:=(aA.out.keep (aB _ _).drew).pc (k:=(ls.2,eW txt.length r1)) aC.out (H:=W6.drew.heap.size+1) (by omega) W am ax ag;have ao:=a0.toJ.cast ((Io (z:=z) (n:=pre.length) (k:=ns.length) (pc:=(ls.2,eW txt.length r1)) HY.out).trans (congrArg (eA pre.length ns.length (ls.2,eW txt.length r1)) HZ.out));obtain⟨W8,an⟩:=exQ<|w7.setCell ⟨g,pre.length*7+6,none⟩ (.slice (some ⟨gk2,0,none⟩) (y.1.pcs.length+1) pk2);rw[an] at ad ao;rw[an];have C:=hid (aT.out.trans ((Fr.of_below (aB _ _).drew W).trans ad).toX);have D:=hid ao;have bj:Hid (HM b i W8):=hid (bo.out.fr ((Fr.of_below (aB _ _).drew W).trans ad) aa);clear ck7 fk7 am ax ag a0 ad ao an aC aA HY aF p6 aL a9;by_cases h5:eV r1=3
     ·cases r1 with
      | nil=>cases h5
      | cons t r'=>
       have c:t.kind=3:=h5;have m:JR.ok r' (t.sf,t.st) (eA pre.length ns.length (ls.2,t.sf) (ns++more))=R:=by
        have:=az.out;simp only[c,if_true] at this;exact this
       have CT:=hid (sQ _ P txt t r' _ _ W8 D.out (by simp only[aV] at ai;omega) 3 c);clear V F hN h5 c N;go_wp2_with fail;refine CT.out.mono ?_;rintro e w9 ⟨rfl,j,A⟩;have I:=hid (C.out.trans (Fr.ofP (B:=w0.heap.size) A ab (aY s C.out.sz)).toX);have L:=hid j;clear A j;go_wp2_with fail;go_ret;rw[<-m];exact⟨rfl,L.out,I.out⟩
     ·have CT5:=hid (rH _ P txt r1 _ _ W8 D.out (by omega) 3 h5);by_cases h6:eV r1=6
      ·cases r1 with
       | nil=>cases h6
       | cons t r'=>
        have M:t.kind=6:=h6;have c: ¬t.kind=3:=h5;have m:iP txt (bS txt lv) 3 true pre.length f i r' (t.sf,t.st) (eA pre.length ns.length (ls.2,t.sf) (ns++more))=R:=by
         have:=az.out;simp only[c,M,if_true,if_false] at this;exact this
        have HR:=hid m;have CT:=hid (sQ _ P txt t r' _ _ W8 D.out (by simp only[aV] at ai;omega) 6 M);have bk:(eA pre.length ns.length (ls.2,t.sf) (ns++more)).length+r'.length<=131074:=by
         unfold eA;rw[oS,aW];simp only[aV] at F;omega
        have bs:i.length+r'.length<=65537:=by simp only[aV] at F;omega
        have a6:nodes.length<=(eA pre.length ns.length (ls.2,t.sf) (ns++more)).length:=by
         unfold eA;rw[oS,aW];omega
        have a3:r'.length<rs.length/\r'.length<f:=by simp only[aV] at F;omega
        have bd:Hid (TB txt r'):=hid (bb.out.drop 1);clear V F hN h5 h6 c M m;go_wp2_with fail;refine CT5.out.mono ?_;rintro e w9 ⟨rfl,rfl⟩;go_wp2_with fail;refine CT.out.mono ?_;rintro e w9 ⟨rfl,j,A⟩;have I:=hid (C.out.trans (Fr.ofP (B:=w0.heap.size) A ab (aY s C.out.sz)).toX);have L:=hid j;have bm:=j.restN;have bn:Hid (HM b i w9):=hid (bj.out.fr (Fr.ofP (B:=w0.heap.size) A ab (aY s C.out.sz)) aa);clear A j;go_wp2_with fail;go_roundw
        ·exact⟨i,r',_,_,_,_,f,bn,bs,L,N,HR,a3.2,a6,bd,bk,I⟩
        ·rw[ba,bm];exact a3.1
      ·have CT6:=hid (rH _ P txt r1 _ _ W8 D.out (by omega) 6 h6);have m:JR.bad (eW txt.length r1) 2=R:=by
        have:=az.out;cases r1 with
        | nil=>exact this
        | cons t r'=>
         have c: ¬t.kind=3:=h5;have M: ¬t.kind=6:=h6;simp only[c,M,if_false] at this;exact this
       have aG:Hid (nodesN P w<=nodesN P W8):=hid (by have e1:=aU.out;have e2:=D.out.nodesN;unfold eA at e2;rw[oS,aW] at e2;omega);have CF:=hid (pB _ P txt r1 _ _ 2 W8 D.out (by omega) (by omega));clear V F hN h5 h6 N;go_wp2_with fail;refine CT5.out.mono ?_;rintro e w9 ⟨rfl,rfl⟩;go_wp2_with fail;refine CT6.out.mono ?_;rintro e w9 ⟨rfl,rfl⟩;go_wp2_with fail;refine CF.out.mono ?_;rintro e w9 ⟨rfl,j,a1⟩;have I:=hid (C.out.trans a1.toX);have L:=hid j;clear a1 j;go_wp2_with fail;go_ret;rw[<-m];exact⟨rfl,L.out.mono aG.out,I.out⟩
def W1 (w:World) (P:Nat) (key:Sp):World:=(w.alloc (.cells #[.pointer (some ⟨P,0,none⟩)] 73)).alloc (.cells #[.int .i64 (key.1:Int), .int .i64 (key.2:Int)] 59)
theorem W1.bel (w:World) (P:Nat) (key:Sp):Below w.heap.size w (W1 w P key):=(aI w _).trans ((aI _ _).mono (by simp))
theorem W1.X (w:World) (P:Nat) (key:Sp):(W1 w P key).heap[w.heap.size]?=some (.cells #[.pointer (some ⟨P,0,none⟩)] 73):=by
 have h:=(aI (w.alloc (.cells #[.pointer (some ⟨P,0,none⟩)] 73)) (.cells #[.int .i64 (key.1:Int), .int .i64 (key.2:Int)] 59)).block w.heap.size (by simp);exact h.trans (heap_alloc_new w _)
theorem W1.Y (w:World) (P:Nat) (key:Sp):(W1 w P key).heap[w.heap.size+1]?=some (.cells #[.int .i64 (key.1:Int), .int .i64 (key.2:Int)] 59):=by
 have h:=heap_alloc_new (w.alloc (.cells #[.pointer (some ⟨P,0,none⟩)] 73)) (.cells #[.int .i64 (key.1:Int), .int .i64 (key.2:Int)] 59);have e:(w.alloc (.cells #[.pointer (some ⟨P,0,none⟩)] 73)).heap.size=w.heap.size+1:=by simp
 rw[e] at h;exact h
theorem rI {w:World}{X:Nat}{u v:Value}{t:TypeId} (h:w.heap[X]?=some (.cells #[u,v] t)):w.cell? ⟨X,0,none⟩=some u/\w.cell? ⟨X,1,none⟩=some v:=by
 have b:=World.news_of_block h 0 u rfl;have a:=World.news_of_block h 1 v rfl;have c:((⟨X,0,none⟩:Addr).add 0)=⟨X,0,none⟩:=by unfold Addr.add;split<;>simp_all
 have e:((⟨X,0,none⟩:Addr).add 1)=⟨X,1,none⟩:=by unfold Addr.add;split<;>simp_all
 rw[c] at b;rw[e] at a;exact⟨b,a⟩
theorem VE.bad_of {B P:Nat}{txt:List UInt8}{a:Nat}{er:Int}{w w1 w':World}{e:Ending} (h:Bm B P a er w1 e w') (hn:nodesN P w<=nodesN P w1) (hf:Fr B P w w1):VE B P txt (.bad a er) w e w':=
 ⟨h.1,h.2.1.mono hn,hf.trans h.2.2⟩
theorem Ip (w0:World) (P:Nat) (txt:List UInt8) (hs:txt.length<=65536) (w:World) (rest:List aQ) (l:Sp) (nodes:List aD) (key:Sp) (lev:Int) (h:J w0.heap.size P txt rest l nodes w) (hb:Below w0.heap.size w0 w) (hr:rest.length<=65537)
  (hk:cU (eV rest)=0):
  Calls Tryz.prog 27 #[.pointer (some ⟨P,0,none⟩), .int .i64 lev, .agg #[.int .i64 (key.1:Int), .int .i64 (key.2:Int)]] w (VE w0.heap.size P txt (.bad (eW txt.length rest) 2) w):=by
 have a:=h.keep (W1.bel w P key);have CK:=hid (sP _ P txt rest l nodes _ a (by omega));have CO:=hid (yL (eV rest) (W1 w P key));rw[hk] at CO;have CF:=hid (pB _ P txt rest l nodes 2 _ a (by omega) (by omega));have hX:=(kR (W1.X w P key)).1;have c:=hid (nQ (h.nodesN.trans a.nodesN.symm));have f:=hid (Fr.of_below (P:=P) (W1.bel w P key) hb.size);clear h a hb;go_enter Tryz.func27,Tryz.ntmps27;go_upto_region 1 with fail;change Code.wp _ _ _ _ (W1 w P key);go_wp2_with fail;refine CK.out.mono ?_;rintro e w2 ⟨rfl,rfl⟩;go_wp2_with fail;refine CO.out.mono ?_;rintro e w2 ⟨rfl,rfl⟩;go_wp2_with fail;refine CF.out.mono ?_;rintro e w3 b;have i:=hid (VE.bad_of (txt:=txt) b c.out f.out);obtain⟨rfl, -, -⟩:=b;go_wp2_with fail;go_ret;exact i.out
theorem Td (w0:World) (P:Nat) (txt:List UInt8) (hs:txt.length<=65536) (w:World) (rest:List aQ) (l:Sp) (nodes:List aD) (key:Sp) (lev:Int) (h:J w0.heap.size P txt rest l nodes w) (hb:Below w0.heap.size w0 w) (hr:rest.length<=65537)
  (hk:cU (eV rest)≠0) (hlev:32<lev):
  Calls Tryz.prog 27 #[.pointer (some ⟨P,0,none⟩), .int .i64 lev, .agg #[.int .i64 (key.1:Int), .int .i64 (key.2:Int)]] w (VE w0.heap.size P txt (.bad (eW txt.length rest) 5) w):=by
 have a:=h.keep (W1.bel w P key);have CK:=hid (sP _ P txt rest l nodes _ a (by omega));have CO:=hid (yL (eV rest) (W1 w P key));obtain⟨q,c⟩:=exQ<|cU (eV rest);rw[c] at CO hk;have d0:((q:Int)==0)=false:=aK.2 (by omega);have d1:decide (32<lev)=true:=aM hlev;have CF:=hid (pB _ P txt rest l nodes 5 _ a (by omega) (by omega));have hX:=(kR (W1.X w P key)).1;have f:=hid (nQ (h.nodesN.trans a.nodesN.symm));have i:=hid (Fr.of_below (P:=P) (W1.bel w P key) hb.size);clear h a hb;go_enter Tryz.func27,Tryz.ntmps27;go_upto_region 1 with fail;change Code.wp _ _ _ _ (W1 w P key);go_wp2_with fail;refine CK.out.mono ?_;rintro e w2 ⟨rfl,rfl⟩;go_wp2_with fail;refine CO.out.mono ?_;rintro e w2 ⟨rfl,rfl⟩;go_wp2_with fail;refine CF.out.mono ?_;rintro e w3 b;have j:=hid (VE.bad_of (txt:=txt) b f.out i.out);obtain⟨rfl, -, -⟩:=b;go_wp2_with fail;go_ret;exact j.out
theorem Te (w0:World) (P:Nat) (txt:List UInt8) (hs:txt.length<=65536) (w:World) (rest:List aQ) (l:Sp) (nodes:List aD) (key:Sp) (lev:Int) (h:J w0.heap.size P txt rest l nodes w) (hb:Below w0.heap.size w0 w) (hr:rest.length<=65537)
  (hk:cU (eV rest)≠0) (hlev:lev<=32) (hm:nodes.length=4096):
  Calls Tryz.prog 27 #[.pointer (some ⟨P,0,none⟩), .int .i64 lev, .agg #[.int .i64 (key.1:Int), .int .i64 (key.2:Int)]] w (VE w0.heap.size P txt (.bad (eW txt.length rest) 6) w):=by
 have a:=h.keep (W1.bel w P key);have CK:=hid (sP _ P txt rest l nodes _ a (by omega));have CO:=hid (yL (eV rest) (W1 w P key));obtain⟨q,j⟩:=exQ<|cU (eV rest);rw[j] at CO hk;have d0:((q:Int)==0)=false:=aK.2 (by omega);have d1:decide (32<lev)=false:=aH (by omega);have CF:=hid (pB _ P txt rest l nodes 6 _ a (by omega) (by omega));have hX:=(kR (W1.X w P key)).1;have k:=hid (nQ (h.nodesN.trans a.nodesN.symm));have f:=hid (Fr.of_below (P:=P) (W1.bel w P key) hb.size);obtain⟨rv,z,nv,b1,_,b3,b4,_⟩:=a;obtain⟨p0,c0,rfl⟩:=b4.slice;have q4:=b1.cells.2.2.2.2.1;have c:z.length=4096:=by rw[<-hm,<-b3,bK]
 rw[c] at q4;clear h hb b1 b3 b4 c hm;go_enter Tryz.func27,Tryz.ntmps27;go_upto_region 1 with fail;change Code.wp _ _ _ _ (W1 w P key);go_wp2_with fail;refine CK.out.mono ?_;rintro e w2 ⟨rfl,rfl⟩;go_wp2_with fail;refine CO.out.mono ?_;rintro e w2 ⟨rfl,rfl⟩;go_wp2_with fail;refine CF.out.mono ?_;rintro e w3 b;have i:=hid (VE.bad_of (txt:=txt) b k.out f.out);obtain⟨rfl, -, -⟩:=b;go_wp2_with fail;go_ret;exact i.out
def KO (B P:Nat) (txt:List UInt8) (n:Nat) (R:JR) (b:Bool) (w:World):Prop:=match R with
 | .ok rr l ns=>b=true/\J B P txt rr l ns w/\n<ns.length
 | .bad a er=>b=false/\sN B P (n+1) a er w
theorem cI.to {B P:Nat}{txt:List UInt8}{rv nv:Value}{l:Sp}{a:Nat}{er:Int}{z:List ND}{w:World}{n:Nat} (hb:cK w P txt rv l nv a er) (h:cI B z nv w) (hn:n<z.length):
  ∃g cap y,nv= .slice (some ⟨g,0,none⟩) z.length cap/\z[n]?=some y/\w.cell? ⟨g,n*7+2,none⟩=some (.int .i64 (y.1.st:Int))/\w.frozen? ⟨g,n*7+2,none⟩=false/\(∀X cs t,w.heap[X]?=some (.cells cs t (0,0))->81≠t->X≠g)/\
   cK (w.setCell ⟨g,n*7+2,none⟩ (.int .i64 (l.2:Int))) P txt rv l nv a er/\(∀rest,TV w rv rest->TV (w.setCell ⟨g,n*7+2,none⟩ (.int .i64 (l.2:Int))) rv rest)/\
   cI B (z.set n ({ y.1 with st:=l.2 },y.2)) nv (w.setCell ⟨g,n*7+2,none⟩ (.int .i64 (l.2:Int)))/\ ∀P',Fr B P' w (w.setCell ⟨g,n*7+2,none⟩ (.int .i64 (l.2:Int))):=by
 obtain⟨g,cap,cur,rfl,_,f,b⟩:=h.form (λe=>by rw[e] at hn;simp at hn);have c:z[n]?=some z[n]:=bE hn;obtain⟨c1,c2⟩:=h.at_ c 2 (by omega) rfl;have o:=h.field (y':=({ z[n].1 with st:=l.2 },z[n].2)) c 2 (by omega) (.int .i64 (l.2:Int)) rfl rfl rfl rfl;rw[List.length_set] at o;have m:=λrest (i:TV w rv rest)=>uJ hb i (gT w g (n*7+2) (.int .i64 (l.2:Int))) (λk m=>by have e:g=k:=bD m;subst e;exact⟨cur,_,b,by decide,by decide⟩);refine⟨g,cap,z[n],rfl,c,c1,c2,λX cs t p j e=>?_,?_,λrest i=>(m rest i).2,o,λP'=>Fr.setM b (by decide) f⟩
 ·subst e;rw[p] at b;injection b with b;injection b with _ b;exact j b.symm
 ·refine((gT w g (n*7+2) (.int .i64 (l.2:Int))).block P hb.lt (λe=>?_)).trans hb;have e:P=g:=bD e;subst e;unfold cK at hb;rw[b] at hb;injection hb with hb;injection hb with _ hb;exact absurd hb (by decide)
theorem KO.fin {B P:Nat}{txt:List UInt8}{n:Nat}{R:JR}{b:Bool}{w:World} (h:KO B P txt n R b w): ∃(lt g cap len st:Nat),w.cell? ⟨P,3,none⟩=some (.int .i64 (lt:Int))/\w.cell? ⟨P,4,none⟩=some (.slice (some ⟨g,0,none⟩) len cap)/\n<len/\
  w.cell? ⟨g,n*7+2,none⟩=some (.int .i64 (st:Int))/\w.frozen? ⟨g,n*7+2,none⟩=false/\(∀X cs t,w.heap[X]?=some (.cells cs t (0,0))->81≠t->X≠g)/\P≠g/\
  (∀w00,nodesN P w00<=n+1->Fr B P w00 w->VE B P txt (tZ n R) w00 (.returned (.bool b)) (w.setCell ⟨g,n*7+2,none⟩ (.int .i64 (lt:Int)))):=by
 cases R with
 | ok rr l ns=>
  obtain⟨rfl,⟨rv,z,nv,c,o,rfl,i,j⟩,f⟩:=h;rw[bK] at f;obtain⟨g,cap,y,rfl,m,c1,c2,e,a1,a2,a3,a4⟩:=cI.to c i f;obtain⟨_,_,_,e3,e4,_⟩:=c.cells;refine⟨l.2,g,cap,z.length,y.1.st,e3,e4,f,c1,c2,e,e P _ _ c (by decide),λw00 _ k=>⟨rfl,⟨rv,_,_,a1,a2 _ o,?_,a3,j⟩,k.trans (a4 P)⟩⟩;unfold iO;rw[Bo _ n _ y.1 (by rw[cW,m];rfl),List.map_set]
 | bad a er=>
  obtain⟨rfl,txt',rv,l,z,nv,c,i,j,f⟩:=h;obtain⟨g,cap,y,rfl,m,c1,c2,e,a1,a2,a3,a4⟩:=cI.to c i (show n<z.length by omega);obtain⟨_,_,_,e3,e4,_⟩:=c.cells;exact⟨l.2,g,cap,z.length,y.1.st,e3,e4,by omega,c1,c2,e,e P _ _ c (by decide),λw00 hn k=>⟨rfl,⟨txt',rv,l,_,_,a1,a3,j,by rw[List.length_set];omega⟩,k.trans (a4 P)⟩⟩
theorem Iq {k:Nat} (h4:k≠4) (h2:k≠2):cU k≠5/\cU k≠6:=by
 unfold cU;rw[if_neg h4,if_neg h2];constructor<;>(repeat' split)<;>decide
theorem eH.lt {pre:List aD}{x:aD}{post nodes:List aD} (h:eH pre x post nodes):pre.length<nodes.length:=by
 rw[h.1,aW,aV];omega
theorem KO.of {B P:Nat}{txt:List UInt8}{n:Nat}{R:JR}{w w':World}{e:Ending} (h:VE B P txt R w e w') (hn:nodesN P w=n+1) (hl: ∀rr l ns,R= .ok rr l ns->n<ns.length):
  ∃b,e= .returned (.bool b)/\KO B P txt n R b w'/\Fr B P w w':=by
 cases R with
 | ok rr l ns=>exact⟨true,h.1,⟨rfl,h.2.1,hl _ _ _ rfl⟩,h.2.2⟩
 | bad a er=>
  refine⟨false,h.1,⟨rfl,?_⟩,h.2.2⟩;have:=h.2.1;rw[hn] at this;exact this
theorem KO.ofX {B P b0:Nat}{txt:List UInt8}{n:Nat}{R:JR}{w w':World}{e:Ending} (h:KE B P b0 txt R w e w') (hn:nodesN P w=n+1) (hl: ∀rr l ns,R= .ok rr l ns->n<ns.length):
  ∃b,e= .returned (.bool b)/\KO B P txt n R b w'/\iR B P b0 w w':=by
 cases R with
 | ok rr l ns=>exact⟨true,h.1,⟨rfl,h.2.1,hl _ _ _ rfl⟩,h.2.2⟩
 | bad a er=>
  refine⟨false,h.1,⟨rfl,?_⟩,h.2.2⟩;have:=h.2.1;rw[hn] at this;exact this
theorem VE.drew {B P:Nat}{txt:List UInt8}{R:JR}{w w':World}{e:Ending} (h:VE B P txt R w e w'):VE B P txt R w e w'.drew:=by
 cases R with
 | ok rr l ns=>exact⟨h.1,h.2.1.keep (aB _ _).drew,h.2.2.trans (Fr.of_below (aB _ _).drew (by have:=h.2.1.box;omega))⟩
 | bad a er=>
  obtain⟨c,⟨txt',rv,l,z,nv,j1,j2,j3,j4⟩,b⟩:=h;exact⟨c,⟨txt',rv,l,z,nv,j1.keep (aB _ _).drew,j2.keep (aB _ _).drew,j3,j4⟩,b.trans (Fr.of_below (aB _ _).drew (by have:=j1.lt;omega))⟩
def WM (w:World):World:=(w.alloc (.map #[] 0)).alloc (.cells #[.map (some w.heap.size)] 110)
theorem WM.facts (w:World):Below w.heap.size w (WM w)/\HM w.heap.size [] (WM w)/\(WM w).heap[w.heap.size+1]?=some (.cells #[.map (some w.heap.size)] 110):=by
 have b1:=aI w (.map #[] 0);have b2:=aI (w.alloc (.map #[] 0)) (.cells #[.map (some w.heap.size)] 110);have b:(w.alloc (.map #[] 0)).heap.size=w.heap.size+1:=by simp
 have a:=heap_alloc_new (w.alloc (.map #[] 0)) (.cells #[.map (some w.heap.size)] 110);rw[b] at a;exact⟨b1.trans (b2.mono (by simp)),World.ownsMap.alloc (World.ownsMap_made w _ _ _) _,a⟩
structure PF (val:Nat->Value) (S:World->Prop) (W0:World) (ob:Obj) (Own:Value->World->Prop) (P:Nat) (d:Nat->Bool) (v:Nat->Value) (w':World):Prop where
 cl: ∀i,i<19->i≠16->d i=true->v (38+i)=val i
 st:S w'
 up:d 16=true->d 15=true/\d 4=true
 up2:d 19=true->d 16=true
 w0:d 15=false->w'=W0
 w1:d 15=true->d 16=false->w'=W0.alloc ob
 w2:d 16=true->d 19=false->Own (v 54) w'
 w3:d 19=true-> ∃nv w1,Own nv w1/\w'=w1.setCell ⟨P,4,none⟩ nv
section
variable {val:Nat->Value}{S:World->Prop}{W0:World}{ob:Obj}{Own:Value->World->Prop}{P:Nat}{d:Nat->Bool}{v:Nat->Value}{w':World}
theorem Tf {d:Nat->Bool}{i j:Nat} (h:bF d i j=true):j=i\/d j=true:=by
 unfold bF at h;by_cases hj:j=i
 ·exact .inl hj
 ·rw[if_neg hj] at h;exact .inr h
theorem lJ {v:Nat->Value}{k:Nat}{x:Value}:bP v (some k) x k=x:=if_pos rfl
theorem bW {v:Nat->Value}{k j:Nat}{x:Value} (h:j≠k):bP v (some k) x j=v j:=if_neg h
theorem PF.clSet (h:PF val S W0 ob Own P d v w') {i k:Nat} (hk:k=38+i) {x:Value} (hx:i=16\/x=val i): ∀j,j<19->j≠16->bF d i j=true->bP v (some k) x (38+j)=val j:=by
 subst hk;intro j c a b;by_cases hji:j=i
 ·subst hji;rw[lJ];exact hx.resolve_left a
 ·rw[bW (by omega)];exact h.cl j c a ((Tf b).resolve_left hji)
theorem PF.pure (h:PF val S W0 ob Own P d v w') {i k:Nat} (hk:k=38+i) {x:Value} (hx:x=val i) (h15:i≠15) (h16:i≠16) (h19:i≠19):PF val S W0 ob Own P (bF d i) (bP v (some k) x) w':=by
 have e15:bF d i 15=d 15:=mF (Ne.symm h15);have e16:bF d i 16=d 16:=mF (Ne.symm h16);have e19:bF d i 19=d 19:=mF (Ne.symm h19);refine⟨h.clSet hk (.inr hx),h.st,λa=>?_,λa=>?_,λa=>?_,λa b=>?_,λa b=>?_,λa=>?_⟩
 ·rw[e16] at a;obtain⟨a1,a2⟩:=h.up a;refine⟨by rw[e15];exact a1,?_⟩;by_cases h4:4=i
  ·rw[h4];exact vZ
  ·rw[mF h4];exact a2
 ·rw[e19] at a;rw[e16];exact h.up2 a
 ·rw[e15] at a;exact h.w0 a
 ·rw[e15] at a;rw[e16] at b;exact h.w1 a b
 ·rw[e16] at a;rw[e19] at b;rw[bW (by omega)];exact h.w2 a b
 ·rw[e19] at a;exact h.w3 a
theorem PF.mk' (h:PF val S W0 ob Own P d v w') (hd:d 15=false) {x:Value} (hx:x=val 15) (hS:S (W0.alloc ob)):PF val S W0 ob Own P (bF d 15) (bP v (some 53) x) (W0.alloc ob):=by
 have e16:bF d 15 16=d 16:=mF (by decide);have e19:bF d 15 19=d 19:=mF (by decide);have b:d 16=false:=by
  cases hc:d 16 with
  | false=>rfl
  | true=>have:=(h.up hc).1;rw[hd] at this;cases this
 have c:d 19=false:=by
  cases hc:d 19 with
  | false=>rfl
  | true=>have:=h.up2 hc;rw[b] at this;cases this
 refine⟨h.clSet rfl (.inr hx),hS,λa=>?_,λa=>?_,λa=>?_,λ_ _=>rfl,λa=>?_,λa=>?_⟩
 ·rw[e16,b] at a;cases a
 ·rw[e19,c] at a;cases a
 ·rw[vZ] at a;cases a
 ·rw[e16,b] at a;cases a
 ·rw[e19,c] at a;cases a
theorem PF.app (h:PF val S W0 ob Own P d v w') (h15:d 15=true) (h4:d 4=true) (h16:d 16=false) {x:Value}{w2:World} (hS:S w2) (ho:Own x w2):PF val S W0 ob Own P (bF d 16) (bP v (some 54) x) w2:=by
 have e15:bF d 16 15=d 15:=mF (by decide);have e4:bF d 16 4=d 4:=mF (by decide);have e19:bF d 16 19=d 19:=mF (by decide);have c:d 19=false:=by
  cases hc:d 19 with
  | false=>rfl
  | true=>have:=h.up2 hc;rw[h16] at this;cases this
 refine⟨h.clSet rfl (.inl rfl),hS,λa=>⟨by rw[e15];exact h15,by rw[e4];exact h4⟩,λa=>vZ,λa=>?_,λa b=>?_,λa b=>?_,λa=>?_⟩
 ·rw[e15,h15] at a;cases a
 ·rw[vZ] at b;cases b
 ·rw[lJ];exact ho
 ·rw[e19,c] at a;cases a
theorem PF.sto (h:PF val S W0 ob Own P d v w') (h16:d 16=true) (h19:d 19=false) {x:Value}{k:Option Tmp} (hk:k=none) (hS:S (w'.setCell ⟨P,4,none⟩ (v 54))):PF val S W0 ob Own P (bF d 19) (bP v k x) (w'.setCell ⟨P,4,none⟩ (v 54)):=by
 subst hk;have e15:bF d 19 15=d 15:=mF (by decide);have e4:bF d 19 4=d 4:=mF (by decide);have e16:bF d 19 16=d 16:=mF (by decide);refine⟨λj e f c=>?_,hS,λa=>?_,λa=>by rw[e16];exact h16,λa=>?_,λa b=>?_,λa b=>?_,λa=>⟨v 54,w',h.w2 h16 h19,rfl⟩⟩
 ·rw[mF (by omega)] at c;exact h.cl j e f c
 ·rw[e15,e4];exact h.up h16
 ·rw[e15,(h.up h16).1] at a;cases a
 ·rw[e16,h16] at b;cases b
 ·rw[vZ] at b;cases b
end
theorem Tg {o:Oper}{a:Act}{K:Act->World->Prop}{Q:Exit->Act->World->Prop} (hgd:o.guard=none) (s x:Operand)
  (ho:o.op= .call { callee:= .builtin .append,args:= #[s,x],argTypes:= #[47,47] })
  (B:Nat) (w:World) (v:Value) (z:List ND) (y:aD) (cs:Array Value) (hcs:cs.toList=fW (y, .slice none 0 0, .slice none 0 0)) (hs:a.eval s=v) (hown:w.ownsRow B 81 7 v z.length (iX z)) (hx:a.eval x= .slice (some ⟨w.heap.size,0,none⟩) 1 1) (hl:z.length<=4294967295) (hB:B<=w.heap.size)
  (hK: ∀nv w',w'.ownsRow B 81 7 nv (z.length+1) (iX z++fW (y, .slice none 0 0, .slice none 0 0))->w.grownBy w' v.ownBlock->K (a.put o.dst nv) w'):
  Oper.wp Tryz.prog o a (w.alloc (.cells cs 81)) K Q:=by
 have h:=Sy (ops:= #[]) (Q:=Q) (E:=True) hgd s x ho B w v z y cs hcs hs hown hx hl hB hK;rw[if_pos (by simp[Region.wanted,hgd])] at h;exact h
theorem Th {i:Nat} (h:i<20):i=0\/i=1\/i=2\/i=3\/i=4\/i=5\/i=6\/i=7\/i=8\/i=9\/i=10\/i=11\/i=12\/i=13\/i=14\/i=15\/i=16\/i=17\/i=18\/i=19:=by omega
def Ir (P:Nat) (p0:Option Addr) (nodes:List aD) (c0 q g o:Nat) (r:List aQ) (c:Nat) (t:aQ) (key:Sp) (H:Nat):Nat->Value
 | 0=> .pointer (some ⟨P,0,none⟩)
 | 1=> .pointer (some ⟨P,0,none⟩)
 | 2=> .pointer (some ⟨P,0,none⟩)
 | 3=> .pointer (some ⟨P,4,none⟩)
 | 4=> .slice p0 nodes.length c0
 | 5=> .int .i64 (q:Int)
 | 6=> .pointer (some ⟨P,0,none⟩)
 | 7=> .pointer (some ⟨P,0,none⟩)
 | 8=> .pointer (some ⟨P,1,none⟩)
 | 9=> .slice (some ⟨g,o,none⟩) (r.length+1) c
 | 10=> .pointer (some ⟨g,o,none⟩)
 | 11=> .pointer (some ⟨g,o+1,none⟩)
 | 12=> .agg #[.int .i64 (t.sf:Int), .int .i64 (t.st:Int)]
 | 13=> .agg #[.int .i64 (key.1:Int), .int .i64 (key.2:Int)]
 | 14=> .agg #[.int .i64 (q:Int), .int .i64 (t.sf:Int), .int .i64 (t.st:Int), .int .i64 (key.1:Int), .int .i64 (key.2:Int), .slice none 0 0, .slice none 0 0]
 | 15=> .slice (some ⟨H,0,none⟩) 1 1
 | 17=> .pointer (some ⟨P,0,none⟩)
 | 18=> .pointer (some ⟨P,4,none⟩)
 | _=>undef
def SP (W0:World) (X Y g P:Nat) (rv:Value) (w':World):Prop:=(w'.heap[X]?=W0.heap[X]?/\w'.heap[Y]?=W0.heap[Y]?/\w'.heap[g]?=W0.heap[g]?)/\w'.cell? ⟨P,1,none⟩=some rv
theorem cK.nodes {w:World}{P:Nat}{txt:List UInt8}{rv nv:Value}{l:Sp}{a:Nat}{er:Int} (h:cK w P txt rv l nv a er) (nv2:Value):cK (w.setCell ⟨P,4,none⟩ nv2) P txt rv l nv2 a er:=by
 unfold cK at h ⊢;simp[World.setCell,Array.getElem?_modify,h]
theorem TV.head' {w:World}{v:Value}{t:aQ}{r:List aQ} (h:TV w v (t::r)): ∃g o c,v= .slice (some ⟨g,o,none⟩) (r.length+1) c/\r.length+1<=c/\w.cell? ⟨g,o,none⟩=some (.int .i64 t.kind)/\w.cell? ⟨g,o+1,none⟩=some (.int .i64 t.sf)/\w.cell? ⟨g,o+2,none⟩=some (.int .i64 t.st)/\
  ∃cur,w.heap[g]?=some (.cells cur 77 (0,0)):=by
 obtain⟨p,c,e,f,b⟩:=h;rcases b with b | ⟨g,o,cur,rfl,i,j⟩
 ·cases b
 ·simp only[aV] at e f;have a:=j 0 t rfl;rw[Nat.zero_mul,Nat.add_zero] at a;exact⟨g,o,c,e,f,a.1,a.2.1,a.2.2,cur,i⟩
theorem JZ.node {B P:Nat}{txt:List UInt8}{rest:List aQ}{l:Sp}{z:List ND}{nv:Value}{w w2:World} (h:JZ B P txt rest l z nv w) {x:aD} (hk:x.kids= []) (hp:x.pcs= []) (hB:B<=w.heap.size) {nv2:Value}
  (hr:w2.ownsRow B 81 7 nv2 (z.length+1) (iX z++fW (x, .slice none 0 0, .slice none 0 0))) (hg:w.grownBy w2 nv.ownBlock):
  J B P txt rest l (z.map (·.1)++ [x]) (w2.setCell ⟨P,4,none⟩ nv2)/\Fr B P w (w2.setCell ⟨P,4,none⟩ nv2):=by
 obtain⟨rv,j,m,c,f⟩:=h;obtain⟨a1,a2⟩:=uJ j m hg (λk hk=>by obtain⟨cur,i⟩:=uI c.row k hk;exact⟨cur,_,i,by decide,by decide⟩);have b:=c.push hk hp hr hg;refine⟨⟨rv,z++ [(x, .slice none 0 0, .slice none 0 0)],nv2,a1.nodes nv2,?_,by simp,b.other a1 (by decide) (by decide) (by decide) (gT w2 P 4 nv2),f⟩,(Fr.grown c.row (by decide) hg hB).trans (Fr.setP f)⟩;exact a2.same (λg cur a=>(gT w2 P 4 nv2).block g (aF a) (λe=>by have e2:g=P:=bD e;subst e2;unfold cK at a1;rw[a1] at a;injection a with a;injection a with _ a;exact absurd a (by decide)))
theorem Ti (w0:World) (P:Nat) (txt:List UInt8) (hs:txt.length<=65536) (w:World) (t:aQ) (r:List aQ) (l:Sp) (nodes:List aD) (key:Sp) (lev:Int) (h:J w0.heap.size P txt (t::r) l nodes w) (hb:Below w0.heap.size w0 w) (hr:r.length<=65537)
  (hk:cU t.kind≠0) (lv:Nat) (IH:VC w0 P txt lv) (hlev:lev+1=33-(lv:Int)) (hlev0:0<=lev/\lev<=32) (hm:nodes.length≠4096) (hN:nodes.length+(r.length+1)<=131074) (ht:TB txt (t::r)) (hSV:cM w0) (hT:bZ w0):
  Calls Tryz.prog 27 #[.pointer (some ⟨P,0,none⟩), .int .i64 lev, .agg #[.int .i64 (key.1:Int), .int .i64 (key.2:Int)]] w (VE w0.heap.size P txt (bS txt (lv+1) (t::r) l nodes key) w):=by
 obtain⟨R1,az⟩: ∃R1,(if t.kind=4 then iI txt (bS txt lv) 5 false nodes.length r (t.sf,t.st) (nodes++ [⟨cU t.kind,t.sf,t.st,key,[],[]⟩]) else
   if t.kind=2 then iI txt (bS txt lv) 3 true nodes.length r (t.sf,t.st) (nodes++ [⟨cU t.kind,t.sf,t.st,key,[],[]⟩]) else
   JR.ok r (t.sf,t.st) (nodes++ [⟨cU t.kind,t.sf,t.st,key,[],[]⟩]))=R1:=⟨_,rfl⟩
 have al:bS txt (lv+1) (t::r) l nodes key=tZ nodes.length R1:=by
  rw[<-az];show (if cU t.kind=0 then _ else _)=_;rw[if_neg hk,if_neg hm]
 rw[al];have F:=hid az;have a5:=hid ht;have HS:=hid (aJ hSV hT);have bd:=hid h.nodesN;have h1:=h.keep (W1.bel w P key);have CK:=hid (sP _ P txt (t::r) l nodes _ h1 (by simp only[aV];omega));have CO:=hid (yL (eV (t::r)) (W1 w P key));obtain⟨q,K⟩:=exQ<|cU t.kind;rw[show cU (eV (t::r))=q from K] at CO;rw[K] at hk F;have HQ:=hid K;have d0:((q:Int)==0)=false:=aK.2 (by omega);have d1:decide (32<lev)=false:=aH (by omega);have hX:=(kR (W1.X w P key)).1;have hY:=rI (W1.Y w P key);have HF:=hid (Fr.of_below (P:=P) (W1.bel w P key) hb.size);have HB:=hid hb;have ae:=hb.size;have hPw:=h.box.1;obtain⟨aC,aX,_,_⟩:=h1.box;obtain⟨rv,z,nv,b1,b2,b3,b4,b5⟩:=h1;obtain⟨p0,c0,rfl⟩:=b4.slice;obtain⟨q0,q1,_,_,q4,_,_,_,_,_,f4,_⟩:=b1.cells;obtain⟨g,o,c,rfl,hc,k0,k1,k2,I⟩:=b2.head';have hz:z.length=nodes.length:=by rw[<-b3,bK]
 rw[hz] at q4;have dm:((nodes.length:Int)==4096)=false:=aK.2 (by omega);have aN:=(W1.bel w P key).size;have aZ:w.heap.size<(W1 w P key).heap.size:=aF (W1.X w P key);have a4:w.heap.size+1<(W1 w P key).heap.size:=aF (W1.Y w P key);obtain⟨gcur,I⟩:=I;have E:w0.heap.size<=(W1 w P key).drew.heap.size:=aY ae aN;have b4d:=b4.keep (aB _ (W1 w P key)).drew;have b1d:=b1.keep (aB _ (W1 w P key)).drew;have b2d:=b2.keep (aB _ (W1 w P key)).drew;have a1:JZ w0.heap.size P txt (t::r) l z (.slice p0 z.length c0) (W1 w P key).drew:=⟨_,b1d,b2d,b4d,aX⟩;have e:(P:Nat)≠w.heap.size:=by omega
 have ab:Hid (∀w2,(W1 w P key).drew.grownBy w2 (Value.slice p0 z.length c0).ownBlock->SP (W1 w P key).drew w.heap.size (w.heap.size+1) g P (.slice (some ⟨g,o,none⟩) (r.length+1) c) w2/\w2.cell? ⟨P,4,none⟩=some (.slice p0 nodes.length c0)/\w2.frozen? ⟨P,4,none⟩=false/\ ∀u,SP (W1 w P key).drew w.heap.size (w.heap.size+1) g P (.slice (some ⟨g,o,none⟩) (r.length+1) c) (w2.setCell ⟨P,4,none⟩ u)):=hid (λw2 hg=>by
  have off: ∀(k:Nat) (cs:Array Value) (tt:TypeId),(W1 w P key).drew.heap[k]?=some (.cells cs tt (0,0))->81≠tt->w2.heap[k]?=(W1 w P key).drew.heap[k]?:=λk cs tt hk a7=>hg.block k (aF hk) (λe=>by obtain⟨cur,hc⟩:=uI b4d.row k e.symm;rw[hk] at hc;injection hc with hc;injection hc with _ hc;exact a7 hc.symm);have oX:=off _ _ _ (W1.X w P key) (by decide);have oY:=off _ _ _ (W1.Y w P key) (by decide);have oG:=off _ _ _ I (by decide);have oP:=off _ _ _ b1d (by decide);have j2:cK w2 P txt (.slice (some ⟨g,o,none⟩) (r.length+1) c) l (.slice p0 z.length c0) 0 0:=oP.trans b1d;obtain⟨_,e1,_,_,e4,_,_,_,_,_,g4,_⟩:=j2.cells;rw[hz] at e4;have a9:g≠P:=λe=>by
   have K:=b1;unfold cK at K;have a3:(W1 w P key).heap[P]?=some (.cells gcur 77 (0,0)):=e ▸ I;rw[a3] at K;injection K with K;injection K with _ K;exact absurd K (by decide)
  refine⟨⟨⟨oX,oY,oG⟩,e1⟩,e4,g4,λu=>⟨⟨?_,?_,?_⟩,(j2.nodes u).cells.2.1⟩⟩
  ·rw[cP w2 ⟨P,4,none⟩ u _ (by simp;omega)];exact oX
  ·rw[cP w2 ⟨P,4,none⟩ u _ (by simp;omega)];exact oY
  ·rw[cP w2 ⟨P,4,none⟩ u _ a9];exact oG)
 have am:=hid a1;have aw:=hid b4d;have aR:SP (W1 w P key).drew w.heap.size (w.heap.size+1) g P (.slice (some ⟨g,o,none⟩) (r.length+1) c) (W1 w P key).drew:=⟨⟨rfl,rfl,rfl⟩,q1⟩;obtain⟨OB,bg⟩: ∃ob:Obj, .cells #[.int .i64 (q:Int), .int .i64 (t.sf:Int), .int .i64 (t.st:Int), .int .i64 (key.1:Int), .int .i64 (key.2:Int), .slice none 0 0, .slice none 0 0] 81=ob:=⟨_,rfl⟩;have ba:=aI (W1 w P key).drew OB;have ay:Hid (SP (W1 w P key).drew w.heap.size (w.heap.size+1) g P (.slice (some ⟨g,o,none⟩) (r.length+1) c) ((W1 w P key).drew.alloc OB)):=hid ⟨⟨ba.block _ aZ,ba.block _ a4,ba.block _ (aF I)⟩,by rw[ba.cell (p:=⟨P,1,none⟩) aC];exact q1⟩;have aA:Hid (∀d v w',PF (Ir P p0 nodes c0 q g o r c t key (W1 w P key).drew.heap.size) (SP (W1 w P key).drew w.heap.size (w.heap.size+1) g P (.slice (some ⟨g,o,none⟩) (r.length+1) c)) (W1 w P key).drew OB (λnv w2=>w2.ownsRow w0.heap.size 81 7 nv (z.length+1) (iX z++fW (⟨q,t.sf,t.st,key,[],[]⟩, .slice none 0 0, .slice none 0 0))/\(W1 w P key).drew.grownBy w2 (Value.slice p0 z.length c0).ownBlock) P d v w'->d 4=false->w'.cell? ⟨P,4,none⟩=some (.slice p0 nodes.length c0)):=hid (λd v w' j N=>by
  have bc:d 16=false:=by
   cases hc:d 16 with
   | false=>rfl
   | true=>have:=(j.up hc).2;rw[N] at this;cases this
  cases h15:d 15 with
  | false=>rw[j.w0 h15];exact q4
  | true=>rw[j.w1 h15 bc,ba.cell (p:=⟨P,4,none⟩) aC];exact q4)
 have Z:(W1 w P key).drew.cell? ⟨w.heap.size,0,none⟩=some (.pointer (some ⟨P,0,none⟩)):=hX;have ap:(W1 w P key).drew.cell? ⟨w.heap.size+1,0,none⟩=some (.int .i64 (key.1:Int)):=hY.1;have aq:(W1 w P key).drew.cell? ⟨w.heap.size+1,1,none⟩=some (.int .i64 (key.2:Int)):=hY.2;have k1':(W1 w P key).drew.cell? ⟨g,o+1,none⟩=some (.int .i64 (t.sf:Int)):=k1;have k2':(W1 w P key).drew.cell? ⟨g,o+2,none⟩=some (.int .i64 (t.st:Int)):=k2;have dr:(0:Int)<(r.length:Int)+1:=by omega
 have aT:Tryz.prog.follows .mixedOrders=true:=by kernel_rfl
 clear h hb b1 b2 b4 hm K al az ht hSV hT b1d b2d b4d a1 ba I aN aZ a4 aC e;go_enter Tryz.func27,Tryz.ntmps27;go_upto_region 1 with fail;change Code.wp _ _ _ _ (W1 w P key);go_wp2_with fail;refine CK.out.mono ?_;rintro e w2 ⟨rfl,rfl⟩;go_wp2_with fail;refine CO.out.mono ?_;rintro e w2 ⟨rfl,rfl⟩;go_upto_region 9 with fail;clear k0 k1 k2 q0 hX hY d0 d1 dm;obtain⟨W0,G⟩:=exQ<|(W1 w P key).drew;refine uF aT [38,39,40,41,42,43,44,45,46,47,48,49,50,51,52,53,54,55,56] 90 rfl (by kernel_rfl) (by kernel_rfl) (λd v w'=>PF (Ir P p0 nodes c0 q g o r c t key (W1 w P key).drew.heap.size) (SP (W1 w P key).drew w.heap.size (w.heap.size+1) g P (.slice (some ⟨g,o,none⟩) (r.length+1) c)) (W1 w P key).drew OB (λnv w2=>w2.ownsRow w0.heap.size 81 7 nv (z.length+1) (iX z++fW (⟨q,t.sf,t.st,key,[],[]⟩, .slice none 0 0, .slice none 0 0))/\(W1 w P key).drew.grownBy w2 (Value.slice p0 z.length c0).ownBlock) P d v w') ⟨λ_ _ _ h=>absurd h (by decide),aR,λh=>absurd h (by decide),λh=>absurd h (by decide),λ_=>rfl,λh=>absurd h (by decide),λh=>absurd h (by decide),λh=>absurd h (by decide)⟩ ?_ ?_
 ·intro d a w' i o' ho hi f n j R' m;have aP:i<20:=(cJ.1 ho).1;have q3:a.tmps[3]?.getD undef= .pointer (some ⟨w.heap.size,0,none⟩):=by rw[<-aO];exact n 3 (by decide)
  have q5:a.tmps[5]?.getD undef= .pointer (some ⟨w.heap.size+1,0,none⟩):=by rw[<-aO];exact n 5 (by decide)
  have q7:a.tmps[7]?.getD undef= .int .i64 (q:Int):=by rw[<-aO];exact n 7 (by decide)
  clear n;rw[G] at j m Z ap aq k1' k2' aA ay ab aw E;rcases Th aP with rfl|rfl|rfl|rfl|rfl|rfl|rfl|rfl|rfl|rfl|rfl|rfl|rfl|rfl|rfl|rfl|rfl|rfl|rfl|rfl<;>simp only[eC,dV,cH,cN] at ho<;>subst ho
  ·have x0:=(eY j.st.1.1 0).trans Z;go_simp;exact m _ _ (j.pure (i:=0) rfl rfl (by decide) (by decide) (by decide))
  ·have x0:=(eY j.st.1.1 0).trans Z;go_simp;exact m _ _ (j.pure (i:=1) rfl rfl (by decide) (by decide) (by decide))
  ·simp[Region.binds] at f;have c39:a.tmps[39]?.getD undef= .pointer (some ⟨P,0,none⟩):=by rw[<-aO];exact j.cl 1 (by decide) (by decide) (by simp[f])
   go_simp;exact m _ _ (j.pure (i:=2) rfl rfl (by decide) (by decide) (by decide))
  ·simp[Region.binds] at f;have c40:a.tmps[40]?.getD undef= .pointer (some ⟨P,0,none⟩):=by rw[<-aO];exact j.cl 2 (by decide) (by decide) (by simp[f])
   go_simp;exact m _ _ (j.pure (i:=3) rfl rfl (by decide) (by decide) (by decide))
  ·simp[Region.binds] at f;have c41:a.tmps[41]?.getD undef= .pointer (some ⟨P,4,none⟩):=by rw[<-aO];exact j.cl 3 (by decide) (by decide) (by simp[f])
   have x4:=aA.out d _ w' j hi;go_simp;exact m _ _ (j.pure (i:=4) rfl rfl (by decide) (by decide) (by decide))
  ·go_simp;exact m _ _ (j.pure (i:=5) rfl rfl (by decide) (by decide) (by decide))
  ·have x0:=(eY j.st.1.1 0).trans Z;go_simp;exact m _ _ (j.pure (i:=6) rfl rfl (by decide) (by decide) (by decide))
  ·simp[Region.binds] at f;have c44:a.tmps[44]?.getD undef= .pointer (some ⟨P,0,none⟩):=by rw[<-aO];exact j.cl 6 (by decide) (by decide) (by simp[f])
   go_simp;exact m _ _ (j.pure (i:=7) rfl rfl (by decide) (by decide) (by decide))
  ·simp[Region.binds] at f;have c45:a.tmps[45]?.getD undef= .pointer (some ⟨P,0,none⟩):=by rw[<-aO];exact j.cl 7 (by decide) (by decide) (by simp[f])
   go_simp;exact m _ _ (j.pure (i:=8) rfl rfl (by decide) (by decide) (by decide))
  ·simp[Region.binds] at f;have c46:a.tmps[46]?.getD undef= .pointer (some ⟨P,1,none⟩):=by rw[<-aO];exact j.cl 8 (by decide) (by decide) (by simp[f])
   have x0:=j.st.2;go_simp;exact m _ _ (j.pure (i:=9) rfl rfl (by decide) (by decide) (by decide))
  ·simp[Region.binds] at f;have c47:a.tmps[47]?.getD undef= .slice (some ⟨g,o,none⟩) (r.length+1) c:=by rw[<-aO];exact j.cl 9 (by decide) (by decide) (by simp[f])
   go_simp;exact m _ _ (j.pure (i:=10) rfl rfl (by decide) (by decide) (by decide))
  ·simp[Region.binds] at f;have c48:a.tmps[48]?.getD undef= .pointer (some ⟨g,o,none⟩):=by rw[<-aO];exact j.cl 10 (by decide) (by decide) (by simp[f])
   go_simp;exact m _ _ (j.pure (i:=11) rfl rfl (by decide) (by decide) (by decide))
  ·simp[Region.binds] at f;have c49:a.tmps[49]?.getD undef= .pointer (some ⟨g,o+1,none⟩):=by rw[<-aO];exact j.cl 11 (by decide) (by decide) (by simp[f])
   have x1:=(eY j.st.1.2.2 (o+1)).trans k1';have x2:=(eY j.st.1.2.2 (o+2)).trans k2';go_simp;exact m _ _ (j.pure (i:=12) rfl rfl (by decide) (by decide) (by decide))
  ·have x1:=(eY j.st.1.2.1 0).trans ap;have x2:=(eY j.st.1.2.1 1).trans aq;go_simp;exact m _ _ (j.pure (i:=13) rfl rfl (by decide) (by decide) (by decide))
  ·simp[Region.binds] at f;have c43:a.tmps[43]?.getD undef= .int .i64 (q:Int):=by rw[<-aO];exact j.cl 5 (by decide) (by decide) (by simp[f])
   have c50:a.tmps[50]?.getD undef= .agg #[.int .i64 (t.sf:Int), .int .i64 (t.st:Int)]:=by rw[<-aO];exact j.cl 12 (by decide) (by decide) (by simp[f])
   have c51:a.tmps[51]?.getD undef= .agg #[.int .i64 (key.1:Int), .int .i64 (key.2:Int)]:=by rw[<-aO];exact j.cl 13 (by decide) (by decide) (by simp[f])
   go_simp;exact m _ _ (j.pure (i:=14) rfl rfl (by decide) (by decide) (by decide))
  ·simp[Region.binds] at f;have c52:a.tmps[52]?.getD undef= .agg #[.int .i64 (q:Int), .int .i64 (t.sf:Int), .int .i64 (t.st:Int), .int .i64 (key.1:Int), .int .i64 (key.2:Int), .slice none 0 0, .slice none 0 0]:=by rw[<-aO];exact j.cl 14 (by decide) (by decide) (by simp[f])
   obtain rfl:=j.w0 hi;go_simp;exact m _ _ (j.mk' hi rfl ay.out)
  ·simp[Region.binds] at f;have e4:d 4=true:=(by simp[f]);have e15:d 15=true:=(by simp[f]);have c42:a.tmps.getD 42 undef= .slice p0 nodes.length c0:=(by exact j.cl 4 (by decide) (by decide) (e4));have c53:a.tmps.getD 53 undef= .slice (some ⟨W0.heap.size,0,none⟩) 1 1:=(by exact j.cl 15 (by decide) (by decide) (e15));obtain rfl:=j.w1 e15 hi;rw[<-bg];exact Tg rfl (.tmp 42) (.tmp 53) rfl w0.heap.size W0 (.slice p0 z.length c0) z ⟨q,t.sf,t.st,key,[],[]⟩ _ rfl (by rw[hz];exact c42) aw.out.row c53 (by omega) E (λnv w2 ad U=>m _ _ (j.app e15 e4 hi (ab.out w2 U).1 ⟨ad,U⟩))
  ·simp[Region.binds] at f;have c38:a.tmps[38]?.getD undef= .pointer (some ⟨P,0,none⟩):=by rw[<-aO];exact j.cl 0 (by decide) (by decide) (by simp[f])
   go_simp;exact m _ _ (j.pure (i:=17) rfl rfl (by decide) (by decide) (by decide))
  ·simp[Region.binds] at f;have c55:a.tmps[55]?.getD undef= .pointer (some ⟨P,0,none⟩):=by rw[<-aO];exact j.cl 17 (by decide) (by decide) (by simp[f])
   go_simp;exact m _ _ (j.pure (i:=18) rfl rfl (by decide) (by decide) (by decide))
  ·simp[Region.binds] at f;have e16:d 16=true:=(by simp[f]);have e18:d 18=true:=(by simp[f]);have c56:a.tmps[56]?.getD undef= .pointer (some ⟨P,4,none⟩):=by rw[<-aO];exact j.cl 18 (by decide) (by decide) (e18)
   obtain⟨_,x4,f4,a6⟩:=ab.out w' (j.w2 e16 hi).2;obtain⟨gn,cn,hV⟩:=uK (j.w2 e16 hi).1;have hV:a.tmps.getD 54 undef= .slice (some ⟨gn,0,none⟩) (z.length+1) cn:=hV;rw[hz] at hV;have c54:a.tmps[54]?.getD undef= .slice (some ⟨gn,0,none⟩) (nodes.length+1) cn:=by rw[<-aO];exact hV
   have D:=λx=>j.sto e16 hi (x:=x) (k:=none) rfl (a6 _);simp only[hV] at D;go_simp;exact m undef _ (D undef)
 ·intro v W9 j;rw[G] at j am E;obtain⟨nv2,w1,⟨ad,U⟩,hW⟩:=j.w3 (by decide);obtain⟨Q,av⟩:=am.out.node (x:=⟨q,t.sf,t.st,key,[],[]⟩) rfl rfl E ad U;rw[<-hW] at Q av;have Q:=Q.cast (congrArg (· ++ [(⟨q,t.sf,t.st,key,[],[]⟩:aD)]) b3);have ax:W9.heap[w.heap.size]?=some (.cells #[.pointer (some ⟨P,0,none⟩)] 73):=j.st.1.1.trans (by rw[<-G];exact W1.X w P key);have an:=hid (HF.out.trans ((Fr.of_below (by rw[<-G];exact(aB _ (W1 w P key)).drew) (aY ae HF.out.sz)).trans av));have x9:=(kR ax).1;have ar:=hid ax;have CSk:=hid (Bn _ P txt t r l _ W9 Q (by omega));simp only[cC,eJ,dO,eK];clear j ad U hW Q av ax am aA ay ab aw aR Z ap aq k1' k2' E q1 q4 f4 CK CO;go_wp2_with fail;refine CSk.out.mono ?_;rintro e w10 ⟨rfl,T,V⟩;have a8:=aY ae an.out.sz;have R:w10.heap[w.heap.size]?=some (.cells #[.pointer (some ⟨P,0,none⟩)] 73):=(V.block _ (aF ar.out) (λe=>by have:=bD e;omega)).trans ar.out;have A:=hid (an.out.trans (Fr.ofP V aX a8));have s:=hid R;have H:=hid T;have x10:=(kR R).1;have L:w0.heap.size<=w10.heap.size:=aY ae A.out.sz;have af:Hid (Below w0.heap.size w0 w10):=hid (HB.out.trans A.out.bel);have ah:nodesN P w10=nodes.length+1:=by rw[T.nodesN,aW];rfl
  have aU:=hid ah;have ag:eH nodes (⟨q,t.sf,t.st,key,[],[]⟩:aD) [] (nodes++ [(⟨q,t.sf,t.st,key,[],[]⟩:aD)]):=⟨rfl,by simp,by simp,λy hy=>by cases hy⟩;have C:=hid ag;have ai:(nodes++ [(⟨q,t.sf,t.st,key,[],[]⟩:aD)]).length+r.length<=131074:=by rw[aW,dU];omega
  have aj:Hid (TB txt r):=hid (a5.out.drop 1);clear T V R ar x9 CSk ah ag an;go_upto_block 1 with fail;go_cut [9] (λs9 wx=> ∃b,s9= .bool b/\Hid (KO w0.heap.size P txt nodes.length R1 b wx)/\Hid (Fr w0.heap.size P w wx)/\Hid (wx.heap[w.heap.size]?=some (.cells #[.pointer (some ⟨P,0,none⟩)] 73)))
  case first=>
   by_cases N:t.kind=4
   ·have aM:q=5:=by rw[<-HQ.out,N];rfl
    subst aM;have m:=F.out;rw[if_pos N] at m;have CA:=Ta w0 P txt lv IH w10 r (t.sf,t.st) nodes _ [] _ lev H.out C.out af.out aj.out ai hlev hlev0 hs;rw[m] at CA;have au:=hid CA;have aG:Hid (∀e w',VE w0.heap.size P txt R1 w10 e w'-> ∃b,e= .returned (.bool b)/\KO w0.heap.size P txt nodes.length R1 b w'/\Fr w0.heap.size P w10 w'):=hid (λe w' hE=>KO.of hE aU.out (λrr ll ns he=>by obtain⟨x',post',hm,_⟩:=yA (nO txt lv) C.out (m.trans he);exact hm.lt));clear CA m N F;go_wp2_with fail;refine au.out.mono ?_;rintro e w11 hE;obtain⟨b,rfl,W,n⟩:=aG.out _ _ hE;have O:=hid W;have aa:=hid (n.blk _ _ s.out (by omega) (by rfl));have M:=hid (A.out.trans n);clear W n hE;go_wp2_with fail;go_meet;exact⟨b,rfl,O,M,aa⟩
   ·by_cases h2:t.kind=2
    ·have a2:q=6:=by rw[<-HQ.out,h2];rfl
     subst a2;have m:=F.out;rw[if_neg N,if_pos h2] at m;obtain⟨m1,m2,m3⟩:=WM.facts w10;have ao:=H.out.keep m1;have a0:=(m1.block _ (aF s.out)).trans s.out;have bf:=aF s.out;have CA:=Tc w0 P txt lv IH w10.heap.size w.heap.size (w10.heap.size+1) (WM w10) r (t.sf,t.st) nodes _ [] _ lev ao C.out (af.out.trans (m1.mono L)) aj.out ai hlev hlev0 hs a0 m3 m2 L HS.out.1 HS.out.2;rw[m] at CA;have au:=hid CA;have aG:Hid (∀e w',KE w0.heap.size P w10.heap.size txt R1 (WM w10) e w'-> ∃b,e= .returned (.bool b)/\KO w0.heap.size P txt nodes.length R1 b w'/\iR w0.heap.size P w10.heap.size (WM w10) w'):=hid (λe w' hE=>KO.ofX hE (by rw[ao.nodesN,aW];rfl) (λrr ll ns he=>by obtain⟨x',post',hm,_⟩:=yA (nO txt lv) C.out (m.trans he);exact hm.lt));have aL:=hid m1;clear CA m N h2 F m1 m2 m3 ao a0;have hmm:= @run_makeMap Tryz.prog;go_wp2_with fail;refine au.out.mono ?_;rintro e w11 hE;obtain⟨b,rfl,W,n⟩:=aG.out _ _ hE;have O:=hid W;have aa:=hid (n.blk _ _ ((aL.out.block _ bf).trans s.out) (by omega) (by omega) (by rfl));have M:=hid (A.out.trans (iR.out (Fr.of_below aL.out L) n (aE _)));clear W n hE;go_wp2_with fail;go_meet;exact⟨b,rfl,O,M,aa⟩
    ·have m:=F.out;rw[if_neg N,if_neg h2] at m;have aM:((q:Int)==5)=false:=aK.2 (by have:=Iq N h2;rw[HQ.out] at this;omega);have a2:((q:Int)==6)=false:=aK.2 (by have:=Iq N h2;rw[HQ.out] at this;omega);have HK:Hid (KO w0.heap.size P txt nodes.length R1 true w10):=hid (by rw[<-m];exact⟨rfl,H.out,C.out.lt⟩);clear m N h2 F;go_wp2_with fail;go_meet;exact⟨true,rfl,HK,A,s⟩
  case rest=>
   obtain⟨b,rfl,HK,bb,HX⟩:=hcut;obtain⟨lt,g',cap',len,st,c3,c4,hnl,cst,cfz,ak,hPg,D⟩:=HK.out.fin;have xX:=(kR HX.out).1;have hXg:=ak _ _ _ HX.out (by decide);have hnz:(0:Int)<=(nodes.length:Int):=(by omega);have hnz2:(nodes.length:Int)<(len:Int):=(by omega);have aS:=hid (D w (by rw[bd.out];omega) bb.out);clear ak D C s H A HX HK x10;go_upto_region 18 with fail;go_region
   all_goals
    go_wp2_with fail;go_ret;exact aS.out.drew
theorem Is (w0:World) (P:Nat) (txt:List UInt8) (hs:txt.length<=65536) (hSV:cM w0) (hT:bZ w0): ∀lv,lv<=32->VC w0 P txt lv
 | 0,_=>λw rest l nodes key lev h hb ht hN hl=>by
  unfold bS;by_cases hk:cU (eV rest)=0
  ·rw[if_pos hk];exact Ip w0 P txt hs w rest l nodes key lev h hb ht.1 hk
  ·rw[if_neg hk];exact Td w0 P txt hs w rest l nodes key lev h hb ht.1 hk (by omega)
 | lv+1,hlv=>λw rest l nodes key lev h hb ht hN hl=>by
  by_cases hk:cU (eV rest)=0
  ·have e:bS txt (lv+1) rest l nodes key= .bad (eW txt.length rest) 2:=by unfold bS;rw[if_pos hk]
   rw[e];exact Ip w0 P txt hs w rest l nodes key lev h hb ht.1 hk
  by_cases hm:nodes.length=4096
  ·have e:bS txt (lv+1) rest l nodes key= .bad (eW txt.length rest) 6:=by unfold bS;rw[if_neg hk,if_pos hm]
   rw[e];exact Te w0 P txt hs w rest l nodes key lev h hb ht.1 hk (by omega) hm
  ·cases rest with
   | nil=>exact absurd rfl hk
   | cons t r=>
    have a:=ht.1;simp only[aV] at hN a;exact Ti w0 P txt hs w t r l nodes key lev h hb (by omega) hk lv (Is w0 P txt hs hSV hT lv (by omega)) (by omega) (by omega) hm hN ht hSV hT
end Go.Proofs.YtaifnmjjpddikaaGreatDoor
