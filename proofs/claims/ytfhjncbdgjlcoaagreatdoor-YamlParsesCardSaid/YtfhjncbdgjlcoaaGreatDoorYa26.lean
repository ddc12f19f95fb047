import Derived.Test.YtfhjncbdgjlcoaaGreatDoorYa8
set_option maxRecDepth 100000
set_option maxHeartbeats 4000000
set_option linter.unusedVariables false
set_option linter.unusedSimpArgs false
namespace Go.Proofs.YtfhjncbdgjlcoaaGreatDoor
open Go.RowKit
open Go.Lib hiding intOf
theorem aAe (s:ByteArray) (w:World) (hs:s.size<=4294967296):
  Calls Tryz.prog 163 #[s] w λe w'=>e= .returned (.bool (cV s.data.toList))/\Below w.heap.size w w':=uy
theorem yC (s:ByteArray) (w:World) (R:Bool) (hs:s.size<=4294967296) (h:cV s.data.toList=R):
  Calls Tryz.prog 163 #[s] w λe w'=>e= .returned (.bool R)/\Below w.heap.size w w':=by
 rw[<-h];exact aAe s w hs
def lY (p:UInt8->Bool) (l:List UInt8):Nat:=(l.takeWhile (λc=>!p c)).length
theorem Nk (p:UInt8->Bool) (l:List UInt8):lY p l<=l.length:=(List.takeWhile_sublist _).length_le
theorem aAf (p:UInt8->Bool) (l:List UInt8):l.take (lY p l)=l.takeWhile (λc=>!p c):=by
 have h:=List.takeWhile_append_dropWhile (p:=λc=>!p c) (l:=l);unfold lY
 conv=>lhs;arg 2;rw[<-h]
 exact List.take_left
theorem aAg (p:UInt8->Bool) (l:List UInt8):l.drop (lY p l)=l.dropWhile (λc=>!p c):=by
 have h:=List.takeWhile_append_dropWhile (p:=λc=>!p c) (l:=l);unfold lY
 conv=>lhs;arg 2;rw[<-h]
 exact List.drop_left
theorem Nl (p:UInt8->Bool) (l:List UInt8):cI p l=(l.take (lY p l),l.drop (lY p l+1),decide (lY p l<l.length)):=by
 have c:=aAf p l;have b:=aAg p l;have a:=congrArg List.length b;rw[aU] at a;unfold cI;split
 ·rename_i e;rw[e] at a;simp only[kS] at a;rw[aG a_,uC a_,List.drop_of_length_le a_]
 ·rename_i e;rw[e] at b a;simp only[bH] at a;rw[aO a_,c,<-jJ,b];rfl
theorem Nm {p:UInt8->Bool}: ∀ {l:List UInt8},l.all p=true->l.takeWhile p=l
 | [],_=>rfl
 | c::t,h=>by
  rw[List.all_cons,fK] at h;rw[List.takeWhile_cons,if_pos h.1,Nm h.2]
theorem Bl {p:UInt8->Bool}{l:List UInt8}{k:Nat} (h:mE p (bs l) k) (hk:k=(bs l).size\/ ∃hk:k<(bs l).size,p ((bs l)[k]'hk)=true):k=lY p l:=by
 unfold mE at h;rw[aQ] at h;have hs:=aM l;rcases hk with hk | ⟨hk,b⟩
 ·rw[uC a_] at h;unfold lY;rw[Nm h];omega
 ·have a:k<l.length:=a_
  have e:l=l.take k++(l[k]::l.drop (k+1)):=by rw[<-fL a,rR]
  have c:(bs l)[k]'hk=l[k]:=by simp[bs,ByteArray.getElem_eq_getElem_data]
  rw[c] at b;unfold lY;rw[e,List.takeWhile_append_of_pos (by rw[gW] at h;exact h),List.takeWhile_cons,if_neg (by simp[b])];simp;omega
def wM (l:List UInt8):Value:=
 let c:=cI eV (fJ l)
 let m:=cI gV c.1
 let x:=if c.2.2 then eW c.2.1 else [48]
 let r:=if m.2.2 then m.2.1 else [48]
 .tuple #[(l.head?==some 45),bs m.1,bs (if m.2.2 then m.2.1 else []),(c.2.2&&c.2.1.head?==some 45),bs x,(cV m.1&&cV r&&cV x&&(m.1== [48]||m.1.head? !=some 48))]
theorem aAh (l:List UInt8) (w:World) (hs:l.length<=4294967296):
  Calls Tryz.prog 124 #[bs l] w λe w'=>e= .returned (wM l)/\Below w.heap.size w w':=by
 have hu:=zR l;have sl:=aM l;obtain⟨R,hR⟩:=exQ<|wM l;rw[hR];obtain⟨ng,a⟩:=exQ (l.head?==some 45);have HR:=hid hR;have E:=hid a;clear hR a;go_enter Tryz.func124,Tryz.ntmps124;go_upto_region 1 with fail;go_cut [8] (λs8 wx=>s8= .bool ng/\w=wx)
 case first=>
  by_cases D:0<(bs l).size
  ·have G:=iE l 45 45 rfl D;rw[E.out] at G;cases ng
   all_goals exact ah
  ·have x:l= []:=List.eq_nil_of_length_eq_zero a_;subst x;obtain rfl:false=ng:=E.out;exact ah
 case rest=>
  obtain⟨rfl,rfl⟩:=hcut;go_upto_if 23 with fail;go_cut [0] (λs0 wx=>s0= .string (bs (fJ l))/\w=wx)
  case first=>
   have a:=E.out;cases ng with
   | true=>
    have A:1<=(bs l).size:=by
     cases l with
     | nil=>exact absurd a b_
     | cons _ _=>simp at sl ⊢;omega
    have Y:fJ l=l.drop 1:=by unfold fJ;rw[if_pos (beq_iff_eq.1 a)]
    have HU:=hid Y;clear Y a;go_wp2_with fail;go_meet;exact⟨by rw[HU.out,iD _ _ _ rfl],rfl⟩
   | false=>
    have HU:=hid (Jn a).1;clear a;go_wp2_with fail;go_meet;exact⟨by rw[HU.out],rfl⟩
  obtain⟨rfl,rfl⟩:=hcut;obtain⟨u,Y⟩:=exQ<|fJ l;rw[Y] at hu ⊢;have HU:=hid Y;clear Y;have su:=aM u;go_upto_block 0 with fail;go_cut [9] (λs9 wx=>s9= .int .i64 (lY eV u)/\w=wx)
  case first=>
   have DI:=trivial;exact vf
  obtain⟨rfl,rfl⟩:=hcut;have an:=Nk eV u;obtain⟨K,hK⟩:=exQ<|lY eV u;have hc:=Nl eV u;rw[hK] at an hc;rw[hK];have J:=hid hc;clear hK hc;obtain⟨X,hX⟩:=exQ (if(cI eV u).2.2 then eW (cI eV u).2.1 else [48]);obtain⟨mn,ag⟩:=exQ ((cI eV u).2.2&&(cI eV u).2.1.head?==some 45);have HX:=hid hX;have HM:=hid ag;clear hX ag;go_upto_if 47 with fail;go_cut [10,11] (λM S wx=>M= .string (bs X)/\S= .bool mn/\w=wx)
  case first=>
   have o:=HX.out;have n:=HM.out;rw[J.out] at o n;by_cases d:K<u.length
   ·rw [aO d] at o n;simp only[if_true,Bool.true_and] at o n;obtain⟨y,hy⟩:=exQ<|u.drop (K+1);rw[hy] at o n;have P:=hid hy;have sy:=aM y;have hky:y.length<=u.length:=by rw[<-hy,aU];omega
    clear hy;have ay:=hid o;have p:=hid n;clear o n;go_upto_region 10 with fail;go_cut [10] (λM wx=>M= .string (bs y)/\w=wx)
    case first=>
     go_wp2_with fail;go_meet;exact⟨by rw[iD _ _ _ rfl,P.out],rfl⟩
    obtain⟨rfl,rfl⟩:=hcut;go_upto_region 11 with fail;go_cut [11] (λS wx=>S= .bool mn/\w=wx)
    case first=>
     by_cases D:0<(bs y).size
     ·have G:=iE y 45 45 rfl D;rw[p.out] at G;cases mn
      all_goals exact ah
     ·have x:y= []:=List.eq_nil_of_length_eq_zero a_;subst x;obtain rfl:false=mn:=p.out;exact ah
    obtain⟨rfl,rfl⟩:=hcut;obtain⟨pl,ai⟩:=exQ (y.head?==some 43);have HP:=hid ai;clear ai;have f:mn=true\/pl=true->1<=(bs y).size:=by
     intro h;have A:=p.out;have h2:=HP.out;cases y with
     | nil=>rcases h with rfl|rfl;exact absurd A b_;exact absurd h2 b_
     | cons _ _=>simp at sy ⊢;omega
    go_upto_region 12 with fail;obtain⟨q,hq⟩:=exQ (mn||pl);have Z:=hid hq;clear hq;go_cut [70] (λao wx=>ao= .bool q/\w=wx)
    case first=>
     cases mn with
     | true=>
      obtain rfl:true=q:=Z.out;exact ah
     | false=>
      by_cases D:0<(bs y).size
      ·have G:=iE y 43 43 rfl D;rw[HP.out] at G;cases pl
       ·obtain rfl:false=q:=Z.out;exact ah
       ·obtain rfl:true=q:=Z.out;exact ah
      ·have x:y= []:=List.eq_nil_of_length_eq_zero a_;subst x;obtain rfl:false=pl:=HP.out;obtain rfl:false=q:=Z.out;exact ah
    obtain⟨rfl,rfl⟩:=hcut;have g:=ay.out;unfold eW at g;cases q with
    | true=>
     have W:mn=true\/pl=true:=by have:=Z.out;rwa [Bool.or_eq_true] at this
     have A:=f W;have c:y.head?=some 45\/y.head?=some 43:=by
      rcases W with h | h
      ·exact .inl (beq_iff_eq.1 (p.out.trans h))
      ·exact .inr (beq_iff_eq.1 (HP.out.trans h))
     rw[if_pos c] at g;have aw:=hid g;clear g W c f;go_wp2_with fail;go_meet;exact⟨by rw[iD _ _ _ rfl,aw.out],rfl,rfl⟩
    | false=>
     have H:=Z.out;rw[Bool.or_eq_false_iff] at H;have c: ¬(y.head?=some 45\/y.head?=some 43):=by
      rintro(h | h)
      ·have:=p.out;rw[H.1,aE] at this;exact this h
      ·have:=HP.out;rw[H.2,aE] at this;exact this h
     rw[if_neg c] at g;subst g;clear H c f;go_wp2_with fail;go_meet;exact⟨rfl,rfl,rfl⟩
   ·rw[aG d] at o n;simp only[Bool.false_eq_true,if_false,Bool.false_and] at o n;subst o;subst n;have t:K=u.length:=a_;subst t;go_wp2_with fail;go_meet;exact⟨rfl,rfl,rfl⟩
  obtain⟨rfl,rfl,rfl⟩:=hcut;obtain⟨m,n⟩:=exQ<|(cI eV u).1;have C:=n;rw[J.out] at C;have hml:m.length<=u.length:=by rw[<-C];simp;omega
  have aA:=hid n;have av:=hid C;clear n C;have sm:=aM m;go_upto_region 14 with fail;go_cut [0] (λs0 wx=>s0= .string (bs m)/\w=wx)
  case first=>
   go_wp2_with fail;go_meet;exact⟨by rw[vG,aQ,av.out],rfl⟩
  obtain⟨rfl,rfl⟩:=hcut;go_upto_block 2 with fail;go_cut [9] (λs9 wx=>s9= .int .i64 (lY gV m)/\w=wx)
  case first=>exact vf
  obtain⟨rfl,rfl⟩:=hcut;have ak:=Nk gV m;obtain⟨K2,V⟩:=exQ<|lY gV m;have O:=Nl gV m;rw[V] at ak O;rw[V];have au:=hid O;clear V O;obtain⟨wh,j⟩:=exQ<|(cI gV m).1;obtain⟨r,b⟩:=exQ (if(cI gV m).2.2 then(cI gV m).2.1 else [48]);obtain⟨rs,B⟩:=exQ (if(cI gV m).2.2 then(cI gV m).2.1 else []);have al:=hid j;have ax:=hid b;have aD:=hid B;rw[au.out] at j b B;simp only[] at j;have hwl:wh.length<=m.length:=by rw[<-j];simp;omega
  have ab:=hid j;clear j;have ap:=aM wh;go_upto_region 18 with fail;go_cut [12] (λam wx=>am= .string (bs wh)/\w=wx)
  case first=>
   go_wp2_with fail;go_meet;exact⟨by rw[vG,aQ,ab.out],rfl⟩
  obtain⟨rfl,rfl⟩:=hcut;have hrl:r.length<=4294967296:=by
   rw[<-b];by_cases d:K2<m.length
   ·rw[aO d];simp;omega
   ·rw[aG d];simp
  have ad:=hid b;clear b;have aa:=hid B;clear B;go_upto_if 94 with fail;go_cut [13] (λN wx=>N= .string (bs r)/\w=wx)
  case first=>
   have b:=ad.out;by_cases d:K2<m.length
   ·rw[aO d,if_pos rfl] at b;have aB:=hid b;clear b;go_wp2_with fail;go_meet;exact⟨by rw[iD _ _ _ rfl,aB.out],rfl⟩
   ·rw[aG d,if_neg e_] at b;subst b;have t:K2=m.length:=a_;subst t;exact ah
  obtain⟨rfl,rfl⟩:=hcut;have hXl:X.length<=4294967296:=by
   have o:=HX.out;rw[J.out] at o;rw[<-o];by_cases d:K<u.length
   ·rw[aO d,if_pos rfl];unfold eW;split<;>simp<;>omega
   ·rw[aG d];simp
  obtain⟨D1,L⟩:=exQ<|cV wh;obtain⟨D2,T⟩:=exQ<|cV r;obtain⟨D3,Q⟩:=exQ<|cV X;have C1:=hid (λw=>yC (bs wh) w D1 EA (by rw[aQ];exact L));have C2:=hid (λw=>yC (bs r) w D2 EA (by rw[aQ];exact T));have C3:=hid (λw=>yC (bs X) w D3 EA (by rw[aQ];exact Q));have ae:=hid L;have az:=hid T;have ar:=hid Q;clear L T Q;go_upto_region 22 with fail;go_cut [14] (λaq wx=>aq= .bool (D1&&D2&&D3&&(wh== [48]||wh.head? !=some 48))/\Hid (Below w.heap.size w wx))
  case first=>
   cases D1 with
   | false=>
    go_wp2_with (go_at_call 163;(with_reducible refine(C1.out _).mono ?_);rintro e w1 ⟨rfl,s⟩);go_meet;exact⟨e_,s⟩
   | true=>
    have f:wh≠ []:=(nR ae.out).1;have D:0<(bs wh).size:=by
     cases wh with
     | nil=>exact absurd rfl f
     | cons _ _=>simp at ap ⊢;omega
    clear f;go_wp2_with (go_at_call 163;(with_reducible refine(C1.out _).mono ?_);rintro e w1 ⟨rfl,s⟩);cases D2 with
    | false=>
     refine(C2.out _).mono ?_;rintro e w2 ⟨rfl,I⟩;go_wp2_with fail;go_meet;exact⟨e_,aC s I⟩
    | true=>
     refine(C2.out _).mono ?_;rintro e w2 ⟨rfl,I⟩;have F:=hid (aC s I);clear s I;cases D3 with
     | false=>exact j6
     | true=>
      have G:=iE wh 48 48 rfl D;have aj:=vH ((bs wh)[0]'D) 48 48 rfl;have af:=fU ((bs wh)[0]'D) 48 48 rfl;rw[<-af,G] at aj;clear G af;by_cases hz:wh= [48]
      ·subst hz;have e1:((bs [48]).toList== [48])=true:=by rw[Lib.toList_data,aQ];rfl
       exact j6
      ·have e1:(bs wh).toList=wh:=C';have e2:(wh== [48])=false:=aE.2 hz;cases hh:wh.head?==some 48
       all_goals
        have HH:=hid hh;rw[hh] at aj;clear hh;go_wp2_with (go_at_call 163;(with_reducible refine(C3.out _).mono ?_);rintro e w3 ⟨rfl,U⟩);go_meet;exact⟨by rw[bne,HH.out,e2];rfl,aC F.out U⟩
  obtain⟨rfl,HB⟩:=hcut;go_upto_if 121 with fail;go_cut [13] (λN wx=>N= .string (bs rs)/\Hid (Below w.heap.size w wx))
  case first=>
   have b:=ad.out;have z:=aa.out;by_cases d:K2<m.length
   ·rw[aO d,if_pos rfl] at b z;have h3:=z.symm.trans b;have H3:=hid h3;clear b z h3;have G:((K2:Int)==(m.length:Int))=false:=aE.2 a_;go_wp2_with fail;go_meet;exact⟨by rw[H3.out],HB.out⟩
   ·rw[aG d,if_neg e_] at b z;subst b z;have t:K2=m.length:=a_;subst t;go_wp2_with fail;go_meet;exact⟨rfl,HB.out⟩
  obtain⟨rfl,F⟩:=hcut;go_wp2_with fail;refine bodyPost_ret (v:= .tuple #[ng,bs wh,bs rs,mn,bs X,(D1&&D2&&D3&&(wh== [48]||wh.head? !=some 48))]) ?_ rfl ⟨?_,F.out⟩
  ·simp[results,Tryz.results124,go_sem]
  ·rw[<-HR.out];unfold wM;simp only[HU.out,aA.out,E.out,HX.out,HM.out,al.out,ax.out,aD.out,ae.out,az.out,ar.out]
theorem aAi (l:List UInt8): ∃ng wh rs mn x ok,wM l= .tuple #[.bool ng, .string (bs wh), .string (bs rs), .bool mn, .string (bs x), .bool ok]/\
  (ok=false->dP l=(cF,2))/\
  (ok=true->cV wh=true/\rs.all dM=true/\x.all dM=true/\x≠ []/\wh.length+rs.length<=l.length/\x.length<=l.length+1/\dP l=nN ⟨ng,wh,rs,mn,x⟩):=by
 have hu:=zR l;have q:=Dj eV (fJ l);have e:=Dj gV (cI eV (fJ l)).1;obtain⟨c,k⟩:=exQ<|cI eV (fJ l);rw[k] at q e;obtain⟨m,y,a⟩:=c;simp only[] at q e;obtain⟨d,i⟩:=exQ<|cI gV m;rw[i] at e;obtain⟨wh,rs,pt⟩:=d;simp only[] at e;have j:pt=false->rs= []:=λh=>(Cq (h ▸ i)).2;have n:cV [48]=true:=rfl;have hP:wM l= .tuple #[(l.head?==some 45), .string (bs wh), .string (bs (if pt then rs else [])),(a&&y.head?==some 45),bs (if a then eW y else [48]), .bool (cV wh&&cV (if pt then rs else [48])&&cV (if a then eW y else [48])&&(wh== [48]||wh.head? !=some 48))]:=by
  unfold wM;simp only[k,i]
 have o:kJ l=if pM a pt (if a then eW y else []) wh rs then some ⟨l.head?==some 45,wh,rs,a&&y.head?==some 45,if a then eW y else []⟩ else none:=by
  unfold kJ;simp only[k,i]
 have g:pM a pt (if a then eW y else []) wh rs=(cV wh&&cV (if pt then rs else [48])&&cV (if a then eW y else [48])&&(wh== [48]||wh.head? !=some 48)):=by
  unfold pM;cases a<;>cases pt<;>simp only[if_true,if_false,Bool.false_eq_true,n,Bool.not_true,Bool.not_false,Bool.true_or,Bool.false_or,Bool.true_and,Bool.and_true]
  ·rw[Bool.and_comm (cV (eW y))]
  ·rw[Bool.and_comm (cV (eW y))]
 refine⟨_,_,_,_,_,_,hP,?_,?_⟩
 ·intro b;unfold dP;rw[o,g,b,if_neg e_]
 ·intro b;have f:=o;rw[g,b,if_pos rfl] at f;simp only[fK] at b;obtain⟨⟨⟨r,s⟩,p⟩,h4⟩:=b;refine⟨r,?_,(nR p).2,(nR p).1,?_,?_,?_⟩
  ·cases pt
   ·rfl
   ·exact(nR s).2
  ·cases pt<;>simp<;>omega
  ·cases a
   ·simp
   ·have:(eW y).length<=y.length:=by unfold eW;split<;>simp
    rw[if_pos rfl];omega
  ·unfold dP;rw[f];have e1:cJ [48]= []:=rfl;have e2:cJ ([]:List UInt8)= []:=rfl;have e3:eL [48]=0:=rfl;have e4:eL []=0:=rfl;cases a<;>cases pt<;>simp only[if_true,if_false,Bool.false_eq_true,nN,e1,e2,e3,e4,j,Bool.false_and]
def nJ:List UInt8->List UInt8
 | []=> []
 | [c]=> [c]
 | c::d::t=>if c=48 then nJ (d::t) else c::d::t
theorem Nn: ∀x:List UInt8,x≠ []->nJ x=if cJ x= [] then(match x.getLast? with | some c=> [c] | none=> []) else cJ x
 | [],h=>absurd rfl h
 | [c],_=>by
  unfold nJ cJ;by_cases h:c=48
  ·subst h;rfl
  ·simp[List.dropWhile_cons,h]
 | c::d::t,_=>by
  unfold nJ;by_cases h:c=48
  ·rw[if_pos h,Nn (d::t) e_];subst h;have e:cJ (48::d::t)=cJ (d::t):=by unfold cJ;rw[List.dropWhile_cons,if_pos b_]
   rw[e];rfl
  ·rw[if_neg h];have e:cJ (c::d::t)=c::d::t:=by unfold cJ;rw[List.dropWhile_cons,if_neg r_]
   rw[e,if_neg e_]
theorem aAj {x:List UInt8} (h:cJ x= []): ∀c∈x,c=48:=by
 induction x with
 | nil=>intro c a;cases a
 | cons d t ih=>
  unfold cJ at h;rw[List.dropWhile_cons] at h;by_cases hd:d=48
  ·rw[if_pos (by simp[hd])] at h;intro c a;rcases fY.1 a with rfl | a
   ·exact hd
   ·exact ih h c a
  ·rw[if_neg (by simpa using hd)] at h;cases h
theorem aAk (x:List UInt8) (h:x≠ []) (hd:x.all dM=true):(9<(nJ x).length↔9<(cJ x).length)/\eL (nJ x)=eL x/\(nJ x).all dM=true:=by
 rw[Nn x h];by_cases hz:cJ x= []
 ·rw[if_pos hz];have a:x.getLast?=some 48:=by
   rw[List.getLast?_eq_some_getLast h,aAj hz _ (List.getLast_mem h)]
  rw[a,hz];refine⟨e_,?_,rfl⟩;rw[<-yQ x,hz];rfl
 ·rw[if_neg hz];exact⟨Iff.rfl,yQ x,yY hd⟩
def Fq (ng:Bool) (wh rs:List UInt8) (mn:Bool) (V:Int):dU×Int:=
 if cJ (wh++rs)= [] then(cF,0) else
 if(if mn then -V else V)-rs.length+((cJ (wh++rs)).length-(cN (cJ (wh++rs))).length)< -1000000\/1000000<(if mn then -V else V)-rs.length+((cJ (wh++rs)).length-(cN (cJ (wh++rs))).length) then(cF,4) else
 (⟨ng,cN (cJ (wh++rs)),(if mn then -V else V)-rs.length+((cJ (wh++rs)).length-(cN (cJ (wh++rs))).length)⟩,0)
theorem aAl (ng:Bool) (wh rs:List UInt8) (mn:Bool) (x:List UInt8):nN ⟨ng,wh,rs,mn,x⟩=
  if 1000<wh.length+rs.length then(cF,3) else if 9<(cJ x).length then(cF,4) else Fq ng wh rs mn (eL x):=rfl
theorem aAm (l:List UInt8) (c:UInt8) (n:Int) (hn:n=c.toNat) (k:Nat) (hk:k=l.length-1) (h:k<(bs l).size):(((((bs l)[k]'h).toNat:Int))==n)=(l.getLast?==some c):=by
 have b:=aM l;subst hk;have a:=Dg (bs l) a_;rw[aQ] at a;have e:(bs l)[(bs l).size-1]' a_=(bs l)[l.length-1]'h:=by simp only[b]
 rw[e] at a;rw[fU _ c n hn,a];by_cases hc:(bs l)[l.length-1]'h=c
 ·rw[hc];simp
 ·rw[aE.2 hc,aE.2 EC]
def oL:Value->Nat
 | .string b=>b.size
 | _=>0
theorem No (c:UInt8) (t:List UInt8) (n:Nat) (h:n=(c::t).length):(bs (c::t)).extract 1 n=bs t:=by rw[iD _ _ _ h];rfl
theorem aAn (t:List UInt8) (c:UInt8) (n:Nat) (h:n=t.length):(bs (t++ [c])).extract 0 n=bs t:=by rw[vG,aQ,h,List.take_left]
theorem aAo (t:List UInt8):cN (t++ [48])=cN t:=by unfold cN;simp
theorem aAp (t:List UInt8) (c:UInt8) (h:c≠48):cN (t++ [c])=t++ [c]:=by unfold cN;simp[h]
theorem aAq (t:List UInt8):cJ (48::t)=cJ t:=by unfold cJ;rw[List.dropWhile_cons,if_pos b_]
theorem aAr (c:UInt8) (t:List UInt8) (h:c≠48):cJ (c::t)=c::t:=by unfold cJ;rw[List.dropWhile_cons,if_neg r_]
theorem Fs (l:List UInt8) (w:World) (hs:l.length<=4294967296):
  Calls Tryz.prog 88 #[bs l] w λe w'=>e=oU (dP l)/\Below w.heap.size w w':=by
 obtain⟨R,f⟩:=exQ<|dP l;rw[f];obtain⟨ng,wh,rs,mn,x,ok,a2,q,h1⟩:=aAi l;have CP:=hid (λw=>a2 ▸ aAh l w hs);rw[f] at q h1;have H0:=hid q;have H1:=hid h1;clear q h1 a2 f;go_enter Tryz.func88,Tryz.ntmps88;go_wp2_with fail;refine(CP.out _).mono ?_;rintro e w1 ⟨rfl,L⟩;have aC:=hid (((aB w.heap.size w).alloc (aD _) _).trans (L.mono e_));have C:=hid ((L.block w.heap.size e_).trans (heap_alloc_new w _));have aq:w.heap.size<w1.heap.size:=aF C.out;clear L;obtain⟨r0,r1,r2,g0,g1,g2⟩:=iA C.out;cases ok with
 | false=>
  have BP:=trivial;exact uo
 | true=>
 obtain⟨p1,p2,p3,p4,l1,l2,f⟩:=H1.out rfl;have sw:=aM wh;have sr:=aM rs;rw[aAl] at f;obtain⟨q1,q2,q3⟩:=aAk x p4 p3;by_cases t1:1000<wh.length+rs.length
 ·exact uo
 rw[if_neg t1] at f;have aw:(if 9<(nJ x).length then(cF,4) else Fq ng wh rs mn (eL x))=R:=by
  by_cases hh:9<(nJ x).length
  ·rw[if_pos hh];rw[if_pos (q1.1 hh)] at f;exact f.symm
  ·rw[if_neg hh];rw[if_neg (λh=>hh (q1.2 h))] at f;exact f.symm
 rw[<-q2] at aw;clear f q1 q2;have av:=hid aw;have HZ:=hid q3;have ao:=hid p1;have au:=hid p2;have a5:=hid p4;clear aw q3 p1 p2 p3 p4;go_upto_block 0 with fail;obtain⟨Z,hZ⟩:=exQ<|nJ x;rw[hZ] at av HZ;have bc:=hid hZ;clear hZ;go_cut [8] (λs8 wx=>s8= .string (bs Z)/\w1=wx)
 case first=>
  go_wp2_with fail;go_loopw [8] (λs8 wr=> ∃e,s8= .string (bs e)/\Hid (nJ e=Z/\e≠ [])/\e.length<=l.length+1/\w1=wr) (λs8 _=>oL s8)
  case atStart=>exact⟨x,rfl,⟨bc.out,a5.out⟩,l2,rfl⟩
  case round=>
   obtain⟨e,rfl,g,F,rfl⟩:=hrel;have se:=aM e
   match e,g,F,se with
   | [],g,_,_=>exact absurd rfl g.out.2
   | [c],g,_,se=>
    have HF:=hid g.out.1.symm;clear g;go_wp2_with fail;go_meet;exact⟨by rw[HF.out];rfl,rfl⟩
   | c::d::t,g,F,se=>
    have N:0<(bs (c::d::t)).size:=by rw[se];simp
    have hlong:1<(bs (c::d::t)).size:=by rw[se];simp
    have W:=iE (c::d::t) 48 48 rfl N;by_cases hc:c=48
    ·have o:=g.out.1;unfold nJ at o;rw[if_pos hc] at o;have ag:=hid (aK o (List.cons_ne_nil d t));rw[show ((c::d::t).head?==some 48)=true from by rw[hc];rfl] at W;have X:=hid (No c (d::t) _ se);have Y:(d::t).length<=l.length+1:=by simp at F ⊢;omega
     have HM:=hid (show oL (.string (bs (d::t)))<oL (.string (bs (c::d::t))) from by unfold oL;simp only[aM];simp);clear o g hc se F;go_wp2_with fail;go_roundw
     case rel=>exact⟨d::t,by rw[X.out],ag.out,Y,trivial⟩
     case measure=>rw[X.out];exact HM.out
    ·have o:=g.out.1;unfold nJ at o;rw[if_neg hc] at o;have HF:=hid o;rw[show ((c::d::t).head?==some 48)=false from by simpa using hc] at W;clear o g hc;exact gp
 obtain⟨rfl,rfl⟩:=hcut;have sz:=aM Z;by_cases t2:9<Z.length
 ·have AY:=trivial;exact tj
 have f:=av.out;rw[if_neg t2] at f;obtain⟨S,hS⟩:=exQ<|bs Z;have O:S.data.toList=Z:=by rw[<-hS,aQ]
 rw[hS] at sz ⊢;have ba:S.size<=9:=a_
 have ab:=hid O;have aW:=hid f;clear hS O f t2 sz;have aa: ∀p (h:p<S.size),dM (S[p]'h)=true:=λp h=>by exact nc
 have af: ∀p,0<=eL (S.data.toList.take p)/\eL (S.data.toList.take p)<1000000000:=λp=>by exact tf
 have an:=hid aa;have M:=hid af;clear aa af;obtain⟨V,hV⟩:=exQ<|eL Z;have a6:=M.out S.size;have ai:S.data.toList.take S.size=Z:=by rw[uC EG,ab.out]
 rw[ai,hV] at a6;have HA:=hid ai;have HV:=hid hV;clear ai hV;go_upto_block 2 with fail;go_cut [10] (λr wx=>r= .int .i64 V/\w1=wx)
 case first=>
  go_wp2_with fail;go_loopw [10,11] (λr bb wr=> ∃p:Nat,p<=S.size/\bb= .int .i64 p/\r= .int .i64 (eL (S.data.toList.take p))/\w1=wr) (λ_ i _=>S.size-(RowKit.intOf i).toNat)
  case atStart=>exact⟨0,a_,rfl,rfl,rfl⟩
  case round=>
   obtain⟨p,hp,rfl,rfl,rfl⟩:=hrel;by_cases hlt:p<S.size
   ·exact vh
   ·obtain rfl:p=S.size:=a_;have b1:=M.out S.size;go_wp2_with fail;go_meet;exact⟨by rw[HA.out,HV.out],rfl⟩
 obtain⟨rfl,rfl⟩:=hcut;obtain⟨E,hE⟩:=exQ (if mn then -V else V);have hEb: -1000000000<=E/\E<=1000000000:=by rw[<-hE];split<;>omega
 have f:=aW.out;rw[HV.out] at f;unfold Fq at f;rw[hE] at f;have g:=hid hE;have a0:=hid f;clear hE f aW;go_upto_if 60 with fail;go_cut [10] (λr wx=>r= .int .i64 E/\w1=wx)
 case first=>
  have hE:=g.out;cases mn
  all_goals
   first | rw[if_pos rfl] at hE | rw[if_neg e_] at hE
   subst hE;exact ah
 obtain⟨rfl,rfl⟩:=hcut;have hrs:rs.length<=1000:=a_
 obtain⟨E1,az⟩:=exQ<|E-(rs.length:Int);have hE1b: -1000001000<=E1/\E1<=1000000000:=a_
 have f:=a0.out;rw[az] at f;have ae:=hid f;have J:=hid az;clear f az a0;go_upto_region 17 with fail;go_cut [10] (λr wx=>r= .int .i64 E1/\w1=wx)
 case first=>
  go_wp2_with fail;go_meet;exact⟨by rw[J.out],rfl⟩
 obtain⟨rfl,rfl⟩:=hcut;go_upto_region 18 with fail;go_cut [12] (λH wx=>H= .string (bs (wh++rs))/\w1=wx)
 case first=>
  go_wp2_with fail;go_meet;exact⟨by rw[kK],rfl⟩
 obtain⟨rfl,rfl⟩:=hcut;obtain⟨y,hy⟩:=exQ<|wh++rs;have aJ:y.length<=1000:=by rw[<-hy,aT];omega
 rw[hy];have f:=ae.out;rw[hy] at f;have sD0:=aJ;obtain⟨D,hD⟩:=exQ<|cJ y;rw[hD] at f;have aL:D.head?≠some 48:=hD ▸ Cr y;have a8:D.length<=1000:=by
  have:=(List.dropWhile_sublist (p:=λc:UInt8=>c==48) (l:=y)).length_le;have o:(cJ y).length<=y.length:=this;rw[hD] at o;omega
 have a4:=hid aL;have HD:=hid hD;have ar:=hid f;clear f hD aL hy ae;go_upto_block 4 with fail;go_cut [12] (λH wx=>H= .string (bs D)/\w1=wx)
 case first=>
  go_wp2_with fail;go_loopw [12] (λH wr=> ∃e,H= .string (bs e)/\Hid (cJ e=D)/\e.length<=1000/\w1=wr) (λs _=>oL s)
  case atStart=>exact⟨y,rfl,HD.out,aJ,rfl⟩
  case round=>
   obtain⟨e,rfl,g,F,rfl⟩:=hrel;have se:=aM e
   match e,g,F,se with
   | [],g,_,se=>
    have HF:=hid (show []=D from g.out);clear g;exact gp
   | c::t,g,F,se=>
    have N:0<(bs (c::t)).size:=by rw[se];simp
    have W:=iE (c::t) 48 48 rfl N;by_cases hc:c=48
    ·have o:=g.out;rw[hc,aAq] at o;have ag:=hid o;rw[show ((c::t).head?==some 48)=true from by rw[hc];rfl] at W;have X:=hid (No c t _ se);have Y:t.length<=1000:=by simp at F;omega
     have HM:=hid (show oL (.string (bs t))<oL (.string (bs (c::t))) from by unfold oL;simp only[aM];simp);clear o g hc se F;go_wp2_with fail;go_roundw
     case rel=>exact⟨t,by rw[X.out],ag.out,Y,trivial⟩
     case measure=>rw[X.out];exact HM.out
    ·have o:=g.out;rw[aAr c t hc] at o;have HF:=hid o;rw[show ((c::t).head?==some 48)=false from by simpa using hc] at W;clear o g hc;exact gp
 obtain⟨rfl,rfl⟩:=hcut;have sD:=aM D;have I:(bs D).toList=D:=C'
 by_cases j:D= []
 ·have AZ:=trivial;exact tj
 have f:=ar.out;rw[if_neg j] at f;have ax: ¬(bs D).toList= []:=by rw[I];exact j
 have aN:((bs D).toList== [])=false:=aE.2 ax;have aH:(bs D).toList.isEmpty=false:=by rw[I];cases D with | nil=>exact absurd rfl j | cons _ _=>rfl
 obtain⟨T,W⟩:=exQ<|cN D;have aA:T.length<=D.length:=by
  have:=congrArg List.length (vL D);rw[aT,W] at this;omega
 rw[W] at f;have HT:=hid W;have aX:=hid f;have a3:=hid j;clear W f j I ar;go_upto_block 6 with fail;go_cut [12,10] (λH r wx=>H= .string (bs T)/\r= .int .i64 (E1+((D.length:Int)-(T.length:Int)))/\w1=wx)
 case first=>
  go_wp2_with fail;go_loopw [12,10] (λH r wr=> ∃e:List UInt8,H= .string (bs e)/\r= .int .i64 (E1+((D.length:Int)-(e.length:Int)))/\Hid (cN e=T/\e≠ []/\e.head?≠some 48)/\e.length<=D.length/\w1=wr) (λs _ _=>oL s)
  case atStart=>exact⟨D,rfl,by rw[Int.sub_self,Int.add_zero],⟨HT.out,a3.out,a4.out⟩,aD _,rfl⟩
  case round=>
   obtain⟨e,rfl,rfl,g,F,rfl⟩:=hrel;have se:=aM e;obtain⟨a,c,u⟩: ∃a c,e=a++ [c]:=⟨e.dropLast,e.getLast g.out.2.1,(List.dropLast_concat_getLast g.out.2.1).symm⟩;have aP:e.length=a.length+1:=by rw[u];simp
   have hidx:(bs e).size-1<(bs e).size:=a_;have N:0<(bs e).size:=a_;have ap:e.length-1<(bs e).size:=a_;have W:=aAm e 48 48 rfl (e.length-1) rfl ap;have hel1:1<=e.length:=a_;by_cases hc:c=48
   ·rw[show (e.getLast?==some 48)=true from by rw[u,List.getLast?_concat,hc];rfl] at W;have ad:a≠ []:=by
     intro h;subst h;have:=g.out.2.2;rw[u,hc] at this;exact this rfl
    have aU:a.head?≠some 48:=by
     have:=g.out.2.2;rw[u] at this;cases a with
     | nil=>exact absurd rfl ad
     | cons z zs=>simpa using this
    have ag:=hid (show cN a=T/\a≠ []/\a.head?≠some 48 from ⟨by have:=g.out.1;rw[u,hc,aAo] at this;exact this,ad,aU⟩);have X:=hid (show (bs e).extract 0 (e.length-1)=bs a from by rw[u];exact aAn a c _ e_);have aR:a.length<=D.length:=a_;have HM:=hid (show oL (.string (bs a))<oL (.string (bs e)) from by unfold oL;simp only[aM];omega);have HN:=hid (show E1+((D.length:Int)-(e.length:Int))+1=E1+((D.length:Int)-(a.length:Int)) from by omega);clear hc ad aU u g aP;go_wp2_with fail;go_roundw
    case rel=>exact⟨a,by rw[X.out],by rw[HN.out],ag.out,aR,trivial⟩
    case measure=>rw[X.out];exact HM.out
   ·rw[show (e.getLast?==some 48)=false from by rw[u,List.getLast?_concat];simpa using hc] at W;have HF:=hid (show e=T from by have:=g.out.1;rw[u,aAp a c hc] at this;rw[u];exact this);clear u g hc aP;go_wp2_with fail;go_meet;exact⟨by rw[<-HF.out],by rw[<-HF.out],rfl⟩
 obtain⟨rfl,rfl,rfl⟩:=hcut;obtain⟨K,hK⟩:=exQ<|E1+((D.length:Int)-(T.length:Int));have hKb: -1000001000<=K/\K<=1000001000:=a_
 have q:=aX.out;rw[hK] at q ⊢;clear hK aX;by_cases hk:K< -1000000\/1000000<K
 ·rw[if_pos hk] at q;have m:=hid q;clear q;rcases hk with hk | hk
  all_goals
   have A3:=trivial;exact tj
 ·rw[if_neg hk] at q;have m:=hid q;clear q;have hk1: -1000000<=K:=a_
  have hk2:K<=1000000:=a_
  clear hk;go_wp2_with fail;have P:=iA (bN (bN (bN C.out 0 (.bool ng)) 1 (.string (bs T))) 2 (.int .i64 K));clear r0 r1 r2 g0 g1 g2;obtain⟨r0,r1,r2,g0,g1,g2⟩:=P;refine bodyPost_ret (v:= .tuple #[dV ⟨ng,T,K⟩,(0:Int)]) ?_ rfl ⟨by rw[<-m.out];rfl,?_⟩
  ·exact gm
  ·exact dt
end Go.Proofs.YtfhjncbdgjlcoaaGreatDoor
