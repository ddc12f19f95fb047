import Derived.Test.YtfhjncbdgjlcoaaGreatDoorYn8
set_option linter.unusedVariables false
set_option linter.unusedSimpArgs false
set_option maxRecDepth 100000
set_option maxHeartbeats 4000000
namespace Go.Proofs.YtfhjncbdgjlcoaaGreatDoor
open Tryz
open Go.RowKit
open Go.Lib hiding intOf
theorem aAX (s:ByteArray) (w:World) (hs:s.size<=4294967296):
  Calls prog 163 #[s] w (aT w (.bool (dC s.data.toList))):=JS
theorem yS (s:ByteArray) (w:World) (R:Bool) (hs:s.size<=4294967296) (h:dC s.data.toList=R):
  Calls prog 163 #[s] w (aT w (.bool R)):=by
 rw[<-h];exact aAX s w hs
def nA (p:UInt8->Bool) (l:aC):Nat:=(l.takeWhile (λc=>!p c)).length
theorem Oj (p:UInt8->Bool) (l:aC):nA p l<=l.length:=(List.takeWhile_sublist _).length_le
theorem aAY (p:UInt8->Bool) (l:aC):l.take (nA p l)=l.takeWhile (λc=>!p c):=by
 have h:=List.takeWhile_append_dropWhile (p:=λc=>!p c) (l:=l);unfold nA
 conv=>lhs;arg 2;rw[<-h]
 exact List.take_left
theorem aAZ (p:UInt8->Bool) (l:aC):l.drop (nA p l)=l.dropWhile (λc=>!p c):=by
 have h:=List.takeWhile_append_dropWhile (p:=λc=>!p c) (l:=l);unfold nA
 conv=>lhs;arg 2;rw[<-h]
 exact List.drop_left
theorem Ok (p:UInt8->Bool) (l:aC):cO p l=(l.take (nA p l),l.drop (nA p l+1),decide (nA p l<l.length)):=by
 have c:=aAY p l;have b:=aAZ p l;have a:=congrArg List.length b;rw[bC] at a;unfold cO;split
 .rename_i e;rw[e] at a;simp only[lQ] at a;rw[aJ a_,uV a_,List.drop_of_length_le a_]
 .rename_i e;rw[e] at b a;simp only[bM] at a;rw[aQ a_,c,<-jO,b];rfl
theorem Ol {p:UInt8->Bool}: ∀ {l:aC},l.all p=true->l.takeWhile p=l
 | [],_=>rfl
 | c::t,h=>by
  rw[List.all_cons,fQ] at h;rw[List.takeWhile_cons,if_pos h.1,Ol h.2]
theorem Ci {p:UInt8->Bool}{l:aC}{k:Nat} (h:nI p (bs l) k) (hk:k=(bs l).size\/ ∃hk:k<(bs l).size,p ((bs l)[k]'hk)=true):k=nA p l:=by
 unfold nI at h;rw[aY] at h;have hs:=aP l;rcases hk with hk | ⟨hk,b⟩
 .rw[uV a_] at h;unfold nA;rw[Ol h];omega
 .have a:k<l.length:=a_
  have e:l=l.take k++(l[k]::l.drop (k+1)):=by rw[<-gB a,sS]
  have c:(bs l)[k]'hk=l[k]:=by simp[bs,ByteArray.getElem_eq_getElem_data]
  rw[c] at b;unfold nA;rw[e,List.takeWhile_append_of_pos (by rw[iN] at h;exact h),List.takeWhile_cons,if_neg (by simp[b])];simp;omega
def wZ (l:aC):Value:=
 let c:=cO fI (fZ l)
 let m:=cO iM c.1
 let x:=if c.2.2 then fJ c.2.1 else [48]
 let r:=if m.2.2 then m.2.1 else [48]
 .tuple #[(l.head?==some 45),bs m.1,bs (if m.2.2 then m.2.1 else []),(c.2.2&&c.2.1.head?==some 45),bs x,(dC m.1&&dC r&&dC x&&(m.1== [48]||m.1.head? !=some 48))]
theorem aBa (l:aC) (w:World) (hs:l.length<=4294967296):
  Calls prog 124 #[bs l] w (aT w (wZ l)):=by
 have hu:=Am l;have sl:=aP l;obtain⟨R,hR⟩:=exQ<|wZ l;rw[hR];obtain⟨ng,cf⟩:=exQ (l.head?==some 45);have HR:=hid hR;have ey:=hid cf;clear hR cf;go_in;go_upto_region 1 with fail;go_cut [8] (λs8 wx=>s8= .bool ng/\w=wx)
 case first=>
  by_cases O:0<(bs l).size
  .have hT:=iX l 45 45 rfl O;rw[ey.out] at hT;cases ng
   all_goals exact ag
  .have eg:l= []:=List.eq_nil_of_length_eq_zero a_;subst eg;obtain rfl:false=ng:=ey.out;exact ag
 case rest=>
  obtain⟨rfl,rfl⟩:=hcut;go_upto_if 23 with fail;go_cut [0] (λs0 wx=>s0= .string (bs (fZ l))/\w=wx)
  case first=>
   have cf:=ey.out;cases ng with
   | true=>
    have W:1<=(bs l).size:=by
     cases l with
     | nil=>exact absurd cf b_
     | cons _ _=>simp at sl ⊢;omega
    have hU:fZ l=l.drop 1:=by unfold fZ;rw[if_pos (beq_iff_eq.1 cf)]
    have HU:=hid hU;clear hU cf;go_wp2;go_meet;exact⟨by rw[HU.out,iW _ _ _ rfl],rfl⟩
   | false=>
    have HU:=hid (Kq cf).1;clear cf;go_wp2;go_meet;exact⟨by rw[HU.out],rfl⟩
  obtain⟨rfl,rfl⟩:=hcut;obtain⟨u,hU⟩:=exQ<|fZ l;rw[hU] at hu ⊢;have HU:=hid hU;clear hU;have su:=aP u;go_upto_block 0 with fail;go_cut [9] (λs9 wx=>s9= .int .i64 (nA fI u)/\w=wx)
  case first=>
   go_wp2;go_loopw [9] (λi wr=> ∃k:Nat,k<=(bs u).size/\i= .int .i64 k/\Hid (nI fI (bs u) k)/\w=wr) (λi _=>(bs u).size-(RowKit.intOf i).toNat)
   case atStart=>exact⟨0,a_,rfl,rfl,rfl⟩
   case round=>
    obtain⟨k,hk,rfl,HY,rfl⟩:=hrel;by_cases ab:k<(bs u).size
    .cases hp:fI ((bs u)[k]'ab) with
     | true=>
      have HC:=hid (Ci HY.out (.inr ⟨ab,hp⟩));have T1:=vR ((bs u)[k]'ab) 101 101 rfl;have T2:=vR ((bs u)[k]'ab) 69 69 rfl;unfold fI at hp;by_cases W:(((bs u)[k]'ab)==101)=true
      .rw[W] at T1;clear hp W T2;exact cp
      .rw[Bool.not_eq_true] at W;rw[W,Bool.false_or] at hp;rw[W] at T1;rw[hp] at T2;clear hp W;exact cp
     | false=>
      have HN:=hid (HY.out.next ab hp);have T1:=vR ((bs u)[k]'ab) 101 101 rfl;have T2:=vR ((bs u)[k]'ab) 69 69 rfl;unfold fI at hp;rw[Bool.or_eq_false_iff] at hp;rw[hp.1] at T1;rw[hp.2] at T2;exact lh
    .have HC:=hid (Ci HY.out (.inl a_));exact cp
  obtain⟨rfl,rfl⟩:=hcut;have j5:=Oj fI u;obtain⟨K,hK⟩:=exQ<|nA fI u;have hc:=Ok fI u;rw[hK] at j5 hc;rw[hK];have HC:=hid hc;clear hK hc;obtain⟨X,hX⟩:=exQ (if(cO fI u).2.2 then fJ (cO fI u).2.1 else [48]);obtain⟨mn,iE⟩:=exQ ((cO fI u).2.2&&(cO fI u).2.1.head?==some 45);have HX:=hid hX;have HM:=hid iE;clear hX iE;go_upto_if 47 with fail;go_cut [10,11] (λak dx wx=>ak= .string (bs X)/\dx= .bool mn/\w=wx)
  case first=>
   have hx:=HX.out;have hm:=HM.out;rw[HC.out] at hx hm;by_cases hk:K<u.length
   .rw [aQ hk] at hx hm;simp only[if_true,Bool.true_and] at hx hm;obtain⟨y,hy⟩:=exQ<|u.drop (K+1);rw[hy] at hx hm;have HY:=hid hy;have sy:=aP y;have hky:y.length<=u.length:=by rw[<-hy,bC];omega
    clear hy;have fF:=hid hx;have dK:=hid hm;clear hx hm;go_upto_region 10 with fail;go_cut [10] (λak wx=>ak= .string (bs y)/\w=wx)
    case first=>
     go_wp2;go_meet;exact⟨by rw[iW _ _ _ rfl,HY.out],rfl⟩
    obtain⟨rfl,rfl⟩:=hcut;go_upto_region 11 with fail;go_cut [11] (λdx wx=>dx= .bool mn/\w=wx)
    case first=>
     by_cases O:0<(bs y).size
     .have hT:=iX y 45 45 rfl O;rw[dK.out] at hT;cases mn
      all_goals exact ag
     .have eg:y= []:=List.eq_nil_of_length_eq_zero a_;subst eg;obtain rfl:false=mn:=dK.out;exact ag
    obtain⟨rfl,rfl⟩:=hcut;obtain⟨pl,gw⟩:=exQ (y.head?==some 43);have HP:=hid gw;clear gw;have N:mn=true\/pl=true->1<=(bs y).size:=by
     intro h;have W:=dK.out;have G:=HP.out;cases y with
     | nil=>rcases h with rfl|rfl;exact absurd W b_;exact absurd G b_
     | cons _ _=>simp at sy ⊢;omega
    go_upto_region 12 with fail;obtain⟨q,hq⟩:=exQ (mn||pl);have HQ:=hid hq;clear hq;go_cut [70] (λjL wx=>jL= .bool q/\w=wx)
    case first=>
     cases mn with
     | true=>
      obtain rfl:true=q:=HQ.out;exact ag
     | false=>
      by_cases O:0<(bs y).size
      .have hT:=iX y 43 43 rfl O;rw[HP.out] at hT;cases pl
       .obtain rfl:false=q:=HQ.out;exact ag
       .obtain rfl:true=q:=HQ.out;exact ag
      .have eg:y= []:=List.eq_nil_of_length_eq_zero a_;subst eg;obtain rfl:false=pl:=HP.out;obtain rfl:false=q:=HQ.out;exact ag
    obtain⟨rfl,rfl⟩:=hcut;have du:=fF.out;unfold fJ at du;cases q with
    | true=>
     have fg:mn=true\/pl=true:=by have:=HQ.out;rwa [Bool.or_eq_true] at this
     have W:=N fg;have cj:y.head?=some 45\/y.head?=some 43:=by
      rcases fg with h | h
      .exact .inl (beq_iff_eq.1 (dK.out.trans h))
      .exact .inr (beq_iff_eq.1 (HP.out.trans h))
     rw[if_pos cj] at du;have ja:=hid du;clear du fg cj N;go_wp2;go_meet;exact⟨by rw[iW _ _ _ rfl,ja.out],rfl,rfl⟩
    | false=>
     have eE:=HQ.out;rw[Bool.or_eq_false_iff] at eE;have cj: ¬(y.head?=some 45\/y.head?=some 43):=by
      rintro(h | h)
      .have:=dK.out;rw[eE.1,aI] at this;exact this h
      .have:=HP.out;rw[eE.2,aI] at this;exact this h
     rw[if_neg cj] at du;subst du;clear eE cj N;go_wp2;go_meet;exact⟨rfl,rfl,rfl⟩
   .rw[aJ hk] at hx hm;simp only[Bool.false_eq_true,if_false,Bool.false_and] at hx hm;subst hx;subst hm;have cq:K=u.length:=a_;subst cq;go_wp2;go_meet;exact⟨rfl,rfl,rfl⟩
  obtain⟨rfl,rfl,rfl⟩:=hcut;obtain⟨m,hm⟩:=exQ<|(cO fI u).1;have eR:=hm;rw[HC.out] at eR;have hml:m.length<=u.length:=by rw[<-eR];simp;omega
  have jN:=hid hm;have jg:=hid eR;clear hm eR;have sm:=aP m;go_upto_region 14 with fail;go_cut [0] (λs0 wx=>s0= .string (bs m)/\w=wx)
  case first=>
   go_wp2;go_meet;exact⟨by rw[vQ,aY,jg.out],rfl⟩
  obtain⟨rfl,rfl⟩:=hcut;go_upto_block 2 with fail;go_cut [9] (λs9 wx=>s9= .int .i64 (nA iM m)/\w=wx)
  case first=>
   go_wp2;go_loopw [9] (λi wr=> ∃k:Nat,k<=(bs m).size/\i= .int .i64 k/\Hid (nI iM (bs m) k)/\w=wr) (λi _=>(bs m).size-(RowKit.intOf i).toNat)
   case atStart=>exact⟨0,a_,rfl,rfl,rfl⟩
   case round=>
    obtain⟨k,hk,rfl,HY,rfl⟩:=hrel;by_cases ab:k<(bs m).size
    .have T1:=vR ((bs m)[k]'ab) 46 46 rfl;cases hp:iM ((bs m)[k]'ab) with
     | true=>
      have HC:=hid (Ci HY.out (.inr ⟨ab,hp⟩));unfold iM at hp;rw[hp] at T1;clear hp;exact cp
     | false=>
      have HN:=hid (HY.out.next ab hp);unfold iM at hp;rw[hp] at T1;exact lh
    .have HC:=hid (Ci HY.out (.inl a_));exact cp
  obtain⟨rfl,rfl⟩:=hcut;have hJ:=Oj iM m;obtain⟨K2,f5⟩:=exQ<|nA iM m;have ei:=Ok iM m;rw[f5] at hJ ei;rw[f5];have jE:=hid ei;clear f5 ei;obtain⟨wh,di⟩:=exQ<|(cO iM m).1;obtain⟨r,hr⟩:=exQ (if(cO iM m).2.2 then(cO iM m).2.1 else [48]);obtain⟨rs,dL⟩:=exQ (if(cO iM m).2.2 then(cO iM m).2.1 else []);have jZ:=hid di;have eo:=hid hr;have eI:=hid dL;rw[jE.out] at di hr dL;simp only[] at di;have hwl:wh.length<=m.length:=by rw[<-di];simp;omega
  have gq:=hid di;clear di;have jf:=aP wh;go_upto_region 18 with fail;go_cut [12] (λbj wx=>bj= .string (bs wh)/\w=wx)
  case first=>
   go_wp2;go_meet;exact⟨by rw[vQ,aY,gq.out],rfl⟩
  obtain⟨rfl,rfl⟩:=hcut;have hrl:r.length<=4294967296:=by
   rw[<-hr];by_cases hk:K2<m.length
   .rw[aQ hk];simp;omega
   .rw[aJ hk];simp
  have da:=hid hr;clear hr;have gE:=hid dL;clear dL;go_upto_if 94 with fail;go_cut [13] (λgc wx=>gc= .string (bs r)/\w=wx)
  case first=>
   have hr:=da.out;by_cases hk:K2<m.length
   .rw[aQ hk,if_pos rfl] at hr;have et:=hid hr;clear hr;go_wp2;go_meet;exact⟨by rw[iW _ _ _ rfl,et.out],rfl⟩
   .rw[aJ hk,if_neg e_] at hr;subst hr;have cq:K2=m.length:=a_;subst cq;exact ag
  obtain⟨rfl,rfl⟩:=hcut;have dn:X.length<=4294967296:=by
   have hx:=HX.out;rw[HC.out] at hx;rw[<-hx];by_cases hk:K<u.length
   .rw[aQ hk,if_pos rfl];unfold fJ;split<;>simp<;>omega
   .rw[aJ hk];simp
  obtain⟨D1,gf⟩:=exQ<|dC wh;obtain⟨D2,ga⟩:=exQ<|dC r;obtain⟨D3,fp⟩:=exQ<|dC X;have C1:=hid (λw=>yS (bs wh) w D1 M' (by rw[aY];exact gf));have C2:=hid (λw=>yS (bs r) w D2 M' (by rw[aY];exact ga));have C3:=hid (λw=>yS (bs X) w D3 M' (by rw[aY];exact fp));have iH:=hid gf;have iY:=hid ga;have jz:=hid fp;clear gf ga fp;go_upto_region 22 with fail;go_cut [14] (λbc wx=>bc= .bool (D1&&D2&&D3&&(wh== [48]||wh.head? !=some 48))/\Hid (aA w wx))
  case first=>
   cases D1 with
   | false=>
    go_wp2_with (go_at_call 163;(with_reducible refine(C1.out _).mono ?_);rintro e w1 ⟨rfl,az⟩);go_meet;exact⟨e_,az⟩
   | true=>
    have N:wh≠ []:=(oT iH.out).1;have O:0<(bs wh).size:=by
     cases wh with
     | nil=>exact absurd rfl N
     | cons _ _=>simp at jf ⊢;omega
    clear N;go_wp2_with (go_at_call 163;(with_reducible refine(C1.out _).mono ?_);rintro e w1 ⟨rfl,az⟩);cases D2 with
    | false=>
     refine aH (C2.out _) λw2 cw=>?_;go_wp2;go_meet;exact⟨e_,aE az cw⟩
    | true=>
     refine aH (C2.out _) λw2 cw=>?_;have ce:=hid (aE az cw);clear az cw;cases D3 with
     | false=>exact ko
     | true=>
      have hT:=iX wh 48 48 rfl O;have fs:=vR ((bs wh)[0]'O) 48 48 rfl;have iw:=gJ ((bs wh)[0]'O) 48 48 rfl;rw[<-iw,hT] at fs;clear hT iw;by_cases hz:wh= [48]
      .subst hz;have e1:((bs [48]).toList== [48])=true:=by rw[Lib.toList_data,aY];rfl
       exact ko
      .have e1:(bs wh).toList=wh:=DN;have e2:(wh== [48])=false:=aI.2 hz;cases hh:wh.head?==some 48
       all_goals
        have HH:=hid hh;rw[hh] at fs;clear hh;go_wp2_with (go_at_call 163;(with_reducible refine(C3.out _).mono ?_);rintro e w3 ⟨rfl,ah⟩);go_meet;exact⟨by rw[bne,HH.out,e2];rfl,aE ce.out ah⟩
  obtain⟨rfl,HB⟩:=hcut;go_upto_if 121 with fail;go_cut [13] (λgc wx=>gc= .string (bs rs)/\Hid (aA w wx))
  case first=>
   have hr:=da.out;have aw:=gE.out;by_cases hk:K2<m.length
   .rw[aQ hk,if_pos rfl] at hr aw;have h3:=aw.symm.trans hr;have H3:=hid h3;clear hr aw h3;have hT:((K2:Int)==(m.length:Int))=false:=aI.2 a_;go_wp2;go_meet;exact⟨by rw[H3.out],HB.out⟩
   .rw[aJ hk,if_neg e_] at hr aw;subst hr aw;have cq:K2=m.length:=a_;subst cq;go_wp2;go_meet;exact⟨rfl,HB.out⟩
  obtain⟨rfl,ce⟩:=hcut;go_wp2_with fail;refine bodyPost_ret (v:= .tuple #[ng,bs wh,bs rs,mn,bs X,(D1&&D2&&D3&&(wh== [48]||wh.head? !=some 48))]) ?_ rfl ⟨?_,ce.out⟩
  .simp[results,results124,go_sem]
  .rw[<-HR.out];unfold wZ;simp only[HU.out,jN.out,ey.out,HX.out,HM.out,jZ.out,eo.out,eI.out,iH.out,iY.out,jz.out]
theorem aBb (l:aC): ∃ng wh rs mn x ok,wZ l= .tuple #[.bool ng, .string (bs wh), .string (bs rs), .bool mn, .string (bs x), .bool ok]/\
  (ok=false->eF l=(cM,2))/\
  (ok=true->dC wh=true/\rs.all eC=true/\x.all eC=true/\x≠ []/\wh.length+rs.length<=l.length/\x.length<=l.length+1/\eF l=oO ⟨ng,wh,rs,mn,x⟩):=by
 have hu:=Am l;have o:=Eg fI (fZ l);have e:=Eg iM (cO fI (fZ l)).1;obtain⟨c,n⟩:=exQ<|cO fI (fZ l);rw[n] at o e;obtain⟨m,y,a⟩:=c;simp only[] at o e;obtain⟨d,i⟩:=exQ<|cO iM m;rw[i] at e;obtain⟨wh,rs,pt⟩:=d;simp only[] at e;have k:pt=false->rs= []:=λh=>(Do (h ▸ i)).2;have j:dC [48]=true:=rfl;have hP:wZ l= .tuple #[(l.head?==some 45), .string (bs wh), .string (bs (if pt then rs else [])),(a&&y.head?==some 45),bs (if a then fJ y else [48]), .bool (dC wh&&dC (if pt then rs else [48])&&dC (if a then fJ y else [48])&&(wh== [48]||wh.head? !=some 48))]:=by
  unfold wZ;simp only[n,i]
 have q:lE l=if qI a pt (if a then fJ y else []) wh rs then some ⟨l.head?==some 45,wh,rs,a&&y.head?==some 45,if a then fJ y else []⟩ else none:=by
  unfold lE;simp only[n,i]
 have g:qI a pt (if a then fJ y else []) wh rs=(dC wh&&dC (if pt then rs else [48])&&dC (if a then fJ y else [48])&&(wh== [48]||wh.head? !=some 48)):=by
  unfold qI;cases a<;>cases pt<;>simp only[if_true,if_false,Bool.false_eq_true,j,Bool.not_true,Bool.not_false,Bool.true_or,Bool.false_or,Bool.true_and,Bool.and_true]
  .rw[Bool.and_comm (dC (fJ y))]
  .rw[Bool.and_comm (dC (fJ y))]
 refine⟨_,_,_,_,_,_,hP,?_,?_⟩
 .intro b;unfold eF;rw[q,g,b,if_neg e_]
 .intro b;have f:=q;rw[g,b,if_pos rfl] at f;simp only[fQ] at b;obtain⟨⟨⟨s,r⟩,p⟩,h4⟩:=b;refine⟨s,?_,(oT p).2,(oT p).1,?_,?_,?_⟩
  .cases pt
   .rfl
   .exact(oT r).2
  .cases pt<;>simp<;>omega
  .cases a
   .simp
   .have:(fJ y).length<=y.length:=by unfold fJ;split<;>simp
    rw[if_pos rfl];omega
  .unfold eF;rw[f];have e1:cS [48]= []:=rfl;have e2:cS ([]:aC)= []:=rfl;have e3:fA [48]=0:=rfl;have e4:fA []=0:=rfl;cases a<;>cases pt<;>simp only[if_true,if_false,Bool.false_eq_true,oO,e1,e2,e3,e4,k,Bool.false_and]
def oK:aC->aC
 | []=> []
 | [c]=> [c]
 | c::d::t=>if c=48 then oK (d::t) else c::d::t
theorem Om: ∀x:aC,x≠ []->oK x=if cS x= [] then(match x.getLast? with | some c=> [c] | none=> []) else cS x
 | [],h=>absurd rfl h
 | [c],_=>by
  unfold oK cS;by_cases h:c=48
  .subst h;rfl
  .simp[List.dropWhile_cons,h]
 | c::d::t,_=>by
  unfold oK;by_cases h:c=48
  .rw[if_pos h,Om (d::t) e_];subst h;have e:cS (48::d::t)=cS (d::t):=by unfold cS;rw[List.dropWhile_cons,if_pos b_]
   rw[e];rfl
  .rw[if_neg h];have e:cS (c::d::t)=c::d::t:=by unfold cS;rw[List.dropWhile_cons,if_neg s']
   rw[e,if_neg e_]
theorem aBc {x:aC} (h:cS x= []): ∀c∈x,c=48:=by
 induction x with
 | nil=>intro c a;cases a
 | cons d t ih=>
  unfold cS at h;rw[List.dropWhile_cons] at h;by_cases hd:d=48
  .rw[if_pos (by simp[hd])] at h;intro c a;rcases fT.1 a with rfl | a
   .exact hd
   .exact ih h c a
  .rw[if_neg (by simpa using hd)] at h;cases h
theorem aBd (x:aC) (h:x≠ []) (hd:x.all eC=true):(9<(oK x).length↔9<(cS x).length)/\fA (oK x)=fA x/\(oK x).all eC=true:=by
 rw[Om x h];by_cases hz:cS x= []
 .rw[if_pos hz];have a:x.getLast?=some 48:=by
   rw[List.getLast?_eq_some_getLast h,aBc hz _ (List.getLast_mem h)]
  rw[a,hz];refine⟨e_,?_,rfl⟩;rw[<-zJ x,hz];rfl
 .rw[if_neg hz];exact⟨Iff.rfl,zJ x,zR hd⟩
def Gk (ng:Bool) (wh rs:aC) (mn:Bool) (V:Int):eJ×Int:=
 if cS (wh++rs)= [] then(cM,0) else
 if(if mn then -V else V)-rs.length+((cS (wh++rs)).length-(cW (cS (wh++rs))).length)< -1000000\/1000000<(if mn then -V else V)-rs.length+((cS (wh++rs)).length-(cW (cS (wh++rs))).length) then(cM,4) else
 (⟨ng,cW (cS (wh++rs)),(if mn then -V else V)-rs.length+((cS (wh++rs)).length-(cW (cS (wh++rs))).length)⟩,0)
theorem aBe (ng:Bool) (wh rs:aC) (mn:Bool) (x:aC):oO ⟨ng,wh,rs,mn,x⟩=
  if 1000<wh.length+rs.length then(cM,3) else if 9<(cS x).length then(cM,4) else Gk ng wh rs mn (fA x):=rfl
theorem aBf (l:aC) (c:UInt8) (n:Int) (hn:n=c.toNat) (k:Nat) (hk:k=l.length-1) (h:k<(bs l).size):(((((bs l)[k]'h).toNat:Int))==n)=(l.getLast?==some c):=by
 have b:=aP l;subst hk;have a:=Ed (bs l) a_;rw[aY] at a;have e:(bs l)[(bs l).size-1]' a_=(bs l)[l.length-1]'h:=by simp only[b]
 rw[e] at a;rw[gJ _ c n hn,a];by_cases hc:(bs l)[l.length-1]'h=c
 .rw[hc];simp
 .rw[aI.2 hc,aI.2 F_]
def pJ:Value->Nat
 | .string b=>b.size
 | _=>0
theorem On (c:UInt8) (t:aC) (n:Nat) (h:n=(c::t).length):(bs (c::t)).extract 1 n=bs t:=by rw[iW _ _ _ h];rfl
theorem aBg (t:aC) (c:UInt8) (n:Nat) (h:n=t.length):(bs (t++ [c])).extract 0 n=bs t:=by rw[vQ,aY,h,List.take_left]
theorem aBh (t:aC):cW (t++ [48])=cW t:=by unfold cW;simp
theorem aBi (t:aC) (c:UInt8) (h:c≠48):cW (t++ [c])=t++ [c]:=by unfold cW;simp[h]
theorem aBj (t:aC):cS (48::t)=cS t:=by unfold cS;rw[List.dropWhile_cons,if_pos b_]
theorem aBk (c:UInt8) (t:aC) (h:c≠48):cS (c::t)=c::t:=by unfold cS;rw[List.dropWhile_cons,if_neg s']
theorem Gl (l:aC) (w:World) (hs:l.length<=4294967296):
  Calls prog 88 #[bs l] w λe w'=>e=pR (eF l)/\aA w w':=by
 obtain⟨R,hR⟩:=exQ<|eF l;rw[hR];obtain⟨ng,wh,rs,mn,x,ok,io,O,W⟩:=aBb l;have CP:=hid (λw=>io ▸ aBa l w hs);rw[hR] at O W;have H0:=hid O;have H1:=hid W;clear O W io hR;go_in;go_wp2_with fail;refine aH (CP.out _) λw1 az=>?_;have fB:=hid (((aD w.heap.size w).alloc (aF _) _).trans (az.mono e_));have av:=hid ((az.block w.heap.size e_).trans (heap_alloc_new w _));have fH:w.heap.size<w1.heap.size:=aG av.out;clear az;obtain⟨r0,r1,r2,g0,g1,g2⟩:=iS av.out;cases ok with
 | false=>
  have OC:=trivial;exact JM
 | true=>
 obtain⟨p1,p2,p3,p4,l1,l2,hR⟩:=H1.out rfl;have sw:=aP wh;have sr:=aP rs;rw[aBe] at hR;obtain⟨q1,q2,q3⟩:=aBd x p4 p3;by_cases t1:1000<wh.length+rs.length
 .exact JM
 rw[if_neg t1] at hR;have bz:(if 9<(oK x).length then(cM,4) else Gk ng wh rs mn (fA x))=R:=by
  by_cases hh:9<(oK x).length
  .rw[if_pos hh];rw[if_pos (q1.1 hh)] at hR;exact hR.symm
  .rw[if_neg hh];rw[if_neg (λh=>hh (q1.2 h))] at hR;exact hR.symm
 rw[<-q2] at bz;clear hR q1 q2;have da:=hid bz;have HZ:=hid q3;have gk:=hid p1;have fb:=hid p2;have cb:=hid p4;clear bz q3 p1 p2 p3 p4;go_upto_block 0 with fail;obtain⟨Z,hZ⟩:=exQ<|oK x;rw[hZ] at da HZ;have jb:=hid hZ;clear hZ;go_cut [8] (λs8 wx=>s8= .string (bs Z)/\w1=wx)
 case first=>
  go_wp2;go_loopw [8] (λs8 wr=> ∃e,s8= .string (bs e)/\Hid (oK e=Z/\e≠ [])/\e.length<=l.length+1/\w1=wr) (λs8 _=>pJ s8)
  case atStart=>exact⟨x,rfl,⟨jb.out,cb.out⟩,l2,rfl⟩
  case round=>
   obtain⟨e,rfl,HE,bw,rfl⟩:=hrel;have se:=aP e
   match e,HE,bw,se with
   | [],HE,_,_=>exact absurd rfl HE.out.2
   | [c],HE,_,se=>
    have HF:=hid HE.out.1.symm;clear HE;go_wp2;go_meet;exact⟨by rw[HF.out];rfl,rfl⟩
   | c::d::t,HE,bw,se=>
    have cF:0<(bs (c::d::t)).size:=by rw[se];simp
    have hlong:1<(bs (c::d::t)).size:=by rw[se];simp
    have hT:=iX (c::d::t) 48 48 rfl cF;by_cases hc:c=48
    .have G:=HE.out.1;unfold oK at G;rw[if_pos hc] at G;have ed:=hid (aK G (List.cons_ne_nil d t));rw[show ((c::d::t).head?==some 48)=true from by rw[hc];rfl] at hT;have HL:=hid (On c (d::t) _ se);have dW:(d::t).length<=l.length+1:=by simp at bw ⊢;omega
     have HM:=hid (show pJ (.string (bs (d::t)))<pJ (.string (bs (c::d::t))) from by unfold pJ;simp only[aP];simp);clear G HE hc se bw;go_wp2;go_roundw
     case rel=>exact⟨d::t,by rw[HL.out],ed.out,dW,trivial⟩
     case measure=>rw[HL.out];exact HM.out
    .have G:=HE.out.1;unfold oK at G;rw[if_neg hc] at G;have HF:=hid G;rw[show ((c::d::t).head?==some 48)=false from by simpa using hc] at hT;clear G HE hc;exact ij
 obtain⟨rfl,rfl⟩:=hcut;have sz:=aP Z;by_cases t2:9<Z.length
 .have NE:=trivial;exact I4
 have hR:=da.out;rw[if_neg t2] at hR;obtain⟨S,hS⟩:=exQ<|bs Z;have dk:S.data.toList=Z:=by rw[<-hS,aY]
 rw[hS] at sz ⊢;have eN:S.size<=9:=a_
 have dN:=hid dk;have eo:=hid hR;clear hS dk hR t2 sz;have dB: ∀p (h:p<S.size),eC (S[p]'h)=true:=λp h=>by exact F5
 have dP: ∀p,0<=fA (S.data.toList.take p)/\fA (S.data.toList.take p)<1000000000:=λp=>by exact I2
 have fU:=hid dB;have cm:=hid dP;clear dB dP;obtain⟨V,hV⟩:=exQ<|fA Z;have j1:=cm.out S.size;have f:S.data.toList.take S.size=Z:=by rw[uV GQ,dN.out]
 rw[f,hV] at j1;have HA:=hid f;have HV:=hid hV;clear f hV;go_upto_block 2 with fail;go_cut [10] (λak wx=>ak= .int .i64 V/\w1=wx)
 case first=>
  go_wp2;go_loopw [10,11] (λak dx wr=> ∃p:Nat,p<=S.size/\dx= .int .i64 p/\ak= .int .i64 (fA (S.data.toList.take p))/\w1=wr) (λ_ i _=>S.size-(RowKit.intOf i).toNat)
  case atStart=>exact⟨0,a_,rfl,rfl,rfl⟩
  case round=>
   obtain⟨p,hp,rfl,rfl,rfl⟩:=hrel;by_cases ab:p<S.size
   .exact J3
   .obtain rfl:p=S.size:=a_;have b1:=cm.out S.size;go_wp2;go_meet;exact⟨by rw[HA.out,HV.out],rfl⟩
 obtain⟨rfl,rfl⟩:=hcut;obtain⟨E,hE⟩:=exQ (if mn then -V else V);have hEb: -1000000000<=E/\E<=1000000000:=by rw[<-hE];split<;>omega
 have hR:=eo.out;rw[HV.out] at hR;unfold Gk at hR;rw[hE] at hR;have HE:=hid hE;have eI:=hid hR;clear hE hR eo;go_upto_if 60 with fail;go_cut [10] (λak wx=>ak= .int .i64 E/\w1=wx)
 case first=>
  have hE:=HE.out;cases mn
  all_goals
   first | rw[if_pos rfl] at hE | rw[if_neg e_] at hE
   subst hE;exact ag
 obtain⟨rfl,rfl⟩:=hcut;have dL:rs.length<=1000:=a_
 obtain⟨E1,ft⟩:=exQ<|E-(rs.length:Int);have hE1b: -1000001000<=E1/\E1<=1000000000:=a_
 have hR:=eI.out;rw[ft] at hR;have ea:=hid hR;have bV:=hid ft;clear hR ft eI;go_upto_region 17 with fail;go_cut [10] (λak wx=>ak= .int .i64 E1/\w1=wx)
 case first=>
  go_wp2;go_meet;exact⟨by rw[bV.out],rfl⟩
 obtain⟨rfl,rfl⟩:=hcut;go_upto_region 18 with fail;go_cut [12] (λbj wx=>bj= .string (bs (wh++rs))/\w1=wx)
 case first=>
  go_wp2;go_meet;exact⟨by rw[jP],rfl⟩
 obtain⟨rfl,rfl⟩:=hcut;obtain⟨y,hy⟩:=exQ<|wh++rs;have hyl:y.length<=1000:=by rw[<-hy,aZ];omega
 rw[hy];have hR:=ea.out;rw[hy] at hR;have sD0:=hyl;obtain⟨D,hD⟩:=exQ<|cS y;rw[hD] at hR;have iO:D.head?≠some 48:=hD ▸ Dp y;have i8:D.length<=1000:=by
  have:=(List.dropWhile_sublist (p:=λc:UInt8=>c==48) (l:=y)).length_le;have G:(cS y).length<=y.length:=this;rw[hD] at G;omega
 have js:=hid iO;have HD:=hid hD;have fa:=hid hR;clear hR hD iO hy ea;go_upto_block 4 with fail;go_cut [12] (λbj wx=>bj= .string (bs D)/\w1=wx)
 case first=>
  go_wp2;go_loopw [12] (λbj wr=> ∃e,bj= .string (bs e)/\Hid (cS e=D)/\e.length<=1000/\w1=wr) (λs _=>pJ s)
  case atStart=>exact⟨y,rfl,HD.out,hyl,rfl⟩
  case round=>
   obtain⟨e,rfl,HE,bw,rfl⟩:=hrel;have se:=aP e
   match e,HE,bw,se with
   | [],HE,_,se=>
    have HF:=hid (show []=D from HE.out);clear HE;exact ij
   | c::t,HE,bw,se=>
    have cF:0<(bs (c::t)).size:=by rw[se];simp
    have hT:=iX (c::t) 48 48 rfl cF;by_cases hc:c=48
    .have G:=HE.out;rw[hc,aBj] at G;have ed:=hid G;rw[show ((c::t).head?==some 48)=true from by rw[hc];rfl] at hT;have HL:=hid (On c t _ se);have dW:t.length<=1000:=by simp at bw;omega
     have HM:=hid (show pJ (.string (bs t))<pJ (.string (bs (c::t))) from by unfold pJ;simp only[aP];simp);clear G HE hc se bw;go_wp2;go_roundw
     case rel=>exact⟨t,by rw[HL.out],ed.out,dW,trivial⟩
     case measure=>rw[HL.out];exact HM.out
    .have G:=HE.out;rw[aBk c t hc] at G;have HF:=hid G;rw[show ((c::t).head?==some 48)=false from by simpa using hc] at hT;clear G HE hc;exact ij
 obtain⟨rfl,rfl⟩:=hcut;have sD:=aP D;have bZ:(bs D).toList=D:=DN
 by_cases N:D= []
 .have NF:=trivial;exact I4
 have hR:=fa.out;rw[if_neg N] at hR;have fL: ¬(bs D).toList= []:=by rw[bZ];exact N
 have gI:((bs D).toList== [])=false:=aI.2 fL;have hP:(bs D).toList.isEmpty=false:=by rw[bZ];cases D with | nil=>exact absurd rfl N | cons _ _=>rfl
 obtain⟨T,hT⟩:=exQ<|cW D;have df:T.length<=D.length:=by
  have:=congrArg List.length (vV D);rw[aZ,hT] at this;omega
 rw[hT] at hR;have HT:=hid hT;have gN:=hid hR;have jp:=hid N;clear hT hR N bZ fa;go_upto_block 6 with fail;go_cut [12,10] (λbj ak wx=>bj= .string (bs T)/\ak= .int .i64 (E1+((D.length:Int)-(T.length:Int)))/\w1=wx)
 case first=>
  go_wp2;go_loopw [12,10] (λbj ak wr=> ∃e:aC,bj= .string (bs e)/\ak= .int .i64 (E1+((D.length:Int)-(e.length:Int)))/\Hid (cW e=T/\e≠ []/\e.head?≠some 48)/\e.length<=D.length/\w1=wr) (λs _ _=>pJ s)
  case atStart=>exact⟨D,rfl,by rw[Int.sub_self,Int.add_zero],⟨HT.out,jp.out,js.out⟩,aF _,rfl⟩
  case round=>
   obtain⟨e,rfl,rfl,HE,bw,rfl⟩:=hrel;have se:=aP e;obtain⟨a,c,bd⟩: ∃a c,e=a++ [c]:=⟨e.dropLast,e.getLast HE.out.2.1,(List.dropLast_concat_getLast HE.out.2.1).symm⟩;have iy:e.length=a.length+1:=by rw[bd];simp
   have gZ:(bs e).size-1<(bs e).size:=a_;have cF:0<(bs e).size:=a_;have fq:e.length-1<(bs e).size:=a_;have hT:=aBf e 48 48 rfl (e.length-1) rfl fq;have hel1:1<=e.length:=a_;by_cases hc:c=48
   .rw[show (e.getLast?==some 48)=true from by rw[bd,List.getLast?_concat,hc];rfl] at hT;have dz:a≠ []:=by
     intro h;subst h;have:=HE.out.2.2;rw[bd,hc] at this;exact this rfl
    have ih:a.head?≠some 48:=by
     have:=HE.out.2.2;rw[bd] at this;cases a with
     | nil=>exact absurd rfl dz
     | cons z zs=>simpa using this
    have ed:=hid (show cW a=T/\a≠ []/\a.head?≠some 48 from ⟨by have:=HE.out.1;rw[bd,hc,aBh] at this;exact this,dz,ih⟩);have HL:=hid (show (bs e).extract 0 (e.length-1)=bs a from by rw[bd];exact aBg a c _ e_);have il:a.length<=D.length:=a_;have HM:=hid (show pJ (.string (bs a))<pJ (.string (bs e)) from by unfold pJ;simp only[aP];omega);have HN:=hid (show E1+((D.length:Int)-(e.length:Int))+1=E1+((D.length:Int)-(a.length:Int)) from by omega);clear hc dz ih bd HE iy;go_wp2;go_roundw
    case rel=>exact⟨a,by rw[HL.out],by rw[HN.out],ed.out,il,trivial⟩
    case measure=>rw[HL.out];exact HM.out
   .rw[show (e.getLast?==some 48)=false from by rw[bd,List.getLast?_concat];simpa using hc] at hT;have HF:=hid (show e=T from by have:=HE.out.1;rw[bd,aBi a c hc] at this;rw[bd];exact this);clear bd HE hc iy;go_wp2;go_meet;exact⟨by rw[<-HF.out],by rw[<-HF.out],rfl⟩
 obtain⟨rfl,rfl,rfl⟩:=hcut;obtain⟨K,hK⟩:=exQ<|E1+((D.length:Int)-(T.length:Int));have hKb: -1000001000<=K/\K<=1000001000:=a_
 have O:=gN.out;rw[hK] at O ⊢;clear hK gN;by_cases hk:K< -1000000\/1000000<K
 .rw[if_pos hk] at O;have I:=hid O;clear O;rcases hk with hk | hk
  all_goals
   have NG:=trivial;exact I4
 .rw[if_neg hk] at O;have I:=hid O;clear O;have aX: -1000000<=K:=a_
  have cq:K<=1000000:=a_
  clear hk;go_wp2_with fail;have hf:=iS (cA (cA (cA av.out 0 (.bool ng)) 1 (.string (bs T))) 2 (.int .i64 K));clear r0 r1 r2 g0 g1 g2;obtain⟨r0,r1,r2,g0,g1,g2⟩:=hf;refine bodyPost_ret (v:= .tuple #[eK ⟨ng,T,K⟩,(0:Int)]) ?_ rfl ⟨by rw[<-I.out];rfl,?_⟩
  .exact EO
  .exact D4
end Go.Proofs.YtfhjncbdgjlcoaaGreatDoor
