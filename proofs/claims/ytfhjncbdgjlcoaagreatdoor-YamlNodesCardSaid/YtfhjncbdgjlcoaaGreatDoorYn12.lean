import Derived.Test.YtfhjncbdgjlcoaaGreatDoorYn11
import Derived.Test.YtfhjncbdgjlcoaaGreatDoorYn5
import Derived.Test.YtfhjncbdgjlcoaaGreatDoorYn8
set_option linter.unusedVariables false
set_option linter.unusedSimpArgs false
set_option maxRecDepth 100000
set_option maxHeartbeats 4000000
namespace Go.Proofs.YtfhjncbdgjlcoaaGreatDoor
open Tryz
section
open Go.RowKit
open Go.Lib hiding intOf
def wI (r:Option Nat):Int:=match r with | some n=>n | none=> -1
theorem Xp (c:UInt8):
  (48<=(c.toNat:Int)/\(c.toNat:Int)<=57/\kQ c=some (c.toNat-48))\/
  (97<=(c.toNat:Int)/\(c.toNat:Int)<=102/\kQ c=some (c.toNat-97+10))\/
  (65<=(c.toNat:Int)/\(c.toNat:Int)<=70/\kQ c=some (c.toNat-65+10))\/
  (((c.toNat:Int)<48\/57<(c.toNat:Int)/\(c.toNat:Int)<65\/70<(c.toNat:Int)/\(c.toNat:Int)<97\/102<(c.toNat:Int))/\kQ c=none):=by
 unfold kQ;by_cases a:48<=c.toNat/\c.toNat<=57
 .left;refine⟨a_,a_,?_⟩;rw[if_pos a_]
 by_cases b:97<=c.toNat/\c.toNat<=102
 .right;left;refine⟨a_,a_,?_⟩;rw[if_neg a_,if_pos a_];congr 1;omega
 by_cases d:65<=c.toNat/\c.toNat<=70
 .right;right;left;refine⟨a_,a_,?_⟩;rw[if_neg a_,if_neg a_,if_pos a_];congr 1;omega
 .right;right;right;refine⟨a_,?_⟩;rw[if_neg a_,if_neg a_,if_neg a_]
theorem Xq (s:ByteArray) (a k:Nat) (hk:k<4) (h:a+k<s.size):
  (s.data.toList.drop (a+k)).take (4-k)=s[a+k]::(s.data.toList.drop (a+(k+1))).take (4-(k+1)):=by
 have b:s.data.toList.length=s.size:=rfl;rw[gB (by rw[b];exact h),show 4-k=(4-(k+1))+1 by omega,List.take_succ_cons];rfl
theorem Xr (s:ByteArray) (a:Nat) (w:World) (ha:a<=4294967296) (hs:s.size<=4294967296):
  Calls prog 164 #[s,a] w (aT w (.int .i64 (wI (jE (s.data.toList.drop a))))):=by
 obtain⟨R,hR⟩:=exQ<|jE (s.data.toList.drop a);rw[hR];have hl:s.data.toList.length=s.size:=rfl;by_cases h4:(s.size:Int)-4<(a:Int)
 .have:R=none:=by rw[<-hR];unfold jE;rw[if_pos DJ]
  subst this;clear hR;exact DX
 have hle:a+4<=s.size:=a_
 have h0:Hid (iE 0 ((s.data.toList.drop (a+0)).take (4-0))=R):=by
  rw[<-hR];unfold jE;rw[if_neg DJ];exact hid rfl
 clear hR hl;go_in;go_wp2;go_loopw [5,6] (λn i wr=> ∃k v:Nat,k<=4/\v<65536/\Hid (v<16 ^ k)/\n= .int .i64 v/\i= .int .i64 ((a+k:Nat):Int)/\Hid (iE v ((s.data.toList.drop (a+k)).take (4-k))=R)/\wr=w) (λn i _=>a+4-(RowKit.intOf i).toNat)
 case atStart=>exact⟨0,0,a_,a_,hid e_,rfl,rfl,h0,rfl⟩
 case round=>
  obtain⟨k,v,hk,hac,HA,rfl,rfl,HD,rfl⟩:=hrel;by_cases F:k<4
  .have y:((a+k:Nat):Int)<(a:Int)+4:=a_;have ar:a+k<s.size:=a_;have a8:=Xq s a k F ar;have hc:=Xp (s[a+k]'ar);have a6:v<4096:=by
    have:=HA.out;have h3:16 ^ k<=16 ^ 3:=Nat.pow_le_pow_right a_ a_;omega
   have a3: ∀d:Nat,kQ (s[a+k]'ar)=some d->Hid (iE (16*v+d) ((s.data.toList.drop (a+(k+1))).take (4-(k+1)))=R)/\Hid (16*v+d<16 ^ (k+1))/\16*v+d<65536:=by
    intro d hd;have h1:=HD.out;rw[a8] at h1;unfold iE at h1;rw[hd] at h1;have h2:=Ij hd;have h3:=HA.out;exact⟨hid h1,hid (by rw[Nat.pow_succ];omega),a_⟩
   rcases hc with⟨c1,c2,hd⟩ | ⟨c1,c2,hd⟩ | ⟨c1,c2,hd⟩ | ⟨c1,hd⟩
   .have hK:=hid (a3 _ hd);clear a3 hd a8 HD;go_wp2;go_roundw
    case rel=>exact⟨k+1,16*v+((s[a+k]'ar).toNat-48),a_,hK.out.2.2,hK.out.2.1,by congr 1<;>omega,by congr 1<;>omega,hK.out.1,by first | rfl | trivial⟩
    case measure=>simp[RowKit.intOf];omega
   .have hK:=hid (a3 _ hd);clear a3 hd a8 HD;go_wp2;go_roundw
    case rel=>exact⟨k+1,16*v+((s[a+k]'ar).toNat-97+10),a_,hK.out.2.2,hK.out.2.1,by congr 1<;>omega,by congr 1<;>omega,hK.out.1,by first | rfl | trivial⟩
    case measure=>simp[RowKit.intOf];omega
   .have hK:=hid (a3 _ hd);clear a3 hd a8 HD;go_wp2;go_roundw
    case rel=>exact⟨k+1,16*v+((s[a+k]'ar).toNat-65+10),a_,hK.out.2.2,hK.out.2.1,by congr 1<;>omega,by congr 1<;>omega,hK.out.1,by first | rfl | trivial⟩
    case measure=>simp[RowKit.intOf];omega
   .have hN:Hid (R=none):=by
     have h1:=HD.out;rw[a8] at h1;unfold iE at h1;rw[hd] at h1;exact hid h1.symm
    clear a3 hd a8 HD;have cq:((s[a+k]'ar).toNat:Int)<=255:=by have:=(s[a+k]'ar).toNat_lt;omega
    rcases c1 with c1 | ⟨c1,c2⟩ | ⟨c1,c2⟩ | c1
    all_goals
     go_wp2;go_ret;exact⟨by rw[hN.out];rfl,aD _ _⟩
  .have cL:k=4:=a_;subst cL;have hF:Hid (R=some v):=by
    have:=HD.out;rw[show 4-4=0 from rfl,List.take_zero] at this;exact hid this.symm
   clear HD;go_wp2;go_ret;exact⟨by rw[hF.out];rfl,aD _ _⟩
theorem Ly (n:Int) (w:World) (h0:0<=n/\n<=1114111):
  Calls prog 165 #[n] w (aT w (.string (Utf8.encode n))):=DX
def yD (r:Int×Int):ByteArray:=if r.2=0 then⟨#[]⟩ else Utf8.encode r.1
def lU:ByteArray:=⟨#[34,92,47,98,102,110,114,116]⟩
def Ey:ByteArray:=⟨#[34,92,47,8,12,10,13,9]⟩
theorem Xs: ∀k:Fin 8,(kI ((lU[k.val]'(by have:=k.isLt;exact this)).toNat:Int)).2=true/\(Ey.extract k.val (k.val+1)).data=(Utf8.encode (kI ((lU[k.val]'(by have:=k.isLt;exact this)).toNat:Int)).1).data:=b_
theorem Xt (k:Nat) (hk:k<lU.size) (c:UInt8) (h:c=lU[k]): ∃r:Int,kI (c.toNat:Int)=(r,true)/\Ey.extract k (k+1)=Utf8.encode r:=by
 subst h;have a:k<8:=hk;have:=Xs ⟨k,a⟩;exact⟨_,Prod.ext rfl this.1,ByteArray.ext this.2⟩
theorem Xu: ∀n:Fin 256,(∀j:Fin 8,(lU[j.val]'(by have:=j.isLt;exact this)).toNat≠n.val)->(kI (n.val:Int)).2=false:=b_
theorem Xv (c:UInt8) (h: ∀j,(hj:j<lU.size)->c≠lU[j]):(kI (c.toNat:Int)).2=false:=by
 refine Xu ⟨c.toNat,c.toNat_lt⟩ λj e=>h j.val j.isLt ?_;exact(UInt8.toNat_inj.1 e).symm
theorem Lz {B:Nat}{a w:World} (h:RowKit.Below B a w):RowKit.Below B a w.drew:=⟨h.os,h.tape,h.output,h.size,h.block⟩
def Ba (r:Int×Int):Ending:= .returned (.tuple #[(yD r),r.2])
theorem Xw (s:ByteArray) (a:Nat) (h:a+1<s.size):oR (s.data.toList.drop a)=if(kI (s[a+1].toNat:Int)).2 then((kI (s[a+1].toNat:Int)).1,2) else if s[a+1].toNat=117 then mL (s.data.toList.drop a) else(0,0):=by
 have b:s.data.toList.length=s.size:=rfl;unfold oR;rw[kG,bI (by rw[b];exact h)];rfl
theorem Xx (s:ByteArray) (a:Nat):Lib.hasPrefix ((s.data.toList.drop a).drop 6) [92,117]=true↔ ∃h:a+7<s.size,(s[a+6]' a_).toNat=92/\s[a+7].toNat=117:=by
 have b:s.data.toList.length=s.size:=rfl;unfold Lib.hasPrefix;rw[List.isPrefixOf_iff_prefix,jO];constructor
 .rintro⟨t,d⟩;have c:=congrArg List.length d;rw[bC,b] at c;simp at c;have h:a+7<s.size:=a_
  refine⟨h,?_,?_⟩
  .have:=congrArg (λl=>l[0]?) d;simp only[kG] at this;rw[bI (show a+6+0<s.data.toList.length by rw[b];omega)] at this;have e:s[a+6]' a_=s.data.toList[a+6+0]' JQ:=rfl;rw[e,<-bA this];rfl
  .have:=congrArg (λl=>l[1]?) d;simp only[kG] at this;rw[bI (show a+6+1<s.data.toList.length by rw[b];omega)] at this;have e:s[a+7]' a_=s.data.toList[a+6+1]' JQ:=rfl;rw[e,<-bA this];rfl
 .rintro⟨h,f,g⟩;refine⟨s.data.toList.drop (a+8),?_⟩;rw[gB (show a+6<s.data.toList.length by rw[b];omega),gB (show a+6+1<s.data.toList.length by rw[b];omega)];have e6:s.data.toList[a+6]' JQ=92:=UInt8.toNat_inj.1 f;have e7:s.data.toList[a+6+1]' JQ=117:=UInt8.toNat_inj.1 g;rw[e6,e7];rfl
theorem Xy (s:ByteArray) (a:Nat) (w:World) (ha:a<s.size) (hs:s.size<=1073741824):
  Calls prog 128 #[s,a] w λe w'=>e=Ba (oR (s.data.toList.drop a))/\aA w w':=by
 obtain⟨R,hR⟩:=exQ<|oR (s.data.toList.drop a);rw[hR];have hl:s.data.toList.length=s.size:=rfl;by_cases h1:(s.size:Int)<=(a:Int)+1
 .have:R=(0,0):=by rw[<-hR];unfold oR;rw[List.getElem?_eq_none DJ]
  subst this;clear hR;exact OY
 have ar:a+1<s.size:=a_
 have hb:0<=(a:Int)+1/\(a:Int)+1<(s.size:Int):=a_
 rw[Xw s a ar] at hR;obtain⟨c,hc⟩:=exQ<|s[a+1]'ar;rw[hc] at hR;have hci:(s[((a:Int)+1).toNat]' a_)=c:=by rw[<-hc];congr 1
 have HR:=hid hR;clear hR;have cq:((c.toNat:Nat):Int)<=255:=by have:=c.toNat_lt;omega
 go_in;go_wp2;go_loopw [8] (λi wr=> ∃k:Nat,k<=8/\i= .int .i64 k/\Hid (∀j,(hj:j<lU.size)->j<k->c≠lU[j])/\Hid (aA w wr)) (λi _=>8-(RowKit.intOf i).toNat)
 case atStart=>exact⟨0,a_,rfl,hid (λj _ h=>absurd h a_),hid (aD _ _)⟩
 case round=>
  obtain⟨k,hk,rfl,HM,HW⟩:=hrel;by_cases F:k<8
  .have b5:(k:Int)<8:=a_;have hb8:0<=(k:Int)/\(k:Int)<8:=⟨a_,b5⟩;have aU:k<lU.size:=F;have hE:(((c.toNat:Int)==((lU[k]'aU).toNat:Int))=true)↔c=lU[k]'aU:=⟨λh=>UInt8.toNat_inj.1 (by have:=beq_iff_eq.1 h;omega),λh=>by rw[h];exact beq_self_eq_true _⟩;have br:lU[k]'aU=(⟨#[34,92,47,98,102,110,114,116]⟩:ByteArray)[k]'(aU):=rfl;by_cases he:c=lU[k]'aU
   .have t1:=hE.2 he;rw[br] at t1;have HX:Hid (∃r,R=(r,2)/\Ey.extract k (k+1)=Utf8.encode r):=by
     obtain⟨r,hr,hx⟩:=Xt k aU c he;have:=HR.out;rw[hr] at this;simp only[if_true] at this;exact hid ⟨r,this.symm,hx⟩
    clear hE br he HM;go_wp2;go_region;go_wp2;go_ret2;obtain⟨r,hr,hx⟩:=HX.out;refine⟨?_,Lz HW.out⟩;rw[hr];unfold Ba yD;rw[if_neg (by show ¬((2:Int)=0);decide)];simp only[<-hx];rfl
   .have t1:((c.toNat:Int)==((lU[k]'aU).toNat:Int))=false:=by
     cases V:((c.toNat:Int)==((lU[k]'aU).toNat:Int)) with
     | false=>rfl
     | true=>exact absurd (hE.1 V) he
    have HN:=hid he;rw[br] at t1;clear hE he br;go_wp2;go_region;go_wp2;go_roundw
    case rel=>
     refine⟨k+1,a_,by congr 1<;>omega,hid (λj hj h=>?_),hid (Lz HW.out)⟩;by_cases hjk:j<k
     .exact HM.out j hj hjk
     .obtain rfl:j=k:=a_;exact HN.out
    case measure=>simp[RowKit.intOf];omega
  .have b5:k=8:=a_;subst b5;have HE:Hid ((if c.toNat=117 then mL (s.data.toList.drop a) else(0,0))=R):=by
    have hn:=Xv c (λj hj=>HM.out j hj hj);have:=HR.out;rw[hn,if_neg e_] at this;exact hid this
   clear HM HR;by_cases hu:c.toNat=117
   .have cg:Hid (mL (s.data.toList.drop a)=R):=by have:=HE.out;rw[if_pos hu] at this;exact hid this
    have t1:((c.toNat:Int)==117)=true:=beq_iff_eq.2 a_;clear HE hu;have CH: ∀d:Nat,d<=8-> ∀w,Calls prog 164 #[s, .int .i64 ((a:Int)+d)] w (aT w (.int .i64 (wI (jE ((s.data.toList.drop a).drop d))))):=λd hd w=>by
     have:=Xr s (a+d) w a_ a_;rw[jO];exact this
    have hR:=cg.out;clear cg;have C1:=CH 2 a_;have C2:=CH 8 a_;clear CH;have HP:=Xx s a;unfold mL at hR;cases g1:jE ((s.data.toList.drop a).drop 2) with
    | none=>
     rw[g1] at hR C1;have HX:Hid (R=(0,0)):=hid hR.symm;have D1:=hid C1;clear hR C1 C2 HP g1;unfold wI at D1;exact O3
    | some h=>
     rw[g1] at hR C1;simp only[] at hR;obtain⟨bn,hlen1⟩:=uE g1;clear g1;have D1:=hid C1;clear C1;unfold wI at D1;obtain⟨H,hH⟩: ∃H:Int,(h:Int)=H:=⟨_,rfl⟩;simp only[hH] at D1 hR;have hHB:0<=H/\H<65536:=a_;have hN0: ¬H<0:=a_;by_cases q1:56320<=h/\h<57344
     .rw[if_pos q1] at hR;have HX:Hid (R=(0,0)):=hid hR.symm;have ga:56320<=H:=a_;have gb:H<57344:=a_;clear hR C2 HP q1 hH bn;exact O3
     rw[if_neg q1] at hR;by_cases q2:h<55296\/57344<=h
     .have S4:=trivial;exact QL
     rw[if_neg q2] at hR;have ga:55296<=H:=a_;have gb:H<56320:=a_;clear q1 q2 hH bn;by_cases q7:(s.size:Int)<=(a:Int)+7
     .have DB:=trivial;exact vk
     have bL:a+7<s.size:=a_;have h7b:0<=(a:Int)+7/\(a:Int)+7<(s.size:Int):=a_;have h6b:0<=(a:Int)+6/\(a:Int)+6<(s.size:Int):=a_;by_cases q6:(s[a+6]' a_).toNat=92
     .have t6:((s[a+6]' a_).toNat:Int)=92:=a_;by_cases q5:(s[a+7]'bL).toNat=117
      .have t7:((s[a+7]'bL).toNat:Int)=117:=a_;rw[if_neg (by rw[HP.2 ⟨bL,q6,q5⟩];simp)] at hR;have h8s:a+8<=s.size:=a_;clear HP q6 q5;have D2:=hid C2;cases g2:jE ((s.data.toList.drop a).drop 8) with
       | none=>
        rw[g2] at hR D2;have HX:Hid (R=(0,0)):=hid hR.symm;unfold wI at D2;clear hR C2 g2;go_wp2_with fail;refine aH (D1.out _) λw1 o=>?_;have G:=hid (aE HW.out o);clear o;go_wp2_with fail;refine aH (D2.out _) λw2 J=>?_;exact mv
       | some lo=>
        rw[g2] at hR D2;simp only[] at hR;obtain⟨a1,_⟩:=uE g2;unfold wI at D2;obtain⟨L,hL⟩: ∃L:Int,(lo:Int)=L:=⟨_,rfl⟩;simp only[hL] at D2 hR;have hLB:0<=L/\L<65536:=a_;clear C2 g2;by_cases q8:lo<56320\/57344<=lo
        .exact QL
        .rw[if_neg q8] at hR;have gc:56320<=L:=a_;have gd:L<57344:=a_;clear q8 hL a1;have HX:Hid (R=(65536+1024*(H-55296)+L-56320,12)):=hid (by rw[<-hR];congr 1;omega);have CU:=hid (λw=>Ly (65536+1024*(H-55296)+L-56320) w ⟨a_,a_⟩);clear hR;go_wp2_with fail;refine aH (D1.out _) λw1 o=>?_;have G:=hid (aE HW.out o);clear o;go_wp2_with fail;refine aH (D2.out _) λw2 J=>?_;have aq:=hid (aE G.out J);clear J;go_wp2_with fail;refine aH (CU.out _) λw3 az=>?_;have b4:=hid (aE aq.out az);clear az;go_wp2;go_ret2;exact⟨by rw[HX.out];rfl,b4.out⟩
      .have C9:=trivial;exact vk
     .have DA:=trivial;exact vk
   .have HX:Hid (R=(0,0)):=by have:=HE.out;rw[if_neg hu] at this;exact hid this.symm
    have t1:((c.toNat:Int)==117)=false:=aI.2 a_;clear HE hu;go_wp2;go_ret2;exact⟨by rw[HX.out];rfl,HW.out⟩
theorem Xz (l:aC) (c:UInt8) (hc: ¬c=92) (G:Bool) (hG:G=!((decodeL (c::l)).1==65533&&(decodeL (c::l)).2==1)):
  (c.toNat<32\/G=false->fK (c::l)=(0,0))/\(¬c.toNat<32->G=true->fK (c::l)=(((decodeL (c::l)).1:Int),((decodeL (c::l)).2:Int))/\encodeRune ((decodeL (c::l)).1:Int)=(c::l).take (decodeL (c::l)).2):=by
 have d:=Dh l c;have e:fK (c::l)=if iY (decodeL (c::l)) then(0,0) else(((decodeL (c::l)).1:Int),((decodeL (c::l)).2:Int)):=by
  unfold fK;rw[if_neg F_]
 refine⟨λh=>?_,λg f=>⟨?_,?_⟩⟩
 .rw[e,if_pos];unfold iY;rcases h with h | h
  .rw[aQ (d.2 h),Bool.true_or]
  .rw[h] at hG;have:((decodeL (c::l)).1==65533&&(decodeL (c::l)).2==1)=true:=(by simpa using hG.symm);rw[this,Bool.or_true]
 .rw[e,if_neg];unfold iY;rw[aJ (λh=>g (d.1 h)),Bool.false_or];intro i;rw[f,i] at hG;exact absurd hG b_
 .refine encode_decode (c::l) (List.cons_ne_nil _ _) ?_;rw[f] at hG;rintro⟨a,b⟩;rw[a,b] at hG;simp at hG
theorem Ya (r:Int×Int) (h: ¬r.2=0):yD r=bs (encodeRune r.1):=by
 unfold yD;rw[if_neg h,<-Ie];rfl
theorem Ma (l:aC) (a:Nat) (w:World) (hs:l.length<=1073741824) (ha:a<=l.length):
  Calls prog 90 #[bs l,a] w λe w'=>e=iF (cD l a)/\aA w w':=by
 have R7:=trivial;exact PY
theorem Mb (l:aC) (a:Int) (w:World) (hs:l.length<=1073741824):
  Calls prog 100 #[bs l,a] w (aT w (.tuple #[.int .i64 (lF l a).1, .int .i64 (lF l a).2])):=I0
theorem Bb (l:aC) (w:World) (hs:l.length<=1073741824):
  Calls prog 57 #[bs l] w λe w'=>e=iF (eH l)/\aA w w':=IQ
theorem Yb (s:ByteArray) (w:World) (hs:s.size<=4611686018427387904):
  Calls prog 134 #[s] w λe w'=>e= .returned (.tuple #[.int .i64 (lO s).1, .bool (lO s).2])/\w=w':=by
 obtain⟨R,h⟩:=exQ<|lO s;rw[h];have i:=hid h;clear h;go_in;go_wp2;go_loop [4] (λa=> ∃b:Nat,b<=s.size/\a= .int .i64 b/\Hid (nW s b)) (λa=>s.size-(intOf a).toNat)
 case atStart=>exact⟨0,a_,rfl,nW.zero s⟩
 case round=>
  obtain⟨b,hp,rfl,g⟩:=hrel;by_cases hlt:b<s.size
  .have hw:=mJ s b hlt;cases hg:fP s b with
   | true=>
    have f:=hid hg;have c:=wH s b w hlt hs;rw[hg] at c;clear hg;have d:=hid c;clear c;go_wp2_with (first | (go_at_call 91;refine d.out.mono ?_;rintro e w' ⟨rfl,rfl⟩) | (go_at_call 92;refine(wG s b _ hlt hs).mono ?_;rintro e w' ⟨rfl,rfl⟩));go_round
    case rel=>exact⟨b+bN s b,a_,t_,g.out.next hlt f.out⟩
    case measure=>simp[intOf];omega
   | false=>
    have f:=hid hg;have c:=wH s b w hlt hs;rw[hg] at c;clear hg;have d:=hid c;clear c;go_wp2_with (go_at_call 91;refine d.out.mono ?_;rintro e w' ⟨rfl,rfl⟩);go_ret2;exact⟨xI (i.out.symm.trans (g.out.bad hlt f.out)),rfl⟩
  .go_wp2;go_ret2;exact⟨xI (i.out.symm.trans (g.out.fin a_)),rfl⟩
theorem Yc (s:ByteArray) (w:World) (hs:s.size<=4611686018427387904) (hT:dE w):
  Calls prog 156 #[s] w (aT w (.tuple #[.int .i64 (lO s).1, .bool (lO s).2])):=by
 obtain⟨R,y⟩:=exQ<|lO s;rw[y];have r:=hid y;clear y;cases hv:Lib.validD s.data.toList with
 | true=>
  have B:=Sa hv;have g:=utf8_ValidString s w a_ hT;rw[hv] at g;clear hv;have t:=hid g;clear g;have D:=hid B;clear B;go_in;go_wp2_with (go_at_call 194;refine t.out.mono ?_;rintro e w' ⟨rfl,h⟩);go_ret2;exact⟨xI (r.out.symm.trans D.out),h⟩
 | false=>
  have g:=utf8_ValidString s w a_ hT;rw[hv] at g;clear hv;have t:=hid g;clear g;go_in;go_wp2_with (go_at_call 194;refine t.out.mono ?_;rintro e w1 ⟨rfl,c⟩);have q:=hT.keep c;have hz:=c.size;have f:Hid (aA w w1):=c;obtain⟨z,x⟩:=vO c;clear c z x;go_loopw [4] (λ_ wr=> ∃a:Nat,a<=s.size/\Hid (nW s a)/\Hid (wr.heap[w1.heap.size]?=some (.stringIter s a))/\Hid (aA w1 wr)) (λ_ wr=>s.size-wr.iterPos w1.heap.size)
  case atStart=>exact⟨0,a_,nW.zero s,World.iter_heap w1 s 0,(aD _ _).alloc (aF _) _⟩
  case round=>
   obtain⟨a,hp,o,m,C⟩:=hrel;by_cases hlt:a<s.size
   .have hw:=mJ s a hlt;have hrb:=sP s a;have v: ∀ty,(Instr.next (.pointer (some ⟨w1.heap.size,0,none⟩)) true ty).run prog wr= .ok (.tuple #[true,a, .int .i32 (bU s a)]) (wr.iterAt w1.heap.size s (a+bN s a)):=λty=>Lib.run_next_any_at wr _ s a ty m.out hlt;have d:=hid (Lib.iterAt_heap wr w1.heap.size s a (a+bN s a) m.out);have b:=hid (Lib.below_iterAt C.out (aF w1.heap.size) s (a+bN s a));have i:dE (wr.iterAt w1.heap.size s (a+bN s a)):=q.keep b.out;have A:=hid (iterPos_of m.out);have p:=hid (iterPos_of d.out);by_cases hr:bU s a=65533
    .by_cases h1:bN s a=1
     .have j:=hid (Sd hr h1);have l:(bU s a !=65533)=false:=by rw[hr];rfl
      have u:(((bN s a:Nat):Int)==1)=true:=by rw[h1];rfl
      clear hr h1;go_wp2_with (go_at_call 84;refine(Dd s a _ hlt i).mono ?_;rintro e w' ⟨rfl,h⟩);go_ret2;exact⟨xI (r.out.symm.trans (o.out.bad hlt j.out)),f.out.trans ((b.out.trans (h.mono b.out.size)).mono f.out.size)⟩
     .have j:=hid (Sc h1);have l:(bU s a !=65533)=false:=by rw[hr];rfl
      have u:(((bN s a:Nat):Int)==1)=false:=aI.2 a_;clear hr h1;go_wp2_with (go_at_call 84;refine(Dd s a _ hlt i).mono ?_;rintro e w' ⟨rfl,h⟩);have k:=(h.block w1.heap.size (aG d.out)).trans d.out;go_roundw
      case rel=>exact⟨a+bN s a,a_,o.out.next hlt j.out,k,b.out.trans (h.mono b.out.size)⟩
      case measure=>rw[iterPos_of k,A.out];omega
    .have j:=hid (Sb hr);have l:(bU s a !=65533)=true:=eN.2 hr;clear hr;go_wp2;go_roundw
     case rel=>exact⟨a+bN s a,a_,o.out.next hlt j.out,d.out,b.out⟩
     case measure=>rw[p.out,A.out];omega
   .have v: ∀ty,(Instr.next (.pointer (some ⟨w1.heap.size,0,none⟩)) true ty).run prog wr= .ok (.tuple #[false]) wr:=λty=>Lib.run_next_end_at wr _ s a ty m.out hlt;go_wp2;go_ret2;exact⟨xI (r.out.symm.trans (o.out.fin a_)),f.out.trans (C.out.mono f.out.size)⟩
theorem Mc (s:ByteArray):(lO s).2=validD s.data.toList:=by
 rw[Ia];unfold lO;cases xH s<;>rfl
end
section
open Go.RowKit Go.Maps Go.WideMaps
open Go.Lib hiding intOf
def Bc (w:World):Prop:=dE w/\tG w
theorem Bc.keep {w w':World} (h:Bc w) (hb:aA w w'):Bc w':=⟨h.1.keep hb,h.2.keep hb⟩
def vB (w:World) (X:Nat) (n:eJ):Prop:=w.heap[X]?=some (.cells #[n.neg,bs n.dig,n.exp] 80 (0,0))
abbrev Yd (w:World) (X:Nat) (n:eJ):Prop:=w.cell? (X,0)=some (.bool n.neg)/\w.cell? (X,1)=some (.string (bs n.dig))/\w.cell? (X,2)=some (.int .i64 n.exp)/\w.frozen? ⟨X,0,none⟩=false/\w.frozen? ⟨X,1,none⟩=false/\w.frozen? ⟨X,2,none⟩=false
theorem vB.cells {w:World}{X:Nat}{n:eJ} (h:vB w X n):Yd w X n:=by
 unfold vB at h;refine⟨?_,?_,?_,?_,?_,?_⟩<;>simp[World.cell?,World.frozen?,h]
theorem vB.new (w:World) (n:eJ):vB (w.alloc (.cells #[n.neg,bs n.dig,n.exp] 80)) w.heap.size n:=heap_alloc_new w _
section
variable {w w1 w2:World}{X:Nat}{n:eJ}
end
theorem Ez (s:aB) (h:(eF s).2=0):(eF s).1.dig.length<=1000:=by
 have a:eF s=((eF s).1,0):=by rw[<-h]
 exact(Ao (Jh a)).1
def rT:aB:= [116,114,117,101]
def rU:aB:= [102,97,108,115,101]
theorem oE (s l:aB):((bs s).toList==l)=decide (s=l):=by
 rw[Lib.toList_data,aY];by_cases h:s=l
 .rw[aQ h,h];simp
 .rw[aJ h];simpa using h
theorem qQ (s:aB):((bs s).toList== [])=s.isEmpty:=by
 rw[oE];cases s<;>simp
theorem pC (s:aB):(bs s).toList.isEmpty=s.isEmpty:=DN
end
end Go.Proofs.YtfhjncbdgjlcoaaGreatDoor
