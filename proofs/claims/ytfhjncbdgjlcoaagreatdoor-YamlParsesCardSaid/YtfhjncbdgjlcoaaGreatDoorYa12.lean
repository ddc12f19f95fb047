import Derived.Test.YtfhjncbdgjlcoaaGreatDoorYa11
import Derived.Test.YtfhjncbdgjlcoaaGreatDoorYa5
import Derived.Test.YtfhjncbdgjlcoaaGreatDoorYa8
set_option maxRecDepth 100000
set_option maxHeartbeats 4000000
set_option linter.unusedVariables false
set_option linter.unusedSimpArgs false
namespace Go.Proofs.YtfhjncbdgjlcoaaGreatDoor
section
open Go.RowKit
open Go.Lib hiding intOf
def vY (r:Option Nat):Int:=match r with | some n=>n | none=> -1
theorem Vs (c:UInt8):
  (48<=(c.toNat:Int)/\(c.toNat:Int)<=57/\kA c=some (c.toNat-48))\/
  (97<=(c.toNat:Int)/\(c.toNat:Int)<=102/\kA c=some (c.toNat-97+10))\/
  (65<=(c.toNat:Int)/\(c.toNat:Int)<=70/\kA c=some (c.toNat-65+10))\/
  (((c.toNat:Int)<48\/57<(c.toNat:Int)/\(c.toNat:Int)<65\/70<(c.toNat:Int)/\(c.toNat:Int)<97\/102<(c.toNat:Int))/\kA c=none):=by
 unfold kA;by_cases a:48<=c.toNat/\c.toNat<=57
 ·left;refine⟨a_,a_,?_⟩;rw[if_pos a_]
 by_cases b:97<=c.toNat/\c.toNat<=102
 ·right;left;refine⟨a_,a_,?_⟩;rw[if_neg a_,if_pos a_];congr 1;omega
 by_cases d:65<=c.toNat/\c.toNat<=70
 ·right;right;left;refine⟨a_,a_,?_⟩;rw[if_neg a_,if_neg a_,if_pos a_];congr 1;omega
 ·right;right;right;refine⟨a_,?_⟩;rw[if_neg a_,if_neg a_,if_neg a_]
theorem Vt (s:ByteArray) (a k:Nat) (hk:k<4) (h:a+k<s.size):
  (s.data.toList.drop (a+k)).take (4-k)=s[a+k]::(s.data.toList.drop (a+(k+1))).take (4-(k+1)):=by
 have b:s.data.toList.length=s.size:=rfl;rw[fL (by rw[b];exact h),show 4-k=(4-(k+1))+1 by omega,List.take_succ_cons];rfl
theorem Vu (s:ByteArray) (a:Nat) (w:World) (ha:a<=4294967296) (hs:s.size<=4294967296):
  Calls Tryz.prog 164 #[s,a] w λe w'=>e= .returned (.int .i64 (vY (iO (s.data.toList.drop a))))/\Below w.heap.size w w':=by
 obtain⟨R,hR⟩:=exQ<|iO (s.data.toList.drop a);rw[hR];have hl:s.data.toList.length=s.size:=rfl;by_cases h4:(s.size:Int)-4<(a:Int)
 ·have:R=none:=by rw[<-hR];unfold iO;rw[if_pos y_]
  subst this;clear hR;go_enter Tryz.func164,Tryz.ntmps164;exact bn
 have hle:a+4<=s.size:=a_
 have h0:Hid (gO 0 ((s.data.toList.drop (a+0)).take (4-0))=R):=by
  rw[<-hR];unfold iO;rw[if_neg y_];exact hid rfl
 clear hR hl;go_enter Tryz.func164,Tryz.ntmps164;go_wp2_with fail;go_loopw [5,6] (λn i wr=> ∃k v:Nat,k<=4/\v<65536/\Hid (v<16 ^ k)/\n= .int .i64 v/\i= .int .i64 ((a+k:Nat):Int)/\Hid (gO v ((s.data.toList.drop (a+k)).take (4-k))=R)/\wr=w) (λn i _=>a+4-(RowKit.intOf i).toNat)
 case atStart=>exact⟨0,0,a_,a_,hid e_,rfl,rfl,h0,rfl⟩
 case round=>
  obtain⟨k,v,hk,hac,HA,rfl,rfl,HD,rfl⟩:=hrel;by_cases F:k<4
  ·have y:((a+k:Nat):Int)<(a:Int)+4:=a_;have ax:a+k<s.size:=a_;have bb:=Vt s a k F ax;have hc:=Vs (s[a+k]'ax);have a2:v<4096:=by
    have:=HA.out;have h3:16 ^ k<=16 ^ 3:=Nat.pow_le_pow_right a_ a_;omega
   have a1: ∀d:Nat,kA (s[a+k]'ax)=some d->Hid (gO (16*v+d) ((s.data.toList.drop (a+(k+1))).take (4-(k+1)))=R)/\Hid (16*v+d<16 ^ (k+1))/\16*v+d<65536:=by
    intro d hd;have h1:=HD.out;rw[bb] at h1;unfold gO at h1;rw[hd] at h1;have h2:=Hj hd;have h3:=HA.out;exact⟨hid h1,hid (by rw[Nat.pow_succ];omega),a_⟩
   rcases hc with⟨c1,c2,hd⟩ | ⟨c1,c2,hd⟩ | ⟨c1,c2,hd⟩ | ⟨c1,hd⟩
   ·have hK:=hid (a1 _ hd);clear a1 hd bb HD;go_wp2_with fail;go_roundw
    case rel=>exact⟨k+1,16*v+((s[a+k]'ax).toNat-48),a_,hK.out.2.2,hK.out.2.1,by congr 1<;>omega,by congr 1<;>omega,hK.out.1,by first | rfl | trivial⟩
    case measure=>simp[RowKit.intOf];omega
   ·have hK:=hid (a1 _ hd);clear a1 hd bb HD;go_wp2_with fail;go_roundw
    case rel=>exact⟨k+1,16*v+((s[a+k]'ax).toNat-97+10),a_,hK.out.2.2,hK.out.2.1,by congr 1<;>omega,by congr 1<;>omega,hK.out.1,by first | rfl | trivial⟩
    case measure=>simp[RowKit.intOf];omega
   ·have hK:=hid (a1 _ hd);clear a1 hd bb HD;go_wp2_with fail;go_roundw
    case rel=>exact⟨k+1,16*v+((s[a+k]'ax).toNat-65+10),a_,hK.out.2.2,hK.out.2.1,by congr 1<;>omega,by congr 1<;>omega,hK.out.1,by first | rfl | trivial⟩
    case measure=>simp[RowKit.intOf];omega
   ·have hN:Hid (R=none):=by
     have h1:=HD.out;rw[bb] at h1;unfold gO at h1;rw[hd] at h1;exact hid h1.symm
    clear a1 hd bb HD;have ca:((s[a+k]'ax).toNat:Int)<=255:=by have:=(s[a+k]'ax).toNat_lt;omega
    rcases c1 with c1 | ⟨c1,c2⟩ | ⟨c1,c2⟩ | c1
    all_goals
     go_wp2_with fail;go_ret;exact⟨by rw[hN.out];rfl,aB _ _⟩
  ·have cC:k=4:=a_;subst cC;have hF:Hid (R=some v):=by
    have:=HD.out;rw[show 4-4=0 from rfl,List.take_zero] at this;exact hid this.symm
   clear HD;go_wp2_with fail;go_ret;exact⟨by rw[hF.out];rfl,aB _ _⟩
theorem Kw (n:Int) (w:World) (h0:0<=n/\n<=1114111):
  Calls Tryz.prog 165 #[n] w λe w'=>e= .returned (.string (Utf8.encode n))/\Below w.heap.size w w':=by
 go_enter Tryz.func165,Tryz.ntmps165;exact bn
def xO (r:Int×Int):ByteArray:=if r.2=0 then⟨#[]⟩ else Utf8.encode r.1
def kW:ByteArray:=⟨#[34,92,47,98,102,110,114,116]⟩
def Dz:ByteArray:=⟨#[34,92,47,8,12,10,13,9]⟩
theorem Vv: ∀k:Fin 8,(jP ((kW[k.val]'(by have:=k.isLt;exact this)).toNat:Int)).2=true/\(Dz.extract k.val (k.val+1)).data=(Utf8.encode (jP ((kW[k.val]'(by have:=k.isLt;exact this)).toNat:Int)).1).data:=b_
theorem Vw (k:Nat) (hk:k<kW.size) (c:UInt8) (h:c=kW[k]): ∃r:Int,jP (c.toNat:Int)=(r,true)/\Dz.extract k (k+1)=Utf8.encode r:=by
 subst h;have a:k<8:=hk;have:=Vv ⟨k,a⟩;exact⟨_,Prod.ext rfl this.1,ByteArray.ext this.2⟩
theorem Vx: ∀n:Fin 256,(∀j:Fin 8,(kW[j.val]'(by have:=j.isLt;exact this)).toNat≠n.val)->(jP (n.val:Int)).2=false:=b_
theorem Vy (c:UInt8) (h: ∀j,(hj:j<kW.size)->c≠kW[j]):(jP (c.toNat:Int)).2=false:=by
 refine Vx ⟨c.toNat,c.toNat_lt⟩ λj e=>h j.val j.isLt ?_;exact(UInt8.toNat_inj.1 e).symm
theorem Kx {B:Nat}{a w:World} (h:RowKit.Below B a w):RowKit.Below B a w.drew:=⟨h.os,h.tape,h.output,h.size,h.block⟩
def Ad (r:Int×Int):Ending:= .returned (.tuple #[(xO r),r.2])
theorem Vz (s:ByteArray) (a:Nat) (h:a+1<s.size):nO (s.data.toList.drop a)=if(jP (s[a+1].toNat:Int)).2 then((jP (s[a+1].toNat:Int)).1,2) else if s[a+1].toNat=117 then lJ (s.data.toList.drop a) else(0,0):=by
 have b:s.data.toList.length=s.size:=rfl;unfold nO;rw[kR,bC (by rw[b];exact h)];rfl
theorem Wa (s:ByteArray) (a:Nat):Lib.hasPrefix ((s.data.toList.drop a).drop 6) [92,117]=true↔ ∃h:a+7<s.size,(s[a+6]' a_).toNat=92/\s[a+7].toNat=117:=by
 have b:s.data.toList.length=s.size:=rfl;unfold Lib.hasPrefix;rw[List.isPrefixOf_iff_prefix,jJ];constructor
 ·rintro⟨t,d⟩;have c:=congrArg List.length d;rw[aU,b] at c;simp at c;have h:a+7<s.size:=a_
  refine⟨h,?_,?_⟩
  ·have:=congrArg (λl=>l[0]?) d;simp only[kR] at this;rw[bC (show a+6+0<s.data.toList.length by rw[b];omega)] at this;have e:s[a+6]' a_=s.data.toList[a+6+0]' E5:=rfl;rw[e,<-aV this];rfl
  ·have:=congrArg (λl=>l[1]?) d;simp only[kR] at this;rw[bC (show a+6+1<s.data.toList.length by rw[b];omega)] at this;have e:s[a+7]' a_=s.data.toList[a+6+1]' E5:=rfl;rw[e,<-aV this];rfl
 ·rintro⟨h,f,g⟩;refine⟨s.data.toList.drop (a+8),?_⟩;rw[fL (show a+6<s.data.toList.length by rw[b];omega),fL (show a+6+1<s.data.toList.length by rw[b];omega)];have e6:s.data.toList[a+6]' E5=92:=UInt8.toNat_inj.1 f;have e7:s.data.toList[a+6+1]' E5=117:=UInt8.toNat_inj.1 g;rw[e6,e7];rfl
theorem Wb (s:ByteArray) (a:Nat) (w:World) (ha:a<s.size) (hs:s.size<=1073741824):
  Calls Tryz.prog 128 #[s,a] w λe w'=>e=Ad (nO (s.data.toList.drop a))/\Below w.heap.size w w':=by
 obtain⟨R,hR⟩:=exQ<|nO (s.data.toList.drop a);rw[hR];have hl:s.data.toList.length=s.size:=rfl;by_cases h1:(s.size:Int)<=(a:Int)+1
 ·have:R=(0,0):=by rw[<-hR];unfold nO;rw[List.getElem?_eq_none y_]
  subst this;clear hR;go_enter Tryz.func128,Tryz.ntmps128;exact bo
 have ax:a+1<s.size:=a_
 have hb:0<=(a:Int)+1/\(a:Int)+1<(s.size:Int):=a_
 rw[Vz s a ax] at hR;obtain⟨c,hc⟩:=exQ<|s[a+1]'ax;rw[hc] at hR;have hci:(s[((a:Int)+1).toNat]' a_)=c:=by rw[<-hc];congr 1
 have HR:=hid hR;clear hR;have ca:((c.toNat:Nat):Int)<=255:=by have:=c.toNat_lt;omega
 go_enter Tryz.func128,Tryz.ntmps128;go_wp2_with fail;go_loopw [8] (λi wr=> ∃k:Nat,k<=8/\i= .int .i64 k/\Hid (∀j,(hj:j<kW.size)->j<k->c≠kW[j])/\Hid (Below w.heap.size w wr)) (λi _=>8-(RowKit.intOf i).toNat)
 case atStart=>exact⟨0,a_,rfl,hid (λj _ h=>absurd h a_),hid (aB _ _)⟩
 case round=>
  obtain⟨k,hk,rfl,HM,HW⟩:=hrel;by_cases F:k<8
  ·have bY:(k:Int)<8:=a_;have hb8:0<=(k:Int)/\(k:Int)<8:=⟨a_,bY⟩;have a0:k<kW.size:=F;have hE:(((c.toNat:Int)==((kW[k]'a0).toNat:Int))=true)↔c=kW[k]'a0:=⟨λh=>UInt8.toNat_inj.1 (by have:=beq_iff_eq.1 h;omega),λh=>by rw[h];exact beq_self_eq_true _⟩;have bE:kW[k]'a0=(⟨#[34,92,47,98,102,110,114,116]⟩:ByteArray)[k]'(a0):=rfl;by_cases he:c=kW[k]'a0
   ·have t1:=hE.2 he;rw[bE] at t1;have HX:Hid (∃r,R=(r,2)/\Dz.extract k (k+1)=Utf8.encode r):=by
     obtain⟨r,hr,hx⟩:=Vw k a0 c he;have:=HR.out;rw[hr] at this;simp only[if_true] at this;exact hid ⟨r,this.symm,hx⟩
    clear hE bE he HM;go_wp2_with fail;go_region;go_wp2_with fail;go_ret2;obtain⟨r,hr,hx⟩:=HX.out;refine⟨?_,Kx HW.out⟩;rw[hr];unfold Ad xO;rw[if_neg (by show ¬((2:Int)=0);decide)];simp only[<-hx];rfl
   ·have t1:((c.toNat:Int)==((kW[k]'a0).toNat:Int))=false:=by
     cases V:((c.toNat:Int)==((kW[k]'a0).toNat:Int)) with
     | false=>rfl
     | true=>exact absurd (hE.1 V) he
    have HN:=hid he;rw[bE] at t1;clear hE he bE;go_wp2_with fail;go_region;go_wp2_with fail;go_roundw
    case rel=>
     refine⟨k+1,a_,by congr 1<;>omega,hid (λj hj h=>?_),hid (Kx HW.out)⟩;by_cases hjk:j<k
     ·exact HM.out j hj hjk
     ·obtain rfl:j=k:=a_;exact HN.out
    case measure=>simp[RowKit.intOf];omega
  ·have bY:k=8:=a_;subst bY;have HE:Hid ((if c.toNat=117 then lJ (s.data.toList.drop a) else(0,0))=R):=by
    have hn:=Vy c (λj hj=>HM.out j hj hj);have:=HR.out;rw[hn,if_neg e_] at this;exact hid this
   clear HM HR;by_cases hu:c.toNat=117
   ·have b9:Hid (lJ (s.data.toList.drop a)=R):=by have:=HE.out;rw[if_pos hu] at this;exact hid this
    have t1:((c.toNat:Int)==117)=true:=beq_iff_eq.2 a_;clear HE hu;have CH: ∀d:Nat,d<=8-> ∀w,Calls Tryz.prog 164 #[s, .int .i64 ((a:Int)+d)] w λe w'=>e= .returned (.int .i64 (vY (iO ((s.data.toList.drop a).drop d))))/\Below w.heap.size w w':=λd hd w=>by
     have:=Vu s (a+d) w a_ a_;rw[jJ];exact this
    have hR:=b9.out;clear b9;have C1:=CH 2 a_;have C2:=CH 8 a_;clear CH;have HP:=Wa s a;unfold lJ at hR;cases g1:iO ((s.data.toList.drop a).drop 2) with
    | none=>
     rw[g1] at hR C1;have HX:Hid (R=(0,0)):=hid hR.symm;have D1:=hid C1;clear hR C1 C2 HP g1;unfold vY at D1;exact fc
    | some h=>
     rw[g1] at hR C1;simp only[] at hR;obtain⟨bq,hlen1⟩:=tK g1;clear g1;have D1:=hid C1;clear C1;unfold vY at D1;obtain⟨H,hH⟩: ∃H:Int,(h:Int)=H:=⟨_,rfl⟩;simp only[hH] at D1 hR;have hHB:0<=H/\H<65536:=a_;have hN0: ¬H<0:=a_;by_cases q1:56320<=h/\h<57344
     ·rw[if_pos q1] at hR;have HX:Hid (R=(0,0)):=hid hR.symm;have ga:56320<=H:=a_;have gb:H<57344:=a_;clear hR C2 HP q1 hH bq;exact fc
     rw[if_neg q1] at hR;by_cases q2:h<55296\/57344<=h
     ·have BW:=trivial;exact ut
     rw[if_neg q2] at hR;have ga:55296<=H:=a_;have gb:H<56320:=a_;clear q1 q2 hH bq;by_cases q7:(s.size:Int)<=(a:Int)+7
     ·have BU:=trivial;exact ur
     have bt:a+7<s.size:=a_;have h7b:0<=(a:Int)+7/\(a:Int)+7<(s.size:Int):=a_;have h6b:0<=(a:Int)+6/\(a:Int)+6<(s.size:Int):=a_;by_cases q6:(s[a+6]' a_).toNat=92
     ·have t6:((s[a+6]' a_).toNat:Int)=92:=a_;by_cases q5:(s[a+7]'bt).toNat=117
      ·have t7:((s[a+7]'bt).toNat:Int)=117:=a_;rw[if_neg (by rw[HP.2 ⟨bt,q6,q5⟩];simp)] at hR;have h8s:a+8<=s.size:=a_;clear HP q6 q5;have D2:=hid C2;cases g2:iO ((s.data.toList.drop a).drop 8) with
       | none=>
        have DD:=trivial;exact va
       | some lo=>
        rw[g2] at hR D2;simp only[] at hR;obtain⟨aZ,_⟩:=tK g2;unfold vY at D2;obtain⟨L,hL⟩: ∃L:Int,(lo:Int)=L:=⟨_,rfl⟩;simp only[hL] at D2 hR;have hLB:0<=L/\L<65536:=a_;clear C2 g2;by_cases q8:lo<56320\/57344<=lo
        ·exact ut
        ·exact va
      ·have BR:=trivial;exact ur
     ·have BS:=trivial;exact ur
   ·have HX:Hid (R=(0,0)):=by have:=HE.out;rw[if_neg hu] at this;exact hid this.symm
    have t1:((c.toNat:Int)==117)=false:=aE.2 a_;clear HE hu;go_wp2_with fail;go_ret2;exact⟨by rw[HX.out];rfl,HW.out⟩
theorem Wc (l:List UInt8) (c:UInt8) (hc: ¬c=92) (G:Bool) (hG:G=!((decodeL (c::l)).1==65533&&(decodeL (c::l)).2==1)):
  (c.toNat<32\/G=false->eX (c::l)=(0,0))/\(¬c.toNat<32->G=true->eX (c::l)=(((decodeL (c::l)).1:Int),((decodeL (c::l)).2:Int))/\encodeRune ((decodeL (c::l)).1:Int)=(c::l).take (decodeL (c::l)).2):=by
 have d:=Ci l c;have f:eX (c::l)=if iF (decodeL (c::l)) then(0,0) else(((decodeL (c::l)).1:Int),((decodeL (c::l)).2:Int)):=by
  unfold eX;rw[if_neg EC]
 refine⟨λh=>?_,λi e=>⟨?_,?_⟩⟩
 ·rw[f,if_pos];unfold iF;rcases h with h | h
  ·rw[aO (d.2 h),Bool.true_or]
  ·rw[h] at hG;have:((decodeL (c::l)).1==65533&&(decodeL (c::l)).2==1)=true:=(by simpa using hG.symm);rw[this,Bool.or_true]
 ·rw[f,if_neg];unfold iF;rw[aG (λh=>i (d.1 h)),Bool.false_or];intro g;rw[e,g] at hG;exact absurd hG b_
 ·refine encode_decode (c::l) (List.cons_ne_nil _ _) ?_;rw[e] at hG;rintro⟨a,b⟩;rw[a,b] at hG;simp at hG
theorem Wd (r:Int×Int) (h: ¬r.2=0):xO r=bs (encodeRune r.1):=by
 unfold xO;rw[if_neg h,<-He];rfl
theorem Ky (l:List UInt8) (a:Nat) (w:World) (hs:l.length<=1073741824) (ha:a<=l.length):
  Calls Tryz.prog 90 #[bs l,a] w λe w'=>e=gP (bV l a)/\Below w.heap.size w w':=by
 have yw:=trivial;exact qz
theorem Kz (l:List UInt8) (a:Int) (w:World) (hs:l.length<=1073741824):
  Calls Tryz.prog 100 #[bs l,a] w λe w'=>e= .returned (.tuple #[.int .i64 (kL l a).1, .int .i64 (kL l a).2])/\Below w.heap.size w w':=tc
theorem Ae (l:List UInt8) (w:World) (hs:l.length<=1073741824):
  Calls Tryz.prog 57 #[bs l] w λe w'=>e=gP (dR l)/\Below w.heap.size w w':=r8
theorem We (s:ByteArray) (w:World) (hs:s.size<=4611686018427387904):
  Calls Tryz.prog 134 #[s] w λe w'=>e= .returned (.tuple #[.int .i64 (kQ s).1, .bool (kQ s).2])/\w=w':=by
 obtain⟨R,h⟩:=exQ<|kQ s;rw[h];have i:=hid h;clear h;go_enter Tryz.func134,Tryz.ntmps134;go_wp2_with fail;go_loop [4] (λa=> ∃b:Nat,b<=s.size/\a= .int .i64 b/\Hid (mT s b)) (λa=>s.size-(intOf a).toNat)
 case atStart=>exact⟨0,a_,rfl,mT.zero s⟩
 case round=>
  obtain⟨b,hp,rfl,g⟩:=hrel;by_cases hlt:b<s.size
  ·have hw:=lH s b hlt;cases hg:fB s b with
   | true=>
    have f:=hid hg;have c:=vX s b w hlt hs;rw[hg] at c;clear hg;have d:=hid c;clear c;go_wp2_with (first | (go_at_call 91;refine d.out.mono ?_;rintro e w' ⟨rfl,rfl⟩) | (go_at_call 92;refine(vW s b _ hlt hs).mono ?_;rintro e w' ⟨rfl,rfl⟩));go_round
    case rel=>exact⟨b+bG s b,a_,q_,g.out.next hlt f.out⟩
    case measure=>simp[intOf];omega
   | false=>
    have f:=hid hg;have c:=vX s b w hlt hs;rw[hg] at c;clear hg;have d:=hid c;clear c;go_wp2_with (go_at_call 91;refine d.out.mono ?_;rintro e w' ⟨rfl,rfl⟩);go_ret2;exact⟨wT (i.out.symm.trans (g.out.bad hlt f.out)),rfl⟩
  ·go_wp2_with fail;go_ret2;exact⟨wT (i.out.symm.trans (g.out.fin a_)),rfl⟩
theorem Wf (s:ByteArray) (w:World) (hs:s.size<=4611686018427387904) (hT:cW w):
  Calls Tryz.prog 156 #[s] w λe w'=>e= .returned (.tuple #[.int .i64 (kQ s).1, .bool (kQ s).2])/\Below w.heap.size w w':=by
 obtain⟨R,t⟩:=exQ<|kQ s;rw[t];have v:=hid t;clear t;cases hv:Lib.validD s.data.toList with
 | true=>
  have C:=Qf hv;have g:=Tryz.utf8_ValidString s w a_ hT;rw[hv] at g;clear hv;have r:=hid g;clear g;have D:=hid C;clear C;go_enter Tryz.func156,Tryz.ntmps156;go_wp2_with (go_at_call 194;refine r.out.mono ?_;rintro e w' ⟨rfl,h⟩);go_ret2;exact⟨wT (v.out.symm.trans D.out),h⟩
 | false=>
  have g:=Tryz.utf8_ValidString s w a_ hT;rw[hv] at g;clear hv;have r:=hid g;clear g;go_enter Tryz.func156,Tryz.ntmps156;go_wp2_with (go_at_call 194;refine r.out.mono ?_;rintro e w1 ⟨rfl,c⟩);have y:=hT.keep c;have hz:=c.size;have d:Hid (Below w.heap.size w w1):=c;obtain⟨p,u⟩:=vD c;clear c p u;go_loopw [4] (λ_ wr=> ∃a:Nat,a<=s.size/\Hid (mT s a)/\Hid (wr.heap[w1.heap.size]?=some (.stringIter s a))/\Hid (Below w1.heap.size w1 wr)) (λ_ wr=>s.size-wr.iterPos w1.heap.size)
  case atStart=>exact⟨0,a_,mT.zero s,World.iter_heap w1 s 0,(aB _ _).alloc (aD _) _⟩
  case round=>
   obtain⟨a,hp,o,m,A⟩:=hrel;by_cases hlt:a<s.size
   ·have hw:=lH s a hlt;have hrb:=rO s a;have q: ∀ty,(Instr.next (.pointer (some ⟨w1.heap.size,0,none⟩)) true ty).run Tryz.prog wr= .ok (.tuple #[true,a, .int .i32 (bL s a)]) (wr.iterAt w1.heap.size s (a+bG s a)):=λty=>Lib.run_next_any_at wr _ s a ty m.out hlt;have f:=hid (Lib.iterAt_heap wr w1.heap.size s a (a+bG s a) m.out);have b:=hid (Lib.below_iterAt A.out (aD w1.heap.size) s (a+bG s a));have k:cW (wr.iterAt w1.heap.size s (a+bG s a)):=y.keep b.out;have B:=hid (iterPos_of m.out);have x:=hid (iterPos_of f.out);by_cases hr:bL s a=65533
    ·by_cases h1:bG s a=1
     ·have l:=hid (Qi hr h1);have i:(bL s a !=65533)=false:=by rw[hr];rfl
      have z:(((bG s a:Nat):Int)==1)=true:=by rw[h1];rfl
      clear hr h1;go_wp2_with (go_at_call 84;refine(Ce s a _ hlt k).mono ?_;rintro e w' ⟨rfl,h⟩);go_ret2;exact⟨wT (v.out.symm.trans (o.out.bad hlt l.out)),d.out.trans ((b.out.trans (h.mono b.out.size)).mono d.out.size)⟩
     ·have l:=hid (Qh h1);have i:(bL s a !=65533)=false:=by rw[hr];rfl
      have z:(((bG s a:Nat):Int)==1)=false:=aE.2 a_;clear hr h1;go_wp2_with (go_at_call 84;refine(Ce s a _ hlt k).mono ?_;rintro e w' ⟨rfl,h⟩);have j:=(h.block w1.heap.size (aF f.out)).trans f.out;go_roundw
      case rel=>exact⟨a+bG s a,a_,o.out.next hlt l.out,j,b.out.trans (h.mono b.out.size)⟩
      case measure=>rw[iterPos_of j,B.out];omega
    ·have l:=hid (Qg hr);have i:(bL s a !=65533)=true:=eF.2 hr;clear hr;go_wp2;go_roundw
     case rel=>exact⟨a+bG s a,a_,o.out.next hlt l.out,f.out,b.out⟩
     case measure=>rw[x.out,B.out];omega
   ·have q: ∀ty,(Instr.next (.pointer (some ⟨w1.heap.size,0,none⟩)) true ty).run Tryz.prog wr= .ok (.tuple #[false]) wr:=λty=>Lib.run_next_end_at wr _ s a ty m.out hlt;go_wp2;go_ret2;exact⟨wT (v.out.symm.trans (o.out.fin a_)),d.out.trans (A.out.mono d.out.size)⟩
theorem La (s:ByteArray):(kQ s).2=validD s.data.toList:=by
 rw[Ha];unfold kQ;cases wS s<;>rfl
end
section
open Go.RowKit Go.Maps Go.WideMaps
open Go.Lib hiding intOf
def Af (w:World):Prop:=cW w/\sJ w
theorem Af.keep {w w':World} (h:Af w) (hb:Below w.heap.size w w'):Af w':=⟨h.1.keep hb,h.2.keep hb⟩
def uH (w:World) (X:Nat) (n:dU):Prop:=w.heap[X]?=some (.cells #[n.neg,bs n.dig,n.exp] 80 (0,0))
abbrev Wg (w:World) (X:Nat) (n:dU):Prop:=w.cell? ⟨X,0,none⟩=some (.bool n.neg)/\w.cell? ⟨X,1,none⟩=some (.string (bs n.dig))/\w.cell? ⟨X,2,none⟩=some (.int .i64 n.exp)/\w.frozen? ⟨X,0,none⟩=false/\w.frozen? ⟨X,1,none⟩=false/\w.frozen? ⟨X,2,none⟩=false
theorem uH.cells {w:World}{X:Nat}{n:dU} (h:uH w X n):Wg w X n:=by
 unfold uH at h;refine⟨?_,?_,?_,?_,?_,?_⟩<;>simp[World.cell?,World.frozen?,h]
theorem uH.new (w:World) (n:dU):uH (w.alloc (.cells #[n.neg,bs n.dig,n.exp] 80)) w.heap.size n:=heap_alloc_new w _
section
variable {w w1 w2:World}{X:Nat}{n:dU}
end
theorem Ea (s:aA) (h:(dP s).2=0):(dP s).1.dig.length<=1000:=by
 have a:dP s=((dP s).1,0):=by rw[<-h]
 exact(zT (Ig a)).1
def qW:aA:= [116,114,117,101]
def qX:aA:= [102,97,108,115,101]
theorem nC (s l:aA):((bs s).toList==l)=decide (s=l):=by
 rw[Lib.toList_data,aQ];by_cases h:s=l
 ·rw[aO h,h];simp
 ·rw[aG h];simpa using h
theorem pR (s:aA):((bs s).toList== [])=s.isEmpty:=by
 rw[nC];cases s<;>simp
theorem nZ (s:aA):(bs s).toList.isEmpty=s.isEmpty:=C'
end
end Go.Proofs.YtfhjncbdgjlcoaaGreatDoor
