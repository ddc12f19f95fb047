import Derived.Test.YtaifnmjjpddikaaGreatDoorRl32
import Derived.Test.YtaifnmjjpddikaaGreatDoorRl12
import Derived.Test.YtaifnmjjpddikaaGreatDoorRl8
import Derived.Test.YtaifnmjjpddikaaGreatDoorRl14
import Derived.Test.YtaifnmjjpddikaaGreatDoorRl19
import Derived.Deep.RegionHeld3
import Derived.Shelf.Vars
import Derived.Test.YtaifnmjjpddikaaGreatDoorCards
import Derived.Test.YtaifnmjjpddikaaGreatDoorTie
import Derived.Lib.LaidIn
import Derived.Lib.LaidU8T
import Derived.PinnedBridge
import Derived.Lib.TrailingZeros
import Derived.Test.YtaifnmjjpddikaaGreatDoorRows
import Derived.ChangeMaps5
import Derived.ChangeArms
import Derived.ChangeSame
import Derived.ChangeSlices
import Derived.OpenShut
import Derived.Carry
import Derived.Deep.Slices
import Derived.Lib.SmallJoins
import Derived.KernelRfl
set_option maxRecDepth 100000
set_option maxHeartbeats 8000000
namespace Go.Proofs.YtaifnmjjpddikaaGreatDoor
set_option linter.unusedVariables false
set_option linter.unusedSimpArgs false
section
open Go.RowKit
open Go.Lib hiding intOf
def aCQ (tv pv iv cv bv:Value):Nat->Value
 | 0=>tv
 | 1=>pv
 | 2=>iv
 | 3=>cv
 | _=>bv
theorem aCR (sb:ByteArray) (path:List aA) (pv:Value) (w:World) (hsb:sb.size<=4611686018427387904) (hp:SV w pv path) (hpl:path.length<=1073741824) (hps: ∀x∈path,x.length<=1073741824) (hV:bU w):
  Calls Tryz.prog 4 #[.string sb,pv] w λe w'=>e= .returned (.bool true)/\Below w.heap.size w w':=by
 obtain⟨s,rfl⟩: ∃l,sb=bs l:=⟨sb.data.toList,(tV sb).symm⟩;have sl:=aT s;have C0:=hid (aCL w hV);obtain⟨p,c,rfl,aW,aa⟩:=hp;obtain⟨na,ai⟩:=exQ<|path.length;rw[ai];have ag:=hid ai;have HC:Hid (∀w',Below w.heap.size w w'->SV w' (.slice p na c) path/\bU w'):=hid (λw' F=>⟨⟨p,c,by rw[ai],aW,aa.keep F⟩,hV.keep F⟩);have J:=hid (aJ hpl hps);have hnl:na<=1073741824:=by omega
 have hslb:(s.length:Int)<=4611686018427387904:=by omega
 clear hV hsb aW aa ai hpl hps;go_enter Tryz.func4,Tryz.ntmps4;go_wp2_with fail;refine C0.out.mono ?_;rintro e w0 ⟨rfl,P⟩;have an:=hid P;have CS:=hid (aCN path (.slice p na c) w0 (HC.out w0 P).1 J.out.1 J.out.2);clear P;go_wp2_with fail;refine CS.out.mono ?_;rintro e w1 ⟨⟨ok,rfl⟩,aY⟩;have Q:=hid (aC an.out aY);clear aY;by_cases hl:4096<s.length
 ·have dl:decide ((4096:Int)<(s.length:Int))=true:=aM (by omega);have dl2:decide (4096<s.length)=true:=aM hl;clear hl;go_wp2_with fail;go_ret;exact⟨rfl,by first | exact Q.out | exact Q.out.drew⟩
 have dl:decide ((4096:Int)<(s.length:Int))=false:=aH (by omega);have dl2:decide (4096<s.length)=false:=aH hl;have bh:=hid (show s.length<=4096 by omega);clear hl;cases ok with
 | false=>
  go_wp2_with fail;go_ret;exact⟨rfl,by first | exact Q.out | exact Q.out.drew⟩
 | true=>
  obtain⟨⟨d,a,er⟩,hP⟩:=exQ<|gI s;have HP:=hid hP;have CP:=hid (Ed s w1 (HC.out w1 Q.out).2);rw[hP] at CP;clear hP;go_wp2_with fail;refine CP.out.mono ?_;rintro e w2 ⟨tx,lv,nv,rfl,N,hd,bi⟩;obtain⟨⟨pl,cl,hpl⟩,pn,cn,aS⟩:=hd.formsR;obtain⟨nl,az⟩:=exQ<|d.lines.length;obtain⟨nn,bf⟩:=exQ<|d.nodes.length;simp only[] at N hpl aS;rw[az] at hpl;rw[bf] at aS;subst hpl aS;have bz:=hid (aC Q.out bi);have bD:=hid hd;have bH:=hid N;obtain⟨D,bg⟩:=exQ<|w2.heap.size;have b3:=aI w2 (.cells #[.string tx, .slice pl nl cl, .slice pn nn cn] 36);have x3:=heap_alloc_new w2 (.cells #[.string tx, .slice pl nl cl, .slice pn nn cn] 36);obtain⟨w3,a5⟩:=exQ<|w2.alloc (.cells #[.string tx, .slice pl nl cl, .slice pn nn cn] 36);rw[a5] at b3 x3;rw[bg] at x3;have a1:=hid (aC bz.out b3);have a8:=hid x3;have a4:=hid (bD.out.keep b3);have CR:=hid (Er s w3 (HC.out w3 a1.out).2);obtain⟨T,hT⟩:=exQ<|qW s;rw[HP.out,hT] at CR;have HT:=hid hT;have tee:(er==er)=true:=beq_self_eq_true _;have d3:=gJ x3;obtain⟨c0,c1,c2,_⟩:=d3;simp only[] at CR ⊢;clear hd bi N az bf b3 x3 hT CP;go_wp2_with fail;clear a5 bg c0 c1 c2;refine CR.out.mono ?_;rintro e w4 ⟨⟨kv,iv,rfl,hv⟩,a2⟩;obtain⟨pk,ck,pi,ci,rfl,rfl⟩:=hv.form;have aX:=hid a2;have bm:=hid hv.toVD;obtain⟨V,ak⟩:=exQ<|w4.heap.size;have b5:=aI w4 (.cells #[.int .i64 T.kind, .string (bs T.text), .slice pk T.keys.length ck, .slice pi T.items.length ci] 26);have x5:=heap_alloc_new w4 (.cells #[.int .i64 T.kind, .string (bs T.text), .slice pk T.keys.length ck, .slice pi T.items.length ci] 26);obtain⟨w5,ab⟩:=exQ<|w4.alloc (.cells #[.int .i64 T.kind, .string (bs T.text), .slice pk T.keys.length ck, .slice pi T.items.length ci] 26);rw[ab] at b5 x5;rw[ak] at x5;have ae:=hid (aC aX.out b5);have G:=hid (aC a1.out ae.out);have aD:=hid x5;have bo:=hid (bm.out.keep b5);clear hv a2 b5 x5;unfold vv;by_cases h0:er=0;rotate_left
  ·have e0:(er !=0)=true:=gD.2 h0;clear h0;go_wp2_with fail;clear ab ak;go_ret;exact⟨rfl,by first | exact G.out | exact G.out.drew⟩
  subst h0;have N:=bH.out;rw[if_pos rfl] at N;subst N;have av:=Qa bh.out HP.out;have HA:=hid av.1;obtain rfl:aN s d 32 0=T:=by
   have:=HT.out;unfold qW at this;rw[HP.out] at this;exact this
  obtain⟨gn,rfl⟩: ∃gn,pn=some ⟨gn,0,none⟩:=by
   obtain⟨z,hz,_,bG⟩:=a4.out;have bk:z.length=d.nodes.length:=(by rw[<-hz,bK]);obtain⟨gn,cp,cur,e,_⟩:=bG.form (λe=>by have:=HA.out.n;rw[e] at bk;simp at bk;omega);injection e with e;exact⟨gn,e⟩
  have bb:=hid (a4.out.keep ae.out);have CA:=hid (Py _ s d _ gn nn cn path (.slice p na c) w5 bb.out HA.out (HC.out w5 G.out).1 J.out.1 J.out.2 (HC.out w5 G.out).2);have HG:=hid (HA.out.g 0 HA.out.n);have CF:Hid (∀w',Below w5.heap.size w5 w'->Calls Tryz.prog 12 #[.agg #[.int .i64 (aN s d 32 0).kind, .string (bs (aN s d 32 0).text), .slice pk (aN s d 32 0).keys.length ck, .slice pi (aN s d 32 0).items.length ci], .slice p na c] w' (Ft (lV path (aN s d 32 0)) w')):=hid (λw' F=>by have bd:=aC G.out F;exact Fu _ (aN s d 32 0) _ _ path (.slice p na c) w' (bo.out.keep F) HG.out (HC.out w' bd).1 J.out.1 J.out.2 (HC.out w' bd).2);have y:=aCD bh.out HP.out path;obtain⟨O,hO⟩:=exQ<|tR s d path;rw[hO] at CA y;obtain⟨T,hT⟩:=exQ<|aN s d 32 0;have bu:=hid hT;rw[hT] at CF y aD ab ⊢;have K:Hid (∀w',Below w5.heap.size w5 w'->(w'.cell? ⟨D,0,none⟩=some (.string (bs s))/\w'.cell? ⟨D,1,none⟩=some (.slice pl nl cl)/\w'.cell? ⟨D,2,none⟩=some (.slice (some ⟨gn,0,none⟩) nn cn))/\(w'.cell? ⟨V,0,none⟩=some (.int .i64 T.kind)/\w'.cell? ⟨V,1,none⟩=some (.string (bs T.text))/\w'.cell? ⟨V,2,none⟩=some (.slice pk T.keys.length ck)/\w'.cell? ⟨V,3,none⟩=some (.slice pi T.items.length ci))):=hid (λw' F=>by have h3:=(ae.out.block D (aF a8.out)).trans a8.out;obtain⟨c0,c1,c2,_⟩:=gJ ((F.block D (aF h3)).trans h3);obtain⟨v0,v1,v2,v3,_⟩:=bC ((F.block V (aF aD.out)).trans aD.out);exact⟨⟨c0,c1,c2⟩,v0,v1,v2,v3⟩);obtain⟨⟨c0,c1,c2⟩,_⟩:=K.out w5 (aB _ _);clear av hO hT;cases O with
  | none=>
   have y:lV path T=none:=y;rw[y] at CF;go_wp2_with fail;refine CA.out.mono ?_;rintro e w6 ⟨rfl,I⟩;have W:=hid I;have CF2:Hid (Calls Tryz.prog 12 #[.agg #[.int .i64 T.kind, .string (bs T.text), .slice pk T.keys.length ck, .slice pi T.items.length ci], .slice p na c] w6 (λe w'=>(∃u0 u1 u2 u3 u4,e= .returned (.tuple #[.agg #[.int .i64 0, .string u0, .slice u1 0 u2, .slice u3 0 u4], .bool false]))/\Below w6.heap.size w6 w')):=hid ((CF.out w6 I).mono (by rintro e w7 ⟨⟨kx,ix,rfl,E⟩,r⟩;obtain⟨u1,u2,u3,u4,rfl,rfl⟩:=E.form;exact⟨⟨_,_,_,_,_,rfl⟩,r⟩));obtain⟨_,v0,v1,v2,v3⟩:=K.out w6 I;unfold Fw;clear I c0 c1 c2 ab ak;go_wp2_with fail;refine CF2.out.mono ?_;rintro e w7 ⟨⟨u0,u1,u2,u3,u4,rfl⟩,r⟩;have bt:=hid (aC G.out (aC W.out r));obtain⟨w8,U⟩:=exQ<|w7.alloc (.cells #[.int .i64 0, .string u0, .slice u1 0 u2, .slice u3 0 u4] 26);have aZ:Hid (Below w.heap.size w w8):=hid (by rw[<-U];exact aC bt.out (aI _ _));clear r v0 v1 v2 v3;go_wp2_with fail;clear U;go_ret;exact⟨rfl,by first | exact aZ.out | exact aZ.out.drew⟩
  | some q=>
   obtain⟨k,m⟩:=q;obtain⟨hk,hm,x,hf,ao⟩:=y;simp only[] at hk hm ao;rw[hf] at CF;have HX:=hid (aJ hk (aJ hm (aJ hf ao)));have bc:Hid (jG x):=hid (by
    have h:=HX.out.2.2.1;unfold lV at h;split at h
    ·rw[bu.out] at HG;exact HG.out.walk h
    ·cases h)
   go_wp2_with fail;refine CA.out.mono ?_;rintro e w6 ⟨rfl,I⟩;have W:=hid I;have CF2:Hid (Calls Tryz.prog 12 #[.agg #[.int .i64 T.kind, .string (bs T.text), .slice pk T.keys.length ck, .slice pi T.items.length ci], .slice p na c] w6 (λe w'=>(∃u1 u2 u3 u4,e= .returned (.tuple #[.agg #[.int .i64 x.kind, .string (bs x.text), .slice u1 x.keys.length u2, .slice u3 x.items.length u4], .bool true])/\VD w' x.depth x (.slice u1 x.keys.length u2) (.slice u3 x.items.length u4))/\Below w6.heap.size w6 w')):=hid ((CF.out w6 I).mono (by rintro e w7 ⟨⟨kx,ix,rfl,E⟩,r⟩;obtain⟨u1,u2,u3,u4,rfl,rfl⟩:=E.form;exact⟨⟨_,_,_,_,rfl,E.toVD⟩,r⟩));obtain⟨_,v0,v1,v2,v3⟩:=K.out w6 I;unfold Fw;clear I c0 c1 c2 ab ak;go_wp2_with fail;refine CF2.out.mono ?_;rintro e w7 ⟨⟨u1,u2,u3,u4,rfl,E⟩,r⟩;have a0:=hid (aC W.out r);obtain⟨X,ba⟩:=exQ<|w7.heap.size;have b8:=aI w7 (.cells #[.int .i64 x.kind, .string (bs x.text), .slice u1 x.keys.length u2, .slice u3 x.items.length u4] 26);have x8:=heap_alloc_new w7 (.cells #[.int .i64 x.kind, .string (bs x.text), .slice u1 x.keys.length u2, .slice u3 x.items.length u4] 26);obtain⟨w8,U⟩:=exQ<|w7.alloc (.cells #[.int .i64 x.kind, .string (bs x.text), .slice u1 x.keys.length u2, .slice u3 x.items.length u4] 26);rw[U] at b8 x8;rw[ba] at x8;have L:=hid (aC a0.out b8);have aG:=hid x8;have aV:=hid (E.keep b8);have m0:decide ((m:Int)<0)=false:=aH (by omega);have m1:decide ((na:Int)<(m:Int))=false:=aH (by have:=ag.out;omega);have m2:decide (na<m)=false:=aH (by have:=ag.out;omega);obtain⟨⟨c0,c1,c2⟩,_⟩:=K.out w8 L.out;obtain⟨M,a7⟩:=HA.out.t k hk;have CN:=hid (Ej s d HA.out.b HA.out.i _ _ _ k M w8 a7 (bb.out.keep L.out) (HC.out w8 (aC G.out L.out)).2);have aU:=hid (HA.out.g k hk);obtain⟨Y,hY⟩:=exQ<|aN s d 32 k;rw[hY] at CN aU;have bq:Hid (lV (path.drop m) Y=some x):=hid (by rw[<-hY];exact ao);clear hk hm hf ao E r b8 x8 a7 hY v0 v1 v2 v3;go_wp2_with fail;clear U ba c0 c1 c2;refine CN.out.mono ?_;rintro e w9 ⟨⟨ky,iy,rfl,aK⟩,ah⟩;obtain⟨y1,y2,y3,y4,rfl,rfl⟩:=aK.form;have a6:=hid (aC L.out ah);have br:=hid aK.toVD;have ay:=hid (aV.out.keep ah);have aQ:=hid ((ah.block X (aF aG.out)).trans aG.out);obtain⟨Z,hZ⟩:=exQ<|w9.heap.size;have b10:=aI w9 (.cells #[.int .i64 Y.kind, .string (bs Y.text), .slice y1 Y.keys.length y2, .slice y3 Y.items.length y4] 26);have x10:=heap_alloc_new w9 (.cells #[.int .i64 Y.kind, .string (bs Y.text), .slice y1 Y.keys.length y2, .slice y3 Y.items.length y4] 26);obtain⟨w10,ap⟩:=exQ<|w9.alloc (.cells #[.int .i64 Y.kind, .string (bs Y.text), .slice y1 Y.keys.length y2, .slice y3 Y.items.length y4] 26);rw[ap] at b10 x10;rw[hZ] at x10;have ad:=hid (aC a6.out b10);have aP:=hid (br.out.keep b10);have aR:=hid (ay.out.keep b10);have au:=hid ((b10.block X (aF aQ.out)).trans aQ.out);have ar:=hid x10;unfold vv;clear aK ah b10 x10 aV ay aG aQ CA CF2 CN;go_upto_region 18 with fail;clear ap hZ;obtain⟨cp,aL⟩:=exQ (if c=m then p else p.map (λx=>x.add m));have bE:Hid (∀w',Below w.heap.size w w'->SV w' (.slice cp (na-m) (c-m)) (path.drop m)):=hid (λw' F=>by
    obtain⟨p',c',h1,h2,h3⟩:=(HC.out w' F).1;injection h1 with h1 h4 h5;subst h1 h5;have hml:=HX.out.2.1;refine⟨_,_,by rw[bB,ag.out],by rw[bB];omega,?_⟩;rw[<-aL];split
    ·rename_i e;exact .inl (List.drop_eq_nil_of_le (by omega))
    ·have h4:=h3;rcases h3 with h3 | ⟨g,o,e,_⟩
     ·exact .inl (by rw[h3,List.drop_nil])
     ·subst e;have h5:=h4.drop m;show nP w' (some (Addr.add ⟨g,o,none⟩ m)) _;rw[Addr.add_lit];exact h5)
   have bp:=hid aL;have hmn:m<=na:=by have:=HX.out.2.1;have:=ag.out;omega
   have hnc:na<=c:=by
    obtain⟨p',c',h1,h2,h3⟩:=(HC.out w (aB _ _)).1;injection h1 with h1 h4 h5;omega
   have CG:Hid (∀w',Below w10.heap.size w10 w'->Calls Tryz.prog 12 #[.agg #[.int .i64 Y.kind, .string (bs Y.text), .slice y1 Y.keys.length y2, .slice y3 Y.items.length y4], .slice cp (na-m) (c-m)] w' (λe w2=>(∃u,e= .returned (.tuple #[u, .bool true])/\VU x (λk=>w'.heap.size<=k) u w2)/\Below w'.heap.size w' w2)):=hid (λw' F=>by have bw:=aC ad.out F;have P:=aC G.out bw;have:=Fu _ Y _ _ (path.drop m) (.slice cp (na-m) (c-m)) w' (aP.out.keep F) aU.out (bE.out w' P) (by rw[bB];have:=J.out.1;omega) (λz hz=>J.out.2 z (List.mem_of_mem_drop hz)) (HC.out w' P).2;rw[bq.out] at this;refine this.mono ?_;rintro e w7 ⟨⟨kx,ix,rfl,E⟩,r⟩;obtain⟨u1,u2,u3,u4,rfl,rfl⟩:=E.form;exact⟨⟨_,rfl,_,_,_,_,rfl,E⟩,r⟩);clear aL;obtain⟨W0,aE⟩:=exQ<|w10.drew;have an:Hid (Below w10.heap.size w10 W0):=hid (by rw[<-aE];exact(aB _ _).drew);have a9:Tryz.prog.follows .mixedOrders=true:=(by kernel_rfl);refine aCP a9 [87,88,89,90,91,86,92,93,20,21] 106 rfl (by kernel_rfl) (by kernel_rfl) rfl x true (aCQ (.agg #[.int .i64 Y.kind, .string (bs Y.text), .slice y1 Y.keys.length y2, .slice y3 Y.items.length y4]) (.slice p na c) (.int .i64 (m:Int)) (.slice cp (na-m) (c-m)) (.bool true)) ?_ ?_
   ·rw[aE];intro d' a w' iq o' ho a3 j af A R hR;have bn:iq<11:=(cJ.1 ho).1;have q1:a.tmps[1]?.getD undef= .slice p na c:=bA af 1 (by decide);have q14:a.tmps[14]?.getD undef= .int .i64 (m:Int):=bA af 14 (by decide);have q18:a.tmps[18]?.getD undef= .pointer (some ⟨Z,0,none⟩):=bA af 18 (by decide);clear af;have ha:=j;have C:=ho;have ax:=A.bel;have am:iq=0\/iq=3\/iq=4\/iq=5\/iq=6\/iq=7\/iq=8\/iq=9\/iq=10\/iq=1\/iq=2:=(by omega);clear bn;rcases am with rfl|rfl|rfl|rfl|rfl|rfl|rfl|rfl|rfl|rfl|rfl<;>simp only[eC,dV,cH,cN] at ho<;>subst ho<;>(try simp[Region.binds] at j)
    ·have F:=aC an.out ax;obtain⟨b0,b1,b2,b3,_⟩:=bC ((F.block Z (aF ar.out)).trans ar.out);clear F;go_simp;exact hR _ _ (A.pure C ha (by decide) rfl)
    ·have c88:a.tmps[88]?.getD undef= .slice p na c:=A.g 1 88 (by decide) (by simp[j]);have c89:a.tmps[89]?.getD undef= .int .i64 (m:Int):=A.g 2 89 (by decide) (by simp[j]);go_simp;rw[bp.out];exact hR _ _ (A.pure C ha (by decide) rfl)
    ·have c87:a.tmps[87]?.getD undef= .agg #[.int .i64 Y.kind, .string (bs Y.text), .slice y1 Y.keys.length y2, .slice y3 Y.items.length y4]:=A.g 0 87 (by decide) (by simp[j]);have c90:a.tmps[90]?.getD undef= .slice cp (na-m) (c-m):=A.g 3 90 (by decide) (by simp[j]);have h9:d' 9=false:=A.early (f:=11) (by kernel_rfl) a3;go_simp;go_at_call 12;refine(CG.out w' (aC an.out ax)).mono ?_;rintro e w7 ⟨⟨u,rfl,hu⟩,r⟩;exact hR _ _ (A.call C ha h9 r hu)
    ·obtain⟨u,hu,hU⟩:=A.t4 (by simp[j]);have c91:a.tmps[91]?.getD undef= .tuple #[u, .bool true]:=by rw[<-aO];exact hu
     go_simp;exact hR _ _ (A.mv C ha hU)
    ·obtain⟨u,hu,hU⟩:=A.t5 (by simp[j]);have c86:a.tmps[86]?.getD undef= .tuple #[u, .bool true]:=by rw[<-aO];exact hu
     go_simp;exact hR _ _ (A.ex C ha hU)
    ·obtain⟨u,hu,hU⟩:=A.t5 (by simp[j]);have c86:a.tmps[86]?.getD undef= .tuple #[u, .bool true]:=by rw[<-aO];exact hu
     go_simp;exact hR _ _ (A.pure C ha (by decide) rfl)
    ·have h9:d' 9=false:=A.early (f:=11) (by kernel_rfl) a3;go_simp;exact hR _ _ (A.al C ha h9 _ rfl)
    ·have hU:=A.t6 (by simp[j]);obtain⟨p1,c1,p2,c2,he,aj⟩:=id hU;have c92:a.tmps[92]?.getD undef= .agg #[.int .i64 x.kind, .string (bs x.text), .slice p1 x.keys.length c1, .slice p2 x.items.length c2]:=by rw[<-aO];exact he
     rw[he] at hU;obtain⟨B,cs,hB,bI,S,am,_⟩:=A.bx (by simp[j]);have c20:a.tmps[20]?.getD undef= .pointer (some ⟨B,0,none⟩):=by rw[<-aO];exact hB
     have bl:=A.st C ha (by simp[j]) hB bI S am hU undef;obtain⟨e0,e1,e2,e3,rfl⟩: ∃a b c e,cs= #[a,b,c,e]:=by
      obtain⟨l⟩:=cs
      match l,am with
      | [a,b,c,e],_=>exact⟨a,b,c,e,rfl⟩
     obtain⟨x0,x1,x2,x3,f0,f1,f2,f3⟩:=bC S;clear he aj hU;go_simp;exact hR undef _ bl
    ·have c93:a.tmps[93]?.getD undef= .bool true:=A.g 7 93 (by decide) (by simp[j]);go_simp;exact hR _ _ (A.pure C ha (by decide) rfl)
    iterate 2 (go_simp;exact hR _ _ (A.pure C ha (by decide) rfl))
   intro v wz v21 ⟨B,cs,v20,S,hU⟩ hbz;obtain⟨p1,c1,p2,c2,he,aj⟩:=hU;injection he with he;subst he;have bF:=hid (aC G.out (aC ad.out hbz));have bJ:=hid aj.toVD;have bj:=hid (aR.out.keep hbz);obtain⟨x0,x1,x2,x3,_⟩:=bC ((hbz.block X (aF au.out)).trans au.out);obtain⟨z0,z1,z2,z3,_⟩:=bC S;have CE:=hid (Ni x.depth x x _ _ _ _ wz bj.out bJ.out (bc.out.lens _) (bc.out.lens _));unfold vv at CE;have v21:v 21= .bool true:=v21;simp only[cC,eJ,dO,eK,v20,v21];clear aj S hbz v20 v21 aE;go_wp2_with fail;refine CE.out.mono ?_;rintro e w11 ⟨⟨b,rfl,F⟩,aw⟩;obtain rfl:b=true:=F rfl;have aq:=hid (aC bF.out aw);clear F aw x0 x1 x2 x3 z0 z1 z2 z3;go_wp2_with fail;go_ret;exact⟨rfl,by first | exact aq.out | exact aq.out.drew⟩
end
section
open Go.Shelf Go.RowKit
noncomputable def Ah (os:Os):World:=
 let w0:=World.holding Tryz.prog os ⟨#[], #[],[]⟩
 let put (h:Array Obj) (g:Nat) (cs:Array Value):Array Obj:=h.modify g fun
  | .cells _ t frozen=> .cells cs t frozen
  | o=>o
 let h1:=put w0.heap 6 #[.int .u8 0, .int .u8 1, .int .u8 28, .int .u8 2, .int .u8 29, .int .u8 14, .int .u8 24, .int .u8 3, .int .u8 30, .int .u8 22, .int .u8 20, .int .u8 15, .int .u8 25, .int .u8 17, .int .u8 4, .int .u8 8, .int .u8 31, .int .u8 27, .int .u8 13, .int .u8 23, .int .u8 21, .int .u8 19, .int .u8 16, .int .u8 7, .int .u8 26, .int .u8 12, .int .u8 18, .int .u8 6, .int .u8 11, .int .u8 5, .int .u8 10, .int .u8 9]
 let h2:=put h1 7 #[.int .u8 0, .int .u8 1, .int .u8 56, .int .u8 2, .int .u8 57, .int .u8 49, .int .u8 28, .int .u8 3, .int .u8 61, .int .u8 58, .int .u8 42, .int .u8 50, .int .u8 38, .int .u8 29, .int .u8 17, .int .u8 4, .int .u8 62, .int .u8 47, .int .u8 59, .int .u8 36, .int .u8 45, .int .u8 43, .int .u8 51, .int .u8 22, .int .u8 53, .int .u8 39, .int .u8 33, .int .u8 30, .int .u8 24, .int .u8 18, .int .u8 12, .int .u8 5, .int .u8 63, .int .u8 55, .int .u8 48, .int .u8 27, .int .u8 60, .int .u8 41, .int .u8 37, .int .u8 16, .int .u8 46, .int .u8 35, .int .u8 44, .int .u8 21, .int .u8 52, .int .u8 32, .int .u8 23, .int .u8 11, .int .u8 54, .int .u8 26, .int .u8 40, .int .u8 15, .int .u8 34, .int .u8 20, .int .u8 31, .int .u8 10, .int .u8 25, .int .u8 14, .int .u8 19, .int .u8 9, .int .u8 13, .int .u8 8, .int .u8 7, .int .u8 6]
 let h3:=put h2 5 #[.int .u64 1, .int .u64 10, .int .u64 100, .int .u64 1000, .int .u64 10000, .int .u64 100000, .int .u64 1000000, .int .u64 10000000, .int .u64 100000000, .int .u64 1000000000, .int .u64 10000000000, .int .u64 100000000000, .int .u64 1000000000000, .int .u64 10000000000000, .int .u64 100000000000000, .int .u64 1000000000000000, .int .u64 10000000000000000, .int .u64 100000000000000000, .int .u64 1000000000000000000, .int .u64 10000000000000000000]
 let h4:=put h3 2 #[.int .u8 128, .int .u8 191, .int .u8 160, .int .u8 191, .int .u8 128, .int .u8 159, .int .u8 144, .int .u8 191, .int .u8 128, .int .u8 143, .int .u8 0, .int .u8 0, .int .u8 0, .int .u8 0, .int .u8 0, .int .u8 0, .int .u8 0, .int .u8 0, .int .u8 0, .int .u8 0, .int .u8 0, .int .u8 0, .int .u8 0, .int .u8 0, .int .u8 0, .int .u8 0, .int .u8 0, .int .u8 0, .int .u8 0, .int .u8 0, .int .u8 0, .int .u8 0]
 let n5:=h4.size
 let a5:=h4.push (.cells #[.string ⟨#[118,97,108,117,101,32,111,117,116,32,111,102,32,114,97,110,103,101]⟩] 242 (0,0))
 let h5:=put a5 4 #[.iface 240 (.pointer (some ⟨n5,0,none⟩))]
 let n6:=h5.size
 let a6:=h5.push (.cells #[.string ⟨#[105,110,118,97,108,105,100,32,115,121,110,116,97,120]⟩] 242 (0,0))
 let h6:=put a6 3 #[.iface 240 (.pointer (some ⟨n6,0,none⟩))]
 let h7:=put h6 1 (Lib.firstTab.map λz=>Value.int .u8 z).toArray
 { w0 with heap:=h7 }
def rW:List (String×DataW Unit):= [("math/bits.deBruijn32tab",Rows.laid_math_bits_deBruijn32tab),("math/bits.deBruijn64tab",Rows.laid_math_bits_deBruijn64tab),("internal/strconv.uint64pow10",Rows.laid_internal_strconv_uint64pow10),("unicode/utf8.acceptRanges",Rows.laid_unicode_utf8_acceptRanges),("strconv.ErrRange",Rows.laid_strconv_ErrRange),("strconv.ErrSyntax",Rows.laid_strconv_ErrSyntax),("unicode/utf8.first",Rows.laid_unicode_utf8_first)]
theorem aCS (os:Os) (args:Array Value):laidMet Tryz.prog rW ((Ah os).forCall (λ_ _=>0) ⟨#[],args,[]⟩).memory:=
 (LaidIn.of_run (l:=rW) (List.range 64) 8 (by kernel_rfl) (by kernel_rfl) (by kernel_rfl) (by kernel_rfl)).met
theorem aCT {W:World} (hL:laidMet Tryz.prog rW W):sR W:=by
 obtain⟨g,t,cs,fuel,p,d,b,a,c⟩:=Lib.laidMet.reads hL (.tail _ (.tail _ (.head _)));obtain rfl:=bD ((show Tryz.prog.globalNamed "internal/strconv.uint64pow10" =some 5 by kernel_rfl).symm.trans d);obtain rfl:=bD ((show (Tryz.prog.globals[5]?).map (·.type)=some 248 by kernel_rfl).symm.trans b);rw[show (Rows.laid_internal_strconv_uint64pow10:DataW Unit)=Lib.tabData .u64 Lib.pow10Tab by kernel_rfl] at c;have h:=Lib.cells_of_tab Tryz.underlying248 Tryz.underlying216 (by kernel_rfl) (by kernel_rfl) c;show World.var? Tryz.prog W _=_;rw[a,<-h]
theorem aCU {H:Type}{enc:TypeId×Value->H}{P:Program}{w:World}{base:Nat}{sp:Nat->Bool}{held:Bool}{fuel:Nat}{t:TypeId}{ms:Array (String×TypeId)}{cs:List Value}{nm:String}{d:DataW H}{p:List MemPlace}
  (ht:P.underlying t=some (.interface ms)) (h:DataW.trod enc P w base sp held fuel t cs=some (.iface nm d,p)): ∃u v,cs= [.iface u v]:=by
 cases fuel with
 | zero=>simp[DataW.trod] at h
 | succ n=>
  unfold DataW.trod at h;simp only[ht] at h;rcases cs with _ | ⟨c,_ | ⟨c2,l⟩⟩
  ·simp at h
  ·cases c<;>simp at h
   exact⟨_,_,rfl⟩
  ·cases c<;>simp at h
theorem aCV {W:World} (hL:laidMet Tryz.prog rW W):cM W:=by
 obtain⟨g,t,cs,fuel,p,d,c,a,e⟩:=Lib.laidMet.reads hL (.tail _ (.tail _ (.tail _ (.tail _ (.tail _ (.head _))))));obtain rfl:=bD ((show Tryz.prog.globalNamed "strconv.ErrSyntax" =some 3 by kernel_rfl).symm.trans d);obtain rfl:=bD ((show (Tryz.prog.globals[3]?).map (·.type)=some 129 by kernel_rfl).symm.trans c);obtain⟨u,v,b⟩:=aCU Tryz.underlying129 e;refine⟨u,v,?_⟩;rw[a,<-b]
theorem aCW {W:World} (hL:laidMet Tryz.prog rW W):sJ W:=by
 obtain⟨g,t,cs,fuel,p,d,b,a,c⟩:=Lib.laidMet.reads hL (.tail _ (.head _));obtain rfl:=bD ((show Tryz.prog.globalNamed "math/bits.deBruijn64tab" =some 7 by kernel_rfl).symm.trans d);obtain rfl:=bD ((show (Tryz.prog.globals[7]?).map (·.type)=some 255 by kernel_rfl).symm.trans b);rw[show (Rows.laid_math_bits_deBruijn64tab:DataW Unit)=Lib.tabData .u8 (Lib.deBruijn64tab.map (λn:Nat=>(n:Int))) by kernel_rfl] at c;have h:=Lib.cells_of_tab Tryz.underlying255 Tryz.underlying5 (by kernel_rfl) (by kernel_rfl) c;unfold sJ;rw[World.var?_cell (P:=Tryz.prog) (show Tryz.prog.globalNamed "math/bits.deBruijn64tab" =some 7 by kernel_rfl) a 15,<-Array.getElem?_toList,h];rfl
theorem aCX {W:World} (hL:laidMet Tryz.prog rW W):bZ W:=by
 have a:=Lib.laidMet.reads hL (.tail _ (.tail _ (.tail _ (.head _))));have b:=Lib.laidMet.reads hL (.tail _ (.tail _ (.tail _ (.tail _ (.tail _ (.tail _ (.head _)))))));rw[show Rows.laid_unicode_utf8_first=Lib.firstData from Pinned.utf8First_eq] at b;rw[show (Rows.laid_unicode_utf8_acceptRanges:DataW Unit)=Lib.acceptData by kernel_rfl] at a;exact utf8Tabs_of_readsT (U8Types.of196 Tryz.laysValid) ⟨by kernel_rfl,by kernel_rfl,by kernel_rfl,by kernel_rfl,by kernel_rfl,by kernel_rfl,by kernel_rfl⟩ b a
theorem aCY {W:World} (h:W.ShapedOpen Tryz.prog):lL W:=
 cell_of_shapedOpen_int (P:=Tryz.prog) (g:=0) (t:=3) (zero:= #[.int .i64 0]) h (of_decide_eq_true (by kernel_rfl)) (by kernel_rfl) rfl (by kernel_rfl) (by kernel_rfl) Tryz.underlying3
end
section
open Go.RowKit Go.Joins Go.ChangeShapes Go.WideShapes
section
variable {H:Type}{enc:TypeId×Value->H}{w:World}{base:Nat}{sp:Nat->Bool}{held:Bool}
theorem aCZ:Tryz.prog.cellsOf 9=1:=by kernel_rfl
def xP {H:Type} (y:aA):DataW H:= .lit (.string y)
theorem aDa {fuel:Nat}{cs:List Value}{x:DataW H×List MemPlace} (h:DataW.trod enc Tryz.prog w base sp held fuel 9 cs=some x): ∃y:aA,cs= [.string (bs y)]/\x=(xP y,[]):=by
 obtain⟨t,a,rfl,_⟩:=DataW.trod_string Tryz.underlying9 h;exact⟨t.data.toList,by rw[a,tV],rfl⟩
theorem Qc: ∀l:List aA,gE l+l.length<=Rows.uptoBulkAll (l.map (xP (H:=H)))
 | []=>aE _
 | y::l=>by
  have:=Qc l;rw[fU,Rows.uptoBulkAll,aV,yC];simp only[xP,Rows.uptoBulk];omega
theorem aDb {fuel:Nat}{v:Value}{d:DataW H}{p:List MemPlace} (hf:DataW.trod enc Tryz.prog w base sp held fuel 23 [v]=some (d,p)):
  ∃l:List aA,SV w v l/\gE l+l.length<=Rows.uptoBulk d:=by
 rcases Deep.open_slice Tryz.underlying23 hf with⟨A,e⟩ | ⟨a,len,cap,m,n,D,Pl,A,hb,G,hm,r,e,I⟩
 ·obtain rfl:=List.head_eq_of_cons_eq A;exact⟨[],⟨none,0,rfl,aE _, .inl rfl⟩,bM _⟩
 ·obtain rfl:=List.head_eq_of_cons_eq A;have hle:len<=m:=by rw[r];split<;>omega
  obtain⟨Y,B⟩:=Deep.choose_lt (α:=aA) (n:=len) (p:=λi y=>w.cells? base (a.add (i*1)) 1=some [.string (bs y)]/\D i=xP y) (λi h=>by obtain⟨cs,C,F⟩:=I i (by omega);obtain⟨y,rfl,E⟩:=aDa F;rw[aCZ] at C;exact⟨y,C,congrArg Prod.fst E⟩);have J:d= .slice (((List.range len).map Y).map xP) ((List.range (m-len)).map λj=>D (len+j)):=by
   have:=congrArg Prod.fst e;simp only[] at this;rw[this,List.map_map];congr 1;exact List.map_congr_left λi h=>(B i (List.mem_range.1 h)).2
  refine⟨(List.range len).map Y,⟨some a,cap,by simp,by simpa using G,?_⟩,?_⟩
  ·cases len with
   | zero=>exact .inl rfl
   | succ k=>
    right;have z:a.spot=none:=by
     obtain⟨_,_,c⟩:=World.cells?_some (B 0 (by omega)).1;have:=c 0 (by omega);rw[Nat.zero_mul] at this;unfold World.cell? Addr.add at this;simp only[if_true] at this;split at this
     ·split at this
      ·simp at this
      ·rename_i K;simpa using K
     ·simp at this
    obtain⟨g,o,s⟩:=a;obtain rfl:s=none:=z;have q: ∀i j,((⟨g,o,none⟩:Addr).add i).add j=⟨g,o+i+j,none⟩:=λi j=>by unfold Addr.add;split<;>split<;>simp_all
    have b: ∀i,i<k+1->w.cell? ⟨g,o+i,none⟩=some (.string (bs (Y i))):=λi h=>by
     obtain⟨_,_,c⟩:=World.cells?_some (B i h).1;have c0:=c 0 (by omega);rw[q,Nat.mul_one,Nat.add_zero] at c0;exact c0
    refine⟨g,o,rfl,rA (b 0 (by omega)),λj x e=>?_⟩;rw[cW] at e;obtain⟨i,t,rfl⟩:=rG.1 e;obtain⟨u,f⟩:=aR.1 t;simp at f u;subst f;exact b _ (by omega)
  ·rw[J,Rows.uptoBulk];have:=Qc (H:=H) ((List.range len).map Y);omega
instance:Inhabited (VT×Value×Value):=⟨(.mk 0 [] [] [], .nilFunc, .nilFunc)⟩
end
section
variable {H:Type}{enc:TypeId×Value->H}{w:World}{base:Nat}{sp:Nat->Bool}{held:Bool}
theorem Qd {t e:TypeId}{r:Reach}{b0:Nat}{v:Value}{u:Value} (ht:Tryz.prog.underlying t=some (.slice e)) (hv:Value.okWide Tryz.prog w r b0 t v) (hu:v.cells.toList= [u]):v=u:=by
 cases v<;>simp_all [Value.okWide,Cell.okWide,Cell.ok,Value.cells]
theorem aDc {r:Reach}{b0:Nat}{v:Value}{d:DataW H}{p:List MemPlace} (hv:Value.okWide Tryz.prog w r b0 23 v) (h:DataW.Trod enc Tryz.prog w base sp held 23 v d p):
  ∃l:List aA,SV w v l/\gE l+l.length<=Rows.uptoBulk d:=by
 obtain⟨fuel,b⟩:=h;have e:v.cells.toList= [v]:=by
  rcases Deep.open_slice Tryz.underlying23 b with⟨a,_⟩ | ⟨_,_,_,_,_,_,_,a,_⟩
  ·have:=Qd Tryz.underlying23 hv a;subst this;exact a
  ·have:=Qd Tryz.underlying23 hv a;subst this;exact a
 rw[e] at b;exact aDb b
end
end
end Go.Proofs.YtaifnmjjpddikaaGreatDoor
