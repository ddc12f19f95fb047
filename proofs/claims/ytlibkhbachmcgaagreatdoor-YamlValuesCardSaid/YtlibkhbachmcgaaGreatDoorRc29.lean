import Derived.Test.YtlibkhbachmcgaaGreatDoorRc27
import Derived.Test.YtlibkhbachmcgaaGreatDoorRc28
import Derived.Test.YtlibkhbachmcgaaGreatDoorRc15
import Derived.Test.YtlibkhbachmcgaaGreatDoorRc13
import Derived.Test.YtlibkhbachmcgaaGreatDoorRc20
import Derived.Deep.RegionHeld3
import Derived.Shelf.Vars
import Derived.Test.YtlibkhbachmcgaaGreatDoorCards
import Derived.Test.YtlibkhbachmcgaaGreatDoorTie
import Derived.Lib.LaidIn
import Derived.Lib.LaidU8T
import Derived.PinnedBridge
import Derived.Lib.TrailingZeros
import Derived.Test.YtlibkhbachmcgaaGreatDoorRows
import Derived.ChangeMaps5
import Derived.ChangeArms
import Derived.ChangeSame
import Derived.ChangeSlices
import Derived.OpenShut
import Derived.Carry
import Derived.Deep.Slices
import Derived.Lib.SmallJoins
import Derived.KernelRfl
set_option maxRecDepth 100000
set_option maxHeartbeats 8000000
namespace Go.Proofs.YtlibkhbachmcgaaGreatDoor
set_option linter.unusedSimpArgs false
set_option linter.unusedVariables false
open Go.RowKit
open Go.Lib hiding intOf
theorem YDocAt.box {B:Nat}{d:YDoc}{lv nv:Value}{w:World} (h:YDocAt B d lv nv w) (h0:d.nodes≠ []): ∃gn cn,nv= .slice (some ⟨gn,0,none⟩) d.nodes.length cn:=by
 obtain⟨z,hz,_,hnd⟩:=h
 have hzl:z.length=d.nodes.length:=by rw[←hz,List.length_map]
 obtain⟨g,cap,cur,e,_⟩:=hnd.form (fun e=>by rw[e] at hzl;have:=List.length_pos_iff.2 h0;simp at hzl;omega)
 exact⟨g,cap,by rw[e,hzl]⟩
theorem yamlValues_any (sb:ByteArray) (w:World) (hV:AVar w) (hsz:sb.size≤140737488351232):
  Calls Tryz.prog 7 #[.string sb] w fun e w'=>e= .returned (.bool true)∧Below w.heap.size w w':=by
 obtain⟨s,rfl⟩: ∃l,sb=bs l:=⟨sb.data.toList,(bs_of sb).symm⟩
 have sl:=bs_size s
 rw[sl] at hsz
 have HV:=hid hV
 have C0:=hid (small12_any w hV)
 obtain⟨⟨d,n,er⟩,hP⟩: ∃R,parseYm s=R:=⟨_,rfl⟩
 have CP:Hid (∀w',Below w.heap.size w w'→Calls Tryz.prog 11 #[.string (bs s)] w' (YPE s (d,n,er) w')):=hid (fun w' hb=>by
  have:=yparse_any s w' (HV.out.keep hb)
  rw[hP] at this
  exact this)
 have HP:=hid hP
 clear hV hP
 go_enter Tryz.func7,Tryz.ntmps7
 go_wp2_with fail
 refine C0.out.mono ?_
 rintro e w1 ⟨rfl,hb1⟩
 have HB1:=hid hb1
 clear hb1
 go_wp2_with fail
 refine(CP.out _ HB1.out).mono ?_
 rintro e w2 ⟨tx,lv,nv,rfl,htx,hd2,hb2⟩
 simp only[] at htx
 obtain⟨⟨pl,cl,hpl⟩,pn,cn,hpn⟩:=hd2.forms
 obtain⟨nl,hnl⟩: ∃n,d.lines.length=n:=⟨_,rfl⟩
 obtain⟨nn,hnn⟩: ∃n,d.nodes.length=n:=⟨_,rfl⟩
 simp only[] at hpl hpn
 rw[hnl] at hpl
 rw[hnn] at hpn
 subst hpl hpn
 have HD2:=hid hd2
 have HB2:=hid (below_of_new HB1.out hb2)
 have HTX:=hid htx
 have HNL:=hid (And.intro hnl hnn)
 simp only[]
 clear hd2 hb2 htx hnl hnn
 obtain⟨D,hDe⟩: ∃K,w2.heap.size=K:=⟨_,rfl⟩
 have b3:=below_alloc1 w2 (.cells #[.string tx, .slice pl nl cl, .slice pn nn cn] 26)
 have x3:=heap_alloc_new w2 (.cells #[.string tx, .slice pl nl cl, .slice pn nn cn] 26)
 obtain⟨w3,hw3⟩: ∃W,w2.alloc (.cells #[.string tx, .slice pl nl cl, .slice pn nn cn] 26)=W:=⟨_,rfl⟩
 rw[hw3] at b3 x3
 rw[hDe] at x3
 have HB23:=hid b3
 have HX3:=hid x3
 have HB3:=hid (below_of_new HB2.out b3)
 clear b3 x3
 by_cases h0:er=0
 rotate_left
 ·have d0:(er !=0)=true:=by simpa using h0
  obtain⟨e1,e2,e3⟩:=parse_err HP.out h0
  have hnn0:nn=0:=by rw[←HNL.out.2,e1];rfl
  subst hnn0
  have q1:decide ((0:Int)≤n)=true:=decide_eq_true e2
  have q2:decide (n≤(s.length:Int))=true:=decide_eq_true e3
  obtain⟨c0,c1,c2,_⟩:=box3f HX3.out
  clear h0 e1 e2 e3
  go_wp2_with fail
  clear hw3 hDe
  go_ret
  exact⟨rfl,by first | exact HB3.out | exact HB3.out.drew⟩
 subst h0
 by_cases hl:4096<s.length
 ·have dl:decide ((4096:Int)<(s.length:Int))=true:=decide_eq_true (by omega)
  have dl2:decide (4096<s.length)=true:=decide_eq_true hl
  clear hl
  go_wp2_with fail
  go_ret
  exact⟨rfl,by first | exact HB3.out | exact HB3.out.drew⟩
 have dl:decide ((4096:Int)<(s.length:Int))=false:=decide_eq_false (by omega)
 have dl2:decide (4096<s.length)=false:=decide_eq_false hl
 have hP2:=HP.out
 unfold parseYm at hP2
 rw[if_neg (by omega)] at hP2
 have HT:=hid (whole_tree hP2)
 obtain⟨hRt,hne⟩:=whole_rt hP2
 subst hne
 have HR:=hid hRt
 have HVs:=hid (values hRt HT.out)
 have HDB:=hid (doc_B (by omega) hP2)
 have hnn0:0<nn:=by have:=HVs.out.2.2;have:=HNL.out.2;omega
 have hnnl:nn≤4096:=by have:=HT.out.cnt;have:=HNL.out.2;omega
 rw[if_pos rfl] at HTX
 have htx:=HTX.out
 subst htx
 obtain⟨gn,rfl⟩: ∃gn,pn=some ⟨gn,0,none⟩:=by
  obtain⟨g,c,e⟩:=HD2.out.box (fun e=>by have:=HNL.out.2;rw[e] at this;simp at this;omega)
  injection e with e1
  exact⟨g,e1⟩
 have HDX:Hid (∀w',Below w3.heap.size w3 w'→w'.cell? ⟨D,0,none⟩=some (.string (bs s))∧w'.cell? ⟨D,1,none⟩=some (.slice pl nl cl)∧w'.cell? ⟨D,2,none⟩=some (.slice (some ⟨gn,0,none⟩) nn cn)):=hid (fun w' h=>by
  obtain⟨e0,e1,e2,_⟩:=box3f ((h.block D (cell_it HX3.out)).trans HX3.out)
  exact⟨e0,e1,e2⟩)
 have HDoc:Hid (∀w',Below w3.heap.size w3 w'→YDocAt w1.heap.size d (.slice pl nl cl) (.slice (some ⟨gn,0,none⟩) nn cn) w'):=hid (fun w' h=>(HD2.out.keep HB23.out).keep h)
 have HVr:Hid (∀w',Below w3.heap.size w3 w'→AVar w'):=hid (fun w' h=>(HV.out.keep HB3.out).keep h)
 obtain⟨sz,hszq⟩: ∃z,(nodeYv s d 32 0).size=z:=⟨_,rfl⟩
 have HZ:Hid ((nodeYv s d 32 0).size=sz∧nn≤sz):=hid ⟨hszq,by have:=HVs.out.2.1;have:=HNL.out.2;omega⟩
 obtain⟨c0,c1,c2⟩:=HDX.out w3 (Below.refl _ _)
 have HSL:Hid (s.length≤4096):=hid (by omega)
 clear hP2 hl hRt hszq
 go_wp2_with fail
 clear hw3 hDe c0 c1 c2
 go_loopw [7,8] (fun s7 s8 wr=> ∃(k:Nat) (tot:Nat),s8= .int .i64 (k:Int)∧s7= .int .i64 (tot:Int)∧k≤nn∧(0<k→tot=sz)∧Hid (Below w3.heap.size w3 wr)) (fun _ s8 _=>nn-(RowKit.intOf s8).toNat)
 case atStart=>exact⟨0,0,rfl,rfl,Nat.zero_le _,fun h=>absurd h (Nat.lt_irrefl _),hid (by first | exact Below.refl _ _ | exact(Below.refl _ _).drew)⟩
 case round=>
  obtain⟨k,tot,rfl,rfl,hk,hto,HBr⟩:=hrel
  obtain⟨c0,c1,c2⟩:=HDX.out wr HBr.out
  by_cases hkn:k<nn
  rotate_left
  ·obtain rfl:k=nn:=by omega
   have htz:=hto hnn0
   subst htz
   have dk:decide ((k:Int)<(k:Int))=false:=decide_eq_false (by omega)
   have t1:decide ((k:Int)≤(tot:Int))=true:=decide_eq_true (by have:=HZ.out.2;omega)
   have t1b:decide (k≤tot)=true:=decide_eq_true HZ.out.2
   have t2:decide ((0:Int)<(k:Int))=true:=decide_eq_true (by omega)
   have t2b:decide (0<k)=true:=decide_eq_true hnn0
   go_wp2_with fail
   go_ret
   exact⟨rfl,by first | exact below_of_new HB3.out HBr.out | exact(below_of_new HB3.out HBr.out).drew⟩
  ·have dk:decide ((k:Int)<(nn:Int))=true:=decide_eq_true (by omega)
   have dkb:decide (k<nn)=true:=decide_eq_true hkn
   have hkd:k<d.nodes.length:=by rw[HNL.out.2];exact hkn
   obtain⟨T,hT⟩: ∃T,nodeYv s d 32 k=T:=⟨_,rfl⟩
   have hR1:=HVs.out.1 k hkd
   have hF1:=node_fits HSL.out HR.out HT.out hkd
   rw[hT] at hR1 hF1
   have HTT:=hid (And.intro hT (And.intro hR1 hF1))
   obtain⟨m,hm,_⟩:=HT.out.node hkd
   have CN:Hid (∀w',Below w3.heap.size w3 w'→Calls Tryz.prog 14 #[.agg #[.string (bs s), .slice pl nl cl, .slice (some ⟨gn,0,none⟩) nn cn], .int .i64 (k:Int)] w' (NdE T true w')):=hid (fun w' h=>by
    have:=yNodeD_any s d HDB.out.1 HDB.out.2 _ _ _ k m w' hm (HDoc.out w' h) (HVr.out w' h)
    rw[hT] at this
    exact this)
   clear hT hR1 hF1 hm hkd
   go_wp2_with fail
   refine(CN.out _ (by first | exact HBr.out | exact HBr.out.drew)).mono ?_
   rintro e w5 ⟨⟨kv,iv,rfl,hv5⟩,hb5⟩
   obtain⟨pk,ck,pi,ci,hkv,hiv⟩:=hv5.toVD.form
   obtain⟨nk,hnk⟩: ∃n,T.keys.length=n:=⟨_,rfl⟩
   obtain⟨ni,hni⟩: ∃n,T.items.length=n:=⟨_,rfl⟩
   rw[hnk] at hkv
   rw[hni] at hiv
   subst hkv hiv
   have HB5:Hid (Below w3.heap.size w3 w5):=hid (by first | exact below_of_new HBr.out hb5 | exact below_of_new HBr.out.drew hb5)
   have HV5:=hid hv5.toVD
   unfold vv
   obtain⟨tk,htk⟩: ∃a,T.kind=a:=⟨_,rfl⟩
   obtain⟨tt,htt⟩: ∃a,T.text=a:=⟨_,rfl⟩
   rw[htk,htt]
   have HTK:=hid (And.intro htk (And.intro htt (And.intro hnk hni)))
   clear hv5 hb5 c0 c1 c2 htk htt hnk hni CN
   obtain⟨X,hXe⟩: ∃K,w5.heap.size=K:=⟨_,rfl⟩
   have b6:=below_alloc1 w5 (.cells #[.int .i64 tk, .string (bs tt), .slice pk nk ck, .slice pi ni ci] 36)
   have x6:=heap_alloc_new w5 (.cells #[.int .i64 tk, .string (bs tt), .slice pk nk ck, .slice pi ni ci] 36)
   obtain⟨w6,hw6⟩: ∃W,w5.alloc (.cells #[.int .i64 tk, .string (bs tt), .slice pk nk ck, .slice pi ni ci] 36)=W:=⟨_,rfl⟩
   rw[hw6] at b6 x6
   rw[hXe] at x6
   have HB6:=hid (below_of_new HB5.out b6)
   have HX6:=hid x6
   have HV6:Hid (∀w',Below w6.heap.size w6 w'→VD w' T.depth T (.slice pk nk ck) (.slice pi ni ci)):=hid (fun w' h=>(HV5.out.keep b6).keep h)
   have HXc:Hid (∀w',Below w6.heap.size w6 w'→w'.cell? ⟨X,0,none⟩=some (.int .i64 tk)∧w'.cell? ⟨X,1,none⟩=some (.string (bs tt))∧w'.cell? ⟨X,2,none⟩=some (.slice pk nk ck)∧w'.cell? ⟨X,3,none⟩=some (.slice pi ni ci)):=hid (fun w' h=>by
    obtain⟨e0,e1,e2,e3,_⟩:=box4 ((h.block X (cell_it HX6.out)).trans HX6.out)
    exact⟨e0,e1,e2,e3⟩)
   have HAG:Hid (vv T (.slice pk nk ck) (.slice pi ni ci)= .agg #[.int .i64 tk, .string (bs tt), .slice pk nk ck, .slice pi ni ci]):=hid (by unfold vv;rw[HTK.out.1,HTK.out.2.1])
   have CR:Hid (∀w',Below w6.heap.size w6 w'→Calls Tryz.prog 21 #[.agg #[.int .i64 tk, .string (bs tt), .slice pk nk ck, .slice pi ni ci]] w' fun e w2=>e= .returned (.bool true)∧Below w'.heap.size w' w2):=hid (fun w' h=>by
    have:=vright_any _ T _ _ w' (HV6.out w' h) HTT.out.2.2 (HVr.out w' (below_of_new HB6.out h)).1.1
    rw[HAG.out,HTT.out.2.1] at this
    exact this)
   have CZ:Hid (∀w',Below w6.heap.size w6 w'→Calls Tryz.prog 22 #[.agg #[.int .i64 tk, .string (bs tt), .slice pk nk ck, .slice pi ni ci]] w' fun e w2=>e= .returned (.int .i64 (T.size:Int))∧Below w'.heap.size w' w2):=hid (fun w' h=>by
    have:=vsize_any _ T _ _ w' (HV6.out w' h) (Nat.le_trans HTT.out.2.2 (by decide))
    rw[HAG.out] at this
    exact this)
   clear b6 x6
   obtain⟨x0,x1,x2,x3⟩:=HXc.out w6 (Below.refl _ _)
   obtain⟨k1,hk1⟩: ∃k1,k+1=k1:=⟨_,rfl⟩
   have hk1z:(k:Int)+1=(k1:Int):=by omega
   have hk1n:k1≤nn:=by omega
   have HK1:=hid hk1z
   clear hk1 hk1z
   go_wp2_with fail
   refine(CR.out _ (by first | exact Below.refl _ _ | exact(Below.refl _ _).drew)).mono ?_
   rintro e w7 ⟨rfl,hb7⟩
   have HB67:Hid (Below w6.heap.size w6 w7):=hid (by first | exact hb7 | exact below_of_new (Below.refl _ _).drew hb7)
   have HB7:=hid (below_of_new HB6.out HB67.out)
   clear hb7 x0 x1 x2 x3 hw6 hXe CR
   obtain⟨x0,x1,x2,x3⟩:=HXc.out w7 HB67.out
   by_cases hk0:k=0
   ·subst hk0
    have hTs:T.size=sz:=by rw[←HTT.out.1];exact HZ.out.1
    rw[hTs] at CZ
    clear hTs
    go_wp2_with fail
    refine(CZ.out _ (by first | exact HB67.out | exact HB67.out.drew)).mono ?_
    rintro e w8 ⟨rfl,hb8⟩
    have HB8:Hid (Below w3.heap.size w3 w8):=hid (by first | exact below_of_new HB7.out hb8 | exact below_of_new HB7.out.drew hb8)
    clear hb8 x0 x1 x2 x3 CZ
    go_wp2_with fail
    go_roundw
    ·exact⟨k1,sz,by rw[←HK1.out];rfl,rfl,hk1n,fun _=>rfl,by first | exact HB8 | exact hid HB8.out.drew⟩
    ·simp only[RowKit.intOf];omega
   ·have d0:((k:Int)==0)=false:=beq_eq_false_iff_ne.2 (by omega)
    have d0b:(k==0)=false:=beq_eq_false_iff_ne.2 hk0
    have HTS:=hid (hto (by omega))
    clear CZ
    go_wp2_with fail
    go_roundw
    ·exact⟨k1,tot,by rw[←HK1.out],rfl,hk1n,fun _=>HTS.out,by first | exact HB7 | exact hid HB7.out.drew⟩
    ·simp only[RowKit.intOf];omega
end Go.Proofs.YtlibkhbachmcgaaGreatDoor
namespace Go.Proofs.YtlibkhbachmcgaaGreatDoor
open Go.Shelf Go.RowKit
noncomputable def laidWorld7 (os:Os):World:=
 let w0:=World.holding Tryz.prog os ⟨#[], #[],[]⟩
 let put (h:Array Obj) (g:Nat) (cs:Array Value):Array Obj:=h.modify g fun
  | .cells _ t frozen=> .cells cs t frozen
  | o=>o
 let h1:=put w0.heap 6 #[.int .u8 0, .int .u8 1, .int .u8 28, .int .u8 2, .int .u8 29, .int .u8 14, .int .u8 24, .int .u8 3, .int .u8 30, .int .u8 22, .int .u8 20, .int .u8 15, .int .u8 25, .int .u8 17, .int .u8 4, .int .u8 8, .int .u8 31, .int .u8 27, .int .u8 13, .int .u8 23, .int .u8 21, .int .u8 19, .int .u8 16, .int .u8 7, .int .u8 26, .int .u8 12, .int .u8 18, .int .u8 6, .int .u8 11, .int .u8 5, .int .u8 10, .int .u8 9]
 let h2:=put h1 7 #[.int .u8 0, .int .u8 1, .int .u8 56, .int .u8 2, .int .u8 57, .int .u8 49, .int .u8 28, .int .u8 3, .int .u8 61, .int .u8 58, .int .u8 42, .int .u8 50, .int .u8 38, .int .u8 29, .int .u8 17, .int .u8 4, .int .u8 62, .int .u8 47, .int .u8 59, .int .u8 36, .int .u8 45, .int .u8 43, .int .u8 51, .int .u8 22, .int .u8 53, .int .u8 39, .int .u8 33, .int .u8 30, .int .u8 24, .int .u8 18, .int .u8 12, .int .u8 5, .int .u8 63, .int .u8 55, .int .u8 48, .int .u8 27, .int .u8 60, .int .u8 41, .int .u8 37, .int .u8 16, .int .u8 46, .int .u8 35, .int .u8 44, .int .u8 21, .int .u8 52, .int .u8 32, .int .u8 23, .int .u8 11, .int .u8 54, .int .u8 26, .int .u8 40, .int .u8 15, .int .u8 34, .int .u8 20, .int .u8 31, .int .u8 10, .int .u8 25, .int .u8 14, .int .u8 19, .int .u8 9, .int .u8 13, .int .u8 8, .int .u8 7, .int .u8 6]
 let h3:=put h2 3 #[.int .u64 1, .int .u64 10, .int .u64 100, .int .u64 1000, .int .u64 10000, .int .u64 100000, .int .u64 1000000, .int .u64 10000000, .int .u64 100000000, .int .u64 1000000000, .int .u64 10000000000, .int .u64 100000000000, .int .u64 1000000000000, .int .u64 10000000000000, .int .u64 100000000000000, .int .u64 1000000000000000, .int .u64 10000000000000000, .int .u64 100000000000000000, .int .u64 1000000000000000000, .int .u64 10000000000000000000]
 let h4:=put h3 1 #[.int .u8 128, .int .u8 191, .int .u8 160, .int .u8 191, .int .u8 128, .int .u8 159, .int .u8 144, .int .u8 191, .int .u8 128, .int .u8 143, .int .u8 0, .int .u8 0, .int .u8 0, .int .u8 0, .int .u8 0, .int .u8 0, .int .u8 0, .int .u8 0, .int .u8 0, .int .u8 0, .int .u8 0, .int .u8 0, .int .u8 0, .int .u8 0, .int .u8 0, .int .u8 0, .int .u8 0, .int .u8 0, .int .u8 0, .int .u8 0, .int .u8 0, .int .u8 0]
 let n5:=h4.size
 let a5:=h4.push (.cells #[.string ⟨#[118,97,108,117,101,32,111,117,116,32,111,102,32,114,97,110,103,101]⟩] 268 (0,0))
 let h5:=put a5 5 #[.iface 266 (.pointer (some ⟨n5,0,none⟩))]
 let n6:=h5.size
 let a6:=h5.push (.cells #[.string ⟨#[105,110,118,97,108,105,100,32,115,121,110,116,97,120]⟩] 268 (0,0))
 let h6:=put a6 4 #[.iface 266 (.pointer (some ⟨n6,0,none⟩))]
 let h7:=put h6 0 (Lib.firstTab.map fun z=>Value.int .u8 z).toArray
 { w0 with heap:=h7 }
def laidL7:List (String×DataW Unit):= [("math/bits.deBruijn32tab",Rows.laid_math_bits_deBruijn32tab),("math/bits.deBruijn64tab",Rows.laid_math_bits_deBruijn64tab),("internal/strconv.uint64pow10",Rows.laid_internal_strconv_uint64pow10),("unicode/utf8.acceptRanges",Rows.laid_unicode_utf8_acceptRanges),("strconv.ErrRange",Rows.laid_strconv_ErrRange),("strconv.ErrSyntax",Rows.laid_strconv_ErrSyntax),("unicode/utf8.first",Rows.laid_unicode_utf8_first)]
theorem laid_met7 (os:Os) (args:Array Value):laidMet Tryz.prog laidL7 ((laidWorld7 os).forCall (fun _ _=>0) ⟨#[],args,[]⟩).memory:=
 (LaidIn.of_run (l:=laidL7) (List.range 64) 8 (by kernel_rfl) (by kernel_rfl) (by kernel_rfl) (by kernel_rfl)).met
theorem ptab_of7 {W:World} (hL:laidMet Tryz.prog laidL7 W):PTab W:=by
 obtain⟨g,t,cs,fuel,p,hg,hty,hvar,hd⟩:=Lib.laidMet.reads hL (.tail _ (.tail _ (.head _)))
 obtain rfl:=Option.some.inj ((show Tryz.prog.globalNamed "internal/strconv.uint64pow10" =some 3 by kernel_rfl).symm.trans hg)
 obtain rfl:=Option.some.inj ((show (Tryz.prog.globals[3]?).map (·.type)=some 246 by kernel_rfl).symm.trans hty)
 rw[show (Rows.laid_internal_strconv_uint64pow10:DataW Unit)=Lib.tabData .u64 Lib.pow10Tab by kernel_rfl] at hd
 have h:=Lib.cells_of_tab Tryz.underlying246 Tryz.underlying196 (by kernel_rfl) (by kernel_rfl) hd
 show World.var? Tryz.prog W _=_
 rw[hvar,←h]
theorem iface_cells {H:Type}{enc:TypeId×Value→H}{P:Program}{w:World}{base:Nat}{sp:Nat→Bool}{held:Bool}{fuel:Nat}{t:TypeId}{ms:Array (String×TypeId)}{cs:List Value}{nm:String}{d:DataW H}{p:List MemPlace}
  (ht:P.underlying t=some (.interface ms)) (h:DataW.trod enc P w base sp held fuel t cs=some (.iface nm d,p)): ∃u v,cs= [.iface u v]:=by
 cases fuel with
 | zero=>simp[DataW.trod] at h
 | succ n=>
  unfold DataW.trod at h
  simp only[ht] at h
  rcases cs with _ | ⟨c,_ | ⟨c2,l⟩⟩
  ·simp at h
  ·cases c<;>simp at h
   exact⟨_,_,rfl⟩
  ·cases c<;>simp at h
theorem svar_of7 {W:World} (hL:laidMet Tryz.prog laidL7 W):SVar W:=by
 obtain⟨g,t,cs,fuel,p,hg,hty,hvar,hd⟩:=Lib.laidMet.reads hL (.tail _ (.tail _ (.tail _ (.tail _ (.tail _ (.head _))))))
 obtain rfl:=Option.some.inj ((show Tryz.prog.globalNamed "strconv.ErrSyntax" =some 4 by kernel_rfl).symm.trans hg)
 obtain rfl:=Option.some.inj ((show (Tryz.prog.globals[4]?).map (·.type)=some 109 by kernel_rfl).symm.trans hty)
 obtain⟨u,v,hcs⟩:=iface_cells Tryz.underlying109 hd
 refine⟨u,v,?_⟩
 rw[hvar,←hcs]
theorem dtab_of7 {W:World} (hL:laidMet Tryz.prog laidL7 W):DTab W:=by
 obtain⟨g,t,cs,fuel,p,hg,hty,hvar,hd⟩:=Lib.laidMet.reads hL (.tail _ (.head _))
 obtain rfl:=Option.some.inj ((show Tryz.prog.globalNamed "math/bits.deBruijn64tab" =some 7 by kernel_rfl).symm.trans hg)
 obtain rfl:=Option.some.inj ((show (Tryz.prog.globals[7]?).map (·.type)=some 270 by kernel_rfl).symm.trans hty)
 rw[show (Rows.laid_math_bits_deBruijn64tab:DataW Unit)=Lib.tabData .u8 (Lib.deBruijn64tab.map (fun n:Nat=>(n:Int))) by kernel_rfl] at hd
 have h:=Lib.cells_of_tab Tryz.underlying270 Tryz.underlying5 (by kernel_rfl) (by kernel_rfl) hd
 unfold DTab
 rw[World.var?_cell (P:=Tryz.prog) (show Tryz.prog.globalNamed "math/bits.deBruijn64tab" =some 7 by kernel_rfl) hvar 15,←Array.getElem?_toList,h]
 rfl
theorem tabs_of7 {W:World} (hL:laidMet Tryz.prog laidL7 W):Tabs W:=by
 have h1:=Lib.laidMet.reads hL (.tail _ (.tail _ (.tail _ (.head _))))
 have h2:=Lib.laidMet.reads hL (.tail _ (.tail _ (.tail _ (.tail _ (.tail _ (.tail _ (.head _)))))))
 rw[show Rows.laid_unicode_utf8_first=Lib.firstData from Pinned.utf8First_eq] at h2
 rw[show (Rows.laid_unicode_utf8_acceptRanges:DataW Unit)=Lib.acceptData by kernel_rfl] at h1
 exact utf8Tabs_of_readsT (U8Types.of196 Tryz.laysValid) ⟨by kernel_rfl,by kernel_rfl,by kernel_rfl,by kernel_rfl,by kernel_rfl,by kernel_rfl,by kernel_rfl⟩ h2 h1
theorem mvar_of {W:World} (h:W.ShapedOpen Tryz.prog):MVar W:=
 cell_of_shapedOpen_int (P:=Tryz.prog) (g:=2) (t:=3) (zero:= #[.int .i64 0]) h (of_decide_eq_true (by kernel_rfl)) (by kernel_rfl) rfl (by kernel_rfl) (by kernel_rfl) Tryz.underlying3
end Go.Proofs.YtlibkhbachmcgaaGreatDoor
namespace Go.Proofs.YtlibkhbachmcgaaGreatDoor
set_option linter.unusedSimpArgs false
set_option linter.unusedVariables false
set_option linter.constructorNameAsVariable false
open Go.RowKit Go.Joins Go.ChangeShapes Go.WideShapes
section
variable {H:Type}{enc:TypeId×Value→H}{w:World}{base:Nat}{sp:Nat→Bool}{held:Bool}
instance:Inhabited (VT×Value×Value):=⟨(.mk 0 [] [] [], .nilFunc, .nilFunc)⟩
end
end Go.Proofs.YtlibkhbachmcgaaGreatDoor
