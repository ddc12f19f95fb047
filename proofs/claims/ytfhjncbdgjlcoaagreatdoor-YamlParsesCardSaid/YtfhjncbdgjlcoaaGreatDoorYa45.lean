import Derived.Test.YtfhjncbdgjlcoaaGreatDoorYa39
import Derived.Test.YtfhjncbdgjlcoaaGreatDoorYa44
import Derived.Test.YtfhjncbdgjlcoaaGreatDoorCards
import Derived.Test.YtfhjncbdgjlcoaaGreatDoorTie
import Derived.Lib.LaidU8T
import Derived.PinnedBridge
import Derived.Lib.TrailingZeros
import Derived.Lib.SmallJoins
set_option maxRecDepth 100000
set_option maxHeartbeats 16000000
set_option linter.unusedVariables false
set_option linter.unusedSimpArgs false
namespace Go.Proofs.YtfhjncbdgjlcoaaGreatDoor
section
open Go.RowKit
open Go.Lib hiding intOf
theorem Gw {w:World}{B:Nat}{e:TypeId}{s:Nat}{v:Value}{n:Nat}{xs:List Value} (h:w.ownsRow B e s v n xs):n<=9223372036854775807:=by
 rcases h.2 with⟨_,a⟩ | ⟨g,cap,cur,_,_,_,a,h2,_⟩
 ·omega
 ·have h3:maxLen=9223372036854775807:=rfl;omega
theorem eD.lens {B:Nat}{d:gD}{lv nv:Value}{w:World} (h:eD B d lv nv w):d.lines.length<=9223372036854775807/\d.nodes.length<=9223372036854775807/\ ∀x∈d.nodes,x.kids.length<=9223372036854775807:=by
 obtain⟨z,c,e,a⟩:=h;refine⟨Gw e,?_,λx b=>?_⟩
 ·rw[<-c,bR];exact Gw a.row
 ·rw[<-c] at b;obtain⟨y,f,rfl⟩:=rQ.1 b;exact Gw (a.kids y f)
theorem aCJ {B1 B2:Nat}{d:gD}{l1 n1 l2 n2:Value} (tx:ByteArray) (w:World) (h1:eD B1 d l1 n1 w) (h2:eD B2 d l2 n2 w):
  Calls Tryz.prog 8 #[.agg #[tx,l1,n1], .agg #[tx,l2,n2]] w λe w'=>e= .returned (.bool true)/\Below w.heap.size w w':=by
 obtain⟨b1,b2,b3⟩:=h1.lens;obtain⟨p1,c1,p2,c2,rfl,rfl,r1,r2⟩:=h1.read;obtain⟨q1,c3,q2,c4,rfl,rfl,r3,r4⟩:=h2.read;exact aBB tx d p1 p2 q1 q2 c1 c2 c3 c4 w b1 b2 b3 r1 r2 r3 r4
theorem aCK {B:Nat}{d:gD}{lv nv:Value} (tx:ByteArray) (w:World) (h:eD B d lv nv w) (hB:B<=w.heap.size):
  Calls Tryz.prog 9 #[.agg #[tx,lv,nv]] w λe w'=>e= .returned (.tuple #[])/\Below B w w':=by
 obtain⟨b1,b2,b3⟩:=h.lens;obtain⟨z,a,b⟩:=jZ.of h;exact aBC B d.lines.length z lv nv tx w b hB b1 (by rw[<-a,bR] at b2;exact b2) (λy c=>b3 y.1 (by rw[<-a];exact List.mem_map_of_mem c))
theorem aCL (sb:ByteArray) (w:World) (hV:bU w) (HRd:Hid uW) (HKy:Hid uX):
  Calls Tryz.prog 3 #[sb] w λe w'=>e= .returned (.bool true)/\Below w.heap.size w w':=by
 obtain⟨s,rfl⟩: ∃l,sb=bs l:=⟨sb.data.toList,(wU sb).symm⟩;have sl:=aM s;have HV:=hid hV;have C0:=hid (aCd w hV);obtain⟨⟨d,n,er⟩,hP⟩:=exQ<|pF s;have CP:Hid (∀w',Below w.heap.size w w'->Calls Tryz.prog 7 #[bs s] w' (Bs s (d,n,er) w')):=hid (λw' hb=>by have:=Gh s w' (HV.out.keep hb);rw[hP] at this;exact this);have CQ:Hid (∀w',Below w.heap.size w w'->Calls Tryz.prog 6 #[bs s] w' (Bs s (d,n,er) w')):=hid (λw' hb=>by have:=aBz s w' (HV.out.keep hb) HRd HKy;rw[hP] at this;exact this);clear hV hP;go_enter Tryz.func3,Tryz.ntmps3;go_wp2_with fail;refine C0.out.mono ?_;rintro e w1 ⟨rfl,J⟩;have g:=hid J;clear J;by_cases hlong:4096<s.length
 ·have dl:decide ((4096:Int)<(s.length:Int))=true:=aO a_;have af:decide (4096<s.length)=true:=aO hlong;go_wp2_with fail;go_ret;exact⟨rfl,by first | exact g.out | exact g.out.drew⟩
 have dl:decide ((4096:Int)<(s.length:Int))=false:=aG a_;have af:decide (4096<s.length)=false:=aG hlong;clear hlong;go_wp2_with fail;refine(CQ.out _ g.out).mono ?_;rintro e w2 ⟨tx,lv,nv,rfl,C,u,S⟩;simp only[] at C;obtain⟨⟨pl,cl,B⟩,pn,cn,k⟩:=u.forms;obtain⟨nl,x⟩:=exQ<|d.lines.length;obtain⟨nn,q⟩:=exQ<|d.nodes.length;simp only[] at B k;rw[x] at B;rw[q] at k;subst B k;have Q:=hid (aK x q);have ae:=hid (aC g.out S);have Z:=hid C;obtain⟨D,o⟩:=exQ<|w2.heap.size;have b3:=aL w2 (.cells #[tx, .slice pl nl cl, .slice pn nn cn] 26);have x3:=heap_alloc_new w2 (.cells #[tx, .slice pl nl cl, .slice pn nn cn] 26);obtain⟨w3,A⟩:=exQ<|w2.alloc (.cells #[tx, .slice pl nl cl, .slice pn nn cn] 26);rw[A] at b3 x3;rw[o] at x3;have V:=hid (u.keep b3);have N:=hid x3;have G:=hid (aC ae.out b3);have ad:=hid (aB w3.heap.size w3);simp only[];clear b3 x3 u S C x q;go_upto_region 5 with fail
 try rw[A]
 try rw[o]
 clear A o;go_wp2_with fail;go_loopw [7] (λs7 wr=> ∃i:Nat,i<=2/\s7= .int .i64 (i:Int)/\Hid (Below w3.heap.size w3 wr)) (λs7 _=>2-(RowKit.intOf s7).toNat)
 case atStart=>exact⟨0,a_,rfl,ad⟩
 case round=>
  obtain⟨i,hi,rfl,F⟩:=hrel;by_cases hlt:i<2;rotate_left
  ·obtain rfl:i=2:=a_;have L:=hid (aC G.out F.out);go_wp2_with fail;go_ret;exact⟨rfl,by first | exact L.out | exact L.out.drew⟩
  have di:decide ((i:Int)<2)=true:=aO a_;have T:=hid (aC G.out F.out);have P:wr.heap[D]?=some (.cells #[tx, .slice pl nl cl, .slice pn nn cn] 26):=(F.out.block D (aF N.out)).trans N.out;have R:=hid P;have W:=hid (V.out.keep F.out);clear P;go_wp2_with fail;refine(CP.out _ (by first | exact T.out | exact T.out.drew)).mono ?_;rintro e w5 ⟨b,lv5,nv5,rfl,c,y,M⟩;simp only[] at c;rw[<-Z.out] at c;subst c;obtain⟨⟨ql,r,m⟩,qn,z,v⟩:=y.forms;simp only[] at m v;rw[Q.out.1] at m;rw[Q.out.2] at v;subst m v;obtain⟨E,t⟩:=exQ<|w5.heap.size;have b6:=aL w5 (.cells #[b, .slice ql nl r, .slice qn nn z] 26);have x6:=heap_alloc_new w5 (.cells #[b, .slice ql nl r, .slice qn nn z] 26);obtain⟨w6,p⟩:=exQ<|w5.alloc (.cells #[b, .slice ql nl r, .slice qn nn z] 26);rw[p] at b6 x6;rw[t] at x6;have a:=aC M b6;have y6:=(a.block D (aF R.out)).trans R.out;have I:=hid (y.keep b6);have U:=hid (W.out.keep a);have aa:=hid a;obtain⟨a0,a1,a2,_,_,_⟩:=eE x6;obtain⟨e0,e1,e2,_,_,_⟩:=eE y6;have O:=hid x6;clear b6 y M a x6 y6;have CS:=hid (aCJ b w6 I.out U.out);simp only[];go_upto_region 9 with fail
  try rw[p]
  try rw[t]
  clear p t;go_wp2_with fail;refine CS.out.mono ?_;rintro e w7 ⟨rfl,h⟩;have f:=aC aa.out h;have ab:=hid (I.out.keep h);have Y:=hid f;have x7:=(h.block E (aF O.out)).trans O.out;obtain⟨a0,a1,a2,_,_,_⟩:=eE x7;have CO:=hid (aCK b w7 ab.out f.size);clear h f x7 e0 e1 e2;go_wp2_with fail;refine CO.out.mono ?_;rintro e w8 ⟨rfl,K⟩;have X:Hid (Below w3.heap.size w3 w8):=hid (F.out.trans ((Y.out.trans K).mono F.out.size));obtain⟨i1,hi1⟩:=exQ<|i+1;have j:(i:Int)+1=(i1:Int):=a_
  have hi1w:IntKind.i64.wrap ((i:Int)+1)=(i1:Int):=by rw[j,IntKind.wrap_i64];omega
  clear K a0 a1 a2;go_wp2_with fail;go_roundw
  ·exact⟨i1,a_,by first | rfl | rw[<-j],X⟩
  ·simp[RowKit.intOf];omega
theorem Pm:uW:=λs w' hs a=>aAG s w' a_ a (λw2=>aAD s w2 a_ (λw3=>aCI s _ rfl w3 a_))
theorem kyQ:uX:=λs w' a b=>aAK s w' a_ (λw2 c=>Pm s w2 a (b.keep c))
theorem aCN (sb:ByteArray) (w:World) (hV:bU w):
  Calls Tryz.prog 3 #[sb] w λe w'=>e= .returned (.bool true)/\Below w.heap.size w w':=
 aCL sb w hV (hid Pm) (hid kyQ)
end
section
open Go.Shelf Go.RowKit
noncomputable def Cb (os:Os):World:=
 let w0:=World.holding Tryz.prog os ⟨#[], #[],[]⟩
 let put (h:Array Obj) (g:Nat) (cs:Array Value):Array Obj:=h.modify g fun
  | .cells _ t frozen=> .cells cs t frozen
  | o=>o
 let h1:=put w0.heap 4 #[.int .u8 0, .int .u8 1, .int .u8 28, .int .u8 2, .int .u8 29, .int .u8 14, .int .u8 24, .int .u8 3, .int .u8 30, .int .u8 22, .int .u8 20, .int .u8 15, .int .u8 25, .int .u8 17, .int .u8 4, .int .u8 8, .int .u8 31, .int .u8 27, .int .u8 13, .int .u8 23, .int .u8 21, .int .u8 19, .int .u8 16, .int .u8 7, .int .u8 26, .int .u8 12, .int .u8 18, .int .u8 6, .int .u8 11, .int .u8 5, .int .u8 10, .int .u8 9]
 let h2:=put h1 5 #[.int .u8 0, .int .u8 1, .int .u8 56, .int .u8 2, .int .u8 57, .int .u8 49, .int .u8 28, .int .u8 3, .int .u8 61, .int .u8 58, .int .u8 42, .int .u8 50, .int .u8 38, .int .u8 29, .int .u8 17, .int .u8 4, .int .u8 62, .int .u8 47, .int .u8 59, .int .u8 36, .int .u8 45, .int .u8 43, .int .u8 51, .int .u8 22, .int .u8 53, .int .u8 39, .int .u8 33, .int .u8 30, .int .u8 24, .int .u8 18, .int .u8 12, .int .u8 5, .int .u8 63, .int .u8 55, .int .u8 48, .int .u8 27, .int .u8 60, .int .u8 41, .int .u8 37, .int .u8 16, .int .u8 46, .int .u8 35, .int .u8 44, .int .u8 21, .int .u8 52, .int .u8 32, .int .u8 23, .int .u8 11, .int .u8 54, .int .u8 26, .int .u8 40, .int .u8 15, .int .u8 34, .int .u8 20, .int .u8 31, .int .u8 10, .int .u8 25, .int .u8 14, .int .u8 19, .int .u8 9, .int .u8 13, .int .u8 8, .int .u8 7, .int .u8 6]
 let h3:=put h2 3 #[.int .u64 1, .int .u64 10, .int .u64 100, .int .u64 1000, .int .u64 10000, .int .u64 100000, .int .u64 1000000, .int .u64 10000000, .int .u64 100000000, .int .u64 1000000000, .int .u64 10000000000, .int .u64 100000000000, .int .u64 1000000000000, .int .u64 10000000000000, .int .u64 100000000000000, .int .u64 1000000000000000, .int .u64 10000000000000000, .int .u64 100000000000000000, .int .u64 1000000000000000000, .int .u64 10000000000000000000]
 let h4:=put h3 2 #[.int .u8 128, .int .u8 191, .int .u8 160, .int .u8 191, .int .u8 128, .int .u8 159, .int .u8 144, .int .u8 191, .int .u8 128, .int .u8 143, .int .u8 0, .int .u8 0, .int .u8 0, .int .u8 0, .int .u8 0, .int .u8 0, .int .u8 0, .int .u8 0, .int .u8 0, .int .u8 0, .int .u8 0, .int .u8 0, .int .u8 0, .int .u8 0, .int .u8 0, .int .u8 0, .int .u8 0, .int .u8 0, .int .u8 0, .int .u8 0, .int .u8 0, .int .u8 0]
 let n5:=h4.size
 let a5:=h4.push (.cells #[.string ⟨#[118,97,108,117,101,32,111,117,116,32,111,102,32,114,97,110,103,101]⟩] 248 (0,0))
 let h5:=put a5 7 #[.iface 246 (.pointer (some ⟨n5,0,none⟩))]
 let n6:=h5.size
 let a6:=h5.push (.cells #[.string ⟨#[105,110,118,97,108,105,100,32,115,121,110,116,97,120]⟩] 248 (0,0))
 let h6:=put a6 6 #[.iface 246 (.pointer (some ⟨n6,0,none⟩))]
 let h7:=put h6 1 (Lib.firstTab.map λz=>Value.int .u8 z).toArray
 { w0 with heap:=h7 }
def tI:List (String×DataW Unit):= [("math/bits.deBruijn32tab",Rows.laid_math_bits_deBruijn32tab),("math/bits.deBruijn64tab",Rows.laid_math_bits_deBruijn64tab),("internal/strconv.uint64pow10",Rows.laid_internal_strconv_uint64pow10),("unicode/utf8.acceptRanges",Rows.laid_unicode_utf8_acceptRanges),("strconv.ErrRange",Rows.laid_strconv_ErrRange),("strconv.ErrSyntax",Rows.laid_strconv_ErrSyntax),("unicode/utf8.first",Rows.laid_unicode_utf8_first)]
theorem aCO (os:Os) (args:Array Value):laidMet Tryz.prog tI ((Cb os).forCall (λ_ _=>0) ⟨#[],args,[]⟩).memory:=
 (LaidIn.of_run (l:=tI) (List.range 64) 8 d' d' d' d').met
theorem aCP {W:World} (hL:laidMet Tryz.prog tI W):sJ W:=by
 obtain⟨g,t,cs,fuel,p,d,b,a,c⟩:=Lib.laidMet.reads hL (.tail _ (.tail _ (.head _)));obtain rfl:=aV ((show Tryz.prog.globalNamed "internal/strconv.uint64pow10" =some 3 by kernel_rfl).symm.trans d);obtain rfl:=aV ((show (Tryz.prog.globals[3]?).map (·.type)=some 211 by kernel_rfl).symm.trans b);rw[show (Rows.laid_internal_strconv_uint64pow10:DataW Unit)=Lib.tabData .u64 Lib.pow10Tab by kernel_rfl] at c;have h:=Lib.cells_of_tab Tryz.underlying211 Tryz.underlying194 d' d' c;show World.var? Tryz.prog W _=_;rw[a,<-h]
theorem aCQ {H:Type}{enc:TypeId×Value->H}{P:Program}{w:World}{base:Nat}{sp:Nat->Bool}{held:Bool}{fuel:Nat}{t:TypeId}{ms:Array (String×TypeId)}{cs:List Value}{nm:String}{d:DataW H}{p:List MemPlace}
  (ht:P.underlying t=some (.interface ms)) (h:DataW.trod enc P w base sp held fuel t cs=some (.iface nm d,p)): ∃u v,cs= [.iface u v]:=by
 cases fuel with
 | zero=>simp[DataW.trod] at h
 | succ n=>
  unfold DataW.trod at h;simp only[ht] at h;rcases cs with _ | ⟨c,_ | ⟨c2,l⟩⟩
  ·simp at h
  ·cases c<;>simp at h
   exact⟨_,_,rfl⟩
  ·cases c<;>simp at h
theorem aCR {W:World} (hL:laidMet Tryz.prog tI W):eB W:=by
 obtain⟨g,t,cs,fuel,p,d,c,a,e⟩:=Lib.laidMet.reads hL (.tail _ (.tail _ (.tail _ (.tail _ (.tail _ (.head _))))));obtain rfl:=aV ((show Tryz.prog.globalNamed "strconv.ErrSyntax" =some 6 by kernel_rfl).symm.trans d);obtain rfl:=aV ((show (Tryz.prog.globals[6]?).map (·.type)=some 102 by kernel_rfl).symm.trans c);obtain⟨u,v,b⟩:=aCQ Tryz.underlying102 e;refine⟨u,v,?_⟩;rw[a,<-b]
theorem aCS {W:World} (hL:laidMet Tryz.prog tI W):tP W:=by
 obtain⟨g,t,cs,fuel,p,d,b,a,c⟩:=Lib.laidMet.reads hL (.tail _ (.head _));obtain rfl:=aV ((show Tryz.prog.globalNamed "math/bits.deBruijn64tab" =some 5 by kernel_rfl).symm.trans d);obtain rfl:=aV ((show (Tryz.prog.globals[5]?).map (·.type)=some 232 by kernel_rfl).symm.trans b);rw[show (Rows.laid_math_bits_deBruijn64tab:DataW Unit)=Lib.tabData .u8 (Lib.deBruijn64tab.map (λn:Nat=>(n:Int))) by kernel_rfl] at c;have h:=Lib.cells_of_tab Tryz.underlying232 Tryz.underlying5 d' d' c;unfold tP;rw[World.var?_cell (P:=Tryz.prog) (show Tryz.prog.globalNamed "math/bits.deBruijn64tab" =some 5 by kernel_rfl) a 15,<-Array.getElem?_toList,h];rfl
theorem aCT {W:World} (hL:laidMet Tryz.prog tI W):cW W:=by
 have a:=Lib.laidMet.reads hL (.tail _ (.tail _ (.tail _ (.head _))));have b:=Lib.laidMet.reads hL (.tail _ (.tail _ (.tail _ (.tail _ (.tail _ (.tail _ (.head _)))))));rw[show Rows.laid_unicode_utf8_first=Lib.firstData from Pinned.utf8First_eq] at b;rw[show (Rows.laid_unicode_utf8_acceptRanges:DataW Unit)=Lib.acceptData by kernel_rfl] at a;exact utf8Tabs_of_readsT (U8Types.of196 Tryz.laysValid) ⟨d',d',d',d',d',d',d'⟩ b a
theorem aCU {W:World} (h:W.ShapedOpen Tryz.prog):mF W:=
 cell_of_shapedOpen_int (P:=Tryz.prog) (g:=0) (t:=3) (zero:= #[(0:Int)]) h (of_decide_eq_true d') d' rfl d' d' Tryz.underlying3
end
section
open Go.RowKit Go.Joins Go.ChangeShapes Go.WideShapes
section
variable {H:Type}{enc:TypeId×Value->H}{w:World}{base:Nat}{sp:Nat->Bool}{held:Bool}
instance:Inhabited (VT×Value×Value):=⟨(.mk 0 [] [] [], .nilFunc, .nilFunc)⟩
end
end
end Go.Proofs.YtfhjncbdgjlcoaaGreatDoor
