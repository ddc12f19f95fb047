import Derived.Test.YtfhjncbdgjlcoaaGreatDoorYn8
import Derived.RangeFuncNested
import Derived.RangeFuncBound
import Derived.Shelf.RegionOpen
import Derived.LoopNIn
import Derived.LoopIn
import Derived.Maps.OwnIn
set_option linter.unusedVariables false
set_option linter.unusedSimpArgs false
set_option maxRecDepth 100000
set_option maxHeartbeats 4000000
namespace Go.Proofs.YtfhjncbdgjlcoaaGreatDoor
open Tryz
section
open Go.RowKit
open Go.Lib hiding intOf
theorem Ku (l:aC) (k:Nat) (h:k<l.length) (h2:k<(bs l).size):(bs l)[k]'h2=l[k]'h:=by
 have:=cT l k h2;rw[bI h] at this;exact(bA this).symm
theorem Vn (b:UInt8) (w:World):Calls prog 225 #[.int .u8 (b.toNat:Int)] w λe w'=>e= .returned (.bool (gT b))/\w=w':=by
 obtain⟨R,d⟩:=exQ<|gT b;rw[d];unfold gT at d;obtain⟨n,q⟩: ∃n:Int,(b.toNat:Int)=n:=⟨_,rfl⟩;rw[q];by_cases h1:97<=n
 .by_cases h2:n<=122
  .rw[aQ a_] at d;subst d;clear q;exact bj
  .rw[aJ a_] at d;subst d;have h2':decide (n<=122)=false:=aJ h2;clear q h2;exact bj
 .rw[aJ a_] at d;subst d;have h1':decide (97<=n)=false:=aJ h1;clear q h1;exact bj
theorem Vo (X:Nat) (A:ByteArray) (b:UInt8) (w:World) (hc:w.cell? (X,0)=some (.string A)):
  Calls prog 229 #[.int .u8 (b.toNat:Int),some X] w λe w'=>e= .returned (.bool (decide (0<=Lib.indexByte A.data.toList b)))/\w=w':=by
 have C:=hid (xL A b w);obtain⟨K,a⟩:=exQ<|Lib.indexByte A.data.toList b;rw[a] at C ⊢;obtain⟨B,c⟩:=exQ<|decide (0<=K);rw[c];clear a;go_in;go_wp2_with (go_at_call 41;refine C.out.mono ?_;rintro e w' ⟨rfl,rfl⟩);go_ret;exact bo
theorem Vp (A:ByteArray) (w:World):
  Calls prog 224 #[A] w λe w'=>e= .returned (.func (.func 229) #[] #[some w.heap.size])/\w'=w.alloc (.cells #[A] 9):=p9
theorem Kv (l:aC) (X:Nat) (A:ByteArray) (p:UInt8->Bool) (hp: ∀b,decide (0<=Lib.indexByte A.data.toList b)=p b) (w:World) (hs:l.length<=1073741824) (hc:w.cell? (X,0)=some (.string A)):
  Calls prog 223 #[bs l, .func (.func 229) #[] #[some X]] w λe w'=>e= .returned (.int .i64 (cX p l))/\w=w':=by
 have MZ:=trivial;exact IS
theorem Vq (l:aC) (w:World) (hs:l.length<=1073741824):
  Calls prog 223 #[bs l, .func (.func 225) #[] #[]] w λe w'=>e= .returned (.int .i64 (cX gT l))/\w=w':=by
 have M0:=trivial;exact IS
theorem Vr (l:aC) (w:World):
  Calls prog 226 #[bs l] w λe w'=>e= .returned (.int .i64 (nG l))/\w=w':=by
 obtain⟨R,d⟩:=exQ<|nG l;rw[d];unfold nG at d;have D:(bs l).toList=l:=DN
 by_cases h1:l= [116,114,117,101]
 .rw[if_pos h1] at d;subst d h1;exact bj
 rw[if_neg h1] at d;by_cases h2:l= [102,97,108,115,101]
 .rw[if_pos h2] at d;subst d h2;exact bj
 rw[if_neg h2] at d;by_cases h3:l= [110,117,108,108]
 .rw[if_pos h3] at d;subst d h3;exact bj
 rw[if_neg h3] at d;subst d;have e1:((bs l).toList== [116,114,117,101])=false:=by rw[D];simpa using h1
 have e2:((bs l).toList== [102,97,108,115,101])=false:=by rw[D];simpa using h2
 have e3:((bs l).toList== [110,117,108,108])=false:=by rw[D];simpa using h3
 clear D h1 h2 h3;exact bj
def Vs (A:ByteArray) (w:World) (e:Ending) (w':World):Prop:= ∃X:Nat,e= .returned (.func (.func 229) #[] #[some X])/\w'.cell? (X,0)=some (.string A)/\Below w.heap.size w w'
theorem Kw (A:ByteArray) (w:World):Calls prog 224 #[A] w (Vs A w):=
 (Vp A w).mono λ_ _ ⟨b,a⟩=>⟨_,b,by rw[a];exact cell_of_one (heap_alloc_new w _),by rw[a];exact aL w _⟩
def jS (w:World) (X:Nat) (k a b:Int):Prop:=w.heap[X]?=some (.cells #[k,a,b] 163 (0,0))
abbrev Ei (w:World) (X:Nat) (k a b:Int):Prop:=w.cell? (X,0)=some (.int .i64 k)/\w.cell? (X,1)=some (.int .i64 a)/\w.cell? (X,2)=some (.int .i64 b)/\
 w.frozen? ⟨X,0,none⟩=false/\w.frozen? ⟨X,1,none⟩=false/\w.frozen? ⟨X,2,none⟩=false
theorem jS.cells {w:World}{X:Nat}{k a b:Int} (h:jS w X k a b):Ei w X k a b:=
 ⟨cell_of_row w X 0 _ _ (0,0) h,cell_of_row w X 1 _ _ (0,0) h,cell_of_row w X 2 _ _ (0,0) h,by simp[World.frozen?,show w.heap[X]?=_ from h],by simp[World.frozen?,show w.heap[X]?=_ from h],by simp[World.frozen?,show w.heap[X]?=_ from h]⟩
theorem jS.lt {w:World}{X:Nat}{k a b:Int} (h:jS w X k a b):X<w.heap.size:=aG h
theorem jS.keep {w w':World}{X:Nat}{k a b:Int} (h:jS w X k a b) (hb:aA w w'):jS w' X k a b:=(hb.block X h.lt).trans h
def iI (w:World) (X:Nat) (k a b:Int):World:=((w.setCell ⟨X,0,none⟩ (.int .i64 k)).setCell ⟨X,1,none⟩ (.int .i64 a)).setCell ⟨X,2,none⟩ (.int .i64 b)
theorem jS.put {w:World}{X:Nat}{k a b k2 a2 b2:Int} (h:jS w X k a b):jS (iI w X k2 a2 b2) X k2 a2 b2:=by
 unfold jS at h ⊢;unfold iI;exact aj
theorem Kx {B:Nat}{w w':World}{X:Nat}{k a b:Int} (h:Below B w w') (hX:B<=X):Below B w (iI w' X k a b):=
 ((h.setCell (p:=⟨X,0,none⟩) hX _).setCell (p:=⟨X,1,none⟩) hX _).setCell (p:=⟨X,2,none⟩) hX _
theorem Vt (kd a tw:Int) (X:Nat) (w:World) (hc:w.cell? (X,0)=some (.int .i64 a)):
  Calls prog 221 #[kd,tw,some X] w (aT w (.tuple #[.agg #[kd,a,tw],(0:Int)])):=by
 have hX:X<w.heap.size:=vP hc;go_in;go_wp2_with fail;have b:jS (w.alloc (.cells #[kd,a,tw] 163)) w.heap.size kd a tw:=heap_alloc_new w _;have c:=aL w (.cells #[kd,a,tw] 163);obtain⟨W,d⟩:=exQ<|w.alloc (.cells #[kd,a,tw] 163);rw[d] at b c ⊢;obtain⟨c0,c1,c2,_⟩:=b.cells;refine bodyPost_ret (v:= .tuple #[.agg #[kd,a,tw],(0:Int)]) ?_ rfl ⟨rfl,c⟩;simp[results,results221,go_sem,c0,c1,c2]
theorem Vu (a er:Int) (w:World):
  Calls prog 222 #[a,er] w (aT w (.tuple #[.agg #[(0:Int),a,a],er])):=by
 go_in;go_wp2_with fail;have b:jS (w.alloc (.cells #[(0:Int),a,a] 163)) w.heap.size 0 a a:=heap_alloc_new w _;have c:=aL w (.cells #[(0:Int),a,a] 163);obtain⟨W,d⟩:=exQ<|w.alloc (.cells #[(0:Int),a,a] 163);rw[d] at b c ⊢;obtain⟨c0,c1,c2,_⟩:=b.cells;refine bodyPost_ret (v:= .tuple #[.agg #[(0:Int),a,a],er]) ?_ rfl ⟨rfl,c⟩;simp[results,results222,go_sem,c0,c1,c2]
theorem Vv (c:UInt8):Lib.indexByte [123,125,91,93,44,58] c=match lG c with | some k=>(k:Int) | none=> -1:=by
 have: ∀n:Fin 256,Lib.indexByte [123,125,91,93,44,58] (UInt8.ofNat n.val)=match lG (UInt8.ofNat n.val) with | some k=>(k:Int) | none=> -1:=DQ
 exact bd
theorem Ky (c:UInt8):decide (0<=Lib.indexByte [32,9,10,13] c)=kJ c:=by
 have: ∀n:Fin 256,decide (0<=Lib.indexByte [32,9,10,13] (UInt8.ofNat n.val))=kJ (UInt8.ofNat n.val):=DQ
 exact bd
theorem Vw (c:UInt8):decide (0<=Lib.indexByte [45,43,46,48,49,50,51,52,53,54,55,56,57,101,69] c)=iO c:=by
 have: ∀n:Fin 256,decide (0<=Lib.indexByte [45,43,46,48,49,50,51,52,53,54,55,56,57,101,69] (UInt8.ofNat n.val))=iO (UInt8.ofNat n.val):=DQ
 exact bd
theorem Vx (c:UInt8):eC c=decide (48<=(c.toNat:Int)/\(c.toNat:Int)<=57):=by
 unfold eC;rw[Bool.eq_iff_iff];simp;omega
def oZ (T:Nat×Nat×Int) (a:Nat):Int×Int×Int×Int:=if T.2.2=0 then(T.1,a,a+T.2.1,0) else(0,a+T.2.1,a+T.2.1,T.2.2)
def qP (l:aC) (a:Nat):Int×Int×Int×Int:=oZ (bT (l.drop a)) a
def Kz (r:Int×Int×Int×Int):Ending:= .returned (.tuple #[.agg #[r.1,r.2.1,r.2.2.1],r.2.2.2])
structure oB (w:World) (a:Int) (w':World):Prop where
 p:w'.heap[w.heap.size]?=some (.cells #[a] 3 (0,0))
 t:jS w' (w.heap.size+1) 0 0 0
 b:Below w.heap.size w w'
abbrev Vy (w:World) (a:Int) (w':World):Prop:=w'.cell? (w.heap.size,0)=some (.int .i64 a)/\w'.frozen? ⟨w.heap.size,0,none⟩=false/\Ei w' (w.heap.size+1) 0 0 0
theorem oB.cells {w w':World}{a:Int} (h:oB w a w'):Vy w a w':=⟨cell_of_one h.p,free_of_one h.p,h.t.cells⟩
theorem oB.keep {w w1 w2:World}{a:Int} (h:oB w a w1) (hb:aA w1 w2):oB w a w2:=
 ⟨(hb.block _ (aG h.p)).trans h.p,h.t.keep hb,h.b.trans (hb.mono h.b.size)⟩
theorem oB.start (w:World) (a:Int):oB w a ((w.alloc (.cells #[a] 3)).alloc (.cells #[(0:Int),(0:Int),(0:Int)] 163)):=by
 refine⟨?_,?_,?_⟩
 .exact ol
 .have:=heap_alloc_new (w.alloc (.cells #[a] 3)) (.cells #[(0:Int),(0:Int),(0:Int)] 163);rw[tH] at this;exact this
 .exact(aL w _).trans ((aL (w.alloc (.cells #[a] 3)) _).mono e_)
def La (w:World) (a:Int) (w':World):Prop:= ∃k x y,w'.heap[w.heap.size]?=some (.cells #[a] 3 (0,0))/\jS w' (w.heap.size+1) k x y/\Below w.heap.size w w'
abbrev dZ (w:World) (a:Int) (w':World):Prop:=w'.cell? (w.heap.size,0)=some (.int .i64 a)/\Hid (La w a w')
theorem dZ.of {w w':World}{a:Int} (h:La w a w'):dZ w a w':=by
 obtain⟨k,x,y,b,d,c⟩:=h;exact⟨cell_of_one b,hid ⟨k,x,y,b,d,c⟩⟩
theorem dZ.start {w w':World}{a:Int} (h:oB w a w'):dZ w a w':=dZ.of ⟨0,0,0,h.p,h.t,h.b⟩
theorem dZ.drew {w w':World}{a:Int} (h:dZ w a w'):dZ w a w'.drew:=by
 obtain⟨k,x,y,b,d,c⟩:=h.2.out;exact dZ.of ⟨k,x,y,b,d,c.drew⟩
theorem dZ.step {w w1 w2:World}{a:Int} (h:dZ w a w1) (hb:aA w1 w2):dZ w a w2:=by
 obtain⟨k,x,y,b,d,c⟩:=h.2.out;exact dZ.of ⟨k,x,y,(hb.block _ (aG b)).trans b,d.keep hb,c.trans (hb.mono c.size)⟩
theorem dZ.cellsE {w w1:World}{a:Int} (h:dZ w a w1): ∃k x y,Ei w1 (w.heap.size+1) k x y:=by
 obtain⟨k,x,y,h1,b,h3⟩:=h.2.out;exact⟨k,x,y,b.cells⟩
theorem Ej {w:World}{p:Addr}{u:Value}{g:Nat} (h:g≠p.block):(w.setCell p u).heap[g]?=w.heap[g]?:=eW w p u g h
theorem dZ.putG {w w1:World}{a:Int} (h:dZ w a w1) (k x y:Int):(iI w1 (w.heap.size+1) k x y).heap[w.heap.size]?=some (.cells #[a] 3 (0,0))/\jS (iI w1 (w.heap.size+1) k x y) (w.heap.size+1) k x y/\aA w (iI w1 (w.heap.size+1) k x y):=by
 obtain⟨k0,x0,y0,b,d,c⟩:=h.2.out;refine⟨?_,d.put,Kx c (Nat.le_succ _)⟩;unfold iI;rw[Ej e_,Ej e_,Ej e_];exact b
theorem dZ.put {w w1:World}{a:Int} (h:dZ w a w1) (k x y:Int):dZ w a (((w1.setCell ⟨w.heap.size+1,0,none⟩ (.int .i64 k)).setCell ⟨w.heap.size+1,1,none⟩ (.int .i64 x)).setCell ⟨w.heap.size+1,2,none⟩ (.int .i64 y)):=by
 obtain⟨b,c,d⟩:=h.putG k x y;exact dZ.of ⟨k,x,y,b,c,d⟩
theorem oB.put {w w1:World}{a:Int} (h:oB w a w1) (k x y:Int):jS (iI w1 (w.heap.size+1) k x y) (w.heap.size+1) k x y/\aA w (iI w1 (w.heap.size+1) k x y):=
 ⟨h.t.put,Kx h.b (Nat.le_succ _)⟩
theorem Lb (l:aC) (a:Nat) (ha:a<l.length):lF l a=((cD (l.drop a) 0).2.1+a,(cD (l.drop a) 0).2.2):=by
 unfold lF;rw[if_neg a_,Tk l a a_]
theorem Lc {u:aC}{c:UInt8} (h:u.head?=some c):bT u=(match lG c with
  | some k=>(2+k,1,0)
  | none=>if kJ c then(1,cX kJ u,0) else if c=34 then(if(cD u 0).2.2=0 then(8,(cD u 0).2.1.toNat,0) else(0,(cD u 0).2.1.toNat,(cD u 0).2.2)) else
   if c=45\/eC c=true then(if(eF (u.take (cX iO u))).2=0 then(9,cX iO u,0) else(0,0,(eF (u.take (cX iO u))).2)) else
   if nG (u.take (cX gT u))=0 then(0,0,2) else(nG (u.take (cX gT u)),cX gT u,0):Nat×Nat×Int):=by
 cases u with
 | nil=>cases h
 | cons d r=>
  obtain rfl:d=c:=s'
  rfl
theorem Vz (l:aC) (a:Nat) (w:World) (hs:l.length<=1048576) (ha:a<l.length) (hV:eQ w) (hT:dE w):
  Calls prog 211 #[bs l,a] w λe w'=>e=Kz (qP l a)/\aA w w':=by
 have hmf: ∀(fn:Fn) (first cap:Array Value) (w:World),(Instr.makeFunc fn first cap).run prog w= .ok (.func fn first cap) w:=λ_ _ _ _=>rfl;have sl:=aP l;obtain⟨R,D⟩:=exQ<|qP l a;rw[D];unfold qP at D;have aw:(bs l).extract a l.length=bs (l.drop a):=iW l a _ rfl;have o:=Lb l a ha;have E:=hid (λw hV hT=>Io l a w a_ hV hT);obtain⟨EE,aj⟩:=exQ<|lF l a;rw[aj] at E o;obtain⟨ek,ee⟩:=EE;simp only[] at E o;have F: ∀n,(bs l).extract a (a+n)=bs ((l.drop a).take n):=λn=>by rw[gO,aY,Nat.add_sub_cancel_left]
 obtain⟨u,hu⟩:=exQ<|l.drop a;have ar:u.length=l.length-a:=by rw[<-hu,bC]
 have hub:u.length<=1048576:=a_
 have hua:a+u.length<=l.length:=a_
 have an:0<u.length:=a_
 have su:=aP u;rw[hu] at aw D o;simp only[hu] at F;have h0:0<(bs u).size:=a_
 obtain⟨c,V⟩: ∃c,u.head?=some c:=by cases u with | nil=>simp at an | cons c r=>exact⟨c,rfl⟩
 have ao:(((bs u)[0]'h0).toNat:Int)=(c.toNat:Int):=by
  have:=xK (bs u) h0;rw[aY,V] at this;rw[<-bA this]
 have HV:=hid hV;have HT:=hid hT;clear hV hT;have CI:=hid (λw=>xL ⟨#[123,125,91,93,44,58]⟩ c w);have CB:=hid (λw=>xL ⟨#[32,9,10,13]⟩ c w);rw[show (⟨#[123,125,91,93,44,58]⟩:ByteArray).data.toList= [123,125,91,93,44,58] from rfl,Vv] at CI;rw[show (⟨#[32,9,10,13]⟩:ByteArray).data.toList= [32,9,10,13] from rfl] at CB;have J:=Ky c;obtain⟨KB,aa⟩:=exQ<|Lib.indexByte [32,9,10,13] c;rw[aa] at CB J;have L:=Vx c;have B:c=34↔(c.toNat:Int)=34:=⟨λh=>by rw[h];rfl,λh=>UInt8.toNat_inj.1 (by show c.toNat=34;omega)⟩;have C:c=45↔(c.toNat:Int)=45:=⟨λh=>by rw[h];rfl,λh=>UInt8.toNat_inj.1 (by show c.toNat=45;omega)⟩;rw[Lc V] at D;have RB:Hid (∀(X:Nat) (w:World),w.cell? (X,0)=some (.string ⟨#[32,9,10,13]⟩)->Calls prog 223 #[bs u, .func (.func 229) #[] #[some X]] w λe w'=>e= .returned (.int .i64 (cX kJ u))/\w=w'):=hid (λX w h=>Kv _ X _ kJ Ky w a_ h);have RN:Hid (∀(X:Nat) (w:World),w.cell? (X,0)=some (.string ⟨#[45,43,46,48,49,50,51,52,53,54,55,56,57,101,69]⟩)->Calls prog 223 #[bs u, .func (.func 229) #[] #[some X]] w λe w'=>e= .returned (.int .i64 (cX iO u))/\w=w'):=hid (λX w h=>Kv _ X _ iO Vw w a_ h);have RS:=hid (λw=>Vq u w a_);have av:=rH kJ u;have am:=rH iO u;have au:=rH gT u;have CW:=hid (λw=>Vr (u.take (cX gT u)) w);have CP:=hid (λw=>An (u.take (cX iO u)) w (by rw[bR];omega));have H:=Iu (u.take (cX gT u));have ef:(bs u).extract 0 (cX gT u)=bs (u.take (cX gT u)):=by rw[vQ,aY]
 have en:=F (cX iO u);obtain⟨nb,ae⟩:=exQ<|cX kJ u;obtain⟨nn,al⟩:=exQ<|cX iO u;obtain⟨ns,ak⟩:=exQ<|cX gT u;rw[ae] at RB av D;rw[al] at RN am CP D en;rw[ak] at RS au CW D ef H;obtain⟨wd,ad⟩:=exQ<|nG (u.take ns);obtain⟨PR,ai⟩:=exQ<|eF (u.take nn);rw[ad] at CW H D;rw[ai] at CP D;obtain⟨n,z⟩: ∃n:Int,(c.toNat:Int)=n:=⟨_,rfl⟩;rw[z] at CI CB L B C ao;have ha1:(a:Int)+1<=1048576:=a_
 have hab:(a:Int)+(nb:Int)<=1048576:=a_
 have han:(a:Int)+(nn:Int)<=1048576:=a_
 have has:(a:Int)+(ns:Int)<=1048576:=a_
 have Q:IntKind.i64.wrap ((a:Int)+(nb:Int))=(a:Int)+(nb:Int):=by rw[IntKind.wrap_i64];omega
 have S:IntKind.i64.wrap ((a:Int)+(nn:Int))=(a:Int)+(nn:Int):=by rw[IntKind.wrap_i64];omega
 have ap:=Di u;have s:Hid (ek=a+(cD u 0).2.1.toNat/\ee=(cD u 0).2.2):=hid (by obtain⟨g1,g2⟩:=Prod.mk.inj o;exact⟨by rw[g1];omega,g2⟩);have CE:=E;have TK:=hid (λkd tw W V=>Vt kd a tw w.heap.size W V);have TF:=hid (λx er W=>Vu x er W);have hek:0<=ek/\ek<=1048576:=by have:=s.out.1;omega
 have HR:=hid D;have y:=hid (aK F (aK o (aK H (aK L (aK B C)))));have K:=hid (aK Q S);have HB:=hid J;clear aa hu ar D F o H L B C Q S J ae al ak V ad ai z aj ap E;go_in;go_wp2_with fail;have m:=hid (oB.start w a);obtain⟨W0,ah⟩:=exQ ((w.alloc (.cells #[a] 3)).alloc (.cells #[(0:Int),(0:Int),(0:Int)] 163));rw[ah] at m ⊢;clear ah;cases hsg:lG c with
 | some k=>
  have NB:=trivial;exact I1
 | none=>
  have i:Hid (oZ (if kJ c=true then(1,nb,0) else if c=34 then(if(cD u 0).2.2=0 then(8,(cD u 0).2.1.toNat,0) else(0,(cD u 0).2.1.toNat,(cD u 0).2.2)) else
    if c=45\/eC c=true then(if PR.2=0 then(9,nn,0) else(0,0,PR.2)) else if wd=0 then(0,0,2) else(wd,ns,0)) a=R):=hid (by
   have:=HR.out;rw[hsg] at this;exact this)
  rw[hsg] at CI;clear hsg HR;obtain⟨p0,q0,t0,t1,t2,f0,f1,f2⟩:=m.out.cells;(with_reducible refine(CI.out _).mono ?_);rintro e w' ⟨rfl,rfl⟩;go_wp2_with fail;(with_reducible refine(CB.out _).mono ?_);rintro e w' ⟨rfl,rfl⟩;by_cases hbl:kJ c=true
  .have q:Hid (((1:Int),(a:Int),(a:Int)+(nb:Int),(0:Int))=R):=hid (by have:=i.out;rw[if_pos hbl] at this;rw[<-this];unfold oZ;simp);have aq:decide (0<=KB)=true:=by rw[HB.out];exact hbl
   have Q:=K.out.1;clear hbl i y HB s K;clear p0 q0 t0 t1 t2 f0 f1 f2;have hS:dZ w a W0:=dZ.start m.out;go_upto_region 9 with fail;go_region_held3 (λw'=>dZ w a w') ((first | exact dZ.drew m_ | exact dZ.step m_ m_ | exact dZ.put m_ _ _ _ | assumption))
    (first
     | (go_at_call 224;(with_reducible refine(Kw _ _).mono ?_);rintro e w1 ⟨X,rfl,U,T⟩)
     | (go_at_call 223;(with_reducible refine(RB.out _ _ (by exact U)).mono ?_);rintro e w2 ⟨rfl,rfl⟩)
     | (go_at_call 221;(with_reducible refine(TK.out _ _ _ ((by assumption:dZ w a _).1)).mono ?_);rintro e w3 ⟨rfl,af⟩;have N:dZ w a w3:=dZ.step m_ af;obtain⟨k3,x3,y3,t0,t1,t2,f0,f1,f2⟩:=N.cellsE))
   have j:=hid (N.putG (1) ((a:Int)) ((a:Int)+(nb:Int)));obtain⟨WF,f⟩:=exQ<|iI w3 (w.heap.size+1) (1) ((a:Int)) ((a:Int)+(nb:Int));rw[f] at j;dsimp only[iI] at f;rw[f];clear f;clear U T af N t0 t1 t2 f0 f1 f2;obtain⟨c0,c1,c2,_⟩:=j.out.2.1.cells;go_wp2_with fail;refine bodyPost_ret (v:= .tuple #[.agg #[(1:Int), .int .i64 ((a:Int)), .int .i64 ((a:Int)+(nb:Int))],(0:Int)]) ?_ rfl ⟨by rw[<-q.out];rfl,j.out.2.2⟩;exact ed
  rw[if_neg hbl] at i;have aq:decide (0<=KB)=false:=by rw[HB.out];simpa using hbl
  clear HB hbl RB;by_cases h34:c=34
  .have Y:=y.out.2.2.2.2.1.1 h34;rw[if_pos h34] at i;subst Y;by_cases he0:ee=0
   .have M9:=trivial;exact I1
   .have NA:=trivial;exact I1
  rw[if_neg h34] at i;have t34:(n==34)=false:=aI.2 (λe=>h34 (y.out.2.2.2.2.1.2 e));by_cases t:c=45\/eC c=true
  .have M6:=trivial;exact IY
  .exact IY
end
section
open Go.RowKit Go.Shelf
open Go.Lib hiding intOf
abbrev Ev:=Int×Int×Int×Int
def xW (t:aR):Ev:=((t.kind:Int),(t.sf:Int),(t.st:Int),0)
def wC (o:Option (Nat×Int)):List Ev:=match o with | none=> [] | some x=> [(0,(x.1:Int),(x.1:Int),x.2)]
def mR (f:Nat) (l:aC) (i:Nat):List Ev:=(eR f l i).1.map xW++wC (eR f l i).2
def kV (l:aC):List Ev:=if 65536<l.length then [(0,0,0,3)] else mR l.length l 0
theorem Wa (f i:Nat):mR f [] i= []:=by unfold mR;rw[uH];rfl
theorem Wb (f:Nat) (l:aC) (a:Nat) (ha:a<l.length): ∃k:Nat,(qP l a).2.2.1=k/\k<=l.length/\((qP l a).2.2.2=0->a<k)/\
  mR (f+1) (l.drop a) a=qP l a::(if(qP l a).2.2.2=0 then mR f (l.drop k) k else []):=by
 obtain⟨c,r,d⟩: ∃c r,l.drop a=c::r:=ma;have i:=congrArg List.length d;rw[bC] at i;have b:=vT (c::r) (List.cons_ne_nil _ _);have j:qP l a=oZ (bT (c::r)) a:=by unfold qP;rw[d]
 have e:l.drop (a+(bT (c::r)).2.1)=(c::r).drop (bT (c::r)).2.1:=by rw[<-d,jO]
 rw[j,d];unfold mR;rw[uG];unfold oZ;by_cases h:(bT (c::r)).2.2=0
 .have h3:=b.2 h;refine⟨a+(bT (c::r)).2.1,?_,by have:=b.1;omega,λ_=>by omega,?_⟩
  .simp only[if_pos h];omega
  .simp only[if_pos h,if_true,e];unfold xW;simp only[pN,qK,List.cons.injEq,and_true,Prod.mk.injEq,true_and];omega
 .refine⟨a+(bT (c::r)).2.1,?_,by have:=b.1;omega,λg=>?_,?_⟩
  .simp only[if_neg h];omega
  .simp only[if_neg h] at g;exact absurd g h
  .simp only[if_neg h,List.map_nil,rJ];unfold wC;simp only[List.cons.injEq,and_true,Prod.mk.injEq,true_and];omega
def xY (x:Ev):Array Value:= #[.agg #[x.1,x.2.1,x.2.2.1],x.2.2.2]
def rO (O:Nat) (A:World) (i:Nat):Prop:= ∃v,A.heap[O]?=some (.cells #[v] 156 (0,0))/\v.ownBlock=some i
def lT (n O:Nat) (A B:World):Prop:=Below n A B/\(∀i,rO O B i->rO O A i\/(A.heap.size<=i/\i<B.heap.size))/\(∀i o,A.heap[i]?=some o->o.isCells=true->i≠O-> ¬rO O A i->B.heap[i]?=some o)
theorem lT.trans {n O:Nat}{A B C:World} (h:lT n O A B) (k:lT n O B C):lT n O A C:=by
 refine⟨h.1.trans k.1,λi m=>?_,λi o e f c b=>?_⟩
 .rcases k.2.1 i m with d | ⟨d,j⟩
  .rcases h.2.1 i d with a | ⟨a,l⟩
   .exact .inl a
   .exact .inr ⟨a,iG l k.1.size⟩
  .exact .inr ⟨bF h.1.size d,j⟩
 .refine k.2.2 i o (h.2.2 i o e f c b) f c (λg=>?_);rcases h.2.1 i g with a | ⟨a,_⟩
  .exact b a
  .have:=(mK.1 e).1;omega
theorem lT.putObj {n O S:Nat} (hn:n<=S) (hO:O<S) (W:World) (j:Nat) (o o':Obj) (hj:S<=j) (h:W.heap[j]?=some o) (hc:o.isCells=false):lT n O W (W.putObj j o'):=by
 have a: ∀i,i≠j->(W.putObj j o').heap[i]?=W.heap[i]?:=λi d=>World.putObj_heap_other d;refine⟨(aD n W).grown (grownBy_putObj' W j o') (by have:=(mK.1 h).1;omega) (λk e=>by cases e;omega),λi d=>?_,λi o2 c b _ _=>?_⟩
 .obtain⟨v,f,g⟩:=d;rw[a O a_] at f;exact .inl ⟨v,f,g⟩
 .by_cases e:i=j
  .rw[e,h] at c;cases c;rw[hc] at b;cases b
  .rw[a i e];exact c
def oC (O X:Nat) (W:World):Prop:= ∀i,rO O W i->X<i/\i<W.heap.size
theorem rO.back {O:Nat}{A B:World}{i:Nat} (hb:aA A B) (hO:O<A.heap.size) (h:rO O B i):rO O A i:=by
 obtain⟨v,a,b⟩:=h;rw[hb.block O hO] at a;exact⟨v,a,b⟩
theorem oC.keep {O X:Nat}{A B:World} (h:oC O X A) (hb:aA A B) (hO:O<A.heap.size):oC O X B:=λi a=>by
 have:=h i (a.back hb hO);exact⟨this.1,iG this.2 hb.size⟩
theorem oC.kp {n O X:Nat}{A B:World} (h:oC O X A) (hX:X<A.heap.size) (k:lT n O A B):oC O X B:=λi b=>by
 rcases k.2.1 i b with a | ⟨a,c⟩
 .have:=h i a;exact⟨this.1,iG this.2 k.1.size⟩
 .exact⟨a_,c⟩
theorem Wc {A B:World} (h:aA A B):A.grownBy B none:=⟨h.os,h.tape,h.output,h.size,λi a _=>h.block i a⟩
theorem Wd {β:Type}{S:Nat}{J:β->World->Prop} (hJ:AbidesFrom S J) {s:β}{A B:World} (h:J s A) (hb:aA A B):J s B:=hJ s A B none h (Wc hb) (λr e=>by cases e)
theorem We (n:Nat) (hn:1<=n) (q X O S:Nat) (w0:World) (l:aC) (hs:l.length<=4611686018427387904) (hV:eQ w0) (hT:dE w0) (J Jx:List Ev->World->Prop) (hJ:AbidesFrom S J)
  (hY: ∀pre x W,J pre W->pre.length<(kV l).length->YieldAt Fence.wide (n-1) prog q (xY x) W λe W'=>
   (e= .returned (.bool true)/\J (pre++ [x]) W'/\lT w0.heap.size O W W')\/(e= .returned (.bool false)/\Jx (pre++ [x]) W'))
  (W:World) (hX:W.heap[X]?=some (.cells #[bs l] 9 (0,0))) (hO:O<W.heap.size) (hne:O≠X) (hP:oC O X W) (hB:aA w0 W) (h0:J [] W):
  CallsIn Fence.wide n prog 210 #[.func (.yield q) #[] #[],some X] W λe W'=>(∃v,e= .returned v)/\
   ((∃ys,ys=kV l/\J ys W')\/(∃pre,pre <+:kV l/\Jx pre W')):=by
 have sl:=aP l;have Y:=cell_of_one hX;refine callsIn_of_wp func210 rfl trivial ?_ rfl;simp only[ntmps210,List.size_toArray,bM,lQ,Nat.reduceAdd,Nat.reduceSub,Array.replicate_succ,Array.replicate_zero,List.push_toArray,List.append_toArray,rJ,qK];obtain⟨E,G⟩:=exQ<|kV l;rw[G] at hY ⊢;unfold kV at G;by_cases hlong:65536<l.length
 .rw[if_pos hlong] at G;subst G;obtain⟨fn,M,C,K,hy,hR⟩:=hY [] (0,0,0,3) W h0 e_;unfold xY at hy;gi_wp2;refine hR.mono ?_;rintro e W3 (⟨rfl,D,i⟩ | ⟨rfl,p⟩)
  .gi_wp2;refine bodyPost_ret (results_none rfl _ _ _) rfl ?_;exact⟨⟨_,rfl⟩, .inl ⟨_,rfl,D⟩⟩
  .gi_wp2;refine bodyPost_ret (results_none rfl _ _ _) rfl ?_;exact⟨⟨_,rfl⟩, .inr ⟨_,List.prefix_refl _,p⟩⟩
 .rw [if_neg hlong] at G;have CN:=hid (λa w ha hV hT=>Vz l a w a_ ha hV hT);have HE:=hid G;have HV:=hid hV;have HT:=hid hT;have HJ:=hid (fun(s:List Ev) (A B:World) (h:J s A) (hb:aA A B)=>Wd hJ h hb);have HY:=hid hY;have HS:Hid (∃f,E= []++mR f (l.drop 0) 0/\l.length<=0+f):=hid ⟨l.length,by rw[<-G,List.drop_zero,rJ],a_⟩;have hO':=hO;have o:Hid (J [] W/\aA w0 W/\W.heap[X]?=some (.cells #[bs l] 9 (0,0))/\oC O X W):=hid ⟨h0,hB,hX,hP⟩;have hlong2:(l.length:Int)<=65536:=a_
  have dlong:decide (65536<(l.length:Int))=false:=aJ a_;clear G hV hT hJ hY h0 hB hX hP;gi_wp2;gi_loopw [3] (λs3 wr=> ∃(pre:List Ev) (a:Nat),s3= .int .i64 a/\a<=l.length/\Hid (∃f,E=pre++mR f (l.drop a) a/\l.length<=a+f)/\Hid (J pre wr/\aA w0 wr/\wr.heap[X]?=some (.cells #[bs l] 9 (0,0))/\oC O X wr)/\O<wr.heap.size) (λs3 wr=>l.length-(RowKit.intOf s3).toNat)
  case atStart=>exact⟨[],0,rfl,a_,HS.out,o.out,hO⟩
  case round=>
   obtain⟨pre,a,rfl,ha,HG,o,hO⟩:=hrel;have Y:=cell_of_one o.out.2.2.1;by_cases hlt:a<l.length
   .obtain⟨x,hx⟩:=exQ<|qP l a;have ag: ∃k:Nat,x.2.2.1=k/\k<=l.length/\(x.2.2.2=0->a<k)/\Hid (∃f,E=pre++(x::(if x.2.2.2=0 then mR f (l.drop k) k else []))/\l.length<=a+f+1):=by
     obtain⟨f,j,h2⟩:=HG.out;obtain⟨g,rfl⟩: ∃g,f=g+1:=⟨f-1,a_⟩;obtain⟨k,k1,k2,k3,k4⟩:=Wb g l a hlt;rw[hx] at k1 k3 k4;rw[k4] at j;exact⟨k,k1,k2,k3,hid ⟨g,j,a_⟩⟩
    obtain⟨k,R,af,b,c⟩:=ag;have u:=hid (CN.out a wr hlt (HV.out.keep o.out.2.1) (HT.out.keep o.out.2.1));rw[hx] at u;obtain⟨xk,xf,xt,xe⟩:=x;simp only[] at R b c;subst R;unfold Kz at u;simp only[] at u;clear HG hx;gi_wp2_with fail;refine⟨trivial,?_⟩;(with_reducible refine(callsIn_wide.2 u.out).mono ?_);rintro e w1 ⟨rfl,y⟩;have m:aA wr (w1.alloc (.cells #[xk,xf,k] 163)):=aE y (aL w1 _);have t:jS (w1.alloc (.cells #[xk,xf,k] 163)) w1.heap.size xk xf k:=heap_alloc_new w1 _;obtain⟨W2,I⟩:=exQ<|w1.alloc (.cells #[xk,xf,k] 163);rw[I] at m t;obtain⟨Z,hZ⟩:=exQ<|w1.heap.size;have hOZ:O<Z:=by rw[<-hZ];exact iG hO y.size
    have L:oC O X w1:=o.out.2.2.2.keep y hO;have H:oC O X W2:=o.out.2.2.2.keep m hO;have aa: ¬rO O W2 Z:=λhw=>by
     have ai:aA w1 W2:=by rw[<-I];exact aL w1 _
     have:=(L Z (hw.back ai (iG hO y.size))).2;omega
    have T:W2.heap[X]?=some (.cells #[bs l] 9 (0,0)):=(m.block X (aG o.out.2.2.1)).trans o.out.2.2.1;have P: ¬rO O W2 X:=λhw=>Nat.lt_irrefl _ (H X hw).1;rw[hZ] at t;have U:=HJ.out pre _ _ o.out.1 m;have V:aA w0 W2:=o.out.2.1.trans (m.mono o.out.2.1.size);have ae:O<W2.heap.size:=iG hO m.size;have z:=hid (aK H (aK aa (aK T (aK P (aK V t)))));have F:pre.length<E.length:=by
     obtain⟨f,j,_⟩:=c.out;rw[j,aZ,bM];omega
    obtain⟨fn,M,C,K,hy,hR⟩:=HY.out pre (xk,xf,(k:Int),xe) W2 U F;obtain⟨t0,t1,t2,f0,f1,f2⟩:=t.cells;unfold xY at hy;simp only[] at hy;clear U y m L H aa T P V F o u Y t;gi_wp2_with fail;refine hR.mono ?_;clear hy hR t0 t1 t2 f0 f1 f2;rintro e W3 (⟨rfl,D,i⟩ | ⟨rfl,p⟩)
    .have Q:jS W3 Z xk xf k:=i.2.2 Z _ z.out.2.2.2.2.2 rfl a_ z.out.2.1;have ab:W3.heap[X]?=some (.cells #[bs l] 9 (0,0)):=i.2.2 X _ z.out.2.2.1 rfl (λe=>hne e.symm) z.out.2.2.2.1;have ad:O<W3.heap.size:=iG ae i.1.size;have N:Hid (J (pre++ [(xk,xf,(k:Int),xe)]) W3/\aA w0 W3/\W3.heap[X]?=some (.cells #[bs l] 9 (0,0))/\oC O X W3):=hid ⟨D,z.out.2.2.2.2.1.trans i.1,ab,z.out.1.kp (aG z.out.2.2.1) i⟩;clear D i ab z;by_cases hxe:xe=0
     .have ah:Hid (∃f,E=(pre++ [(xk,xf,(k:Int),xe)])++mR f (l.drop k) k/\l.length<=k+f):=hid (by obtain⟨f,j,h2⟩:=c.out;rw[if_pos hxe] at j;have:=b hxe;exact⟨f,by rw[j];simp,a_⟩);have hak:=b hxe;subst hxe;clear c b;obtain⟨t0,t1,t2,f0,f1,f2⟩:=Q.cells;gi_wp2_with fail;go_roundw
      case rel=>exact⟨_,k,rfl,af,ah.out,N.out,ad⟩
      case measure=>simp[RowKit.intOf];omega
     .have d:E=pre++ [(xk,xf,(k:Int),xe)]:=by
       obtain⟨f,j,h2⟩:=c.out;rw[if_neg hxe] at j;exact j
      have r:=hid d;have te:(xe !=0)=true:=eN.2 hxe;clear d hxe c b Q;gi_wp2_with fail;refine bodyPost_ret (results_none rfl _ _ _) rfl ?_;exact⟨⟨_,rfl⟩, .inl ⟨_,r.out.symm,N.out.1⟩⟩
    .have d:pre++ [(xk,xf,(k:Int),xe)] <+:E:=by
      obtain⟨f,j,h2⟩:=c.out;exact⟨_,by rw[j];simp;rfl⟩
     have r:=hid (aK d p);clear d c b z p;gi_wp2_with fail;refine bodyPost_ret (results_none rfl _ _ _) rfl ?_;exact⟨⟨_,rfl⟩, .inr ⟨_,r.out.1,r.out.2⟩⟩
   .have d:E=pre:=by
     obtain⟨f,j,h2⟩:=HG.out;rw[List.drop_of_length_le a_,Wa,List.append_nil] at j;exact j
    have r:=hid d;clear d;gi_wp2_with fail;go_end0;exact⟨⟨_,rfl⟩, .inl ⟨_,r.out.symm,o.out.1⟩⟩
attribute [local go_sem] Oper.semAt_some
theorem infoTok:(prog.info? 163).map (λi=>(i.zero,i.size,i.bytes))=some (some (.agg #[(0:Int),(0:Int),(0:Int)]),3,24):=d'
theorem Wf (A:ByteArray) (w:World):
  Calls prog 185 #[A] w λe w'=>e= .returned (.func (.func 210) #[] #[some w.heap.size])/\w'=w.alloc (.cells #[A] 9):=p9
def rP (xs:List Ev):List Value:=xs.flatMap λx=> [x.1,x.2.1,x.2.2.1]
def mS (ts:List aR):List Value:=ts.flatMap λt=> [t.kind,t.sf,t.st]
theorem Wg (ts:List aR):rP (ts.map xW)=mS ts:=by
 unfold rP mS;rw[List.flatMap_map];rfl
theorem Wi (xs:List Ev) (x:Ev):rP (xs++ [x])=rP xs++ [.int .i64 x.1, .int .i64 x.2.1, .int .i64 x.2.2.1]:=by unfold rP;simp
def fV (B:Nat) (w:World) (v:Value) (ts:List aR):Prop:=w.ownsRow B 163 3 v ts.length (mS ts)
def Ld (r:List aR×Int×Int) (w:World) (e:Ending) (w':World):Prop:= ∃v,e= .returned (.tuple #[v,r.2.1,r.2.2])/\fV w.heap.size w' v r.1/\(r.1= []->v= .slice none 0 0)/\Below w.heap.size w w'
theorem Wj (l:aC):(kV l).length<=65537:=by
 have a: ∀(f:Nat) (l:aC) (i:Nat),(eR f l i).1.length<=f:=by
  intro f
  induction f with
  | zero=>intro l i;simp[eR]
  | succ f ih=>
   intro l i;cases l with
   | nil=>rw[uH];simp
   | cons c r=>
    rw[uG];split
    .simp only[bM];have:=ih ((c::r).drop (bT (c::r)).2.1) (i+(bT (c::r)).2.1);omega
    .simp
 unfold kV;split
 .simp
 .unfold mR;rw[aZ,bP];have:=a l.length l 0;have h2:(wC (eR l.length l 0).2).length<=1:=by unfold wC;split<;>simp
  omega
theorem Ek {W:World}{B base n size:Nat}{t e:TypeId}{u v:Value}{xs:List Value} (hb:Boxed W B t u) (hte:t≠e) (hrow:W.ownsRow base e size v n xs) (x:Value):(W.setCell ⟨B,0,none⟩ x).ownsRow base e size v n xs:=
 hrow.kept (grownBy_setCell' W B x) (.inr (hb.not_row hte hrow).symm)
theorem Wk (X:Nat) (k a b:Int):Own (fun(_:Unit) W=>jS W X k a b):=λs A B row d f c=>
 (f.block X (aG d) (λe'=>by obtain⟨o,e,g⟩:=c X e'.symm;rw[show A.heap[X]?=_ from d] at e;cases e;cases g)).trans d
theorem lT.of_below {n O:Nat}{A B:World} (hb:aA A B) (hn:n<=A.heap.size) (hO:O<A.heap.size):lT n O A B:=
 ⟨hb.mono hn,λi b=> .inl (b.back hb hO),λi o a _ _ _=>(hb.block i (aG a)).trans a⟩
theorem lT.push {n O:Nat}{W w1:World}{v v':Value}{tmp:Obj} (hv:Boxed W O 156 v) (hgrow:(W.alloc tmp).grownBy w1 v.ownBlock) (hv2:Boxed (w1.setCell ⟨O,0,none⟩ v') O 156 v') (hb:Below n W (w1.setCell ⟨O,0,none⟩ v'))
  (hat:v'.ownBlock=v.ownBlock\/v'.ownBlock=some (W.alloc tmp).heap.size) (hlt: ∀k,v'.ownBlock=some k->k<w1.heap.size):lT n O W (w1.setCell ⟨O,0,none⟩ v'):=by
 have hsz:(w1.setCell ⟨O,0,none⟩ v').heap.size=w1.heap.size:=by simp[World.setCell]
 refine⟨hb,λi f=>?_,λi o g hc b a=>?_⟩
 .obtain⟨u,d,c⟩:=f;rw[show (w1.setCell ⟨O,0,none⟩ v').heap[O]?=_ from hv2] at d;simp only[cC,Obj.cells.injEq,Array.mk.injEq,List.cons.injEq,and_true,true_and] at d;subst d;rcases hat with h | h
  .exact .inl ⟨v,hv,by rw[<-h,c]⟩
  .rw[c,tH] at h;have:=hlt i c;simp only[cC] at h;exact .inr ⟨a_,a_⟩
 .have f:=aG g;have e1:(w1.setCell ⟨O,0,none⟩ v').heap[i]?=w1.heap[i]?:=eW w1 ⟨O,0,none⟩ v' i b;rw[e1,hgrow.block i (by rw[tH];omega) (λe=>a ⟨v,hv,e.symm⟩),Below.heap_alloc _ _ _ f];exact g
theorem Wl (w:World) (cs:Array Value) (t:TypeId): ∀j u,cs.toList[j]?=some u->(w.alloc (.cells cs t)).cell? ((⟨w.heap.size,0,none⟩:Addr).add j)=some u:=jy
def Le (w:World) (S:Nat) (pre:List Ev) (W:World):Prop:=(((((∃v,Boxed W (w.heap.size+3) 156 v/\W.ownsRow w.heap.size 163 3 v pre.length (rP pre)/\((∀x∈pre,x.2.2.2=0)/\(pre= []->v= .slice none 0 0)))/\Boxed W w.heap.size 156 (.slice none 0 0))/\Boxed W (w.heap.size+1) 3 (.int .i64 0))/\Boxed W (w.heap.size+2) 27 (.int .i64 0))/\(Below w.heap.size w W/\S<=W.heap.size))
def Em (w:World) (c:Code) (pre:List Ev) (W:World):Prop:=((c= .ret/\ ∃ys x,pre=ys++ [x]/\x.2.2.2≠0/\Boxed W w.heap.size 156 (.slice none 0 0)/\Boxed W (w.heap.size+1) 3 (.int .i64 x.2.1)/\Boxed W (w.heap.size+2) 27 (.int .i64 x.2.2.2)))/\Below w.heap.size w W
theorem Wm (w:World) (S B:Nat) (hB:w.heap.size<=B):OwnFrom B (Le w S):=
 OwnFrom.and (OwnFrom.and (OwnFrom.and (OwnFrom.and (Own.from (holdsRow_own w.heap.size (w.heap.size+3) 156 163 3 (λa=>a.length) rP (λa v=>(∀x∈a,x.2.2.2=0)/\(a= []->v= .slice none 0 0))) _) (Own.from (boxed_own _ _ (λ_=>_)) _)) (Own.from (boxed_own _ _ (λ_=>_)) _)) (Own.from (boxed_own _ _ (λ_=>_)) _)) (OwnFrom.and (ownFrom_below (aF _) hB) (λ_ _ _ _ c b _=>bF c b.size))
theorem Wn (w:World) (c:Code) (B:Nat) (hB:w.heap.size<=B):OwnFrom B (Em w c):=
 OwnFrom.and (λs A B a h d b=>by obtain⟨k,ys,x,f,g,j,l,i⟩:=h;exact⟨k,ys,x,f,g,boxed_own _ _ (fun(_:Unit)=>_) () A B a j d (λr e=>(b r e).2),boxed_own _ _ (fun(_:Unit)=>_) () A B a l d (λr e=>(b r e).2),boxed_own _ _ (fun(_:Unit)=>_) () A B a i d (λr e=>(b r e).2)⟩) (ownFrom_below (aF _) hB)
theorem Wo {w W:World}{S:Nat}{Kp:World->World->Prop}{I:List Ev->World->Prop}{a:Act} (c2:Boxed W w.heap.size 156 (.slice none 0 0)) (c3:Boxed W (w.heap.size+1) 3 (.int .i64 0)) (c4:Boxed W (w.heap.size+2) 27 (.int .i64 0)) (hB:aA w W) (pre:List Ev) (x:Ev) (hx:x.2.2.2≠0):
  ownPostG S Kp I (Em w) (pre++ [x]) W .ret a (((W.setCell ⟨w.heap.size,0,none⟩ (.slice none 0 0)).setCell ⟨w.heap.size+1,0,none⟩ (.int .i64 x.2.1)).setCell ⟨w.heap.size+2,0,none⟩ (.int .i64 x.2.2.2)).drew:=by
 refine⟨((((KeepsOthers.setCell _ _ _).trans (KeepsOthers.setCell _ _ _)).trans (KeepsOthers.setCell _ _ _)).trans (KeepsOthers.drew _)).from _,⟨rfl,pre,x,rfl,hx,?_,?_,?_⟩,?_⟩
 .exact(show Boxed (((W.setCell ⟨w.heap.size,0,none⟩ (.slice none 0 0)).setCell ⟨w.heap.size+1,0,none⟩ (.int .i64 x.2.1)).setCell ⟨w.heap.size+2,0,none⟩ (.int .i64 x.2.2.2)) _ _ _ from ((c2.set _).other a_ _).other a_ _)
 .exact((c3.other a_ _).set _).other a_ _
 .exact((c4.other a_ _).other a_ _).set _
 .exact(((hB.setCell (p:=⟨w.heap.size,0,none⟩) (aF _) _).setCell (p:=⟨w.heap.size+1,0,none⟩) (Nat.le_succ _) _).setCell (p:=⟨w.heap.size+2,0,none⟩) IC _).drew
theorem Wp (f:Nat) (l:aC) (i:Nat) (hf:l.length<=f) (h: ∀x∈mR f l i,x.2.2.2=0):(eR f l i).2=none/\mR f l i=(eR f l i).1.map xW:=by
 unfold mR at h ⊢;cases ho:(eR f l i).2 with
 | none=>exact⟨rfl,by unfold wC;simp⟩
 | some x=>
  exfalso;obtain⟨p,e⟩:=x;have:=zN f l i p e hf ho;rw[ho] at h;have a:=h (0,(p:Int),(p:Int),e) (by unfold wC;simp);exact this.2.2 a
theorem Ws (l:aC) (h: ∀x∈kV l,x.2.2.2=0):(dX l).2=((l.length:Int),0)/\kV l=(dX l).1.map xW:=by
 unfold kV at h ⊢;unfold dX;by_cases hl:65536<l.length
 .rw[if_pos hl] at h;have:=h (0,0,0,3) e_;exact absurd this b_
 .rw[if_neg hl] at h;obtain⟨a,b⟩:=Wp l.length l 0 (aF _) h;rw[if_neg hl,if_neg hl,a];exact⟨rfl,b⟩
theorem Wt (l:aC) (ys:List Ev) (x:Ev) (hp:ys++ [x] <+:kV l) (hx:x.2.2.2≠0):dX l=([],x.2.1,x.2.2.2):=by
 have a:x∈kV l:=hp.mem e_;unfold kV at a;unfold dX;by_cases hl:65536<l.length
 .rw[if_pos hl] at a ⊢;rw[kT.1 a]
 .rw[if_neg hl] at a;simp only[if_neg hl];unfold mR at a;rcases pO.1 a with a | a
  .obtain⟨t,_,rfl⟩:=qJ.1 a;exact absurd rfl hx
  .cases ho:(eR l.length l 0).2 with
   | none=>rw[ho] at a;cases a
   | some y=>
    rw[ho] at a;obtain⟨p,e⟩:=y;rw[kT.1 a]
theorem Wu (l:aC) (w:World) (hs:l.length<=4611686018427387904) (hV:eQ w) (hT:dE w):
  Calls prog 150 #[bs l] w (Ld (dX l) w):=by
 have sl:=aP l;refine(callsIn_wide (n:=9)).1 ?_;refine callsIn_of_wp_marks func150 rfl trivial ?_ rfl;simp only[ntmps150,List.size_toArray,bM,lQ,Nat.reduceAdd,Nat.reduceSub,Array.replicate_succ,Array.replicate_zero,List.push_toArray,List.append_toArray,rJ,qK];gi_wp2_with fail;refine⟨trivial,?_⟩;refine(callsIn_wide.2 (Wf _ _)).mono ?_;rintro e w' ⟨rfl,rfl⟩;gi_wp2_with fail;obtain⟨W0,f⟩:=exQ (((((w.alloc (.cells #[()] 156)).alloc (.cells #[(0:Int)] 3)).alloc (.cells #[(0:Int)] 27)).alloc (.cells #[()] 156)).alloc (.cells #[bs l] 9));have b2:Boxed W0 w.heap.size 156 (.slice none 0 0):=by rw[<-f];exact((((Boxed.new w _ _).alloc _).alloc _).alloc _).alloc _
 have b3:Boxed W0 (w.heap.size+1) 3 (.int .i64 0):=by
  have:=(((Boxed.new (w.alloc (.cells #[()] 156)) 3 (.int .i64 0)).alloc (.cells #[(0:Int)] 27)).alloc (.cells #[()] 156)).alloc (.cells #[bs l] 9);rw[tH] at this;rw[<-f];exact this
 have b4:Boxed W0 (w.heap.size+2) 27 (.int .i64 0):=by
  have:=((Boxed.new ((w.alloc (.cells #[()] 156)).alloc (.cells #[(0:Int)] 3)) 27 (.int .i64 0)).alloc (.cells #[()] 156)).alloc (.cells #[bs l] 9);exact EL
 have b5:Boxed W0 (w.heap.size+3) 156 (.slice none 0 0):=by
  have:=(Boxed.new (((w.alloc (.cells #[()] 156)).alloc (.cells #[(0:Int)] 3)).alloc (.cells #[(0:Int)] 27)) 156 (.slice none 0 0)).alloc (.cells #[bs l] 9);exact EL
 have b6:Boxed W0 (w.heap.size+4) 9 (.string (bs l)):=by
  have:=(Boxed.new ((((w.alloc (.cells #[()] 156)).alloc (.cells #[(0:Int)] 3)).alloc (.cells #[(0:Int)] 27)).alloc (.cells #[()] 156)) 9 (.string (bs l)));exact EL
 have P:aA w W0:=by
  rw[<-f];exact(((((aD _ w).alloc (aF _) _).alloc e_ _).alloc h_ _).alloc h_ _).alloc h_ _
 have H:W0.heap.size=w.heap.size+5:=by rw[<-f];simp
 simp only[tH,Nat.add_assoc,Nat.reduceAdd] at f ⊢;rw[f];clear f;have ad:oC (w.heap.size+3) (w.heap.size+4) W0:=λi hi=>by
  obtain⟨v,Q,h2⟩:=hi;rw[show W0.heap[w.heap.size+3]?=_ from b5] at Q;simp only[cC,Obj.cells.injEq,Array.mk.injEq,List.cons.injEq,and_true,true_and] at Q;subst Q;cases h2
 refine wpIn_rangeFunc_ownH rfl a_ (gf:=210) (lb:= #[some (w.heap.size+4)]) rfl trivial (enters_of func210 d' rfl)
  (α:=Ev) (encs:=xY) (Kp:=lT w.heap.size (w.heap.size+3)) (S:=λys=>ys=kV l) (Sp:=λm=>m <+:kV l) (N:=(kV l).length) (w0:=W0)
  (λq J Jx W U hJ _ hY h0=>We 8 a_ q (w.heap.size+4) (w.heap.size+3) W.heap.size w l hs hV hT J Jx hJ hY W ((U.block _ a_).trans b6) (iG a_ U.size) a_ (ad.keep U a_) (P.trans (U.mono a_)) h0)
  (λh k=>h.trans k) (λW j o o' hj ho hc _=>lT.putObj a_ a_ W j o o' hj ho hc) (aD _ _) (λ_=>rfl)
  (Le w W0.heap.size) (Em w) (Wm w _ _ a_) (λc=>Wn w c _ a_)
  ⟨⟨⟨⟨⟨_,b5,World.ownsRow_nil _ _ _ _,e_,λ_=>rfl⟩,b2⟩,b3⟩,b4⟩,P,aF _⟩
  (λx a' W=> ∃Bx,W0.heap.size<=Bx/\jS W Bx x.1 x.2.1 x.2.2.1/\a'= { tmps:= #[bs l,undef,some w.heap.size,some (w.heap.size+1),some (w.heap.size+2),some (w.heap.size+3), .pointer (some ⟨Bx,0,none⟩),x.2.2.2,bs l, .func (.func 210) #[] #[some (w.heap.size+4)], .agg #[x.1,x.2.1,x.2.2.1],x.2.2.2,undef,undef,undef,undef,undef,undef,undef,undef,undef,undef,undef,undef,undef],defers:= [] })
  (λx a' _ A B Z hs hg V=>by obtain⟨Bx,Q,h2,h3⟩:=hs;exact⟨Bx,Q,Wk Bx _ _ _ () A B Z h2 hg (λr e=>(V r e).2),h3⟩)
  ?assign ?body ?done ?stop
 case assign=>
  rintro q m x W K ⟨⟨⟨⟨⟨v,bO,a,d⟩,c2⟩,c3⟩,c4⟩,t,F⟩ G;obtain⟨xk,xf,xt,xe⟩:=x;dsimp only[xY];gi_wp2_with fail;refine G _ _ ((KeepsOthers.alloc _ _).from _) (lT.of_below (aL W _) t.size a_) ?_ ⟨W.heap.size,F,heap_alloc_new W _,rfl⟩;exact⟨⟨⟨⟨⟨v,bO.alloc _,a.alloc _,d⟩,c2.alloc _⟩,c3.alloc _⟩,c4.alloc _⟩,t.alloc t.size _,bF F e_⟩
 case body=>
  rintro q m x a' W hl V ⟨⟨⟨⟨⟨v,bO,a,d⟩,c2⟩,c3⟩,c4⟩,t,F⟩ ⟨Bx,hBx,bX,rfl⟩ hlt;obtain⟨i0,am,ab,ap,aj⟩:=info_parts infoTok;have hEl:=Wj l;obtain⟨xk,xf,xt,xe⟩:=x;simp only[] at bX;obtain⟨t0,t1,t2,f0,f1,f2⟩:=bX.cells;have X:=bO.cell;have hfO:=bO.frozen;have HZ:=hid H;obtain⟨S,hS⟩:=exQ<|W0.heap.size;rw[hS] at HZ F ⊢;have HS:=hid hS;clear H hS;by_cases hxe:xe=0
  .subst hxe;gi_wp2_with (gi_at_builtin;go_must (refine wpListIn_append_own_at _ rfl _ _ 156 rfl w.heap.size 163 i0 _ 3 24 underlying156 am ab ap aj rfl b_ v m.length (rP m) rfl (a.alloc _) ⟨W.heap.size,0,none⟩ 1 1 (#[xk,xf,xt]:Array Value).toList rfl rfl (Wl _ _ _) B_ r_ a_ (by have:=t.size;simp;omega) ?_);intro v' w1 s b hnil ao;obtain⟨g',cap',rfl⟩:=ownsRow_succ s;obtain⟨L,O,u,aa,C⟩:=bO.appended b_ a t.size a_ s b;have hc1:=L.cell;have hf1:=L.frozen);refine⟨aa.from _,lT.push bO b O C ao (λk hk=>(s.lt k hk).2),?_⟩;refine⟨⟨⟨⟨⟨_,O,?_,?_,λh=>absurd h e_⟩,((c2.alloc _).kept b (c2.not_row b_ a)).other a_ _⟩,((c3.alloc _).kept b (c3.not_row b_ a)).other a_ _⟩,((c4.alloc _).kept b (c4.not_row b_ a)).other a_ _⟩,t.trans C,bF F C.size⟩
   .rw[Wi,aZ];exact u
   .intro y M;rcases pO.1 M with M | M
    .exact d.1 y M
    .rw[kT.1 M]
  .have te:(xe !=0)=true:=eN.2 hxe;have ai:=c2.cell;have ag:=c3.cell;have ah:=c4.cell;have af:=c2.frozen;have ak:=c3.frozen;have an:=c4.frozen;gi_wp2_with fail;gi_region
   all_goals gi_wp2
   all_goals exact Wo c2 c3 c4 t m (xk,xf,xt,xe) hxe
 case done=>
  rintro D ys W hD rfl ⟨⟨⟨⟨⟨v,bO,a,d⟩,c2⟩,c3⟩,c4⟩,t,F⟩ G;obtain⟨vp,vn,vc,rfl⟩: ∃p n c,v= .slice p n c:=by
   rcases a.2 with⟨h,_⟩ | ⟨g,cap,cur,h,_⟩
   .exact⟨_,_,_,h⟩
   .exact⟨_,_,_,h⟩
  have X:=bO.cell;have ai:=c2.cell;have ag:=c3.cell;have ah:=c4.cell;have af:=c2.frozen;have ak:=c3.frozen;have an:=c4.frozen;gi_wp2_with fail;obtain⟨Y,R⟩:=Ws l d.1;have k1:KeepsOthers W (((W.setCell ⟨w.heap.size,0,none⟩ (.slice vp vn vc)).setCell ⟨w.heap.size+1,0,none⟩ (.int .i64 l.length)).setCell ⟨w.heap.size+2,0,none⟩ (.int .i64 0)):=((KeepsOthers.setCell _ _ _).trans (KeepsOthers.setCell _ _ _)).trans (KeepsOthers.setCell _ _ _);have d2:Boxed (((W.setCell ⟨w.heap.size,0,none⟩ (.slice vp vn vc)).setCell ⟨w.heap.size+1,0,none⟩ (.int .i64 l.length)).setCell ⟨w.heap.size+2,0,none⟩ (.int .i64 0)) w.heap.size 156 (.slice vp vn vc):=((c2.set _).other a_ _).other a_ _;have d3:Boxed (((W.setCell ⟨w.heap.size,0,none⟩ (.slice vp vn vc)).setCell ⟨w.heap.size+1,0,none⟩ (.int .i64 l.length)).setCell ⟨w.heap.size+2,0,none⟩ (.int .i64 0)) (w.heap.size+1) 3 (.int .i64 l.length):=((c3.other a_ _).set _).other a_ _;have d4:Boxed (((W.setCell ⟨w.heap.size,0,none⟩ (.slice vp vn vc)).setCell ⟨w.heap.size+1,0,none⟩ (.int .i64 l.length)).setCell ⟨w.heap.size+2,0,none⟩ (.int .i64 0)) (w.heap.size+2) 27 (.int .i64 0):=((c4.other a_ _).other a_ _).set _;have dB:aA w (((W.setCell ⟨w.heap.size,0,none⟩ (.slice vp vn vc)).setCell ⟨w.heap.size+1,0,none⟩ (.int .i64 l.length)).setCell ⟨w.heap.size+2,0,none⟩ (.int .i64 0)):=((t.setCell (p:=⟨w.heap.size,0,none⟩) (aF _) _).setCell (p:=⟨w.heap.size+1,0,none⟩) (Nat.le_succ _) _).setCell (p:=⟨w.heap.size+2,0,none⟩) IC _;have I:(((W.setCell ⟨w.heap.size,0,none⟩ (.slice vp vn vc)).setCell ⟨w.heap.size+1,0,none⟩ (.int .i64 l.length)).setCell ⟨w.heap.size+2,0,none⟩ (.int .i64 0)).ownsRow w.heap.size 163 3 (.slice vp vn vc) (kV l).length (rP (kV l)):=Ek ((c4.other a_ (.slice vp vn vc)).other a_ (.int .i64 l.length)) b_ (Ek (c3.other a_ (.slice vp vn vc)) b_ (Ek c2 b_ a (.slice vp vn vc)) (.int .i64 l.length)) (.int .i64 0);have z:=k1.same D _ G rfl;obtain⟨W3,al⟩:=exQ (((W.setCell ⟨w.heap.size,0,none⟩ (.slice vp vn vc)).setCell ⟨w.heap.size+1,0,none⟩ (.int .i64 l.length)).setCell ⟨w.heap.size+2,0,none⟩ (.int .i64 0));rw[al] at d2 d3 d4 dB I z ⊢;refine⟨e_, .inl ⟨_,_,rfl,run_takeDeferred z,?_⟩⟩;have ae:w.heap.size+5<=D:=a_
  have g2:=(d2.kept (grownBy_putObj' W3 D (.deferred none)) h_).cell;have g3:=(d3.kept (grownBy_putObj' W3 D (.deferred none)) h_).cell;have g4:=(d4.kept (grownBy_putObj' W3 D (.deferred none)) h_).cell;have u:=ownsRow_putObj I (.deferred none) z rfl;have E:aA w (W3.putObj D (.deferred none)):=dB.trans (belowK_b (w:=w) (aF _) W3 D _ _ a_ z rfl rfl);refine⟨.tuple #[.slice vp vn vc,l.length,(0:Int)],?_,?_⟩
  .simp[results,results150,go_sem,g2,g3,g4]
  .rw[R,Wg,bP] at u;refine⟨_,by rw[Y],u,λh0=>d.2 (by rw[R,h0];rfl),E⟩
 case stop=>
  rintro D c m W hD T ⟨⟨rfl,ys,x,rfl,hx,c2,c3,c4⟩,t⟩ G;gi_wp2_with fail;have V:=Wt l ys x T hx;refine⟨e_, .inl ⟨_,_,rfl,run_takeDeferred G,?_⟩⟩;have ae:w.heap.size+5<=D:=a_
  have g2:=(c2.kept (grownBy_putObj' W D (.deferred none)) h_).cell;have g3:=(c3.kept (grownBy_putObj' W D (.deferred none)) h_).cell;have g4:=(c4.kept (grownBy_putObj' W D (.deferred none)) h_).cell;have E:aA w (W.putObj D (.deferred none)):=t.trans (belowK_b (w:=w) (aF _) W D _ _ a_ G rfl rfl);refine⟨.tuple #[(),x.2.1,x.2.2.2],?_,?_⟩
  .simp[results,results150,go_sem,g2,g3,g4]
  .rw[V];exact⟨_,rfl,World.ownsRow_nil _ _ _ _,λ_=>rfl,E⟩
end
end Go.Proofs.YtfhjncbdgjlcoaaGreatDoor
