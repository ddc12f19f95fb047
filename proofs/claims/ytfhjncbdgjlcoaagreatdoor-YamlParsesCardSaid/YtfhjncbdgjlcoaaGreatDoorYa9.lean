import Derived.Test.YtfhjncbdgjlcoaaGreatDoorYa8
import Derived.RangeFuncNested
import Derived.RangeFuncBound
import Derived.Shelf.RegionOpen
import Derived.LoopNIn
import Derived.LoopIn
import Derived.Maps.OwnIn
set_option maxRecDepth 100000
set_option maxHeartbeats 4000000
set_option linter.unusedVariables false
set_option linter.unusedSimpArgs false
namespace Go.Proofs.YtfhjncbdgjlcoaaGreatDoor
section
open Go.RowKit
open Go.Lib hiding intOf
theorem Jr (l:List UInt8) (k:Nat) (h:k<l.length) (h2:k<(bs l).size):(bs l)[k]'h2=l[k]'h:=by
 have:=cK l k h2;rw[bC h] at this;exact(aV this).symm
theorem Tt (b:UInt8) (w:World):Calls Tryz.prog 225 #[.int .u8 (b.toNat:Int)] w λe w'=>e= .returned (.bool (gE b))/\w=w':=by
 obtain⟨R,a⟩:=exQ<|gE b;rw[a];unfold gE at a;obtain⟨n,c⟩: ∃n:Int,(b.toNat:Int)=n:=⟨_,rfl⟩;rw[c];by_cases h1:97<=n
 ·by_cases h2:n<=122
  ·rw[aO a_] at a;subst a;clear c;exact io
  ·rw[aG a_] at a;subst a;have h2':decide (n<=122)=false:=aG h2;clear c h2;exact io
 ·rw[aG a_] at a;subst a;have h1':decide (97<=n)=false:=aG h1;clear c h1;exact io
theorem Tu (X:Nat) (A:ByteArray) (b:UInt8) (w:World) (hc:w.cell? ⟨X,0,none⟩=some (.string A)):
  Calls Tryz.prog 229 #[.int .u8 (b.toNat:Int),some X] w λe w'=>e= .returned (.bool (decide (0<=Lib.indexByte A.data.toList b)))/\w=w':=by
 have C:=hid (wW A b w);obtain⟨K,a⟩:=exQ<|Lib.indexByte A.data.toList b;rw[a] at C ⊢;obtain⟨B,c⟩:=exQ<|decide (0<=K);rw[c];clear a;go_enter Tryz.func229,Tryz.ntmps229;go_wp2_with (go_at_call 41;refine C.out.mono ?_;rintro e w' ⟨rfl,rfl⟩);go_ret;exact⟨rfl,rfl⟩
theorem Tv (A:ByteArray) (w:World):
  Calls Tryz.prog 224 #[A] w λe w'=>e= .returned (.func (.func 229) #[] #[some w.heap.size])/\w'=w.alloc (.cells #[A] 9):=by
 have hmf: ∀(fn:Fn) (first cap:Array Value) (w:World),(Instr.makeFunc fn first cap).run Tryz.prog w= .ok (.func fn first cap) w:=λ_ _ _ _=>rfl;go_enter Tryz.func224,Tryz.ntmps224;exact aa
theorem Js (l:List UInt8) (X:Nat) (A:ByteArray) (p:UInt8->Bool) (hp: ∀b,decide (0<=Lib.indexByte A.data.toList b)=p b) (w:World) (hs:l.length<=1073741824) (hc:w.cell? ⟨X,0,none⟩=some (.string A)):
  Calls Tryz.prog 223 #[bs l, .func (.func 229) #[] #[some X]] w λe w'=>e= .returned (.int .i64 (cO p l))/\w=w':=by
 have AE:=trivial;exact r6
theorem Tw (l:List UInt8) (w:World) (hs:l.length<=1073741824):
  Calls Tryz.prog 223 #[bs l, .func (.func 225) #[] #[]] w λe w'=>e= .returned (.int .i64 (cO gE l))/\w=w':=by
 have AF:=trivial;exact r6
theorem Tx (l:List UInt8) (w:World):
  Calls Tryz.prog 226 #[bs l] w λe w'=>e= .returned (.int .i64 (mC l))/\w=w':=by
 obtain⟨R,a⟩:=exQ<|mC l;rw[a];unfold mC at a;have b:(bs l).toList=l:=C'
 by_cases h1:l= [116,114,117,101]
 ·rw[if_pos h1] at a;subst a h1;exact ej
 rw[if_neg h1] at a;by_cases h2:l= [102,97,108,115,101]
 ·rw[if_pos h2] at a;subst a h2;exact ej
 rw[if_neg h2] at a;by_cases h3:l= [110,117,108,108]
 ·rw[if_pos h3] at a;subst a h3;exact ej
 rw[if_neg h3] at a;subst a;have e1:((bs l).toList== [116,114,117,101])=false:=by rw[b];simpa using h1
 have e2:((bs l).toList== [102,97,108,115,101])=false:=by rw[b];simpa using h2
 have e3:((bs l).toList== [110,117,108,108])=false:=by rw[b];simpa using h3
 clear b h1 h2 h3;exact ej
def Ty (A:ByteArray) (w:World) (e:Ending) (w':World):Prop:= ∃X:Nat,e= .returned (.func (.func 229) #[] #[some X])/\w'.cell? ⟨X,0,none⟩=some (.string A)/\Below w.heap.size w w'
theorem Jt (A:ByteArray) (w:World):Calls Tryz.prog 224 #[A] w (Ty A w):=
 (Tv A w).mono λ_ _ ⟨b,a⟩=>⟨_,b,by rw[a];exact cell_of_one (heap_alloc_new w _),by rw[a];exact aL w _⟩
def jA (w:World) (X:Nat) (k a b:Int):Prop:=w.heap[X]?=some (.cells #[k,a,b] 163 (0,0))
abbrev Dl (w:World) (X:Nat) (k a b:Int):Prop:=w.cell? ⟨X,0,none⟩=some (.int .i64 k)/\w.cell? ⟨X,1,none⟩=some (.int .i64 a)/\w.cell? ⟨X,2,none⟩=some (.int .i64 b)/\
 w.frozen? ⟨X,0,none⟩=false/\w.frozen? ⟨X,1,none⟩=false/\w.frozen? ⟨X,2,none⟩=false
theorem jA.cells {w:World}{X:Nat}{k a b:Int} (h:jA w X k a b):Dl w X k a b:=
 ⟨cell_of_row w X 0 _ _ (0,0) h,cell_of_row w X 1 _ _ (0,0) h,cell_of_row w X 2 _ _ (0,0) h,by simp[World.frozen?,show w.heap[X]?=_ from h],by simp[World.frozen?,show w.heap[X]?=_ from h],by simp[World.frozen?,show w.heap[X]?=_ from h]⟩
theorem jA.lt {w:World}{X:Nat}{k a b:Int} (h:jA w X k a b):X<w.heap.size:=aF h
theorem jA.keep {w w':World}{X:Nat}{k a b:Int} (h:jA w X k a b) (hb:Below w.heap.size w w'):jA w' X k a b:=(hb.block X h.lt).trans h
def gS (w:World) (X:Nat) (k a b:Int):World:=((w.setCell ⟨X,0,none⟩ (.int .i64 k)).setCell ⟨X,1,none⟩ (.int .i64 a)).setCell ⟨X,2,none⟩ (.int .i64 b)
theorem jA.put {w:World}{X:Nat}{k a b k2 a2 b2:Int} (h:jA w X k a b):jA (gS w X k2 a2 b2) X k2 a2 b2:=by
 unfold jA at h ⊢;unfold gS;exact ai
theorem Ju {B:Nat}{w w':World}{X:Nat}{k a b:Int} (h:Below B w w') (hX:B<=X):Below B w (gS w' X k a b):=
 ((h.setCell (p:=⟨X,0,none⟩) hX _).setCell (p:=⟨X,1,none⟩) hX _).setCell (p:=⟨X,2,none⟩) hX _
theorem Tz (kd a tw:Int) (X:Nat) (w:World) (hc:w.cell? ⟨X,0,none⟩=some (.int .i64 a)):
  Calls Tryz.prog 221 #[kd,tw,some X] w λe w'=>e= .returned (.tuple #[.agg #[kd,a,tw],(0:Int)])/\Below w.heap.size w w':=by
 have hX:X<w.heap.size:=vE hc;go_enter Tryz.func221,Tryz.ntmps221;go_wp2_with fail;have c:jA (w.alloc (.cells #[kd,a,tw] 163)) w.heap.size kd a tw:=heap_alloc_new w _;have b:=aL w (.cells #[kd,a,tw] 163);obtain⟨W,d⟩:=exQ<|w.alloc (.cells #[kd,a,tw] 163);rw[d] at c b ⊢;obtain⟨c0,c1,c2,_⟩:=c.cells;refine bodyPost_ret (v:= .tuple #[.agg #[kd,a,tw],(0:Int)]) ?_ rfl ⟨rfl,b⟩;simp[results,Tryz.results221,go_sem,c0,c1,c2]
theorem Ua (a er:Int) (w:World):
  Calls Tryz.prog 222 #[a,er] w λe w'=>e= .returned (.tuple #[.agg #[(0:Int),a,a],er])/\Below w.heap.size w w':=by
 go_enter Tryz.func222,Tryz.ntmps222;go_wp2_with fail;have c:jA (w.alloc (.cells #[(0:Int),a,a] 163)) w.heap.size 0 a a:=heap_alloc_new w _;have b:=aL w (.cells #[(0:Int),a,a] 163);obtain⟨W,d⟩:=exQ<|w.alloc (.cells #[(0:Int),a,a] 163);rw[d] at c b ⊢;obtain⟨c0,c1,c2,_⟩:=c.cells;refine bodyPost_ret (v:= .tuple #[.agg #[(0:Int),a,a],er]) ?_ rfl ⟨rfl,b⟩;simp[results,Tryz.results222,go_sem,c0,c1,c2]
theorem Ub (c:UInt8):Lib.indexByte [123,125,91,93,44,58] c=match kM c with | some k=>(k:Int) | none=> -1:=by
 have: ∀n:Fin 256,Lib.indexByte [123,125,91,93,44,58] (UInt8.ofNat n.val)=match kM (UInt8.ofNat n.val) with | some k=>(k:Int) | none=> -1:=DQ
 exact bf
theorem Jv (c:UInt8):decide (0<=Lib.indexByte [32,9,10,13] c)=jQ c:=by
 have: ∀n:Fin 256,decide (0<=Lib.indexByte [32,9,10,13] (UInt8.ofNat n.val))=jQ (UInt8.ofNat n.val):=DQ
 exact bf
theorem Uc (c:UInt8):decide (0<=Lib.indexByte [45,43,46,48,49,50,51,52,53,54,55,56,57,101,69] c)=gX c:=by
 have: ∀n:Fin 256,decide (0<=Lib.indexByte [45,43,46,48,49,50,51,52,53,54,55,56,57,101,69] (UInt8.ofNat n.val))=gX (UInt8.ofNat n.val):=DQ
 exact bf
theorem Ud (c:UInt8):dM c=decide (48<=(c.toNat:Int)/\(c.toNat:Int)<=57):=by
 unfold dM;rw[Bool.eq_iff_iff];simp;omega
def nU (T:Nat×Nat×Int) (a:Nat):Int×Int×Int×Int:=if T.2.2=0 then(T.1,a,a+T.2.1,0) else(0,a+T.2.1,a+T.2.1,T.2.2)
def pQ (l:List UInt8) (a:Nat):Int×Int×Int×Int:=nU (bK (l.drop a)) a
def Jw (r:Int×Int×Int×Int):Ending:= .returned (.tuple #[.agg #[r.1,r.2.1,r.2.2.1],r.2.2.2])
structure mZ (w:World) (a:Int) (w':World):Prop where
 p:w'.heap[w.heap.size]?=some (.cells #[a] 3 (0,0))
 t:jA w' (w.heap.size+1) 0 0 0
 b:Below w.heap.size w w'
abbrev Ue (w:World) (a:Int) (w':World):Prop:=w'.cell? ⟨w.heap.size,0,none⟩=some (.int .i64 a)/\w'.frozen? ⟨w.heap.size,0,none⟩=false/\Dl w' (w.heap.size+1) 0 0 0
theorem mZ.cells {w w':World}{a:Int} (h:mZ w a w'):Ue w a w':=⟨cell_of_one h.p,free_of_one h.p,h.t.cells⟩
theorem mZ.keep {w w1 w2:World}{a:Int} (h:mZ w a w1) (hb:Below w1.heap.size w1 w2):mZ w a w2:=
 ⟨(hb.block _ (aF h.p)).trans h.p,h.t.keep hb,h.b.trans (hb.mono h.b.size)⟩
theorem mZ.start (w:World) (a:Int):mZ w a ((w.alloc (.cells #[a] 3)).alloc (.cells #[(0:Int),(0:Int),(0:Int)] 163)):=by
 refine⟨?_,?_,?_⟩
 ·exact ne
 ·have:=heap_alloc_new (w.alloc (.cells #[a] 3)) (.cells #[(0:Int),(0:Int),(0:Int)] 163);rw[sK] at this;exact this
 ·exact(aL w _).trans ((aL (w.alloc (.cells #[a] 3)) _).mono e_)
def Jy (w:World) (a:Int) (w':World):Prop:= ∃k x y,w'.heap[w.heap.size]?=some (.cells #[a] 3 (0,0))/\jA w' (w.heap.size+1) k x y/\Below w.heap.size w w'
abbrev dL (w:World) (a:Int) (w':World):Prop:=w'.cell? ⟨w.heap.size,0,none⟩=some (.int .i64 a)/\Hid (Jy w a w')
theorem dL.of {w w':World}{a:Int} (h:Jy w a w'):dL w a w':=by
 obtain⟨k,x,y,b,c,d⟩:=h;exact⟨cell_of_one b,hid ⟨k,x,y,b,c,d⟩⟩
theorem dL.start {w w':World}{a:Int} (h:mZ w a w'):dL w a w':=dL.of ⟨0,0,0,h.p,h.t,h.b⟩
theorem dL.drew {w w':World}{a:Int} (h:dL w a w'):dL w a w'.drew:=by
 obtain⟨k,x,y,d,b,c⟩:=h.2.out;exact dL.of ⟨k,x,y,d,b,c.drew⟩
theorem dL.step {w w1 w2:World}{a:Int} (h:dL w a w1) (hb:Below w1.heap.size w1 w2):dL w a w2:=by
 obtain⟨k,x,y,c,d,b⟩:=h.2.out;exact dL.of ⟨k,x,y,(hb.block _ (aF c)).trans c,d.keep hb,b.trans (hb.mono b.size)⟩
theorem dL.cellsE {w w1:World}{a:Int} (h:dL w a w1): ∃k x y,Dl w1 (w.heap.size+1) k x y:=by
 obtain⟨k,x,y,h1,b,h3⟩:=h.2.out;exact⟨k,x,y,b.cells⟩
theorem Dm {w:World}{p:Addr}{u:Value}{g:Nat} (h:g≠p.block):(w.setCell p u).heap[g]?=w.heap[g]?:=eC w p u g h
theorem dL.putG {w w1:World}{a:Int} (h:dL w a w1) (k x y:Int):(gS w1 (w.heap.size+1) k x y).heap[w.heap.size]?=some (.cells #[a] 3 (0,0))/\jA (gS w1 (w.heap.size+1) k x y) (w.heap.size+1) k x y/\Below w.heap.size w (gS w1 (w.heap.size+1) k x y):=by
 obtain⟨k0,x0,y0,d,b,c⟩:=h.2.out;refine⟨?_,b.put,Ju c (Nat.le_succ _)⟩;unfold gS;rw[Dm e_,Dm e_,Dm e_];exact d
theorem dL.put {w w1:World}{a:Int} (h:dL w a w1) (k x y:Int):dL w a (((w1.setCell ⟨w.heap.size+1,0,none⟩ (.int .i64 k)).setCell ⟨w.heap.size+1,1,none⟩ (.int .i64 x)).setCell ⟨w.heap.size+1,2,none⟩ (.int .i64 y)):=by
 obtain⟨b,c,d⟩:=h.putG k x y;exact dL.of ⟨k,x,y,b,c,d⟩
theorem mZ.put {w w1:World}{a:Int} (h:mZ w a w1) (k x y:Int):jA (gS w1 (w.heap.size+1) k x y) (w.heap.size+1) k x y/\Below w.heap.size w (gS w1 (w.heap.size+1) k x y):=
 ⟨h.t.put,Ju h.b (Nat.le_succ _)⟩
theorem Jz (l:List UInt8) (a:Nat) (ha:a<l.length):kL l a=((bV (l.drop a) 0).2.1+a,(bV (l.drop a) 0).2.2):=by
 unfold kL;rw[if_neg a_,Ro l a a_]
theorem Ka {u:List UInt8}{c:UInt8} (h:u.head?=some c):bK u=(match kM c with
  | some k=>(2+k,1,0)
  | none=>if jQ c then(1,cO jQ u,0) else if c=34 then(if(bV u 0).2.2=0 then(8,(bV u 0).2.1.toNat,0) else(0,(bV u 0).2.1.toNat,(bV u 0).2.2)) else
   if c=45\/dM c=true then(if(dP (u.take (cO gX u))).2=0 then(9,cO gX u,0) else(0,0,(dP (u.take (cO gX u))).2)) else
   if mC (u.take (cO gE u))=0 then(0,0,2) else(mC (u.take (cO gE u)),cO gE u,0):Nat×Nat×Int):=by
 cases u with
 | nil=>cases h
 | cons d r=>
  obtain rfl:d=c:=r_
  rfl
theorem Uf (l:List UInt8) (a:Nat) (w:World) (hs:l.length<=1048576) (ha:a<l.length) (hV:eB w) (hT:cW w):
  Calls Tryz.prog 211 #[bs l,a] w λe w'=>e=Jw (pQ l a)/\Below w.heap.size w w':=by
 have hmf: ∀(fn:Fn) (first cap:Array Value) (w:World),(Instr.makeFunc fn first cap).run Tryz.prog w= .ok (.func fn first cap) w:=λ_ _ _ _=>rfl;have sl:=aM l;obtain⟨R,D⟩:=exQ<|pQ l a;rw[D];unfold pQ at D;have ak:(bs l).extract a l.length=bs (l.drop a):=iD l a _ rfl;have o:=Jz l a ha;have E:=hid (λw hV hT=>Ho l a w a_ hV hT);obtain⟨EE,Y⟩:=exQ<|kL l a;rw[Y] at E o;obtain⟨ek,ee⟩:=EE;simp only[] at E o;have H: ∀n,(bs l).extract a (a+n)=bs ((l.drop a).take n):=λn=>by rw[gL,aQ,Nat.add_sub_cancel_left]
 obtain⟨u,hu⟩:=exQ<|l.drop a;have aq:u.length=l.length-a:=by rw[<-hu,aU]
 have hub:u.length<=1048576:=a_
 have hua:a+u.length<=l.length:=a_
 have au:0<u.length:=a_
 have su:=aM u;rw[hu] at ak D o;simp only[hu] at H;have h0:0<(bs u).size:=a_
 obtain⟨c,hc⟩: ∃c,u.head?=some c:=by cases u with | nil=>simp at au | cons c r=>exact⟨c,rfl⟩
 have ap:(((bs u)[0]'h0).toNat:Int)=(c.toNat:Int):=by
  have:=wV (bs u) h0;rw[aQ,hc] at this;rw[<-aV this]
 have HV:=hid hV;have HT:=hid hT;clear hV hT;have CI:=hid (λw=>wW ⟨#[123,125,91,93,44,58]⟩ c w);have CB:=hid (λw=>wW ⟨#[32,9,10,13]⟩ c w);rw[show (⟨#[123,125,91,93,44,58]⟩:ByteArray).data.toList= [123,125,91,93,44,58] from rfl,Ub] at CI;rw[show (⟨#[32,9,10,13]⟩:ByteArray).data.toList= [32,9,10,13] from rfl] at CB;have J:=Jv c;obtain⟨KB,ab⟩:=exQ<|Lib.indexByte [32,9,10,13] c;rw[ab] at CB J;have S:=Ud c;have B:c=34↔(c.toNat:Int)=34:=⟨λh=>by rw[h];rfl,λh=>UInt8.toNat_inj.1 (by show c.toNat=34;omega)⟩;have A:c=45↔(c.toNat:Int)=45:=⟨λh=>by rw[h];rfl,λh=>UInt8.toNat_inj.1 (by show c.toNat=45;omega)⟩;rw[Ka hc] at D;have RB:Hid (∀(X:Nat) (w:World),w.cell? ⟨X,0,none⟩=some (.string ⟨#[32,9,10,13]⟩)->Calls Tryz.prog 223 #[bs u, .func (.func 229) #[] #[some X]] w λe w'=>e= .returned (.int .i64 (cO jQ u))/\w=w'):=hid (λX w h=>Js _ X _ jQ Jv w a_ h);have RN:Hid (∀(X:Nat) (w:World),w.cell? ⟨X,0,none⟩=some (.string ⟨#[45,43,46,48,49,50,51,52,53,54,55,56,57,101,69]⟩)->Calls Tryz.prog 223 #[bs u, .func (.func 229) #[] #[some X]] w λe w'=>e= .returned (.int .i64 (cO gX u))/\w=w'):=hid (λX w h=>Js _ X _ gX Uc w a_ h);have RS:=hid (λw=>Tw u w a_);have ar:=qJ jQ u;have ao:=qJ gX u;have al:=qJ gE u;have CW:=hid (λw=>Tx (u.take (cO gE u)) w);have CP:=hid (λw=>zS (u.take (cO gX u)) w (by rw[bT];omega));have F:=Hu (u.take (cO gE u));have ef:(bs u).extract 0 (cO gE u)=bs (u.take (cO gE u)):=by rw[vG,aQ]
 have en:=H (cO gX u);obtain⟨nb,ae⟩:=exQ<|cO jQ u;obtain⟨nn,V⟩:=exQ<|cO gX u;obtain⟨ns,Z⟩:=exQ<|cO gE u;rw[ae] at RB ar D;rw[V] at RN ao CP D en;rw[Z] at RS al CW D ef F;obtain⟨wd,ad⟩:=exQ<|mC (u.take ns);obtain⟨PR,af⟩:=exQ<|dP (u.take nn);rw[ad] at CW F D;rw[af] at CP D;obtain⟨n,z⟩: ∃n:Int,(c.toNat:Int)=n:=⟨_,rfl⟩;rw[z] at CI CB S B A ap;have ha1:(a:Int)+1<=1048576:=a_
 have hab:(a:Int)+(nb:Int)<=1048576:=a_
 have han:(a:Int)+(nn:Int)<=1048576:=a_
 have has:(a:Int)+(ns:Int)<=1048576:=a_
 have P:IntKind.i64.wrap ((a:Int)+(nb:Int))=(a:Int)+(nb:Int):=by rw[IntKind.wrap_i64];omega
 have I:IntKind.i64.wrap ((a:Int)+(nn:Int))=(a:Int)+(nn:Int):=by rw[IntKind.wrap_i64];omega
 have an:=Cj u;have t:Hid (ek=a+(bV u 0).2.1.toNat/\ee=(bV u 0).2.2):=hid (by obtain⟨g1,g2⟩:=Prod.mk.inj o;exact⟨by rw[g1];omega,g2⟩);have CE:=E;have TK:=hid (λkd tw W hc=>Tz kd a tw w.heap.size W hc);have TF:=hid (λx er W=>Ua x er W);have hek:0<=ek/\ek<=1048576:=by have:=t.out.1;omega
 have HR:=hid D;have y:=hid (aK H (aK o (aK F (aK S (aK B A)))));have O:=hid (aK P I);have HB:=hid J;clear ab hu aq D H o F S B A P I J ae V Z hc ad af z Y an E;go_enter Tryz.func211,Tryz.ntmps211;go_wp2_with fail;have m:=hid (mZ.start w a);obtain⟨W0,U⟩:=exQ ((w.alloc (.cells #[a] 3)).alloc (.cells #[(0:Int),(0:Int),(0:Int)] 163));rw[U] at m ⊢;clear U;cases hsg:kM c with
 | some k=>
  have AR:=trivial;exact td
 | none=>
  have i:Hid (nU (if jQ c=true then(1,nb,0) else if c=34 then(if(bV u 0).2.2=0 then(8,(bV u 0).2.1.toNat,0) else(0,(bV u 0).2.1.toNat,(bV u 0).2.2)) else
    if c=45\/dM c=true then(if PR.2=0 then(9,nn,0) else(0,0,PR.2)) else if wd=0 then(0,0,2) else(wd,ns,0)) a=R):=hid (by
   have:=HR.out;rw[hsg] at this;exact this)
  rw[hsg] at CI;clear hsg HR;obtain⟨p0,q0,t0,t1,t2,f0,f1,f2⟩:=m.out.cells;(with_reducible refine(CI.out _).mono ?_);rintro e w' ⟨rfl,rfl⟩;go_wp2_with fail;(with_reducible refine(CB.out _).mono ?_);rintro e w' ⟨rfl,rfl⟩;by_cases hbl:jQ c=true
  ·have q:Hid (((1:Int),(a:Int),(a:Int)+(nb:Int),(0:Int))=R):=hid (by have:=i.out;rw[if_pos hbl] at this;rw[<-this];unfold nU;simp);have am:decide (0<=KB)=true:=by rw[HB.out];exact hbl
   have P:=O.out.1;clear hbl i y HB t O;clear p0 q0 t0 t1 t2 f0 f1 f2;have hS:dL w a W0:=dL.start m.out;go_upto_region 9 with fail;go_region_held3 (λw'=>dL w a w') ((first | exact dL.drew l_ | exact dL.step l_ l_ | exact dL.put l_ _ _ _ | assumption))
    (first
     | (go_at_call 224;(with_reducible refine(Jt _ _).mono ?_);rintro e w1 ⟨X,rfl,hx,Q⟩)
     | (go_at_call 223;(with_reducible refine(RB.out _ _ (by exact hx)).mono ?_);rintro e w2 ⟨rfl,rfl⟩)
     | (go_at_call 221;(with_reducible refine(TK.out _ _ _ ((by assumption:dL w a _).1)).mono ?_);rintro e w3 ⟨rfl,ah⟩;have N:dL w a w3:=dL.step l_ ah;obtain⟨k3,x3,y3,t0,t1,t2,f0,f1,f2⟩:=N.cellsE))
   have j:=hid (N.putG (1) ((a:Int)) ((a:Int)+(nb:Int)));obtain⟨WF,f⟩:=exQ<|gS w3 (w.heap.size+1) (1) ((a:Int)) ((a:Int)+(nb:Int));rw[f] at j;dsimp only[gS] at f;rw[f];clear f;clear hx Q ah N t0 t1 t2 f0 f1 f2;obtain⟨c0,c1,c2,_⟩:=j.out.2.1.cells;go_wp2_with fail;refine bodyPost_ret (v:= .tuple #[.agg #[(1:Int), .int .i64 ((a:Int)), .int .i64 ((a:Int)+(nb:Int))],(0:Int)]) ?_ rfl ⟨by rw[<-q.out];rfl,j.out.2.2⟩;exact dv
  rw[if_neg hbl] at i;have am:decide (0<=KB)=false:=by rw[HB.out];simpa using hbl
  clear HB hbl RB;by_cases h34:c=34
  ·have aj:=y.out.2.2.2.2.1.1 h34;rw[if_pos h34] at i;subst aj;by_cases he0:ee=0
   ·have AP:=trivial;exact td
   ·have AQ:=trivial;exact td
  rw[if_neg h34] at i;have t34:(n==34)=false:=aE.2 (λe=>h34 (y.out.2.2.2.2.1.2 e));by_cases s:c=45\/dM c=true
  ·have AL:=trivial;exact ss
  ·exact ss
end
section
open Go.RowKit Go.Shelf
open Go.Lib hiding intOf
abbrev Ev:=Int×Int×Int×Int
def xI (t:aN):Ev:=((t.kind:Int),(t.sf:Int),(t.st:Int),0)
def vS (o:Option (Nat×Int)):List Ev:=match o with | none=> [] | some x=> [(0,(x.1:Int),(x.1:Int),x.2)]
def lR (f:Nat) (l:List UInt8) (i:Nat):List Ev:=(eG f l i).1.map xI++vS (eG f l i).2
def kD (l:List UInt8):List Ev:=if 65536<l.length then [(0,0,0,3)] else lR l.length l 0
theorem Ug (f i:Nat):lR f [] i= []:=by unfold lR;rw[tN];rfl
theorem Uh (f:Nat) (l:List UInt8) (a:Nat) (ha:a<l.length): ∃k:Nat,(pQ l a).2.2.1=k/\k<=l.length/\((pQ l a).2.2.2=0->a<k)/\
  lR (f+1) (l.drop a) a=pQ l a::(if(pQ l a).2.2.2=0 then lR f (l.drop k) k else []):=by
 obtain⟨c,r,d⟩: ∃c r,l.drop a=c::r:=lh;have j:=congrArg List.length d;rw[aU] at j;have b:=vJ (c::r) (List.cons_ne_nil _ _);have i:pQ l a=nU (bK (c::r)) a:=by unfold pQ;rw[d]
 have e:l.drop (a+(bK (c::r)).2.1)=(c::r).drop (bK (c::r)).2.1:=by rw[<-d,jJ]
 rw[i,d];unfold lR;rw[tM];unfold nU;by_cases h:(bK (c::r)).2.2=0
 ·have h3:=b.2 h;refine⟨a+(bK (c::r)).2.1,?_,by have:=b.1;omega,λ_=>by omega,?_⟩
  ·simp only[if_pos h];omega
  ·simp only[if_pos h,if_true,e];unfold xI;simp only[oR,qK,List.cons.injEq,and_true,Prod.mk.injEq,true_and];omega
 ·refine⟨a+(bK (c::r)).2.1,?_,by have:=b.1;omega,λg=>?_,?_⟩
  ·simp only[if_neg h];omega
  ·simp only[if_neg h] at g;exact absurd g h
  ·simp only[if_neg h,List.map_nil,qM];unfold vS;simp only[List.cons.injEq,and_true,Prod.mk.injEq,true_and];omega
def xJ (x:Ev):Array Value:= #[.agg #[x.1,x.2.1,x.2.2.1],x.2.2.2]
def qQ (O:Nat) (A:World) (i:Nat):Prop:= ∃v,A.heap[O]?=some (.cells #[v] 156 (0,0))/\v.ownBlock=some i
def kV (n O:Nat) (A B:World):Prop:=Below n A B/\(∀i,qQ O B i->qQ O A i\/(A.heap.size<=i/\i<B.heap.size))/\(∀i o,A.heap[i]?=some o->o.isCells=true->i≠O-> ¬qQ O A i->B.heap[i]?=some o)
theorem kV.trans {n O:Nat}{A B C:World} (h:kV n O A B) (k:kV n O B C):kV n O A C:=by
 refine⟨h.1.trans k.1,λi j=>?_,λi o f e b c=>?_⟩
 ·rcases k.2.1 i j with d | ⟨d,g⟩
  ·rcases h.2.1 i d with a | ⟨a,l⟩
   ·exact .inl a
   ·exact .inr ⟨a,iX l k.1.size⟩
  ·exact .inr ⟨aZ h.1.size d,g⟩
 ·refine k.2.2 i o (h.2.2 i o f e b c) e b (λm=>?_);rcases h.2.1 i m with a | ⟨a,_⟩
  ·exact c a
  ·have:=(lI.1 f).1;omega
theorem kV.putObj {n O S:Nat} (hn:n<=S) (hO:O<S) (W:World) (j:Nat) (o o':Obj) (hj:S<=j) (h:W.heap[j]?=some o) (hc:o.isCells=false):kV n O W (W.putObj j o'):=by
 have a: ∀i,i≠j->(W.putObj j o').heap[i]?=W.heap[i]?:=λi c=>World.putObj_heap_other c;refine⟨(aB n W).grown (grownBy_putObj' W j o') (by have:=(lI.1 h).1;omega) (λk e=>by cases e;omega),λi c=>?_,λi o2 d b _ _=>?_⟩
 ·obtain⟨v,f,g⟩:=c;rw[a O a_] at f;exact .inl ⟨v,f,g⟩
 ·by_cases e:i=j
  ·rw[e,h] at d;cases d;rw[hc] at b;cases b
  ·rw[a i e];exact d
def nA (O X:Nat) (W:World):Prop:= ∀i,qQ O W i->X<i/\i<W.heap.size
theorem qQ.back {O:Nat}{A B:World}{i:Nat} (hb:Below A.heap.size A B) (hO:O<A.heap.size) (h:qQ O B i):qQ O A i:=by
 obtain⟨v,a,b⟩:=h;rw[hb.block O hO] at a;exact⟨v,a,b⟩
theorem nA.keep {O X:Nat}{A B:World} (h:nA O X A) (hb:Below A.heap.size A B) (hO:O<A.heap.size):nA O X B:=λi a=>by
 have:=h i (a.back hb hO);exact⟨this.1,iX this.2 hb.size⟩
theorem nA.kp {n O X:Nat}{A B:World} (h:nA O X A) (hX:X<A.heap.size) (k:kV n O A B):nA O X B:=λi c=>by
 rcases k.2.1 i c with a | ⟨a,b⟩
 ·have:=h i a;exact⟨this.1,iX this.2 k.1.size⟩
 ·exact⟨a_,b⟩
theorem Ui {A B:World} (h:Below A.heap.size A B):A.grownBy B none:=⟨h.os,h.tape,h.output,h.size,λi a _=>h.block i a⟩
theorem Uj {β:Type}{S:Nat}{J:β->World->Prop} (hJ:AbidesFrom S J) {s:β}{A B:World} (h:J s A) (hb:Below A.heap.size A B):J s B:=hJ s A B none h (Ui hb) (λr e=>by cases e)
theorem Uk (n:Nat) (hn:1<=n) (q X O S:Nat) (w0:World) (l:List UInt8) (hs:l.length<=4611686018427387904) (hV:eB w0) (hT:cW w0) (J Jx:List Ev->World->Prop) (hJ:AbidesFrom S J)
  (hY: ∀pre x W,J pre W->pre.length<(kD l).length->YieldAt Fence.wide (n-1) Tryz.prog q (xJ x) W λe W'=>
   (e= .returned (.bool true)/\J (pre++ [x]) W'/\kV w0.heap.size O W W')\/(e= .returned (.bool false)/\Jx (pre++ [x]) W'))
  (W:World) (hX:W.heap[X]?=some (.cells #[bs l] 9 (0,0))) (hO:O<W.heap.size) (hne:O≠X) (hP:nA O X W) (hB:Below w0.heap.size w0 W) (h0:J [] W):
  CallsIn Fence.wide n Tryz.prog 210 #[.func (.yield q) #[] #[],some X] W λe W'=>(∃v,e= .returned v)/\
   ((∃ys,ys=kD l/\J ys W')\/(∃pre,pre <+:kD l/\Jx pre W')):=by
 have sl:=aM l;have Q:=cell_of_one hX;refine callsIn_of_wp Tryz.func210 rfl trivial ?_ rfl;simp only[Tryz.ntmps210,List.size_toArray,bH,kS,Nat.reduceAdd,Nat.reduceSub,Array.replicate_succ,Array.replicate_zero,List.push_toArray,List.append_toArray,qM,qK];obtain⟨E,G⟩:=exQ<|kD l;rw[G] at hY ⊢;unfold kD at G;by_cases hlong:65536<l.length
 ·rw[if_pos hlong] at G;subst G;obtain⟨fn,P,C,T,N,hR⟩:=hY [] (0,0,0,3) W h0 e_;unfold xJ at N;gi_wp2;refine hR.mono ?_;rintro e W3 (⟨rfl,z,i⟩ | ⟨rfl,p⟩)
  ·gi_wp2;refine bodyPost_ret (results_none rfl _ _ _) rfl ?_;exact⟨⟨_,rfl⟩, .inl ⟨_,rfl,z⟩⟩
  ·gi_wp2;refine bodyPost_ret (results_none rfl _ _ _) rfl ?_;exact⟨⟨_,rfl⟩, .inr ⟨_,List.prefix_refl _,p⟩⟩
 ·rw [if_neg hlong] at G;have CN:=hid (λa w ha hV hT=>Uf l a w a_ ha hV hT);have HE:=hid G;have HV:=hid hV;have HT:=hid hT;have HJ:=hid (fun(s:List Ev) (A B:World) (h:J s A) (hb:Below A.heap.size A B)=>Uj hJ h hb);have HY:=hid hY;have HS:Hid (∃f,E= []++lR f (l.drop 0) 0/\l.length<=0+f):=hid ⟨l.length,by rw[<-G,List.drop_zero,qM],a_⟩;have hO':=hO;have o:Hid (J [] W/\Below w0.heap.size w0 W/\W.heap[X]?=some (.cells #[bs l] 9 (0,0))/\nA O X W):=hid ⟨h0,hB,hX,hP⟩;have hlong2:(l.length:Int)<=65536:=a_
  have dlong:decide (65536<(l.length:Int))=false:=aG a_;clear G hV hT hJ hY h0 hB hX hP;gi_wp2;gi_loopw [3] (λs3 wr=> ∃(pre:List Ev) (a:Nat),s3= .int .i64 a/\a<=l.length/\Hid (∃f,E=pre++lR f (l.drop a) a/\l.length<=a+f)/\Hid (J pre wr/\Below w0.heap.size w0 wr/\wr.heap[X]?=some (.cells #[bs l] 9 (0,0))/\nA O X wr)/\O<wr.heap.size) (λs3 wr=>l.length-(RowKit.intOf s3).toNat)
  case atStart=>exact⟨[],0,rfl,a_,HS.out,o.out,hO⟩
  case round=>
   obtain⟨pre,a,rfl,ha,HG,o,hO⟩:=hrel;have Q:=cell_of_one o.out.2.2.1;by_cases hlt:a<l.length
   ·obtain⟨x,hx⟩:=exQ<|pQ l a;have ah: ∃k:Nat,x.2.2.1=k/\k<=l.length/\(x.2.2.2=0->a<k)/\Hid (∃f,E=pre++(x::(if x.2.2.2=0 then lR f (l.drop k) k else []))/\l.length<=a+f+1):=by
     obtain⟨f,m,h2⟩:=HG.out;obtain⟨g,rfl⟩: ∃g,f=g+1:=⟨f-1,a_⟩;obtain⟨k,k1,k2,k3,k4⟩:=Uh g l a hlt;rw[hx] at k1 k3 k4;rw[k4] at m;exact⟨k,k1,k2,k3,hid ⟨g,m,a_⟩⟩
    obtain⟨k,Y,ag,b,d⟩:=ah;have u:=hid (CN.out a wr hlt (HV.out.keep o.out.2.1) (HT.out.keep o.out.2.1));rw[hx] at u;obtain⟨xk,xf,xt,xe⟩:=x;simp only[] at Y b d;subst Y;unfold Jw at u;simp only[] at u;clear HG hx;gi_wp2_with fail;refine⟨trivial,?_⟩;(with_reducible refine(callsIn_wide.2 u.out).mono ?_);rintro e w1 ⟨rfl,t⟩;have j:Below wr.heap.size wr (w1.alloc (.cells #[xk,xf,k] 163)):=aC t (aL w1 _);have y:jA (w1.alloc (.cells #[xk,xf,k] 163)) w1.heap.size xk xf k:=heap_alloc_new w1 _;obtain⟨W2,I⟩:=exQ<|w1.alloc (.cells #[xk,xf,k] 163);rw[I] at j y;obtain⟨Z,hZ⟩:=exQ<|w1.heap.size;have hOZ:O<Z:=by rw[<-hZ];exact iX hO t.size
    have ab:nA O X w1:=o.out.2.2.2.keep t hO;have H:nA O X W2:=o.out.2.2.2.keep j hO;have R: ¬qQ O W2 Z:=λhw=>by
     have af:Below w1.heap.size w1 W2:=by rw[<-I];exact aL w1 _
     have:=(ab Z (hw.back af (iX hO t.size))).2;omega
    have U:W2.heap[X]?=some (.cells #[bs l] 9 (0,0)):=(j.block X (aF o.out.2.2.1)).trans o.out.2.2.1;have ad: ¬qQ O W2 X:=λhw=>Nat.lt_irrefl _ (H X hw).1;rw[hZ] at y;have L:=HJ.out pre _ _ o.out.1 j;have K:Below w0.heap.size w0 W2:=o.out.2.1.trans (j.mono o.out.2.1.size);have ae:O<W2.heap.size:=iX hO j.size;have D:=hid (aK H (aK R (aK U (aK ad (aK K y)))));have F:pre.length<E.length:=by
     obtain⟨f,m,_⟩:=d.out;rw[m,aT,bH];omega
    obtain⟨fn,P,C,T,N,hR⟩:=HY.out pre (xk,xf,(k:Int),xe) W2 L F;obtain⟨t0,t1,t2,f0,f1,f2⟩:=y.cells;unfold xJ at N;simp only[] at N;clear L t j ab H R U ad K F o u Q y;gi_wp2_with fail;refine hR.mono ?_;clear N hR t0 t1 t2 f0 f1 f2;rintro e W3 (⟨rfl,z,i⟩ | ⟨rfl,p⟩)
    ·have V:jA W3 Z xk xf k:=i.2.2 Z _ D.out.2.2.2.2.2 rfl a_ D.out.2.1;have M:W3.heap[X]?=some (.cells #[bs l] 9 (0,0)):=i.2.2 X _ D.out.2.2.1 rfl (λe=>hne e.symm) D.out.2.2.2.1;have aj:O<W3.heap.size:=iX ae i.1.size;have aa:Hid (J (pre++ [(xk,xf,(k:Int),xe)]) W3/\Below w0.heap.size w0 W3/\W3.heap[X]?=some (.cells #[bs l] 9 (0,0))/\nA O X W3):=hid ⟨z,D.out.2.2.2.2.1.trans i.1,M,D.out.1.kp (aF D.out.2.2.1) i⟩;clear z i M D;by_cases hxe:xe=0
     ·have ai:Hid (∃f,E=(pre++ [(xk,xf,(k:Int),xe)])++lR f (l.drop k) k/\l.length<=k+f):=hid (by obtain⟨f,m,h2⟩:=d.out;rw[if_pos hxe] at m;have:=b hxe;exact⟨f,by rw[m];simp,a_⟩);have hak:=b hxe;subst hxe;clear d b;obtain⟨t0,t1,t2,f0,f1,f2⟩:=V.cells;gi_wp2_with fail;go_roundw
      case rel=>exact⟨_,k,rfl,ag,ai.out,aa.out,aj⟩
      case measure=>simp[RowKit.intOf];omega
     ·have c:E=pre++ [(xk,xf,(k:Int),xe)]:=by
       obtain⟨f,m,h2⟩:=d.out;rw[if_neg hxe] at m;exact m
      have r:=hid c;have te:(xe !=0)=true:=eF.2 hxe;clear c hxe d b V;gi_wp2_with fail;refine bodyPost_ret (results_none rfl _ _ _) rfl ?_;exact⟨⟨_,rfl⟩, .inl ⟨_,r.out.symm,aa.out.1⟩⟩
    ·have c:pre++ [(xk,xf,(k:Int),xe)] <+:E:=by
      obtain⟨f,m,h2⟩:=d.out;exact⟨_,by rw[m];simp;rfl⟩
     have r:=hid (aK c p);clear c d b D p;gi_wp2_with fail;refine bodyPost_ret (results_none rfl _ _ _) rfl ?_;exact⟨⟨_,rfl⟩, .inr ⟨_,r.out.1,r.out.2⟩⟩
   ·have c:E=pre:=by
     obtain⟨f,m,h2⟩:=HG.out;rw[List.drop_of_length_le a_,Ug,List.append_nil] at m;exact m
    have r:=hid c;clear c;gi_wp2_with fail;go_end0;exact⟨⟨_,rfl⟩, .inl ⟨_,r.out.symm,o.out.1⟩⟩
attribute [local go_sem] Oper.semAt_some
theorem Tryz.infoTok:(Tryz.prog.info? 163).map (λi=>(i.zero,i.size,i.bytes))=some (some (.agg #[(0:Int),(0:Int),(0:Int)]),3,24):=d'
theorem Ul (A:ByteArray) (w:World):
  Calls Tryz.prog 185 #[A] w λe w'=>e= .returned (.func (.func 210) #[] #[some w.heap.size])/\w'=w.alloc (.cells #[A] 9):=by
 have hmf: ∀(fn:Fn) (first cap:Array Value) (w:World),(Instr.makeFunc fn first cap).run Tryz.prog w= .ok (.func fn first cap) w:=λ_ _ _ _=>rfl;go_enter Tryz.func185,Tryz.ntmps185;exact aa
def qR (xs:List Ev):List Value:=xs.flatMap λx=> [x.1,x.2.1,x.2.2.1]
def lS (ts:List aN):List Value:=ts.flatMap λt=> [t.kind,t.sf,t.st]
theorem Um (ts:List aN):qR (ts.map xI)=lS ts:=by
 unfold qR lS;rw[List.flatMap_map];rfl
theorem Un (xs:List Ev) (x:Ev):qR (xs++ [x])=qR xs++ [.int .i64 x.1, .int .i64 x.2.1, .int .i64 x.2.2.1]:=by unfold qR;simp
def fG (B:Nat) (w:World) (v:Value) (ts:List aN):Prop:=w.ownsRow B 163 3 v ts.length (lS ts)
def Kb (r:List aN×Int×Int) (w:World) (e:Ending) (w':World):Prop:= ∃v,e= .returned (.tuple #[v,r.2.1,r.2.2])/\fG w.heap.size w' v r.1/\(r.1= []->v= .slice none 0 0)/\Below w.heap.size w w'
theorem Uo (l:List UInt8):(kD l).length<=65537:=by
 have a: ∀(f:Nat) (l:List UInt8) (i:Nat),(eG f l i).1.length<=f:=by
  intro f
  induction f with
  | zero=>intro l i;simp[eG]
  | succ f ih=>
   intro l i;cases l with
   | nil=>rw[tN];simp
   | cons c r=>
    rw[tM];split
    ·simp only[bH];have:=ih ((c::r).drop (bK (c::r)).2.1) (i+(bK (c::r)).2.1);omega
    ·simp
 unfold kD;split
 ·simp
 ·unfold lR;rw[aT,bR];have:=a l.length l 0;have h2:(vS (eG l.length l 0).2).length<=1:=by unfold vS;split<;>simp
  omega
theorem Dn {W:World}{B base n size:Nat}{t e:TypeId}{u v:Value}{xs:List Value} (hb:Boxed W B t u) (hte:t≠e) (hrow:W.ownsRow base e size v n xs) (x:Value):(W.setCell ⟨B,0,none⟩ x).ownsRow base e size v n xs:=
 hrow.kept (grownBy_setCell' W B x) (.inr (hb.not_row hte hrow).symm)
theorem Up (X:Nat) (k a b:Int):Own (fun(_:Unit) W=>jA W X k a b):=λs A B row d g c=>
 (g.block X (aF d) (λe'=>by obtain⟨o,e,f⟩:=c X e'.symm;rw[show A.heap[X]?=_ from d] at e;cases e;cases f)).trans d
theorem kV.of_below {n O:Nat}{A B:World} (hb:Below A.heap.size A B) (hn:n<=A.heap.size) (hO:O<A.heap.size):kV n O A B:=
 ⟨hb.mono hn,λi b=> .inl (b.back hb hO),λi o a _ _ _=>(hb.block i (aF a)).trans a⟩
theorem kV.push {n O:Nat}{W w1:World}{v v':Value}{tmp:Obj} (hv:Boxed W O 156 v) (hgrow:(W.alloc tmp).grownBy w1 v.ownBlock) (hv2:Boxed (w1.setCell ⟨O,0,none⟩ v') O 156 v') (hb:Below n W (w1.setCell ⟨O,0,none⟩ v'))
  (hat:v'.ownBlock=v.ownBlock\/v'.ownBlock=some (W.alloc tmp).heap.size) (hlt: ∀k,v'.ownBlock=some k->k<w1.heap.size):kV n O W (w1.setCell ⟨O,0,none⟩ v'):=by
 have hsz:(w1.setCell ⟨O,0,none⟩ v').heap.size=w1.heap.size:=by simp[World.setCell]
 refine⟨hb,λi c=>?_,λi o g hc b f=>?_⟩
 ·obtain⟨u,d,a⟩:=c;rw[show (w1.setCell ⟨O,0,none⟩ v').heap[O]?=_ from hv2] at d;simp only[cG,Obj.cells.injEq,Array.mk.injEq,List.cons.injEq,and_true,true_and] at d;subst d;rcases hat with h | h
  ·exact .inl ⟨v,hv,by rw[<-h,a]⟩
  ·rw[a,sK] at h;have:=hlt i a;simp only[cG] at h;exact .inr ⟨a_,a_⟩
 ·have c:=aF g;have e1:(w1.setCell ⟨O,0,none⟩ v').heap[i]?=w1.heap[i]?:=eC w1 ⟨O,0,none⟩ v' i b;rw[e1,hgrow.block i (by rw[sK];omega) (λe=>f ⟨v,hv,e.symm⟩),Below.heap_alloc _ _ _ c];exact g
theorem Uq (w:World) (cs:Array Value) (t:TypeId): ∀j u,cs.toList[j]?=some u->(w.alloc (.cells cs t)).cell? ((⟨w.heap.size,0,none⟩:Addr).add j)=some u:=jm
def Kc (w:World) (S:Nat) (pre:List Ev) (W:World):Prop:=(((((∃v,Boxed W (w.heap.size+3) 156 v/\W.ownsRow w.heap.size 163 3 v pre.length (qR pre)/\((∀x∈pre,x.2.2.2=0)/\(pre= []->v= .slice none 0 0)))/\Boxed W w.heap.size 156 (.slice none 0 0))/\Boxed W (w.heap.size+1) 3 (.int .i64 0))/\Boxed W (w.heap.size+2) 27 (.int .i64 0))/\(Below w.heap.size w W/\S<=W.heap.size))
def Do (w:World) (c:Code) (pre:List Ev) (W:World):Prop:=((c= .ret/\ ∃ys x,pre=ys++ [x]/\x.2.2.2≠0/\Boxed W w.heap.size 156 (.slice none 0 0)/\Boxed W (w.heap.size+1) 3 (.int .i64 x.2.1)/\Boxed W (w.heap.size+2) 27 (.int .i64 x.2.2.2)))/\Below w.heap.size w W
theorem Ur (w:World) (S B:Nat) (hB:w.heap.size<=B):OwnFrom B (Kc w S):=
 OwnFrom.and (OwnFrom.and (OwnFrom.and (OwnFrom.and (Own.from (holdsRow_own w.heap.size (w.heap.size+3) 156 163 3 (λa=>a.length) qR (λa v=>(∀x∈a,x.2.2.2=0)/\(a= []->v= .slice none 0 0))) _) (Own.from (boxed_own _ _ (λ_=>_)) _)) (Own.from (boxed_own _ _ (λ_=>_)) _)) (Own.from (boxed_own _ _ (λ_=>_)) _)) (OwnFrom.and (ownFrom_below (aD _) hB) (λ_ _ _ _ b c _=>aZ b c.size))
theorem Us (w:World) (c:Code) (B:Nat) (hB:w.heap.size<=B):OwnFrom B (Do w c):=
 OwnFrom.and (λs A B a j d b=>by obtain⟨l,ys,x,h,i,k,g,f⟩:=j;exact⟨l,ys,x,h,i,boxed_own _ _ (fun(_:Unit)=>_) () A B a k d (λr e=>(b r e).2),boxed_own _ _ (fun(_:Unit)=>_) () A B a g d (λr e=>(b r e).2),boxed_own _ _ (fun(_:Unit)=>_) () A B a f d (λr e=>(b r e).2)⟩) (ownFrom_below (aD _) hB)
theorem Ut {w W:World}{S:Nat}{Kp:World->World->Prop}{I:List Ev->World->Prop}{a:Act} (c2:Boxed W w.heap.size 156 (.slice none 0 0)) (c3:Boxed W (w.heap.size+1) 3 (.int .i64 0)) (c4:Boxed W (w.heap.size+2) 27 (.int .i64 0)) (hB:Below w.heap.size w W) (pre:List Ev) (x:Ev) (hx:x.2.2.2≠0):
  ownPostG S Kp I (Do w) (pre++ [x]) W .ret a (((W.setCell ⟨w.heap.size,0,none⟩ (.slice none 0 0)).setCell ⟨w.heap.size+1,0,none⟩ (.int .i64 x.2.1)).setCell ⟨w.heap.size+2,0,none⟩ (.int .i64 x.2.2.2)).drew:=by
 refine⟨((((KeepsOthers.setCell _ _ _).trans (KeepsOthers.setCell _ _ _)).trans (KeepsOthers.setCell _ _ _)).trans (KeepsOthers.drew _)).from _,⟨rfl,pre,x,rfl,hx,?_,?_,?_⟩,?_⟩
 ·exact(show Boxed (((W.setCell ⟨w.heap.size,0,none⟩ (.slice none 0 0)).setCell ⟨w.heap.size+1,0,none⟩ (.int .i64 x.2.1)).setCell ⟨w.heap.size+2,0,none⟩ (.int .i64 x.2.2.2)) _ _ _ from ((c2.set _).other a_ _).other a_ _)
 ·exact((c3.other a_ _).set _).other a_ _
 ·exact((c4.other a_ _).other a_ _).set _
 ·exact(((hB.setCell (p:=⟨w.heap.size,0,none⟩) (aD _) _).setCell (p:=⟨w.heap.size+1,0,none⟩) (Nat.le_succ _) _).setCell (p:=⟨w.heap.size+2,0,none⟩) EU _).drew
theorem Uu (f:Nat) (l:List UInt8) (i:Nat) (hf:l.length<=f) (h: ∀x∈lR f l i,x.2.2.2=0):(eG f l i).2=none/\lR f l i=(eG f l i).1.map xI:=by
 unfold lR at h ⊢;cases ho:(eG f l i).2 with
 | none=>exact⟨rfl,by unfold vS;simp⟩
 | some x=>
  exfalso;obtain⟨p,e⟩:=x;have:=yU f l i p e hf ho;rw[ho] at h;have a:=h (0,(p:Int),(p:Int),e) (by unfold vS;simp);exact this.2.2 a
theorem Uv (l:List UInt8) (h: ∀x∈kD l,x.2.2.2=0):(dH l).2=((l.length:Int),0)/\kD l=(dH l).1.map xI:=by
 unfold kD at h ⊢;unfold dH;by_cases hl:65536<l.length
 ·rw[if_pos hl] at h;have:=h (0,0,0,3) e_;exact absurd this b_
 ·rw[if_neg hl] at h;obtain⟨a,b⟩:=Uu l.length l 0 (aD _) h;rw[if_neg hl,if_neg hl,a];exact⟨rfl,b⟩
theorem Uw (l:List UInt8) (ys:List Ev) (x:Ev) (hp:ys++ [x] <+:kD l) (hx:x.2.2.2≠0):dH l=([],x.2.1,x.2.2.2):=by
 have a:x∈kD l:=hp.mem e_;unfold kD at a;unfold dH;by_cases hl:65536<l.length
 ·rw[if_pos hl] at a ⊢;rw[mX.1 a]
 ·rw[if_neg hl] at a;simp only[if_neg hl];unfold lR at a;rcases rT.1 a with a | a
  ·obtain⟨t,_,rfl⟩:=rQ.1 a;exact absurd rfl hx
  ·cases ho:(eG l.length l 0).2 with
   | none=>rw[ho] at a;cases a
   | some y=>
    rw[ho] at a;obtain⟨p,e⟩:=y;rw[mX.1 a]
theorem Ux (l:List UInt8) (w:World) (hs:l.length<=4611686018427387904) (hV:eB w) (hT:cW w):
  Calls Tryz.prog 150 #[bs l] w (Kb (dH l) w):=by
 have sl:=aM l;refine(callsIn_wide (n:=9)).1 ?_;refine callsIn_of_wp_marks Tryz.func150 rfl trivial ?_ rfl;simp only[Tryz.ntmps150,List.size_toArray,bH,kS,Nat.reduceAdd,Nat.reduceSub,Array.replicate_succ,Array.replicate_zero,List.push_toArray,List.append_toArray,qM,qK];gi_wp2_with fail;refine⟨trivial,?_⟩;refine(callsIn_wide.2 (Ul _ _)).mono ?_;rintro e w' ⟨rfl,rfl⟩;gi_wp2_with fail;obtain⟨W0,f⟩:=exQ (((((w.alloc (.cells #[()] 156)).alloc (.cells #[(0:Int)] 3)).alloc (.cells #[(0:Int)] 27)).alloc (.cells #[()] 156)).alloc (.cells #[bs l] 9));have b2:Boxed W0 w.heap.size 156 (.slice none 0 0):=by rw[<-f];exact((((Boxed.new w _ _).alloc _).alloc _).alloc _).alloc _
 have b3:Boxed W0 (w.heap.size+1) 3 (.int .i64 0):=by
  have:=(((Boxed.new (w.alloc (.cells #[()] 156)) 3 (.int .i64 0)).alloc (.cells #[(0:Int)] 27)).alloc (.cells #[()] 156)).alloc (.cells #[bs l] 9);rw[sK] at this;rw[<-f];exact this
 have b4:Boxed W0 (w.heap.size+2) 27 (.int .i64 0):=by
  have:=((Boxed.new ((w.alloc (.cells #[()] 156)).alloc (.cells #[(0:Int)] 3)) 27 (.int .i64 0)).alloc (.cells #[()] 156)).alloc (.cells #[bs l] 9);exact f9
 have b5:Boxed W0 (w.heap.size+3) 156 (.slice none 0 0):=by
  have:=(Boxed.new (((w.alloc (.cells #[()] 156)).alloc (.cells #[(0:Int)] 3)).alloc (.cells #[(0:Int)] 27)) 156 (.slice none 0 0)).alloc (.cells #[bs l] 9);exact f9
 have b6:Boxed W0 (w.heap.size+4) 9 (.string (bs l)):=by
  have:=(Boxed.new ((((w.alloc (.cells #[()] 156)).alloc (.cells #[(0:Int)] 3)).alloc (.cells #[(0:Int)] 27)).alloc (.cells #[()] 156)) 9 (.string (bs l)));exact f9
 have R:Below w.heap.size w W0:=by
  rw[<-f];exact(((((aB _ w).alloc (aD _) _).alloc e_ _).alloc h_ _).alloc h_ _).alloc h_ _
 have M:W0.heap.size=w.heap.size+5:=by rw[<-f];simp
 simp only[sK,Nat.add_assoc,Nat.reduceAdd] at f ⊢;rw[f];clear f;have al:nA (w.heap.size+3) (w.heap.size+4) W0:=λi hi=>by
  obtain⟨v,L,h2⟩:=hi;rw[show W0.heap[w.heap.size+3]?=_ from b5] at L;simp only[cG,Obj.cells.injEq,Array.mk.injEq,List.cons.injEq,and_true,true_and] at L;subst L;cases h2
 refine wpIn_rangeFunc_ownH rfl a_ (gf:=210) (lb:= #[some (w.heap.size+4)]) rfl trivial (enters_of Tryz.func210 d' rfl)
  (α:=Ev) (encs:=xJ) (Kp:=kV w.heap.size (w.heap.size+3)) (S:=λys=>ys=kD l) (Sp:=λm=>m <+:kD l) (N:=(kD l).length) (w0:=W0)
  (λq J Jx W V hJ _ hY h0=>Uk 8 a_ q (w.heap.size+4) (w.heap.size+3) W.heap.size w l hs hV hT J Jx hJ hY W ((V.block _ a_).trans b6) (iX a_ V.size) a_ (al.keep V a_) (R.trans (V.mono a_)) h0)
  (λh k=>h.trans k) (λW j o o' hj ho hc _=>kV.putObj a_ a_ W j o o' hj ho hc) (aB _ _) (λ_=>rfl)
  (Kc w W0.heap.size) (Do w) (Ur w _ _ a_) (λc=>Us w c _ a_)
  ⟨⟨⟨⟨⟨_,b5,World.ownsRow_nil _ _ _ _,e_,λ_=>rfl⟩,b2⟩,b3⟩,b4⟩,R,aD _⟩
  (λx a' W=> ∃Bx,W0.heap.size<=Bx/\jA W Bx x.1 x.2.1 x.2.2.1/\a'= { tmps:= #[bs l,undef,some w.heap.size,some (w.heap.size+1),some (w.heap.size+2),some (w.heap.size+3), .pointer (some ⟨Bx,0,none⟩),x.2.2.2,bs l, .func (.func 210) #[] #[some (w.heap.size+4)], .agg #[x.1,x.2.1,x.2.2.1],x.2.2.2,undef,undef,undef,undef,undef,undef,undef,undef,undef,undef,undef,undef,undef],defers:= [] })
  (λx a' _ A B ap hs hg U=>by obtain⟨Bx,L,h2,h3⟩:=hs;exact⟨Bx,L,Up Bx _ _ _ () A B ap h2 hg (λr e=>(U r e).2),h3⟩)
  ?assign ?body ?done ?stop
 case assign=>
  rintro q m x W K ⟨⟨⟨⟨⟨v,bO,a,d⟩,c2⟩,c3⟩,c4⟩,t,G⟩ F;obtain⟨xk,xf,xt,xe⟩:=x;dsimp only[xJ];gi_wp2_with fail;refine F _ _ ((KeepsOthers.alloc _ _).from _) (kV.of_below (aL W _) t.size a_) ?_ ⟨W.heap.size,G,heap_alloc_new W _,rfl⟩;exact⟨⟨⟨⟨⟨v,bO.alloc _,a.alloc _,d⟩,c2.alloc _⟩,c3.alloc _⟩,c4.alloc _⟩,t.alloc t.size _,aZ G e_⟩
 case body=>
  rintro q m x a' W hl U ⟨⟨⟨⟨⟨v,bO,a,d⟩,c2⟩,c3⟩,c4⟩,t,G⟩ ⟨Bx,hBx,bX,rfl⟩ hlt;obtain⟨i0,aj,aa,ae,af⟩:=info_parts Tryz.infoTok;have hEl:=Uo l;obtain⟨xk,xf,xt,xe⟩:=x;simp only[] at bX;obtain⟨t0,t1,t2,f0,f1,f2⟩:=bX.cells;have ah:=bO.cell;have hfO:=bO.frozen;have HZ:=hid M;obtain⟨S,hS⟩:=exQ<|W0.heap.size;rw[hS] at HZ G ⊢;have HS:=hid hS;clear M hS;by_cases hxe:xe=0
  ·subst hxe;gi_wp2_with (gi_at_builtin;go_must (refine wpListIn_append_own_at _ rfl _ _ 156 rfl w.heap.size 163 i0 _ 3 24 Tryz.underlying156 aj aa ae af rfl b_ v m.length (qR m) rfl (a.alloc _) ⟨W.heap.size,0,none⟩ 1 1 (#[xk,xf,xt]:Array Value).toList rfl rfl (Uq _ _ _) A_ o_ a_ (by have:=t.size;simp;omega) ?_);intro v' w1 s b hnil ak;obtain⟨g',cap',rfl⟩:=ownsRow_succ s;obtain⟨I,Q,z,an,E⟩:=bO.appended b_ a t.size a_ s b;have hc1:=I.cell;have hf1:=I.frozen);refine⟨an.from _,kV.push bO b Q E ak (λk hk=>(s.lt k hk).2),?_⟩;refine⟨⟨⟨⟨⟨_,Q,?_,?_,λh=>absurd h e_⟩,((c2.alloc _).kept b (c2.not_row b_ a)).other a_ _⟩,((c3.alloc _).kept b (c3.not_row b_ a)).other a_ _⟩,((c4.alloc _).kept b (c4.not_row b_ a)).other a_ _⟩,t.trans E,aZ G E.size⟩
   ·rw[Un,aT];exact z
   ·intro y H;rcases rT.1 H with H | H
    ·exact d.1 y H
    ·rw[mX.1 H]
  ·have te:(xe !=0)=true:=eF.2 hxe;have ao:=c2.cell;have ad:=c3.cell;have Y:=c4.cell;have ab:=c2.frozen;have ai:=c3.frozen;have X:=c4.frozen;gi_wp2_with fail;gi_region
   all_goals gi_wp2
   all_goals exact Ut c2 c3 c4 t m (xk,xf,xt,xe) hxe
 case done=>
  rintro D ys W hD rfl ⟨⟨⟨⟨⟨v,bO,a,d⟩,c2⟩,c3⟩,c4⟩,t,G⟩ F;obtain⟨vp,vn,vc,rfl⟩: ∃p n c,v= .slice p n c:=by
   rcases a.2 with⟨h,_⟩ | ⟨g,cap,cur,h,_⟩
   ·exact⟨_,_,_,h⟩
   ·exact⟨_,_,_,h⟩
  have ah:=bO.cell;have ao:=c2.cell;have ad:=c3.cell;have Y:=c4.cell;have ab:=c2.frozen;have ai:=c3.frozen;have X:=c4.frozen;gi_wp2_with fail;obtain⟨am,P⟩:=Uv l d.1;have k1:KeepsOthers W (((W.setCell ⟨w.heap.size,0,none⟩ (.slice vp vn vc)).setCell ⟨w.heap.size+1,0,none⟩ (.int .i64 l.length)).setCell ⟨w.heap.size+2,0,none⟩ (.int .i64 0)):=((KeepsOthers.setCell _ _ _).trans (KeepsOthers.setCell _ _ _)).trans (KeepsOthers.setCell _ _ _);have d2:Boxed (((W.setCell ⟨w.heap.size,0,none⟩ (.slice vp vn vc)).setCell ⟨w.heap.size+1,0,none⟩ (.int .i64 l.length)).setCell ⟨w.heap.size+2,0,none⟩ (.int .i64 0)) w.heap.size 156 (.slice vp vn vc):=((c2.set _).other a_ _).other a_ _;have d3:Boxed (((W.setCell ⟨w.heap.size,0,none⟩ (.slice vp vn vc)).setCell ⟨w.heap.size+1,0,none⟩ (.int .i64 l.length)).setCell ⟨w.heap.size+2,0,none⟩ (.int .i64 0)) (w.heap.size+1) 3 (.int .i64 l.length):=((c3.other a_ _).set _).other a_ _;have d4:Boxed (((W.setCell ⟨w.heap.size,0,none⟩ (.slice vp vn vc)).setCell ⟨w.heap.size+1,0,none⟩ (.int .i64 l.length)).setCell ⟨w.heap.size+2,0,none⟩ (.int .i64 0)) (w.heap.size+2) 27 (.int .i64 0):=((c4.other a_ _).other a_ _).set _;have dB:Below w.heap.size w (((W.setCell ⟨w.heap.size,0,none⟩ (.slice vp vn vc)).setCell ⟨w.heap.size+1,0,none⟩ (.int .i64 l.length)).setCell ⟨w.heap.size+2,0,none⟩ (.int .i64 0)):=((t.setCell (p:=⟨w.heap.size,0,none⟩) (aD _) _).setCell (p:=⟨w.heap.size+1,0,none⟩) (Nat.le_succ _) _).setCell (p:=⟨w.heap.size+2,0,none⟩) EU _;have O:(((W.setCell ⟨w.heap.size,0,none⟩ (.slice vp vn vc)).setCell ⟨w.heap.size+1,0,none⟩ (.int .i64 l.length)).setCell ⟨w.heap.size+2,0,none⟩ (.int .i64 0)).ownsRow w.heap.size 163 3 (.slice vp vn vc) (kD l).length (qR (kD l)):=Dn ((c4.other a_ (.slice vp vn vc)).other a_ (.int .i64 l.length)) b_ (Dn (c3.other a_ (.slice vp vn vc)) b_ (Dn c2 b_ a (.slice vp vn vc)) (.int .i64 l.length)) (.int .i64 0);have u:=k1.same D _ F rfl;obtain⟨W3,ag⟩:=exQ (((W.setCell ⟨w.heap.size,0,none⟩ (.slice vp vn vc)).setCell ⟨w.heap.size+1,0,none⟩ (.int .i64 l.length)).setCell ⟨w.heap.size+2,0,none⟩ (.int .i64 0));rw[ag] at d2 d3 d4 dB O u ⊢;refine⟨e_, .inl ⟨_,_,rfl,run_takeDeferred u,?_⟩⟩;have Z:w.heap.size+5<=D:=a_
  have g2:=(d2.kept (grownBy_putObj' W3 D (.deferred none)) h_).cell;have g3:=(d3.kept (grownBy_putObj' W3 D (.deferred none)) h_).cell;have g4:=(d4.kept (grownBy_putObj' W3 D (.deferred none)) h_).cell;have z:=ownsRow_putObj O (.deferred none) u rfl;have C:Below w.heap.size w (W3.putObj D (.deferred none)):=dB.trans (belowK_b (w:=w) (aD _) W3 D _ _ a_ u rfl rfl);refine⟨.tuple #[.slice vp vn vc,l.length,(0:Int)],?_,?_⟩
  ·simp[results,Tryz.results150,go_sem,g2,g3,g4]
  ·rw[P,Um,bR] at z;refine⟨_,by rw[am],z,λh0=>d.2 (by rw[P,h0];rfl),C⟩
 case stop=>
  rintro D c m W hD T ⟨⟨rfl,ys,x,rfl,hx,c2,c3,c4⟩,t⟩ F;gi_wp2_with fail;have U:=Uw l ys x T hx;refine⟨e_, .inl ⟨_,_,rfl,run_takeDeferred F,?_⟩⟩;have Z:w.heap.size+5<=D:=a_
  have g2:=(c2.kept (grownBy_putObj' W D (.deferred none)) h_).cell;have g3:=(c3.kept (grownBy_putObj' W D (.deferred none)) h_).cell;have g4:=(c4.kept (grownBy_putObj' W D (.deferred none)) h_).cell;have C:Below w.heap.size w (W.putObj D (.deferred none)):=t.trans (belowK_b (w:=w) (aD _) W D _ _ a_ F rfl rfl);refine⟨.tuple #[(),x.2.1,x.2.2.2],?_,?_⟩
  ·simp[results,Tryz.results150,go_sem,g2,g3,g4]
  ·rw[U];exact⟨_,rfl,World.ownsRow_nil _ _ _ _,λ_=>rfl,C⟩
end
end Go.Proofs.YtfhjncbdgjlcoaaGreatDoor
