import Derived.Test.YtfhjncbdgjlcoaaGreatDoorYn12
set_option linter.unusedVariables false
set_option linter.unusedSimpArgs false
set_option maxRecDepth 100000
set_option maxHeartbeats 4000000
namespace Go.Proofs.YtfhjncbdgjlcoaaGreatDoor
open Tryz
open Go.RowKit
open Go.Lib hiding intOf
def tP:Nat->aC->Bool
 | 0,_=>true
 | _,[]=>true
 | f+1,c::r=>if(decide ((decodeL (c::r)).1<32)||((decodeL (c::r)).1==127))=true then false else tP f ((c::r).drop (decodeL (c::r)).2)
def nK (s:aB):Bool:=tP s.length s&&validD s
def Cl (l:aC) (p:Nat) (Q:Bool):Prop:= ∃f,l.length<=p+f/\tP f (l.drop p)=Q
theorem Cl.zero (l:aC):Cl l 0 (tP l.length l):=⟨l.length,a_,by rw[List.drop_zero]⟩
theorem Cl.fin {l:aC}{p:Nat}{Q:Bool} (h:Cl l p Q) (hp:l.length<=p):Q=true:=oa
theorem Cl.rune {l:aC}{p:Nat}{Q:Bool} (h:Cl l p Q) (hp:p<l.length):
  ((bU (bs l) p<32\/bU (bs l) p=127)->Q=false)/\(¬(bU (bs l) p<32\/bU (bs l) p=127)->Cl l (p+bN (bs l) p) Q):=by
 obtain⟨f,h1,b⟩:=h;obtain⟨g,rfl⟩: ∃g,f=g+1:=⟨f-1,a_⟩;have c:=gB hp;have a:=nF (bs l) p;rw[aY] at a;rw[c] at b;rw[tP,<-c,a] at b;have e1:bU (bs l) p=((Utf8.decode (bs l) p).1:Int):=rfl;have e2:bN (bs l) p=(Utf8.decode (bs l) p).2:=rfl;rw[e1,e2];have d:=decodeL_width (l[p]'hp::l.drop (p+1));rw[<-c,a] at d;refine⟨λe=>?_,λe=>?_⟩
 .rw[if_pos] at b
  .exact b.symm
  .simp only[Bool.or_eq_true,kB,beq_iff_eq];omega
 .rw[if_neg] at b
  .rw[jO] at b;exact⟨g,a_,b⟩
  .simp only[Bool.or_eq_true,kB,beq_iff_eq];omega
def mU (w:World):Prop:=Bc w/\uJ w/\nJ w
theorem mU.keep {w w':World} (h:mU w) (hb:aA w w'):mU w':=⟨h.1.keep hb,h.2.1.keep hb,h.2.2.keep hb⟩
theorem Ye (l:aC) (w:World) (hs:l.length<=1073741824) (hV:mU w):
  Calls prog 115 #[bs l] w (aT w (.bool (nK l))):=P3
theorem Yf (x y:aB):((bs x).toList==(bs y).toList)=decide (x=y):=by
 rw[show (bs y).toList=y from by rw[Lib.toList_data,aY]];exact oE x y
theorem Yg (x y:aB):decide (bs x=bs y)=decide (x=y):=by
 rw[decide_eq_decide];exact⟨λh=>Se h,λh=>by rw[h]⟩
def nL:aB:= [63,58,44,91,93,123,125,35,38,42,33,124,62,39,34,37,64,96]
def oF (s:aB):Bool:=match s with
 | []=>false
 | c::_=>nK s&&decide (Lib.trimB s 32=s)&&!decide (0<=Lib.indexByte nL c)&&!decide (s= [45])&&!Lib.hasPrefix s [45,32]&&!Lib.hasSuffix s [58]&&!Lib.contains s [58,32]&&!Lib.contains s [32,35]
theorem Md (s:aB) (w:World) (hs:s.length<=1073741824) (hV:mU w):
  Calls prog 82 #[bs s] w (aT w (.bool (oF s))):=by
 have sl:=aP s;have C1:=Ye s w hs hV;obtain⟨R,t⟩:=exQ<|oF s;rw[t];cases s with
 | nil=>
  have y:=hid t;clear t C1;have e0:((bs ([]:aB)).toList== [])=true:=qQ [];have B:(bs ([]:aB)).toList.isEmpty=true:=pC [];go_in;go_wp2;go_ret;exact⟨by rw[<-y.out];rfl,aD _ _⟩
 | cons c r=>
  obtain⟨s,d⟩:=exQ<|c::r;have v:(nK s&&decide (Lib.trimB s 32=s)&&!decide (0<=Lib.indexByte nL c)&&!decide (s= [45])&&!Lib.hasPrefix s [45,32]&&!Lib.hasSuffix s [58]&&!Lib.contains s [58,32]&&!Lib.contains s [32,35])=R:=by
   rw[<-t,<-d];rfl
  have i:0<s.length:=by rw[<-d];simp
  have hc0:(bs s)[0]'(by rw[aP];exact i)=c:=by
   subst d;rfl
  rw[d] at hs sl C1 ⊢;have f:s≠ []:=by rw[<-d];simp
  have e0:((bs s).toList== [])=false:=by rw[qQ];cases s<;>simp at f ⊢
  have B:(bs s).toList.isEmpty=false:=by rw[pC];cases s<;>simp at f ⊢
  have e0c:decide (s= [])=false:=aJ f;clear t d;have l:=hid C1;have y:=hid v;have J:=hid hV;clear C1 v hV;have CT:Hid (∀w,Calls prog 116 #[bs s, .string ⟨#[32]⟩] w (aT w (.string (bs (Lib.trimB s 32))))):=hid (λw=>by
   have h:=strings_Trim_one (bs s) 32 b_ w a_;rw[aY] at h;refine h.mono ?_;rintro e w' ⟨rfl,rfl|rfl⟩
   .exact⟨rfl,aD _ _⟩
   .exact⟨rfl,(aD _ _).drew⟩)
  have CI:Hid (∀w,Calls prog 41 #[.string ⟨#[63,58,44,91,93,123,125,35,38,42,33,124,62,39,34,37,64,96]⟩, .int .u8 (c.toNat:Int)] w λe w'=>e= .returned (.int .i64 (Lib.indexByte nL c))/\w'=w):=hid (λw=>by have h:=strings_IndexByte ⟨#[63,58,44,91,93,123,125,35,38,42,33,124,62,39,34,37,64,96]⟩ (c.toNat:Int) w;rw[show ((c.toNat:Int).toNat.toUInt8)=c from by simp] at h;exact h);have CP:Hid (∀w,Calls prog 117 #[bs s, .string ⟨#[45,32]⟩] w λe w'=>e= .returned (.bool (Lib.hasPrefix s [45,32]))/\w'=w):=hid (λw=>by have h:=strings_HasPrefix (bs s) ⟨#[45,32]⟩ w;rw[aY] at h;exact h);have CS:Hid (∀w,Calls prog 118 #[bs s, .string ⟨#[58]⟩] w λe w'=>e= .returned (.bool (Lib.hasSuffix s [58]))/\w'=w):=hid (λw=>by have h:=strings_HasSuffix (bs s) ⟨#[58]⟩ w a_;rw[aY] at h;exact h);have CC:Hid (∀(a b:UInt8) w,mU w->Calls prog 119 #[bs s, .string ⟨#[a,b]⟩] w λe w'=>e= .returned (.bool (Lib.contains s [a,b]))/\w'=w):=hid (λa b w L=>by obtain⟨m,M⟩:=L.2.2;have h:=strings_Contains (bs s) ⟨#[a,b]⟩ m w a_ M;rw[aY] at h;exact h);have q:Hid (∀w,mU w->Calls prog 119 #[bs s, .string ⟨#[58,32]⟩] w λe w'=>e= .returned (.bool (Lib.contains s [58,32]))/\w'=w):=hid (CC.out 58 32);have o:Hid (∀w,mU w->Calls prog 119 #[bs s, .string ⟨#[32,35]⟩] w λe w'=>e= .returned (.bool (Lib.contains s [32,35]))/\w'=w):=hid (CC.out 32 35);have t1:=Yf (Lib.trimB s 32) s;have t2:=Yg (Lib.trimB s 32) s;have m1:=oE s [45];obtain⟨q1,D⟩:=exQ<|nK s;obtain⟨T,C⟩:=exQ<|Lib.trimB s 32;rw[C] at CT t1 t2;obtain⟨q2,z⟩:=exQ<|decide (T=s);obtain⟨I,G⟩:=exQ<|Lib.indexByte nL c;rw[G] at CI;obtain⟨q3,K⟩:=exQ<|decide (0<=I);obtain⟨q4,x⟩:=exQ<|decide (s= [45]);obtain⟨q5,F⟩:=exQ<|Lib.hasPrefix s [45,32];obtain⟨q6,H⟩:=exQ<|Lib.hasSuffix s [58];obtain⟨q7,E⟩:=exQ<|Lib.contains s [58,32];obtain⟨q8,A⟩:=exQ<|Lib.contains s [32,35];rw[D] at l;rw[z] at t1 t2;rw[x] at m1;rw[F] at CP;rw[H] at CS;rw[E] at q;rw[A] at o;have n:Hid ((q1&&q2&&!q3&&!q4&&!q5&&!q6&&!q7&&!q8)=R):=hid (by rw[<-y.out,D,C,z,G,K,x,F,H,E,A]);have t3:decide (s= [45])=q4:=x;clear D z x F H E A G C y CC;go_in;go_wp2_with fail;refine aH l.out λw1 u=>?_;have j:=hid u;clear u;cases q1 with
  | false=>
   go_wp2;go_ret;exact⟨by rw[<-n.out];rfl,j.out⟩
  | true =>
   go_wp2_with fail;refine aH (CT.out _) λw2 p=>?_;have g:=hid (aE j.out p);clear p;cases q2 with
   | false=>exact bh
   | true =>
    go_wp2_with fail;refine(CI.out _).mono ?_;rintro e w3 ⟨rfl,rfl⟩;cases q3 with
    | true=>exact bh
    | false=>
     cases q4 with
     | true=>exact bh
     | false=>
      go_wp2_with fail;refine(CP.out _).mono ?_;rintro e w4 ⟨rfl,rfl⟩;cases q5 with
      | true=>exact bh
      | false=>
       go_wp2_with fail;refine(CS.out _).mono ?_;rintro e w5 ⟨rfl,rfl⟩;cases q6 with
       | true=>exact bh
       | false=>
        go_wp2_with fail;refine(q.out _ (J.out.keep g.out)).mono ?_;rintro e w6 ⟨rfl,rfl⟩;cases q7 with
        | true=>exact bh
        | false=>
         go_wp2_with fail;refine(o.out _ (J.out.keep g.out)).mono ?_;rintro e w7 ⟨rfl,rfl⟩;cases q8
         all_goals exact bh
def pT:aB:= [110,117,108,108]
def pU (s:aB):Int×aB:=
 if s= []\/s=pT\/s= [126] then(1,[])
 else if s=rT\/s=rU then(2,s)
 else if(eF s).2=0 then(3,kS (eF s).1)
 else(4,s)
def tQ (s:aB):Ending:= .returned (.agg #[.int .i64 (pU s).1,bs (pU s).2,(),()])
def jI (w:World) (X:Nat) (k:Int) (t:aB):Prop:=w.heap[X]?=some (.cells #[k,bs t,(),()] 36 (0,0))
abbrev Yh (w:World) (X:Nat) (k:Int) (t:aB):Prop:=w.cell? (X,0)=some (.int .i64 k)/\w.cell? (X,1)=some (.string (bs t))/\w.cell? (X,2)=some (.slice none 0 0)/\w.cell? (X,3)=some (.slice none 0 0)/\w.frozen? ⟨X,0,none⟩=false/\w.frozen? ⟨X,1,none⟩=false/\w.frozen? ⟨X,2,none⟩=false/\w.frozen? ⟨X,3,none⟩=false
theorem jI.cells {w:World}{X:Nat}{k:Int}{t:aB} (h:jI w X k t):Yh w X k t:=by
 unfold jI at h;refine⟨?_,?_,?_,?_,?_,?_,?_,?_⟩<;>simp[World.cell?,World.frozen?,h]
theorem jI.keep {w w':World}{X:Nat}{k:Int}{t:aB} (h:jI w X k t) (hb:aA w w'):jI w' X k t:=(hb.block X (aG h)).trans h
theorem jI.new (w:World) (k:Int) (t:aB):jI (w.alloc (.cells #[k,bs t,(),()] 36)) w.heap.size k t:=heap_alloc_new w _
def mV (w:World) (X:Nat) (k:Int) (t:aB):World:=(((w.setCell ⟨X,0,none⟩ (.int .i64 k)).setCell ⟨X,1,none⟩ (.string (bs t))).setCell ⟨X,2,none⟩ (.slice none 0 0)).setCell ⟨X,3,none⟩ (.slice none 0 0)
theorem jI.put {w:World}{X:Nat}{k k2:Int}{t t2:aB} (h:jI w X k t):jI (mV w X k2 t2) X k2 t2:=by
 unfold jI at h ⊢;unfold mV;simp[World.setCell,h,Array.getElem?_modify]
theorem pV {B:Nat}{w w':World}{X:Nat}{k:Int}{t:aB} (h:Below B w w') (hX:B<=X):Below B w (mV w' X k t):=by
 unfold mV;exact fi
theorem yE (s:aB) (w:World):
  Calls prog 18 #[bs s] w (aT w (.agg #[(4:Int),bs s,(),()])):=by
 have R9:=trivial;exact PZ
theorem Yi (s:aB) (w:World) (hs:s.length<=1073741824) (hV:mU w):
  Calls prog 79 #[bs s] w λe w'=>e=tQ s/\aA w w':=by
 have QO:=trivial;exact PJ
def bD (w:World) (X:Nat) (k:Int) (t:aB) (kv iv:Value):World:=(((w.setCell ⟨X,0,none⟩ (.int .i64 k)).setCell ⟨X,1,none⟩ (.string (bs t))).setCell ⟨X,2,none⟩ kv).setCell ⟨X,3,none⟩ iv
theorem rV {B:Nat}{w w':World}{X:Nat}{k:Int}{t:aB}{kv iv:Value} (h:Below B w w') (hX:B<=X):Below B w (bD w' X k t kv iv):=by
 unfold bD;exact fi
theorem Be {w:World}{X:Nat}{k:Int}{t:aB}{kv iv:Value}{q:Nat} (hq:q≠X):(bD w X k t kv iv).heap[q]?=w.heap[q]?:=by
 unfold bD;rw[eW _ ⟨X,3,none⟩ _ q hq,eW _ ⟨X,2,none⟩ _ q hq,eW _ ⟨X,1,none⟩ _ q hq,eW _ ⟨X,0,none⟩ _ q hq]
theorem rW {w:World}{X:Nat}{k0 k:Int}{t0 t:aB}{a b kv iv:Value} (h:w.heap[X]?=some (.cells #[k0,bs t0,a,b] 36)):(bD w X k t kv iv).heap[X]?=some (.cells #[k,bs t,kv,iv] 36):=by
 unfold bD;have c:=rM h 0 (.int .i64 k);have d:=rM c 1 (.string (bs t));have e:=rM d 2 kv;exact rM e 3 iv
theorem bK {w:World}{X:Nat}{a b c e:Value} (hb:w.heap[X]?=some (.cells #[a,b,c,e] 36)):w.cell? (X,0)=some a/\w.cell? (X,1)=some b/\w.cell? (X,2)=some c/\w.cell? (X,3)=some e/\
  w.frozen? ⟨X,0,none⟩=false/\w.frozen? ⟨X,1,none⟩=false/\w.frozen? ⟨X,2,none⟩=false/\w.frozen? ⟨X,3,none⟩=false:=ox
def jJ (t:VT) (w:World) (e:Ending) (w':World):Prop:=(∃kv iv,e= .returned (vv t kv iv)/\gF w.heap.size w' t.depth t kv iv)/\Below w.heap.size w w'
theorem CS.put {W w:World}{Y R:Nat}{k:Int}{s:aB}{ks:List aB}{l:List VT}{kv ov:Value} (h:CS W Y k s ks l kv ov w) (hR:R<W.heap.size):fS (λq=>W.heap.size<=q) (bD w R k s kv ov) (VT.mk k s ks l).depth (VT.mk k s ks l) kv ov:=
 h.tree.agree (λq a _=>⟨Be a_,a⟩)
section
variable {W w w2:World}{X:Nat}{k:Int}{s:ByteArray}{kv:Value}
end
def rX (W0:World) (x:Value) (w':World):Prop:= ∃Y,x= .pointer (some ⟨Y,0,none⟩)/\W0.heap.size<=Y/\w'.heap[Y]?=some (.cells #[(0:Int),bs [],(),()] 36)
theorem rX.new {W0 w':World} (h:W0.heap.size<=w'.heap.size):rX W0 (.pointer (some ⟨w'.heap.size,0,none⟩)) (w'.alloc (.cells #[(0:Int), .string ⟨#[]⟩,(),()] 36)):=⟨_,rfl,h,heap_alloc_new w' _⟩
theorem rX.keep {W0 w' w2:World}{x:Value} (h:rX W0 x w') (hb:aA w' w2):rX W0 x w2:=ot
theorem CS.ofStore {W2 W0 w':World}{Y:Nat}{k:Int}{s:aB}{ks:List aB}{p2:Option Addr}{n2 c2:Nat} (hb:aA W2 W0) (hA:aA W0 w') (ho:bZ W0.heap.size ks (.slice p2 n2 c2) w') (hY:W0.heap.size<=Y) (hYb:w'.heap[Y]?=some (.cells #[(0:Int),bs [],(),()] 36)):CS W2 Y k s ks [] (.slice p2 n2 c2) (.slice none 0 0) (bD w' Y k s (.slice p2 n2 c2) (.slice none 0 0)):=by
 have c:some Y≠(Value.slice p2 n2 c2).ownBlock:=λe=>by
  rcases ho.2 with⟨h,_⟩ | ⟨g,cap,d,h,_,b,_⟩
  .rw[h] at e;cases e
  .rw[h] at e;injection e with e;subst e;rw[hYb] at b;exact pb
 refine⟨rW hYb,?_,c,gM.nil _ _ _,rV (aE hb hA) (bF hb.size hY),bF hb.size hY⟩;exact(ho.mono hb.size).keepB (λq _ l _=>Be (λe=>c (by rw[<-e];exact l)))
end Go.Proofs.YtfhjncbdgjlcoaaGreatDoor
