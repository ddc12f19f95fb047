import Derived.Test.YtfhjncbdgjlcoaaGreatDoorYa12
set_option maxRecDepth 100000
set_option maxHeartbeats 4000000
set_option linter.unusedVariables false
set_option linter.unusedSimpArgs false
namespace Go.Proofs.YtfhjncbdgjlcoaaGreatDoor
open Go.RowKit
open Go.Lib hiding intOf
def sS:Nat->List UInt8->Bool
 | 0,_=>true
 | _,[]=>true
 | f+1,c::r=>if(decide ((decodeL (c::r)).1<32)||((decodeL (c::r)).1==127))=true then false else sS f ((c::r).drop (decodeL (c::r)).2)
def mH (s:aA):Bool:=sS s.length s&&validD s
def Cl (l:List UInt8) (p:Nat) (Q:Bool):Prop:= ∃f,l.length<=p+f/\sS f (l.drop p)=Q
theorem Cl.zero (l:List UInt8):Cl l 0 (sS l.length l):=⟨l.length,a_,by rw[List.drop_zero]⟩
theorem Cl.fin {l:List UInt8}{p:Nat}{Q:Bool} (h:Cl l p Q) (hp:l.length<=p):Q=true:=my
theorem Cl.rune {l:List UInt8}{p:Nat}{Q:Bool} (h:Cl l p Q) (hp:p<l.length):
  ((bL (bs l) p<32\/bL (bs l) p=127)->Q=false)/\(¬(bL (bs l) p<32\/bL (bs l) p=127)->Cl l (p+bG (bs l) p) Q):=by
 obtain⟨f,h1,a⟩:=h;obtain⟨g,rfl⟩: ∃g,f=g+1:=⟨f-1,a_⟩;have c:=fL hp;have b:=mB (bs l) p;rw[aQ] at b;rw[c] at a;rw[sS,<-c,b] at a;have e1:bL (bs l) p=((Utf8.decode (bs l) p).1:Int):=rfl;have e2:bG (bs l) p=(Utf8.decode (bs l) p).2:=rfl;rw[e1,e2];have e:=decodeL_width (l[p]'hp::l.drop (p+1));rw[<-c,b] at e;refine⟨λd=>?_,λd=>?_⟩
 ·rw[if_pos] at a
  ·exact a.symm
  ·simp only[Bool.or_eq_true,jS,beq_iff_eq];omega
 ·rw[if_neg] at a
  ·rw[jJ] at a;exact⟨g,a_,a⟩
  ·simp only[Bool.or_eq_true,jS,beq_iff_eq];omega
def lT (w:World):Prop:=Af w/\tP w/\mF w
theorem lT.keep {w w':World} (h:lT w) (hb:Below w.heap.size w w'):lT w':=⟨h.1.keep hb,h.2.1.keep hb,h.2.2.keep hb⟩
theorem Wi (l:List UInt8) (w:World) (hs:l.length<=1073741824) (hV:lT w):
  Calls Tryz.prog 115 #[bs l] w λe w'=>e= .returned (.bool (mH l))/\Below w.heap.size w w':=rl
theorem Wj (x y:aA):((bs x).toList==(bs y).toList)=decide (x=y):=by
 rw[show (bs y).toList=y from by rw[Lib.toList_data,aQ]];exact nC x y
theorem Wk (x y:aA):decide (bs x=bs y)=decide (x=y):=by
 rw[decide_eq_decide];exact⟨λh=>Qj h,λh=>by rw[h]⟩
def mI:aA:= [63,58,44,91,93,123,125,35,38,42,33,124,62,39,34,37,64,96]
def nD (s:aA):Bool:=match s with
 | []=>false
 | c::_=>mH s&&decide (Lib.trimB s 32=s)&&!decide (0<=Lib.indexByte mI c)&&!decide (s= [45])&&!Lib.hasPrefix s [45,32]&&!Lib.hasSuffix s [58]&&!Lib.contains s [58,32]&&!Lib.contains s [32,35]
theorem Lb (s:aA) (w:World) (hs:s.length<=1073741824) (hV:lT w):
  Calls Tryz.prog 82 #[bs s] w λe w'=>e= .returned (.bool (nD s))/\Below w.heap.size w w':=by
 have sl:=aM s;have C1:=Wi s w hs hV;obtain⟨R,p⟩:=exQ<|nD s;rw[p];cases s with
 | nil=>
  have y:=hid p;clear p C1;have e0:((bs ([]:aA)).toList== [])=true:=pR [];have E:(bs ([]:aA)).toList.isEmpty=true:=nZ [];go_enter Tryz.func82,Tryz.ntmps82;go_wp2_with fail;go_ret;exact⟨by rw[<-y.out];rfl,aB _ _⟩
 | cons c r=>
  obtain⟨s,d⟩:=exQ<|c::r;have l:(mH s&&decide (Lib.trimB s 32=s)&&!decide (0<=Lib.indexByte mI c)&&!decide (s= [45])&&!Lib.hasPrefix s [45,32]&&!Lib.hasSuffix s [58]&&!Lib.contains s [58,32]&&!Lib.contains s [32,35])=R:=by
   rw[<-p,<-d];rfl
  have i:0<s.length:=by rw[<-d];simp
  have hc0:(bs s)[0]'(by rw[aM];exact i)=c:=by
   subst d;rfl
  rw[d] at hs sl C1 ⊢;have f:s≠ []:=by rw[<-d];simp
  have e0:((bs s).toList== [])=false:=by rw[pR];cases s<;>simp at f ⊢
  have E:(bs s).toList.isEmpty=false:=by rw[nZ];cases s<;>simp at f ⊢
  have e0c:decide (s= [])=false:=aG f;clear p d;have u:=hid C1;have y:=hid l;have J:=hid hV;clear C1 l hV;have CT:Hid (∀w,Calls Tryz.prog 116 #[bs s, .string ⟨#[32]⟩] w λe w'=>e= .returned (.string (bs (Lib.trimB s 32)))/\Below w.heap.size w w'):=hid (λw=>by
   have h:=Tryz.strings_Trim_one (bs s) 32 b_ w a_;rw[aQ] at h;refine h.mono ?_;rintro e w' ⟨rfl,rfl|rfl⟩
   ·exact⟨rfl,aB _ _⟩
   ·exact⟨rfl,(aB _ _).drew⟩)
  have CI:Hid (∀w,Calls Tryz.prog 41 #[.string ⟨#[63,58,44,91,93,123,125,35,38,42,33,124,62,39,34,37,64,96]⟩, .int .u8 (c.toNat:Int)] w λe w'=>e= .returned (.int .i64 (Lib.indexByte mI c))/\w'=w):=hid (λw=>by have h:=Tryz.strings_IndexByte ⟨#[63,58,44,91,93,123,125,35,38,42,33,124,62,39,34,37,64,96]⟩ (c.toNat:Int) w;rw[show ((c.toNat:Int).toNat.toUInt8)=c from by simp] at h;exact h);have CP:Hid (∀w,Calls Tryz.prog 117 #[bs s, .string ⟨#[45,32]⟩] w λe w'=>e= .returned (.bool (Lib.hasPrefix s [45,32]))/\w'=w):=hid (λw=>by have h:=Tryz.strings_HasPrefix (bs s) ⟨#[45,32]⟩ w;rw[aQ] at h;exact h);have CS:Hid (∀w,Calls Tryz.prog 118 #[bs s, .string ⟨#[58]⟩] w λe w'=>e= .returned (.bool (Lib.hasSuffix s [58]))/\w'=w):=hid (λw=>by have h:=Tryz.strings_HasSuffix (bs s) ⟨#[58]⟩ w a_;rw[aQ] at h;exact h);have CC:Hid (∀(a b:UInt8) w,lT w->Calls Tryz.prog 119 #[bs s, .string ⟨#[a,b]⟩] w λe w'=>e= .returned (.bool (Lib.contains s [a,b]))/\w'=w):=hid (λa b w K=>by obtain⟨m,L⟩:=K.2.2;have h:=Tryz.strings_Contains (bs s) ⟨#[a,b]⟩ m w a_ L;rw[aQ] at h;exact h);have o:Hid (∀w,lT w->Calls Tryz.prog 119 #[bs s, .string ⟨#[58,32]⟩] w λe w'=>e= .returned (.bool (Lib.contains s [58,32]))/\w'=w):=hid (CC.out 58 32);have n:Hid (∀w,lT w->Calls Tryz.prog 119 #[bs s, .string ⟨#[32,35]⟩] w λe w'=>e= .returned (.bool (Lib.contains s [32,35]))/\w'=w):=hid (CC.out 32 35);have t1:=Wj (Lib.trimB s 32) s;have t2:=Wk (Lib.trimB s 32) s;have m1:=nC s [45];obtain⟨q1,H⟩:=exQ<|mH s;obtain⟨T,D⟩:=exQ<|Lib.trimB s 32;rw[D] at CT t1 t2;obtain⟨q2,G⟩:=exQ<|decide (T=s);obtain⟨I,B⟩:=exQ<|Lib.indexByte mI c;rw[B] at CI;obtain⟨q3,M⟩:=exQ<|decide (0<=I);obtain⟨q4,x⟩:=exQ<|decide (s= [45]);obtain⟨q5,C⟩:=exQ<|Lib.hasPrefix s [45,32];obtain⟨q6,z⟩:=exQ<|Lib.hasSuffix s [58];obtain⟨q7,A⟩:=exQ<|Lib.contains s [58,32];obtain⟨q8,F⟩:=exQ<|Lib.contains s [32,35];rw[H] at u;rw[G] at t1 t2;rw[x] at m1;rw[C] at CP;rw[z] at CS;rw[A] at o;rw[F] at n;have q:Hid ((q1&&q2&&!q3&&!q4&&!q5&&!q6&&!q7&&!q8)=R):=hid (by rw[<-y.out,H,D,G,B,M,x,C,z,A,F]);have t3:decide (s= [45])=q4:=x;clear H G x C z A F B D y CC;go_enter Tryz.func82,Tryz.ntmps82;go_wp2_with fail;refine u.out.mono ?_;rintro e w1 ⟨rfl,j⟩;have v:=hid j;clear j;cases q1 with
  | false=>
   go_wp2_with fail;go_ret;exact⟨by rw[<-q.out];rfl,v.out⟩
  | true =>
   go_wp2_with fail;refine(CT.out _).mono ?_;rintro e w2 ⟨rfl,t⟩;have g:=hid (aC v.out t);clear t;cases q2 with
   | false=>exact bi
   | true =>
    go_wp2_with fail;refine(CI.out _).mono ?_;rintro e w3 ⟨rfl,rfl⟩;cases q3 with
    | true=>exact bi
    | false=>
     cases q4 with
     | true=>exact bi
     | false=>
      go_wp2_with fail;refine(CP.out _).mono ?_;rintro e w4 ⟨rfl,rfl⟩;cases q5 with
      | true=>exact bi
      | false=>
       go_wp2_with fail;refine(CS.out _).mono ?_;rintro e w5 ⟨rfl,rfl⟩;cases q6 with
       | true=>exact bi
       | false=>
        go_wp2_with fail;refine(o.out _ (J.out.keep g.out)).mono ?_;rintro e w6 ⟨rfl,rfl⟩;cases q7 with
        | true=>exact bi
        | false=>
         go_wp2_with fail;refine(n.out _ (J.out.keep g.out)).mono ?_;rintro e w7 ⟨rfl,rfl⟩;cases q8
         all_goals exact bi
def oW:aA:= [110,117,108,108]
def oZ (s:aA):Int×aA:=
 if s= []\/s=oW\/s= [126] then(1,[])
 else if s=qW\/s=qX then(2,s)
 else if(dP s).2=0 then(3,kB (dP s).1)
 else(4,s)
def sV (s:aA):Ending:= .returned (.agg #[.int .i64 (oZ s).1,bs (oZ s).2,(),()])
def iS (w:World) (X:Nat) (k:Int) (t:aA):Prop:=w.heap[X]?=some (.cells #[k,bs t,(),()] 36 (0,0))
abbrev Wl (w:World) (X:Nat) (k:Int) (t:aA):Prop:=w.cell? ⟨X,0,none⟩=some (.int .i64 k)/\w.cell? ⟨X,1,none⟩=some (.string (bs t))/\w.cell? ⟨X,2,none⟩=some (.slice none 0 0)/\w.cell? ⟨X,3,none⟩=some (.slice none 0 0)/\w.frozen? ⟨X,0,none⟩=false/\w.frozen? ⟨X,1,none⟩=false/\w.frozen? ⟨X,2,none⟩=false/\w.frozen? ⟨X,3,none⟩=false
theorem iS.cells {w:World}{X:Nat}{k:Int}{t:aA} (h:iS w X k t):Wl w X k t:=by
 unfold iS at h;refine⟨?_,?_,?_,?_,?_,?_,?_,?_⟩<;>simp[World.cell?,World.frozen?,h]
theorem iS.keep {w w':World}{X:Nat}{k:Int}{t:aA} (h:iS w X k t) (hb:Below w.heap.size w w'):iS w' X k t:=(hb.block X (aF h)).trans h
theorem iS.new (w:World) (k:Int) (t:aA):iS (w.alloc (.cells #[k,bs t,(),()] 36)) w.heap.size k t:=heap_alloc_new w _
def lU (w:World) (X:Nat) (k:Int) (t:aA):World:=(((w.setCell ⟨X,0,none⟩ (.int .i64 k)).setCell ⟨X,1,none⟩ (.string (bs t))).setCell ⟨X,2,none⟩ (.slice none 0 0)).setCell ⟨X,3,none⟩ (.slice none 0 0)
theorem iS.put {w:World}{X:Nat}{k k2:Int}{t t2:aA} (h:iS w X k t):iS (lU w X k2 t2) X k2 t2:=by
 unfold iS at h ⊢;unfold lU;simp[World.setCell,h,Array.getElem?_modify]
theorem pA {B:Nat}{w w':World}{X:Nat}{k:Int}{t:aA} (h:Below B w w') (hX:B<=X):Below B w (lU w' X k t):=by
 unfold lU;exact fd
theorem xP (s:aA) (w:World):
  Calls Tryz.prog 18 #[bs s] w λe w'=>e= .returned (.agg #[(4:Int),bs s,(),()])/\Below w.heap.size w w':=by
 have zg:=trivial;exact rh
theorem Wm (s:aA) (w:World) (hs:s.length<=1073741824) (hV:lT w):
  Calls Tryz.prog 79 #[bs s] w λe w'=>e=sV s/\Below w.heap.size w w':=by
 have vr:=trivial;exact qe
def bB (w:World) (X:Nat) (k:Int) (t:aA) (kv iv:Value):World:=(((w.setCell ⟨X,0,none⟩ (.int .i64 k)).setCell ⟨X,1,none⟩ (.string (bs t))).setCell ⟨X,2,none⟩ kv).setCell ⟨X,3,none⟩ iv
theorem uI {B:Nat}{w w':World}{X:Nat}{k:Int}{t:aA}{kv iv:Value} (h:Below B w w') (hX:B<=X):Below B w (bB w' X k t kv iv):=by
 unfold bB;exact fd
theorem Ag {w:World}{X:Nat}{k:Int}{t:aA}{kv iv:Value}{q:Nat} (hq:q≠X):(bB w X k t kv iv).heap[q]?=w.heap[q]?:=by
 unfold bB;rw[eC _ ⟨X,3,none⟩ _ q hq,eC _ ⟨X,2,none⟩ _ q hq,eC _ ⟨X,1,none⟩ _ q hq,eC _ ⟨X,0,none⟩ _ q hq]
theorem uJ {w:World}{X:Nat}{k0 k:Int}{t0 t:aA}{a b kv iv:Value} (h:w.heap[X]?=some (.cells #[k0,bs t0,a,b] 36)):(bB w X k t kv iv).heap[X]?=some (.cells #[k,bs t,kv,iv] 36):=by
 unfold bB;have c:=rZ h 0 (.int .i64 k);have d:=rZ c 1 (.string (bs t));have e:=rZ d 2 kv;exact rZ e 3 iv
theorem bJ {w:World}{X:Nat}{a b c e:Value} (hb:w.heap[X]?=some (.cells #[a,b,c,e] 36)):w.cell? ⟨X,0,none⟩=some a/\w.cell? ⟨X,1,none⟩=some b/\w.cell? ⟨X,2,none⟩=some c/\w.cell? ⟨X,3,none⟩=some e/\
  w.frozen? ⟨X,0,none⟩=false/\w.frozen? ⟨X,1,none⟩=false/\w.frozen? ⟨X,2,none⟩=false/\w.frozen? ⟨X,3,none⟩=false:=n9
def mJ (t:VT) (w:World) (e:Ending) (w':World):Prop:=(∃kv iv,e= .returned (vv t kv iv)/\fX w.heap.size w' t.depth t kv iv)/\Below w.heap.size w w'
theorem CS.put {W w:World}{Y R:Nat}{k:Int}{s:aA}{ks:List aA}{l:List VT}{kv ov:Value} (h:CS W Y k s ks l kv ov w) (hR:R<W.heap.size):fC (λq=>W.heap.size<=q) (bB w R k s kv ov) (VT.mk k s ks l).depth (VT.mk k s ks l) kv ov:=
 h.tree.agree (λq a _=>⟨Ag a_,a⟩)
section
variable {W w w2:World}{X:Nat}{k:Int}{s:ByteArray}{kv:Value}
end
def qY (W0:World) (x:Value) (w':World):Prop:= ∃Y,x= .pointer (some ⟨Y,0,none⟩)/\W0.heap.size<=Y/\w'.heap[Y]?=some (.cells #[(0:Int),bs [],(),()] 36)
theorem qY.new {W0 w':World} (h:W0.heap.size<=w'.heap.size):qY W0 (.pointer (some ⟨w'.heap.size,0,none⟩)) (w'.alloc (.cells #[(0:Int), .string ⟨#[]⟩,(),()] 36)):=⟨_,rfl,h,heap_alloc_new w' _⟩
theorem qY.keep {W0 w' w2:World}{x:Value} (h:qY W0 x w') (hb:Below w'.heap.size w' w2):qY W0 x w2:=np
theorem CS.ofStore {W2 W0 w':World}{Y:Nat}{k:Int}{s:aA}{ks:List aA}{p2:Option Addr}{n2 c2:Nat} (hb:Below W2.heap.size W2 W0) (hA:Below W0.heap.size W0 w') (ho:bP W0.heap.size ks (.slice p2 n2 c2) w') (hY:W0.heap.size<=Y) (hYb:w'.heap[Y]?=some (.cells #[(0:Int),bs [],(),()] 36)):CS W2 Y k s ks [] (.slice p2 n2 c2) (.slice none 0 0) (bB w' Y k s (.slice p2 n2 c2) (.slice none 0 0)):=by
 have c:some Y≠(Value.slice p2 n2 c2).ownBlock:=λe=>by
  rcases ho.2 with⟨h,_⟩ | ⟨g,cap,f,h,_,b,_⟩
  ·rw[h] at e;cases e
  ·rw[h] at e;injection e with e;subst e;rw[hYb] at b;exact oc
 refine⟨uJ hYb,?_,c,gB.nil _ _ _,uI (aC hb hA) (aZ hb.size hY),aZ hb.size hY⟩;exact(ho.mono hb.size).keepB (λq _ l _=>Ag (λe=>c (by rw[<-e];exact l)))
end Go.Proofs.YtfhjncbdgjlcoaaGreatDoor
