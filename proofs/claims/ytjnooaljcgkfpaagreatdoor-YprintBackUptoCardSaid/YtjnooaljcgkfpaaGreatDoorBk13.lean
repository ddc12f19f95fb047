import Derived.Test.YtjnooaljcgkfpaaGreatDoorBk11
import Derived.Test.YtjnooaljcgkfpaaGreatDoorBk12
import Derived.Lib.IndexMore
import Derived.Lib.ReplaceLaws
import Derived.Lib.SplitLaws
import Derived.Test.YtjnooaljcgkfpaaGreatDoorBk5
import Derived.Deep.RegionLaw
import Derived.Deep.RegionHeld3
import Derived.Deep.DeepCutAuto
set_option maxRecDepth 100000
set_option maxHeartbeats 4000000
namespace Go.Proofs.YtjnooaljcgkfpaaGreatDoor
set_option linter.unusedSimpArgs false
set_option linter.unusedVariables false
open Go.RowKit
open Go.Lib hiding intOf
def qC:Nat->List UInt8->Bool
 | 0,_=>true
 | _,[]=>true
 | f+1,c::r=>if(decide ((decodeL (c::r)).1<32)||((decodeL (c::r)).1==127))=true then false else qC f ((c::r).drop (decodeL (c::r)).2)
def lD (s:aA):Bool:=qC s.length s&&validD s
def Cl (l:List UInt8) (p:Nat) (Q:Bool):Prop:= ∃f,l.length<=p+f/\qC f (l.drop p)=Q
theorem Cl.zero (l:List UInt8):Cl l 0 (qC l.length l):=⟨l.length,by omega,by rw[List.drop_zero]⟩
theorem Cl.fin {l:List UInt8}{p:Nat}{Q:Bool} (h:Cl l p Q) (hp:l.length<=p):Q=true:=by
 obtain⟨f,_,a⟩:=h;rw[List.drop_of_length_le hp] at a;rw[<-a];cases f<;>rfl
theorem Cl.rune {l:List UInt8}{p:Nat}{Q:Bool} (h:Cl l p Q) (hp:p<l.length):
  ((bG (bs l) p<32\/bG (bs l) p=127)->Q=false)/\(¬(bG (bs l) p<32\/bG (bs l) p=127)->Cl l (p+bB (bs l) p) Q):=by
 obtain⟨f,h1,a⟩:=h;obtain⟨g,rfl⟩: ∃g,f=g+1:=⟨f-1,by omega⟩;have c:=iJ hp;have b:=oH (bs l) p;rw[aW] at b;rw[c] at a;rw[qC,<-c,b] at a;have e1:bG (bs l) p=((Utf8.decode (bs l) p).1:Int):=rfl;have e2:bB (bs l) p=(Utf8.decode (bs l) p).2:=rfl;rw[e1,e2];have e:=decodeL_width (l[p]'hp::l.drop (p+1));rw[<-c,b] at e;refine⟨λd=>?_,λd=>?_⟩
 ·rw[if_pos] at a
  ·exact a.symm
  ·simp only[Bool.or_eq_true,eA,beq_iff_eq];omega
 ·rw[if_neg] at a
  ·rw[lP] at a;exact⟨g,by omega,a⟩
  ·simp only[Bool.or_eq_true,eA,beq_iff_eq];omega
def dA (w:World):Prop:=lW w/\kW w/\lC w
theorem dA.keep {w w':World} (h:dA w) (hb:Below w.heap.size w w'):dA w':=⟨h.1.keep hb,h.2.1.keep hb,h.2.2.keep hb⟩
theorem Mr (l:List UInt8) (w:World) (hs:l.length<=1073741824) (hV:dA w):
  Calls Tryz.prog 53 #[.string (bs l)] w λe w'=>e= .returned (.bool (lD l))/\Below w.heap.size w w':=by
 have sl:=aQ l;obtain⟨R,q⟩:=exQ<|lD l;rw[q];unfold lD at q;have u:=hid q;have I:=hid hV;clear q hV;go_enter Tryz.func53,Tryz.ntmps53;go_wp2_with fail;go_loopw [4] (λ_ wr=> ∃p:Nat,p<=l.length/\Hid (Cl l p (qC l.length l))/\Hid (wr.heap[w.heap.size]?=some (.stringIter (bs l) p))/\Hid (Below w.heap.size w wr)) (λ_ wr=>l.length-wr.iterPos w.heap.size)
 case atStart=>exact⟨0,by omega,Cl.zero l,World.iter_heap w (bs l) 0,(aB _ _).alloc (aD _) _⟩
 case round=>
  obtain⟨p,hp,A,o,v⟩:=hrel;by_cases hlt:p<l.length
  ·have d:p<(bs l).size:=(by omega);have H:=pE (bs l) p d;have x:=rX (bs l) p;have f: ∀ty,(Instr.next (.pointer (some ⟨w.heap.size,0,none⟩)) true ty).run Tryz.prog wr= .ok (.tuple #[.bool true, .int .i64 p, .int .i32 (bG (bs l) p)]) (wr.iterAt w.heap.size (bs l) (p+bB (bs l) p)):=λty=>Lib.run_next_any_at wr _ (bs l) p ty o.out d;have g:=hid (Lib.iterAt_heap wr w.heap.size (bs l) p (p+bB (bs l) p) o.out);have c:=hid (Lib.below_iterAt v.out (aD w.heap.size) (bs l) (p+bB (bs l) p));have G:=hid (iterPos_of o.out);have j:=hid (iterPos_of g.out);obtain⟨a,b⟩:=A.out.rune hlt;obtain⟨r,E⟩:=exQ<|bG (bs l) p;obtain⟨n,B⟩:=exQ<|bB (bs l) p;rw[E] at f x a b;rw[B] at f H g c j b;clear E B;by_cases h3:r<32
   ·have h:=hid (a (.inl h3));have y:decide (r<32)=true:=aN h3;have i:Hid (R=false):=hid (by rw[<-u.out,h.out,Bool.false_and]);clear a b;go_wp2_with fail;go_ret;exact⟨by rw[i.out];rfl,c.out⟩
   ·have y:decide (r<32)=false:=aJ h3;by_cases h4:r=127
    ·have h:=hid (a (.inr h4));have t:(r==127)=true:=beq_iff_eq.2 h4;have i:Hid (R=false):=hid (by rw[<-u.out,h.out,Bool.false_and]);clear a b h4;go_wp2_with fail;go_ret;exact⟨by rw[i.out];rfl,c.out⟩
    ·have h:=hid (b (by omega));have t:(r==127)=false:=aG.2 h4;clear h4 a b;go_wp2_with fail;go_roundw
     case rel=>exact⟨p+n,by omega,h.out,g.out,c.out⟩
     case measure=>rw[j.out,G.out];omega
  ·have f: ∀ty,(Instr.next (.pointer (some ⟨w.heap.size,0,none⟩)) true ty).run Tryz.prog wr= .ok (.tuple #[.bool false]) wr:=λty=>Lib.run_next_end_at wr _ (bs l) p ty o.out (by omega);have h:=hid (A.out.fin (by omega));have i:Hid (validD l=R):=hid (by rw[<-u.out,h.out,Bool.true_and]);have C:=At (bs l) wr (by omega) (I.out.keep v.out).1.1;rw[Av,aW,i.out] at C;obtain⟨N,D⟩:=exQ<|(lO (bs l)).1;rw[D] at C;have F:=hid C;clear C D;go_wp2_with fail;refine F.out.mono ?_;rintro e w1 ⟨rfl,m⟩;have z:=hid (aC v.out m);clear m;go_wp2_with fail;go_ret;exact⟨rfl,z.out⟩
theorem aAL (x y:aA):((bs x).toList==(bs y).toList)=decide (x=y):=by
 rw[show (bs y).toList=y from by rw[Lib.toList_data,aW]];exact nZ x y
theorem aAM (x y:aA):decide (bs x=bs y)=decide (x=y):=by
 rw[decide_eq_decide];exact⟨λh=>Hx h,λh=>by rw[h]⟩
def oA:aA:= [63,58,44,91,93,123,125,35,38,42,33,124,62,39,34,37,64,96]
def fH (s:aA):Bool:=match s with
 | []=>false
 | c::_=>lD s&&decide (Lib.trimB s 32=s)&&!decide (0<=Lib.indexByte oA c)&&!decide (s= [45])&&!Lib.hasPrefix s [45,32]&&!Lib.hasSuffix s [58]&&!Lib.contains s [58,32]&&!Lib.contains s [32,35]
theorem Aw (s:aA) (w:World) (hs:s.length<=1073741824) (hV:dA w):
  Calls Tryz.prog 32 #[.string (bs s)] w λe w'=>e= .returned (.bool (fH s))/\Below w.heap.size w w':=by
 have sl:=aQ s;have C1:=Mr s w hs hV;obtain⟨R,t⟩:=exQ<|fH s;rw[t];cases s with
 | nil=>
  have u:=hid t;clear t C1;have e0:((bs ([]:aA)).toList== [])=true:=rH [];have e0b:(bs ([]:aA)).toList.isEmpty=true:=pZ [];go_enter Tryz.func32,Tryz.ntmps32;go_wp2_with fail;go_ret;exact⟨by rw[<-u.out];rfl,aB _ _⟩
 | cons c r=>
  obtain⟨s,g⟩:=exQ<|c::r;have n:(lD s&&decide (Lib.trimB s 32=s)&&!decide (0<=Lib.indexByte oA c)&&!decide (s= [45])&&!Lib.hasPrefix s [45,32]&&!Lib.hasSuffix s [58]&&!Lib.contains s [58,32]&&!Lib.contains s [32,35])=R:=by
   rw[<-t,<-g];rfl
  have j:0<s.length:=by rw[<-g];simp
  have hc0:(bs s)[0]'(by rw[aQ];exact j)=c:=by
   subst g;rfl
  rw[g] at hs sl C1 ⊢;have i:s≠ []:=by rw[<-g];simp
  have e0:((bs s).toList== [])=false:=by rw[rH];cases s<;>simp at i ⊢
  have e0b:(bs s).toList.isEmpty=false:=by rw[pZ];cases s<;>simp at i ⊢
  have e0c:decide (s= [])=false:=aJ i;clear t g;have l:=hid C1;have u:=hid n;have F:=hid hV;clear C1 n hV;have CT:Hid (∀w,Calls Tryz.prog 54 #[.string (bs s), .string ⟨#[32]⟩] w λe w'=>e= .returned (.string (bs (Lib.trimB s 32)))/\Below w.heap.size w w'):=hid (λw=>by
   have h:=Tryz.strings_Trim_one (bs s) 32 (by decide) w (by omega);rw[aW] at h;refine h.mono ?_;rintro e w' ⟨rfl,rfl|rfl⟩
   ·exact⟨rfl,aB _ _⟩
   ·exact⟨rfl,(aB _ _).drew⟩)
  have CI:Hid (∀w,Calls Tryz.prog 55 #[.string ⟨#[63,58,44,91,93,123,125,35,38,42,33,124,62,39,34,37,64,96]⟩, .int .u8 (c.toNat:Int)] w λe w'=>e= .returned (.int .i64 (Lib.indexByte oA c))/\w'=w):=hid (λw=>by have h:=Tryz.strings_IndexByte ⟨#[63,58,44,91,93,123,125,35,38,42,33,124,62,39,34,37,64,96]⟩ (c.toNat:Int) w;rw[show ((c.toNat:Int).toNat.toUInt8)=c from by simp] at h;exact h);have CP:Hid (∀w,Calls Tryz.prog 56 #[.string (bs s), .string ⟨#[45,32]⟩] w λe w'=>e= .returned (.bool (Lib.hasPrefix s [45,32]))/\w'=w):=hid (λw=>by have h:=Tryz.strings_HasPrefix (bs s) ⟨#[45,32]⟩ w;rw[aW] at h;exact h);have CS:Hid (∀w,Calls Tryz.prog 57 #[.string (bs s), .string ⟨#[58]⟩] w λe w'=>e= .returned (.bool (Lib.hasSuffix s [58]))/\w'=w):=hid (λw=>by have h:=Tryz.strings_HasSuffix (bs s) ⟨#[58]⟩ w (by omega);rw[aW] at h;exact h);have CC:Hid (∀(a b:UInt8) w,dA w->Calls Tryz.prog 58 #[.string (bs s), .string ⟨#[a,b]⟩] w λe w'=>e= .returned (.bool (Lib.contains s [a,b]))/\w'=w):=hid (λa b w H=>by obtain⟨m,G⟩:=H.2.2;have h:=Tryz.strings_Contains (bs s) ⟨#[a,b]⟩ m w (by omega) G;rw[aW] at h;exact h);have CC1:Hid (∀w,dA w->Calls Tryz.prog 58 #[.string (bs s), .string ⟨#[58,32]⟩] w λe w'=>e= .returned (.bool (Lib.contains s [58,32]))/\w'=w):=hid (CC.out 58 32);have CC2:Hid (∀w,dA w->Calls Tryz.prog 58 #[.string (bs s), .string ⟨#[32,35]⟩] w λe w'=>e= .returned (.bool (Lib.contains s [32,35]))/\w'=w):=hid (CC.out 32 35);have t1:=aAL (Lib.trimB s 32) s;have t2:=aAM (Lib.trimB s 32) s;have m1:=nZ s [45];obtain⟨q1,z⟩:=exQ<|lD s;obtain⟨T,C⟩:=exQ<|Lib.trimB s 32;rw[C] at CT t1 t2;obtain⟨q2,A⟩:=exQ<|decide (T=s);obtain⟨I,D⟩:=exQ<|Lib.indexByte oA c;rw[D] at CI;obtain⟨q3,J⟩:=exQ<|decide (0<=I);obtain⟨q4,v⟩:=exQ<|decide (s= [45]);obtain⟨q5,B⟩:=exQ<|Lib.hasPrefix s [45,32];obtain⟨q6,x⟩:=exQ<|Lib.hasSuffix s [58];obtain⟨q7,E⟩:=exQ<|Lib.contains s [58,32];obtain⟨q8,y⟩:=exQ<|Lib.contains s [32,35];rw[z] at l;rw[A] at t1 t2;rw[v] at m1;rw[B] at CP;rw[x] at CS;rw[E] at CC1;rw[y] at CC2;have f:Hid ((q1&&q2&&!q3&&!q4&&!q5&&!q6&&!q7&&!q8)=R):=hid (by rw[<-u.out,z,C,A,D,J,v,B,x,E,y]);have t3:decide (s= [45])=q4:=v;clear z A v B x E y D C u CC;go_enter Tryz.func32,Tryz.ntmps32;go_wp2_with fail;refine l.out.mono ?_;rintro e w1 ⟨rfl,q⟩;have p:=hid q;clear q;cases q1 with
  | false=>
   go_wp2_with fail;go_ret;exact⟨by rw[<-f.out];rfl,p.out⟩
  | true =>
   go_wp2_with fail;refine(CT.out _).mono ?_;rintro e w2 ⟨rfl,o⟩;have d:=hid (aC p.out o);clear o;cases q2 with
   | false=>
    go_wp2_with fail;go_ret;exact⟨by rw[<-f.out];rfl,d.out⟩
   | true =>
    go_wp2_with fail;refine(CI.out _).mono ?_;rintro e w3 ⟨rfl,rfl⟩;cases q3 with
    | true=>
     go_wp2_with fail;go_ret;exact⟨by rw[<-f.out];rfl,d.out⟩
    | false=>
     cases q4 with
     | true=>
      go_wp2_with fail;go_ret;exact⟨by rw[<-f.out];rfl,d.out⟩
     | false=>
      go_wp2_with fail;refine(CP.out _).mono ?_;rintro e w4 ⟨rfl,rfl⟩;cases q5 with
      | true=>
       go_wp2_with fail;go_ret;exact⟨by rw[<-f.out];rfl,d.out⟩
      | false=>
       go_wp2_with fail;refine(CS.out _).mono ?_;rintro e w5 ⟨rfl,rfl⟩;cases q6 with
       | true=>
        go_wp2_with fail;go_ret;exact⟨by rw[<-f.out];rfl,d.out⟩
       | false=>
        go_wp2_with fail;refine(CC1.out _ (F.out.keep d.out)).mono ?_;rintro e w6 ⟨rfl,rfl⟩;cases q7 with
        | true=>
         go_wp2_with fail;go_ret;exact⟨by rw[<-f.out];rfl,d.out⟩
        | false=>
         go_wp2_with fail;refine(CC2.out _ (F.out.keep d.out)).mono ?_;rintro e w7 ⟨rfl,rfl⟩;cases q8
         all_goals
          go_wp2_with fail;go_ret;exact⟨by rw[<-f.out];rfl,d.out⟩
def mI:aA:= [92,117,48,48,55,102]
def yA:aA:= [32,92,117,48,48,50,51]
def oB (t:aA):aA:=Lib.replaceAll t [127] mI
def nF (t:aA):aA:=Lib.replaceAll (oB t) [32,35] yA
theorem Ms (old new:aA): ∀(k:Nat) (s:aA),(Lib.replaceK old new k s).length<=s.length+k*new.length
 | 0,s=>by rw[Lib.replaceK];omega
 | k+1,s=>by
  rw[Lib.replaceK];split
  ·omega
  ·have ih:=Ms old new k (s.drop ((Lib.index s old).toNat+old.length));have h1:=Lib.index_le s old;simp only[aI,cB,aZ] at ih ⊢;have e:(k+1)*new.length=k*new.length+new.length:=(by rw[Nat.add_mul,Nat.one_mul]);rw[e];omega
theorem Mt (s old new:aA):(Lib.replaceAll s old new).length<=s.length+(s.length+1)*new.length:=by
 unfold Lib.replaceAll Lib.replace;split
 ·omega
 ·have h:=Ms old new (Lib.replaceNum s old (-1)) s;have a:Lib.replaceNum s old (-1)<=s.length+1:=by
   unfold Lib.replaceNum;rw[if_pos (.inl (by decide))];exact Lib.count_le s old
  have:=Nat.mul_le_mul_right new.length a;omega
theorem Mu (t:aA):(oB t).length<=7*t.length+6:=by
 have:=Mt t [127] mI;unfold oB;have e:mI.length=6:=rfl;rw[e] at this;omega
theorem Mv (t:aA):(nF t).length<=56*t.length+60:=by
 have:=Mt (oB t) [32,35] yA;have h:=Mu t;unfold nF;have e:yA.length=7:=rfl;rw[e] at this;omega
def vT (t:aA) (er:Int):Ending:= .returned (.tuple #[.string (bs (nF t)), .int .i64 er])
theorem Mw (t:aA) (er:Int) (w:World) (hs:t.length<=268435456) (hV:dA w):
  Calls Tryz.prog 30 #[.string (bs t), .int .i64 er] w λe w'=>e=vT t er/\Below w.heap.size w w':=by
 have sl:=aQ t;have o:=Mu t;have s1:=aQ (oB t);have C1:Calls Tryz.prog 51 #[.string (bs t), .string ⟨#[127]⟩, .string ⟨#[92,117,48,48,55,102]⟩] w λe w'=>e= .returned (.string (bs (oB t)))/\Below w.heap.size w w':=by
  obtain⟨m,i⟩:=hV.2.2;have p:=Lib.countB_le ⟨#[127]⟩ (by decide) _ (bs t) (aD _);have j:(⟨#[92,117,48,48,55,102]⟩:ByteArray).size=6:=rfl;have:=Tryz.strings_ReplaceAll (bs t) ⟨#[127]⟩ ⟨#[92,117,48,48,55,102]⟩ m w (by omega) i (by decide) (by rw[j];omega);rw[aW] at this;exact this
 have C2:Hid (∀w,dA w->Calls Tryz.prog 51 #[.string (bs (oB t)), .string ⟨#[32,35]⟩, .string ⟨#[32,92,117,48,48,50,51]⟩] w λe w'=>e= .returned (.string (bs (nF t)))/\Below w.heap.size w w'):=hid (λw n=>by obtain⟨m,i⟩:=n.2.2;have p:=Lib.countB_le ⟨#[32,35]⟩ (by decide) _ (bs (oB t)) (aD _);have j:(⟨#[32,92,117,48,48,50,51]⟩:ByteArray).size=7:=rfl;have:=Tryz.strings_ReplaceAll (bs (oB t)) ⟨#[32,35]⟩ ⟨#[32,92,117,48,48,50,51]⟩ m w (by omega) i (by decide) (by rw[j];omega);rw[aW] at this;exact this);have b:=hid C1;have l:=hid hV;clear C1 hV;unfold vT;obtain⟨A1,c⟩:=exQ<|oB t;obtain⟨A2,a⟩:=exQ<|nF t;rw[c] at b C2;rw[a] at C2;rw[a];clear c a o s1;go_enter Tryz.func30,Tryz.ntmps30;go_wp2_with fail;refine b.out.mono ?_;rintro e w1 ⟨rfl,g⟩;have f:=hid g;clear g;go_wp2_with fail;refine(C2.out _ (l.out.keep f.out)).mono ?_;rintro e w2 ⟨rfl,d⟩;have h:=hid (aC f.out d);clear d;go_wp2_with fail;go_ret2;exact⟨rfl,h.out⟩
def jS (s:aA):aA×Int:=if lD s then fR s else(nF (dZ s).1,(dZ s).2)
theorem tY (s:aA):(dZ s).1.length<=6*s.length+2:=by
 unfold dZ;split
 ·have:=(Dd s).2;simp only[aL,aI,bY];omega
 ·simp
theorem Mx (s:aA) (w:World) (hs:s.length<=33554432) (hV:dA w):
  Calls Tryz.prog 34 #[.string (bs s)] w λe w'=>e=eC (jS s)/\Below w.heap.size w w':=by
 have C1:=Mr s w (by omega) hV;have C2:Hid (∀w,dA w->Calls Tryz.prog 59 #[.string (bs s)] w λe w'=>e=eC (fR s)/\Below w.heap.size w w'):=hid (λw f=>aAq s w (by omega) f.1.1 f.2.2);have C3:Hid (∀w,dA w->Calls Tryz.prog 60 #[.string (bs s)] w λe w'=>e=Au (dZ s)/\Below w.heap.size w w'):=hid (λw f=>Mm s w (by omega) f.1.1 f.2.1);have C4:Hid (∀w,dA w->Calls Tryz.prog 30 #[.string (bs (dZ s).1), .int .i64 (dZ s).2] w λe w'=>e=vT (dZ s).1 (dZ s).2/\Below w.heap.size w w'):=hid (λw f=>Mw _ _ w (by have:=tY s;omega) f);have j:=hid hV;clear hV;unfold jS;obtain⟨q,l⟩:=exQ<|lD s;rw[l] at C1;rw[l];have h:=hid C1;clear C1 l;cases q with
 | true=>
  rw[if_pos rfl];obtain⟨Q,g⟩:=exQ<|fR s;rw[g] at C2;rw[g];obtain⟨qt,qe⟩:=Q;clear C3 C4 g;go_enter Tryz.func34,Tryz.ntmps34;go_wp2_with fail;refine h.out.mono ?_;rintro e w1 ⟨rfl,c⟩;have b:=hid c;clear c;go_wp2_with fail;refine(C2.out _ (j.out.keep b.out)).mono ?_;unfold eC;rintro e w2 ⟨rfl,a⟩;have d:=hid (aC b.out a);clear a;go_wp2_with fail;go_ret2;exact⟨rfl,d.out⟩
 | false=>
  rw[if_neg (by simp)];obtain⟨Q,g⟩:=exQ<|dZ s;rw[g] at C3 C4;rw[g];obtain⟨qt,qe⟩:=Q;simp only[] at C3 C4 ⊢;obtain⟨Z,m⟩:=exQ<|nF qt;unfold vT at C4;rw[m] at C4;rw[m];clear C2 g m;go_enter Tryz.func34,Tryz.ntmps34;go_wp2_with fail;refine h.out.mono ?_;rintro e w1 ⟨rfl,c⟩;have b:=hid c;clear c;go_wp2_with fail;refine(C3.out _ (j.out.keep b.out)).mono ?_;unfold Au;rintro e w2 ⟨rfl,a⟩;have d:=hid (aC b.out a);clear a;go_wp2_with fail;refine(C4.out _ (j.out.keep d.out)).mono ?_;rintro e w3 ⟨rfl,i⟩;have n:=hid (aC d.out i);clear i;go_wp2_with fail;go_ret2;exact⟨rfl,n.out⟩
def nG:aA:= [110,117,108,108]
def lX (s:aA):Int×aA:=
 if s= []\/s=nG\/s= [126] then(1,[])
 else if s=mG\/s=mH then(2,s)
 else if(cO s).2=0 then(3,fK (cO s).1)
 else(4,s)
def vU (s:aA):Ending:= .returned (.agg #[.int .i64 (lX s).1, .string (bs (lX s).2), .slice none 0 0, .slice none 0 0])
def jC (w:World) (X:Nat) (k:Int) (t:aA):Prop:=w.heap[X]?=some (.cells #[.int .i64 k, .string (bs t), .slice none 0 0, .slice none 0 0] 25 (0,0))
abbrev aAN (w:World) (X:Nat) (k:Int) (t:aA):Prop:=w.cell? ⟨X,0,none⟩=some (.int .i64 k)/\w.cell? ⟨X,1,none⟩=some (.string (bs t))/\w.cell? ⟨X,2,none⟩=some (.slice none 0 0)/\w.cell? ⟨X,3,none⟩=some (.slice none 0 0)/\w.frozen? ⟨X,0,none⟩=false/\w.frozen? ⟨X,1,none⟩=false/\w.frozen? ⟨X,2,none⟩=false/\w.frozen? ⟨X,3,none⟩=false
theorem jC.cells {w:World}{X:Nat}{k:Int}{t:aA} (h:jC w X k t):aAN w X k t:=by
 unfold jC at h;refine⟨?_,?_,?_,?_,?_,?_,?_,?_⟩<;>simp[World.cell?,World.frozen?,h]
theorem jC.keep {w w':World}{X:Nat}{k:Int}{t:aA} (h:jC w X k t) (hb:Below w.heap.size w w'):jC w' X k t:=(hb.block X (aE h)).trans h
theorem jC.new (w:World) (k:Int) (t:aA):jC (w.alloc (.cells #[.int .i64 k, .string (bs t), .slice none 0 0, .slice none 0 0] 25)) w.heap.size k t:=heap_alloc_new w _
def qD (w:World) (X:Nat) (k:Int) (t:aA):World:=(((w.setCell ⟨X,0,none⟩ (.int .i64 k)).setCell ⟨X,1,none⟩ (.string (bs t))).setCell ⟨X,2,none⟩ (.slice none 0 0)).setCell ⟨X,3,none⟩ (.slice none 0 0)
theorem jC.put {w:World}{X:Nat}{k k2:Int}{t t2:aA} (h:jC w X k t):jC (qD w X k2 t2) X k2 t2:=by
 unfold jC at h ⊢;unfold qD;simp[World.setCell,h,Array.getElem?_modify]
theorem vV {B:Nat}{w w':World}{X:Nat}{k:Int}{t:aA} (h:Below B w w') (hX:B<=X):Below B w (qD w' X k t):=by
 unfold qD;exact(((h.setCell (p:=⟨X,0,none⟩) hX _).setCell (p:=⟨X,1,none⟩) hX _).setCell (p:=⟨X,2,none⟩) hX _).setCell (p:=⟨X,3,none⟩) hX _
theorem yB (s:aA) (w:World):
  Calls Tryz.prog 13 #[.string (bs s)] w λe w'=>e= .returned (.agg #[.int .i64 4, .string (bs s), .slice none 0 0, .slice none 0 0])/\Below w.heap.size w w':=by
 have ba:=aH w (.cells #[.int .i64 0, .string (bs []), .slice none 0 0, .slice none 0 0] 25);have c:=jC.new w 0 [];obtain⟨W1,f⟩:=exQ<|w.alloc (.cells #[.int .i64 0, .string (bs []), .slice none 0 0, .slice none 0 0] 25);rw[f] at ba c;obtain⟨y0,y1,y2,y3,f0,f1,f2,f3⟩:=c.cells;have hW1':w.alloc (.cells #[.int .i64 0, .string ⟨#[]⟩, .slice none 0 0, .slice none 0 0] 25)=W1:=f;go_enter Tryz.func13,Tryz.ntmps13;go_wp2_with fail;clear y0 y1 y2 y3 f0 f1 f2 f3;have hP:=(c).put (k2:=4) (t2:=s);have d:=vV (k:=4) (t:=s) (ba) (aD w.heap.size);obtain⟨WF,b⟩:=exQ<|qD W1 w.heap.size 4 s;rw[b] at hP d;have a:(((W1.setCell ⟨w.heap.size,0,none⟩ (.int .i64 4)).setCell ⟨w.heap.size,1,none⟩ (.string (bs s))).setCell ⟨w.heap.size,2,none⟩ (.slice none 0 0)).setCell ⟨w.heap.size,3,none⟩ (.slice none 0 0)=WF:=b;rw[a];obtain⟨d0,d1,d2,d3,_⟩:=hP.cells;clear b a;refine bodyPost_ret (v:= .agg #[.int .i64 4, .string (bs s), .slice none 0 0, .slice none 0 0]) ?_ rfl ⟨rfl,d⟩;simp[results,Tryz.results13,go_sem,d0,d1,d2,d3]
theorem My (s:aA) (w:World) (hs:s.length<=1073741824) (hV:dA w):
  Calls Tryz.prog 33 #[.string (bs s)] w λe w'=>e=vU s/\Below w.heap.size w w':=by
 have sl:=aQ s;have ba:=aH w (.cells #[.int .i64 0, .string (bs []), .slice none 0 0, .slice none 0 0] 25);have j:=jC.new w 0 [];obtain⟨W1,x⟩:=exQ<|w.alloc (.cells #[.int .i64 0, .string (bs []), .slice none 0 0, .slice none 0 0] 25);rw[x] at ba j;have l:=hid ba;have m:=hid j;have J:=hid (hV.keep ba);obtain⟨y0,y1,y2,y3,f0,f1,f2,f3⟩:=j.cells;have hW1':w.alloc (.cells #[.int .i64 0, .string ⟨#[]⟩, .slice none 0 0, .slice none 0 0] 25)=W1:=x;have CP:=hid (λw=>xJ s w (by omega));have g:=Fa s;have m0:=nZ s [];have m1:=nZ s nG;have m2:=nZ s [126];have m3:=nZ s mG;have m4:=nZ s mH;have e0:=pZ s;unfold nG at m1;unfold mG at m3;unfold mH at m4;unfold vU lX;obtain⟨q0,D⟩:=exQ<|decide (s= []);obtain⟨q1,A⟩:=exQ<|decide (s=nG);obtain⟨q2,H⟩:=exQ<|decide (s= [126]);obtain⟨q3,B⟩:=exQ<|decide (s=mG);obtain⟨q4,C⟩:=exQ<|decide (s=mH);have m0:=m0.trans D;have m1:=m1.trans A;have m2:=m2.trans H;have m3:=m3.trans B;have m4:=m4.trans C;have n1:decide (s= [110,117,108,108])=q1:=A;have n3:decide (s= [116,114,117,101])=q3:=B;have n4:decide (s= [102,97,108,115,101])=q4:=C;have e0b:s.isEmpty=q0:=by rw[<-D];cases s<;>simp
 rw[e0b] at e0;have z0:s= []↔q0=true:=by rw[<-D];simp
 have z1:s=nG↔q1=true:=by rw[<-A];simp
 have z2:s= [126]↔q2=true:=by rw[<-H];simp
 have z3:s=mG↔q3=true:=by rw[<-B];simp
 have z4:s=mH↔q4=true:=by rw[<-C];simp
 have z:=hid (aT z0 (aT z1 (aT z2 (aT z3 z4))));clear z0 z1 z2 z3 z4 A B C hV ba j x;obtain⟨P,hP⟩:=exQ<|cO s;rw[hP] at CP g ⊢;obtain⟨n,er⟩:=P;simp only[] at g ⊢;by_cases c1:(q0||q1||q2)=true
 ·have L:Hid ((s= []\/s=nG\/s= [126])):=hid (by
   obtain⟨a0,a1,a2,_⟩:=z.out;simp only[Bool.or_eq_true] at c1;rcases c1 with(h | h) | h
   ·exact .inl (a0.2 h)
   ·exact .inr (.inl (a1.2 h))
   ·exact .inr (.inr (a2.2 h)))
  rw[if_pos L.out];cases q0<;>cases q1<;>cases q2
  ·cases c1
  all_goals
   go_enter Tryz.func33,Tryz.ntmps33;go_wp2_with fail;clear y0 y1 y2 y3 f0 f1 f2 f3;have hP:=(m.out).put (k2:=1) (t2:=([]:aA));have c:=vV (k:=1) (t:=([]:aA)) (l.out) (aD w.heap.size);obtain⟨WF,b⟩:=exQ<|qD W1 w.heap.size 1 ([]:aA);rw[b] at hP c;have a:(((W1.setCell ⟨w.heap.size,0,none⟩ (.int .i64 1)).setCell ⟨w.heap.size,1,none⟩ (.string ⟨#[]⟩)).setCell ⟨w.heap.size,2,none⟩ (.slice none 0 0)).setCell ⟨w.heap.size,3,none⟩ (.slice none 0 0)=WF:=b;rw[a];obtain⟨d0,d1,d2,d3,_⟩:=hP.cells;clear b a;refine bodyPost_ret (v:= .agg #[.int .i64 1, .string (bs ([]:aA)), .slice none 0 0, .slice none 0 0]) ?_ rfl ⟨rfl,c⟩;simp[results,Tryz.results33,go_sem,d0,d1,d2,d3]
 ·obtain⟨rfl,rfl,rfl⟩:q0=false/\q1=false/\q2=false:=by cases q0<;>cases q1<;>cases q2<;>simp at c1 ⊢
  rw[if_neg (by
   obtain⟨a0,a1,a2,_⟩:=z.out;rintro(h | h | h)
   ·exact absurd (a0.1 h) (by decide)
   ·exact absurd (a1.1 h) (by decide)
   ·exact absurd (a2.1 h) (by decide))]
  by_cases c2:(q3||q4)=true
  ·rw[if_pos (by
    obtain⟨_,_,_,a3,a4⟩:=z.out;simp only[Bool.or_eq_true] at c2;rcases c2 with h | h
    ·exact .inl (a3.2 h)
    ·exact .inr (a4.2 h))]
   cases q3<;>cases q4
   ·cases c2
   all_goals
    go_enter Tryz.func33,Tryz.ntmps33;go_wp2_with fail;clear y0 y1 y2 y3 f0 f1 f2 f3;have hP:=(m.out).put (k2:=2) (t2:=s);have c:=vV (k:=2) (t:=s) (l.out) (aD w.heap.size);obtain⟨WF,b⟩:=exQ<|qD W1 w.heap.size 2 s;rw[b] at hP c;have a:(((W1.setCell ⟨w.heap.size,0,none⟩ (.int .i64 2)).setCell ⟨w.heap.size,1,none⟩ (.string (bs s))).setCell ⟨w.heap.size,2,none⟩ (.slice none 0 0)).setCell ⟨w.heap.size,3,none⟩ (.slice none 0 0)=WF:=b;rw[a];obtain⟨d0,d1,d2,d3,_⟩:=hP.cells;clear b a;refine bodyPost_ret (v:= .agg #[.int .i64 2, .string (bs s), .slice none 0 0, .slice none 0 0]) ?_ rfl ⟨rfl,c⟩;simp[results,Tryz.results33,go_sem,d0,d1,d2,d3]
  ·obtain⟨rfl,rfl⟩:q3=false/\q4=false:=(by cases q3<;>cases q4<;>simp at c2 ⊢);rw[if_neg (by
    obtain⟨_,_,_,a3,a4⟩:=z.out;rintro(h | h)
    ·exact absurd (a3.1 h) (by decide)
    ·exact absurd (a4.1 h) (by decide))]
   clear c1 c2 z;by_cases he:er=0
   ·subst he;rw[if_pos rfl];have CT:Hid (∀w',dA w'->Calls Tryz.prog 25 #[.agg #[.bool n.neg, .string (bs n.dig), .int .i64 n.exp]] w' λe w2=>e= .returned (.string (bs (fK n)))/\Below w'.heap.size w' w2):=hid (λw' I=>Aj n w' (by have:=g rfl;omega) I.1.2);clear g;obtain⟨Z,K⟩:=exQ<|fK n;rw[K] at CT ⊢;go_enter Tryz.func33,Tryz.ntmps33;go_wp2_with fail;refine(CP.out _).mono ?_;unfold tT fQ;rintro e w2 ⟨rfl,d⟩;have u:=hid (m.out.keep d);have r:=hid (aC l.out d);have E:=hid (J.out.keep d);clear d y0 y1 y2 y3 f0 f1 f2 f3;have ba3:=aH w2 (.cells #[.bool n.neg, .string (bs n.dig), .int .i64 n.exp] 52);have G:=iT.new w2 n;obtain⟨W3,y⟩:=exQ<|w2.alloc (.cells #[.bool n.neg, .string (bs n.dig), .int .i64 n.exp] 52);rw[y] at ba3 G;obtain⟨x0,x1,x2,_⟩:=G.cells;have o:=hid (u.out.keep ba3);have q:=hid (aC r.out ba3);have F:=hid (E.out.keep ba3);clear ba3 G;go_wp2_with fail;refine(CT.out _ F.out).mono ?_;rintro e w4 ⟨rfl,f⟩;have i:=hid (o.out.keep f);have p:=hid (aC q.out f);clear f x0 x1 x2 y;obtain⟨y0,y1,y2,y3,f0,f1,f2,f3⟩:=i.out.cells;go_wp2_with fail;clear y0 y1 y2 y3 f0 f1 f2 f3;have hP:=(i.out).put (k2:=3) (t2:=Z);have c:=vV (k:=3) (t:=Z) (p.out) (aD w.heap.size);obtain⟨WF,b⟩:=exQ<|qD w4 w.heap.size 3 Z;rw[b] at hP c;have a:(((w4.setCell ⟨w.heap.size,0,none⟩ (.int .i64 3)).setCell ⟨w.heap.size,1,none⟩ (.string (bs Z))).setCell ⟨w.heap.size,2,none⟩ (.slice none 0 0)).setCell ⟨w.heap.size,3,none⟩ (.slice none 0 0)=WF:=b;rw[a];obtain⟨d0,d1,d2,d3,_⟩:=hP.cells;clear b a;refine bodyPost_ret (v:= .agg #[.int .i64 3, .string (bs Z), .slice none 0 0, .slice none 0 0]) ?_ rfl ⟨rfl,c⟩;simp[results,Tryz.results33,go_sem,d0,d1,d2,d3]
   ·rw[if_neg he];have de:(er==0)=false:=aG.2 he;have CO:=hid (λw=>yB s w);clear g;go_enter Tryz.func33,Tryz.ntmps33;go_wp2_with fail;refine(CP.out _).mono ?_;unfold tT fQ;rintro e w2 ⟨rfl,d⟩;have u:=hid (m.out.keep d);have r:=hid (aC l.out d);clear d y0 y1 y2 y3 f0 f1 f2 f3;have ba3:=aH w2 (.cells #[.bool n.neg, .string (bs n.dig), .int .i64 n.exp] 52);have o:=hid (u.out.keep ba3);have q:=hid (aC r.out ba3);clear ba3;go_wp2_with fail;refine(CO.out _).mono ?_;rintro e w4 ⟨rfl,f⟩;have i:=hid (o.out.keep f);have p:=hid (aC q.out f);clear f;obtain⟨y0,y1,y2,y3,f0,f1,f2,f3⟩:=i.out.cells;go_wp2_with fail;clear y0 y1 y2 y3 f0 f1 f2 f3;have hP:=(i.out).put (k2:=4) (t2:=s);have c:=vV (k:=4) (t:=s) (p.out) (aD w.heap.size);obtain⟨WF,b⟩:=exQ<|qD w4 w.heap.size 4 s;rw[b] at hP c;have a:(((w4.setCell ⟨w.heap.size,0,none⟩ (.int .i64 4)).setCell ⟨w.heap.size,1,none⟩ (.string (bs s))).setCell ⟨w.heap.size,2,none⟩ (.slice none 0 0)).setCell ⟨w.heap.size,3,none⟩ (.slice none 0 0)=WF:=b;rw[a];obtain⟨d0,d1,d2,d3,_⟩:=hP.cells;clear b a;refine bodyPost_ret (v:= .agg #[.int .i64 4, .string (bs s), .slice none 0 0, .slice none 0 0]) ?_ rfl ⟨rfl,c⟩;simp[results,Tryz.results33,go_sem,d0,d1,d2,d3]
def bL (w:World) (X:Nat) (k:Int) (t:aA) (kv iv:Value):World:=(((w.setCell ⟨X,0,none⟩ (.int .i64 k)).setCell ⟨X,1,none⟩ (.string (bs t))).setCell ⟨X,2,none⟩ kv).setCell ⟨X,3,none⟩ iv
theorem yC {B:Nat}{w w':World}{X:Nat}{k:Int}{t:aA}{kv iv:Value} (h:Below B w w') (hX:B<=X):Below B w (bL w' X k t kv iv):=by
 unfold bL;exact(((h.setCell (p:=⟨X,0,none⟩) hX _).setCell (p:=⟨X,1,none⟩) hX _).setCell (p:=⟨X,2,none⟩) hX _).setCell (p:=⟨X,3,none⟩) hX _
theorem Fc {w:World}{X:Nat}{k:Int}{t:aA}{kv iv:Value}{q:Nat} (hq:q≠X):(bL w X k t kv iv).heap[q]?=w.heap[q]?:=by
 unfold bL;rw[eQ _ ⟨X,3,none⟩ _ q hq,eQ _ ⟨X,2,none⟩ _ q hq,eQ _ ⟨X,1,none⟩ _ q hq,eQ _ ⟨X,0,none⟩ _ q hq]
theorem yD {w:World}{X:Nat}{k0 k:Int}{t0 t:aA}{a b kv iv:Value} (h:w.heap[X]?=some (.cells #[.int .i64 k0, .string (bs t0),a,b] 25)):(bL w X k t kv iv).heap[X]?=some (.cells #[.int .i64 k, .string (bs t),kv,iv] 25):=by
 unfold bL;have d:=tO h 0 (.int .i64 k);have e:=tO d 1 (.string (bs t));have c:=tO e 2 kv;exact tO c 3 iv
theorem cF {w:World}{X:Nat}{a b c e:Value} (hb:w.heap[X]?=some (.cells #[a,b,c,e] 25)):w.cell? ⟨X,0,none⟩=some a/\w.cell? ⟨X,1,none⟩=some b/\w.cell? ⟨X,2,none⟩=some c/\w.cell? ⟨X,3,none⟩=some e/\
  w.frozen? ⟨X,0,none⟩=false/\w.frozen? ⟨X,1,none⟩=false/\w.frozen? ⟨X,2,none⟩=false/\w.frozen? ⟨X,3,none⟩=false:=by
 refine⟨?_,?_,?_,?_,?_,?_,?_,?_⟩<;>simp[World.cell?,World.frozen?,hb]
def oQ (t:VT) (w:World) (e:Ending) (w':World):Prop:=(∃kv iv,e= .returned (vv t kv iv)/\jP w.heap.size w' t.depth t kv iv)/\Below w.heap.size w w'
theorem CS.put {W w:World}{Y R:Nat}{k:Int}{s:aA}{ks:List aA}{l:List VT}{kv ov:Value} (h:CS W Y k s ks l kv ov w) (hR:R<W.heap.size):eX (λq=>W.heap.size<=q) (bL w R k s kv ov) (VT.mk k s ks l).depth (VT.mk k s ks l) kv ov:=
 h.tree.agree (λq a _=>⟨Fc (by omega),a⟩)
section
variable {W w w2:World}{X:Nat}{k:Int}{s:ByteArray}{kv:Value}
end
def rI (W0:World) (x:Value) (w':World):Prop:= ∃Y,x= .pointer (some ⟨Y,0,none⟩)/\W0.heap.size<=Y/\w'.heap[Y]?=some (.cells #[.int .i64 0, .string (bs []), .slice none 0 0, .slice none 0 0] 25)
theorem rI.new {W0 w':World} (h:W0.heap.size<=w'.heap.size):rI W0 (.pointer (some ⟨w'.heap.size,0,none⟩)) (w'.alloc (.cells #[.int .i64 0, .string ⟨#[]⟩, .slice none 0 0, .slice none 0 0] 25)):=⟨_,rfl,h,heap_alloc_new w' _⟩
theorem rI.keep {W0 w' w2:World}{x:Value} (h:rI W0 x w') (hb:Below w'.heap.size w' w2):rI W0 x w2:=by
 obtain⟨Y,b,c,a⟩:=h;exact⟨Y,b,c,(hb.block Y (aE a)).trans a⟩
theorem CS.ofStore {W2 W0 w':World}{Y:Nat}{k:Int}{s:aA}{ks:List aA}{p2:Option Addr}{n2 c2:Nat} (hb:Below W2.heap.size W2 W0) (hA:Below W0.heap.size W0 w') (ho:bS W0.heap.size ks (.slice p2 n2 c2) w') (hY:W0.heap.size<=Y) (hYb:w'.heap[Y]?=some (.cells #[.int .i64 0, .string (bs []), .slice none 0 0, .slice none 0 0] 25)):CS W2 Y k s ks [] (.slice p2 n2 c2) (.slice none 0 0) (bL w' Y k s (.slice p2 n2 c2) (.slice none 0 0)):=by
 have b:some Y≠(Value.slice p2 n2 c2).ownBlock:=λe=>by
  rcases ho.2 with⟨h,_⟩ | ⟨g,cap,cur,h,_,a,_⟩
  ·rw[h] at e;cases e
  ·rw[h] at e;injection e with e;subst e;rw[hYb] at a;injection a with a;injection a with _ a;exact absurd a (by decide)
 refine⟨yD hYb,?_,b,fM.nil _ _ _,yC (aC hb hA) (aV hb.size hY),aV hb.size hY⟩;exact(ho.mono hb.size).keepB (λq _ c _=>Fc (λe=>b (by rw[<-e];exact c)))
end Go.Proofs.YtjnooaljcgkfpaaGreatDoor
