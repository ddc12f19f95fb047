import Derived.Test.YtfhjncbdgjlcoaaGreatDoorYa11
set_option maxRecDepth 100000
set_option maxHeartbeats 4000000
set_option linter.unusedVariables false
set_option linter.unusedSimpArgs false
namespace Go.Proofs.YtfhjncbdgjlcoaaGreatDoor
open Go.RowKit
open Go.Lib hiding intOf
theorem Ed (l:List UInt8):0<=(kL l 0).1/\(kL l 0).1<=l.length:=by
 unfold kL;rw[if_neg a_];unfold bV;by_cases h1:0<=(0:Int)/\l[(0:Int).toNat]?=some 34
 ·rw[if_pos h1];have:=(Ck (l.length+1) (l.drop ((0:Int).toNat+1)) ((0:Int).toNat+1) []).1;exact fs
 ·rw[if_neg h1];simp
theorem Ee: ∀(f:Nat) (l:List UInt8) (i:Nat) (acc:List UInt8),(i:Int)<=(jB f l i acc).2.1/\(jB f l i acc).2.1<=i+l.length
 | 0,_,_,_=>by simp[jB];omega
 | _+1,[],_,_=>by simp[jB]
 | f+1,c::r,i,acc=>by
  rw[vV];split
  ·split
   ·rename_i h;have:=Ee f (r.drop 1) (i+2) (acc++ [39]);rw[aU] at this;have h0:0<r.length:=EF;simp only[bH];omega
   ·simp only[bH];omega
  ·split
   ·simp only[bH];omega
   ·have hle:=decodeL_le (c::r) (List.cons_ne_nil _ _);have:=Ee f ((c::r).drop (decodeL (c::r)).2) (i+(decodeL (c::r)).2) (acc++(c::r).take (decodeL (c::r)).2);rw[aU] at this;omega
theorem Ef (l:List UInt8):0<=(gT l 0).2.1/\(gT l 0).2.1<=l.length:=by
 unfold gT;rw[if_neg a_];by_cases h1:l[(0:Int).toNat]?=some 39
 ·rw[if_pos h1];have:=Ee (l.length+1) (l.drop ((0:Int).toNat+1)) ((0:Int).toNat+1) [];exact mt
 ·rw[if_neg h1];simp
theorem Ai (l:List UInt8):cU l<=l.length:=by
 have h1:=Ed l;have h2:=Ef l;unfold cU
 repeat' split
 all_goals omega
theorem Eg (l:List UInt8) (w:World) (hs:l.length<=1073741824) (hV:eB w) (hT:cW w):
  Calls Tryz.prog 144 #[bs l] w λe w'=>e= .returned (.int .i64 (cU l))/\Below w.heap.size w w':=by
 have vt:=trivial;exact qv
theorem Wv (s:List UInt8) (j:Nat):Lib.occAt s [32,35] j=true↔s[j]?=some 32/\s[j+1]?=some 35:=by
 unfold Lib.occAt;have c:s[j]?=(s.drop j)[0]?:=by rw[kR,Nat.add_zero]
 have d:s[j+1]?=(s.drop j)[1]?:=by rw[kR]
 rw[c,d]
 match s.drop j with
 | []=>simp[List.isPrefixOf]
 | [a]=>simp[List.isPrefixOf]
 | a::b::r=>
  simp[List.isPrefixOf];constructor
  ·rintro⟨rfl,rfl⟩;exact⟨rfl,rfl⟩
  ·rintro⟨rfl,rfl⟩;exact⟨rfl,rfl⟩
theorem Ww (l:List UInt8) (a m:Nat) (ha:a<=l.length) (hm:m+1=max a 1) (hl:m<=l.length):
  (Lib.index (l.drop m) [32,35]= -1->dZ l a=l.length)/\(∀i:Nat,Lib.index (l.drop m) [32,35]=i->dZ l a=m+i+1/\m+i+1<=l.length):=by
 have c: ∀j,Lib.occAt (l.drop m) [32,35] j=true↔l[m+j]?=some 32/\l[m+j+1]?=some 35:=λj=>by
  rw[Wv,kR,kR];rfl
 have b: ∀i,(∀j,j<i->Lib.occAt (l.drop m) [32,35] j=false)-> ∀j,max a 1<=j->j<m+i+1-> ¬(l[j]?=some 35/\l[j-1]?=some 32):=by
  rintro i h j d f ⟨e1,e2⟩;have:=h (j-1-m) a_;have e:=(c (j-1-m)).2 ⟨by rw[show m+(j-1-m)=j-1 by omega];exact e2,by rw[show m+(j-1-m)+1=j by omega];exact e1⟩;rw[this] at e;cases e
 rcases Lib.index_spec (l.drop m) [32,35] with⟨d,f⟩ | ⟨i,d,f,e,o⟩
 ·refine⟨λ_=>Du l a l.length (aD _) (λh=>absurd h (Nat.lt_irrefl _)) (λj g1 g2=>?_),λi g=>by rw[d] at g;omega⟩;refine b (l.length-m) (λj n=>f j y_) j g1 a_
 ·refine⟨λh=>by rw[d] at h;omega,λi' g=>?_⟩;obtain rfl:i=i':=by rw[d] at g;omega
  have k:=(c i).1 e;have hlt:=(aR.1 k.2).1;refine⟨Du l a (m+i+1) a_ (λ_=>⟨a_,k.2,by rw[Nat.add_sub_cancel];exact k.1⟩) (b i (λj n=>?_)),a_⟩;exact o j n
theorem Ll (l:List UInt8) (a:Nat) (w:World) (hs:l.length<=1073741824) (ha:a<=l.length) (hM:mF w):
  Calls Tryz.prog 180 #[bs l,a] w λe w'=>e= .returned (.int .i64 (dZ l a))/\w=w':=by
 have sl:=aM l;obtain⟨M,hM⟩:=hM;obtain⟨m,J⟩: ∃m,m+1=max a 1:=⟨max a 1-1,a_⟩;have T:m<=l.length:=a_
 have v:=Ww l a m ha J T;obtain⟨X,hX⟩:=exQ<|Lib.index (l.drop m) [32,35];have r:=Lib.index_ge (l.drop m) [32,35];have CI:Hid (Calls Tryz.prog 159 #[.string ((bs l).extract m l.length), .string ⟨#[32,35]⟩] w λe w'=>e= .returned (.int .i64 X)/\w=w'):=hid (by have h:=Tryz.strings_Index ((bs l).extract m l.length) ⟨#[32,35]⟩ M w (by rw[iD _ _ _ rfl,aM,aU];omega) hM;rw[iD _ _ _ rfl,aQ,show (⟨#[32,35]⟩:ByteArray).data.toList= [32,35] from rfl,hX] at h;rw[iD _ _ _ rfl];exact h.mono λ_ _ ⟨a,b⟩=>⟨a,b.symm⟩);rw[hX] at v r;obtain⟨N,hN⟩:=exQ<|dZ l a;rw[hN] at v ⊢;have O:max ((a:Int)-1) 0=(m:Int):=a_
 clear hX hN hM;have V:(a:Int)<=(l.length:Int):=a_
 have hm0:(0:Int)<=(m:Int):=a_
 have Q:(m:Int)<=(l.length:Int):=a_
 have HM:=hid J;clear J;by_cases H:X<0
 ·have u:=hid (v.1 a_);clear v;go_enter Tryz.func180,Tryz.ntmps180;go_wp2_with (go_at_call 159;refine CI.out.mono ?_;rintro e w' ⟨rfl,rfl⟩);exact aw
 ·obtain⟨i,rfl⟩: ∃i:Nat,X=i:=⟨X.toNat,a_⟩;obtain⟨n1,n2⟩:=v.2 i rfl;have u:=hid n1;have dx:decide ((i:Int)<0)=false:=aG a_;clear v H n1;go_enter Tryz.func180,Tryz.ntmps180;go_wp2_with (go_at_call 159;refine CI.out.mono ?_;rintro e w' ⟨rfl,rfl⟩);go_ret;exact⟨mA (by rw[u.out];omega),rfl⟩
theorem Aj (l:List UInt8) (k:Nat) (h:k<l.length) (h2:k<(bs l).size):(bs l)[k]'h2=l[k]'h:=by
 have:=cK l k h2;rw[bC h] at this;exact(aV this).symm
theorem Wx (l:List UInt8) (k:Nat) (c:UInt8) (w:World) (hs:l.length<=1073741824) (hk:k<=1073741824):
  Calls Tryz.prog 179 #[bs l,k, .int .u8 (c.toNat:Int)] w λe w'=>e= .returned (.bool (gN l k c))/\w=w':=by
 have ze:=trivial;exact re
def Lm (h:Nat×Nat):Ending:= .returned (.tuple #[h.1,h.2])
theorem wA (l:List UInt8) (k:Nat) (c:UInt8) (ki ci:Int) (B:Bool) (hki:(k:Int)=ki) (hci:(c.toNat:Int)=ci) (hB:gN l k c=B) (hs:l.length<=1073741824) (hk:k<=1073741824) (w:World):
  Calls Tryz.prog 179 #[bs l,ki, .int .u8 ci] w λe w'=>e= .returned (.bool B)/\w=w':=by
 subst hki hci hB;exact Wx l k c w hs hk
theorem Ak (t:List UInt8) (c f k:Nat):qU t c (f+1) k=if c<=k then(5,0) else if gN t k 58 then(4,k) else qU t c f (k+1):=rfl
theorem Wy (l:List UInt8) (w:World) (hne:l≠ []) (hs:l.length<=1073741824) (hV:eB w) (hT:cW w) (hM:mF w):
  Calls Tryz.prog 145 #[bs l] w λe w'=>e=Lm (eO l)/\Below w.heap.size w w':=by
 have vm:=trivial;exact rc
theorem oB {w:World}{g:Nat}{t:TypeId}{cs:Array Value} (h:w.heap[g]?=some (.cells cs t (0,0))) (i:Nat):w.cell? ⟨g,i,none⟩=cs[i]?:=cell_of_row w g i cs t (0,0) h
theorem pT {w:World}{g:Nat}{t:TypeId}{cs:Array Value} (h:w.heap[g]?=some (.cells cs t (0,0))) (i:Nat):w.frozen? ⟨g,i,none⟩=false:=by
 simp[World.frozen?,h]
theorem eP {w:World}{g:Nat}{t:TypeId}{cs:Array Value} (h:w.heap[g]?=some (.cells cs t (0,0))) (i:Nat) (u:Value):(w.setCell ⟨g,i,none⟩ u).heap[g]?=some (.cells (cs.setIfInBounds i u) t (0,0)):=ai
def bF (w:World) (X:Nat) (r:aP):Prop:=w.heap[X]?=some (.cells #[r.kind,r.sf,r.st,r.ind,r.kf,r.kt,r.rf,r.rt,r.nf,r.nt] 68 (0,0))
abbrev Wz (w:World) (X:Nat) (r:aP):Prop:=
 w.cell? ⟨X,0,none⟩=some (.int .i64 r.kind)/\w.cell? ⟨X,1,none⟩=some (.int .i64 r.sf)/\w.cell? ⟨X,2,none⟩=some (.int .i64 r.st)/\w.cell? ⟨X,3,none⟩=some (.int .i64 r.ind)/\
 w.cell? ⟨X,4,none⟩=some (.int .i64 r.kf)/\w.cell? ⟨X,5,none⟩=some (.int .i64 r.kt)/\w.cell? ⟨X,6,none⟩=some (.int .i64 r.rf)/\w.cell? ⟨X,7,none⟩=some (.int .i64 r.rt)/\
 w.cell? ⟨X,8,none⟩=some (.int .i64 r.nf)/\w.cell? ⟨X,9,none⟩=some (.int .i64 r.nt)/\
 w.frozen? ⟨X,0,none⟩=false/\w.frozen? ⟨X,1,none⟩=false/\w.frozen? ⟨X,2,none⟩=false/\w.frozen? ⟨X,3,none⟩=false/\w.frozen? ⟨X,4,none⟩=false/\
 w.frozen? ⟨X,5,none⟩=false/\w.frozen? ⟨X,6,none⟩=false/\w.frozen? ⟨X,7,none⟩=false/\w.frozen? ⟨X,8,none⟩=false/\w.frozen? ⟨X,9,none⟩=false
theorem bF.cells {w:World}{X:Nat}{r:aP} (h:bF w X r):Wz w X r:=
  ⟨oB h 0,oB h 1,oB h 2,oB h 3,oB h 4,oB h 5,oB h 6,oB h 7,oB h 8,oB h 9,
   pT h 0,pT h 1,pT h 2,pT h 3,pT h 4,pT h 5,pT h 6,pT h 7,pT h 8,pT h 9⟩
theorem bF.lt {w:World}{X:Nat}{r:aP} (h:bF w X r):X<w.heap.size:=aF h
theorem bF.keep {w w':World}{X:Nat}{r:aP} (h:bF w X r) (hb:Below w.heap.size w w'):bF w' X r:=(hb.block X h.lt).trans h
theorem bF.drew {w:World}{X:Nat}{r:aP} (h:bF w X r):bF w.drew X r:=h
def lV (X:Nat) (a b:World):Prop:=a.grownBy b (some X)
theorem lV.of_below {X:Nat}{a b:World} (h:Below a.heap.size a b):lV X a b:=⟨h.os,h.tape,h.output,h.size,λi c _=>h.block i c⟩
theorem lV.set {X:Nat}{a b:World} (h:lV X a b) (i:Nat) (u:Value):lV X a (b.setCell ⟨X,i,none⟩ u):=
 ⟨h.os,h.tape,h.output,by have:=h.size;simpa [World.setCell] using this,λj d c=>(eC b ⟨X,i,none⟩ u j (by rintro rfl;exact c rfl)).trans (h.block j d c)⟩
theorem lV.drew {X:Nat}{a b:World} (h:lV X a b):lV X a b.drew:=⟨h.os,h.tape,h.output,h.size,h.block⟩
def pU (l:List UInt8) (a b:Int):Bool:=if a<0\/b<a\/(l.length:Int)<b then false else !((l.drop a.toNat).take (b-a).toNat).contains 10
theorem Xa (l:List UInt8) (c:UInt8):decide (0<=Lib.indexByte l c)=l.contains c:=(Lib.contains_iff_indexByte l c).symm
theorem Eh (l:List UInt8) (a b:Int) (w:World) (hs:l.length<=1073741824):
  Calls Tryz.prog 142 #[bs l, .agg #[a,b]] w λe w'=>e= .returned (.bool (pU l a b))/\Below w.heap.size w w':=by
 have sl:=aM l;obtain⟨R,c⟩:=exQ<|pU l a b;rw[c];unfold pU at c;by_cases h1:a<0
 ·rw[if_pos (.inl h1)] at c;exact fo
 by_cases h2:b<a
 ·rw[if_pos (.inr (.inl h2))] at c;exact fo
 by_cases h3:(l.length:Int)<b
 ·rw[if_pos (.inr (.inr h3))] at c;exact fo
 rw[if_neg a_] at c;obtain⟨x,rfl⟩: ∃x:Nat,a=x:=⟨a.toNat,a_⟩;obtain⟨y,rfl⟩: ∃y:Nat,b=y:=⟨b.toNat,a_⟩;rw[fV,show ((y:Int)-(x:Int)).toNat=y-x by omega] at c;obtain⟨B,d⟩:=exQ<|((l.drop x).take (y-x)).contains 10;have CC:Hid (∀w,Calls Tryz.prog 119 #[((bs l).extract x y), .string ⟨#[10]⟩] w λe w'=>e= .returned (.bool B)/\w=w'):=hid (λw=>by have h:=Tryz.strings_Contains_one ((bs l).extract x y) 10 w;rw[gL,aQ,aQ,Xa,d] at h;rw[gL,aQ];exact h.mono λ_ _ ⟨a,b⟩=>⟨a,b.symm⟩);rw[d] at c;have d2:decide (y<x)=false:=aG a_;have d3:decide (l.length<y)=false:=aG a_;have hxy:(x:Int)<=(y:Int):=a_
 have hyl:(y:Int)<=(l.length:Int):=a_
 clear d h1 h2 h3;subst c;go_enter Tryz.func142,Tryz.ntmps142;go_wp2_with (go_at_call 119;refine(CC.out _).mono ?_;rintro e w' ⟨rfl,rfl⟩);go_ret;exact⟨rfl,aL _ _⟩
theorem Ln (l:List UInt8) (w:World):Calls Tryz.prog 29 #[bs l, .string ⟨#[32]⟩] w λe w'=>e= .returned (.string (bs (l.drop (aX l))))/\w=w':=by
 have h:=Tryz.strings_TrimLeft_one (bs l) 32 b_ w;have e:Lib.trimLeftB (bs l).data.toList 32=l.drop (aX l):=by
  rw[aQ];unfold Lib.trimLeftB aX;have h:=List.takeWhile_append_dropWhile (p:=(· ==32)) (l:=l)
  conv=>rhs;arg 2;rw[<-h]
  exact(List.drop_left).symm
 rw[e] at h;exact av
theorem Xb (l:List UInt8) (w:World) (hs:l.length<=1073741824):Calls Tryz.prog 99 #[bs l, .string ⟨#[32]⟩] w λe w'=>e= .returned (.string (bs (l.take (jK l))))/\w=w':=by
 have h:=Tryz.strings_TrimRight_one (bs l) 32 b_ w EA;have e:Lib.trimRightB (bs l).data.toList 32=l.take (jK l):=by
  rw[aQ];unfold Lib.trimRightB jK aX;have h:=List.takeWhile_append_dropWhile (p:=(· ==32)) (l:=l.reverse);have c:l.reverse.dropWhile (· ==32)=l.reverse.drop (l.reverse.takeWhile (· ==32)).length:=by
   conv=>rhs;arg 2;rw[<-h]
   exact(List.drop_left).symm
  rw[c,List.drop_reverse,List.reverse_reverse]
 rw[e] at h;exact av
def Am (t:List UInt8) (f2 tw:Nat) (r:aP):aP:=
 ⟨r.kind,r.sf,r.st,r.ind,r.kf,r.kt,r.sf+f2,r.sf+(f2+jK ((t.take tw).drop f2)),if tw<t.length then r.sf+tw else r.nf,if tw<t.length then r.st else r.nt⟩
def pB (t:List UInt8) (f:Nat) (r:aP):aP:=Am t (cE t f) (dZ t (cE t f+cU (t.drop (cE t f)))) r
theorem bF.note {w:World}{X:Nat}{r:aP} (h:bF w X r) (a b:Int):bF ((w.setCell ⟨X,8,none⟩ (.int .i64 a)).setCell ⟨X,9,none⟩ (.int .i64 b)) X { r with nf:=a,nt:=b }:=eP (eP h 8 _) 9 _
theorem bF.rest {w:World}{X:Nat}{r:aP} (h:bF w X r) (a b:Int):bF ((w.setCell ⟨X,6,none⟩ (.int .i64 a)).setCell ⟨X,7,none⟩ (.int .i64 b)) X { r with rf:=a,rt:=b }:=eP (eP h 6 _) 7 _
def Ei (X:Nat) (r:aP) (w w':World):Prop:=bF w' X r/\lV X w w'
theorem Ej (t:List UInt8) (f X:Nat) (r:aP) (w:World) (hs:t.length<=1073741824) (hf:f<=t.length) (hX:bF w X r) (h0:0<=r.sf) (h1:r.sf<=1073741824) (hV:eB w) (hT:cW w) (hM:mF w):
  Calls Tryz.prog 146 #[some X,bs t,f] w λe w'=>(∃v,e= .returned v)/\bF w' X (pB t f r)/\lV X w w':=by
 have sl:=aM t;obtain⟨b1,b2,_,_⟩:=Dx t f hf;have i:cE t f=f+aX (t.drop f):=rfl;obtain⟨R,d⟩:=exQ<|pB t f r;rw[d];unfold pB at d;obtain⟨f2,l⟩:=exQ<|cE t f;rw[l] at d b1 b2 i;have CL:Hid (∀w,Calls Tryz.prog 29 #[((bs t).extract f t.length), .string ⟨#[32]⟩] w λe w'=>e= .returned (.string (bs (t.drop f2)))/\w=w'):=hid (λw=>by have:=Ln (t.drop f) w;rw[jJ,<-i] at this;rw[iD _ _ _ rfl];exact this);have CQ:Hid (∀w,eB w->cW w->Calls Tryz.prog 144 #[((bs t).extract f2 t.length)] w λe w'=>e= .returned (.int .i64 (cU (t.drop f2)))/\Below w.heap.size w w'):=hid (λw hV hT=>by have:=Eg (t.drop f2) w y_ hV hT;rw[iD _ _ _ rfl];exact this);have s:=Ai (t.drop f2);rw[aU] at s;obtain⟨q,G⟩:=exQ<|cU (t.drop f2);rw[G] at CQ d s;have CN:=hid (λw hM=>Ll t (f2+q) w hs a_ hM);have n:=uF t (f2+q);obtain⟨tw,m⟩:=exQ<|dZ t (f2+q);rw[m] at CN d n;unfold Am at d;obtain⟨n1,n2,_⟩:=n;have hft:f2<=tw:=by
  by_cases g:tw<t.length
  ·have:=(n2 g).1;omega
  ·omega
 have CR:Hid (∀w,Calls Tryz.prog 99 #[((bs t).extract f2 tw), .string ⟨#[32]⟩] w λe w'=>e= .returned (.string (bs (((t.take tw).drop f2).take (jK ((t.take tw).drop f2)))))/\w=w'):=hid (λw=>by have:=Xb ((t.take tw).drop f2) w (by rw[aU,bT];omega);rw[gL,aQ,<-List.drop_take];exact this);have a:((f2+q:Nat):Int)=(f2:Int)+(q:Int):=a_
 rw[a] at CN;obtain⟨Y,x⟩:=exQ<|((t.take tw).drop f2).take (jK ((t.take tw).drop f2));have k:Y.length=jK ((t.take tw).drop f2):=by rw[<-x,bT,Nat.min_eq_left (zZ _)]
 have p:=zZ ((t.take tw).drop f2);rw[aU,bT,Nat.min_eq_left n1] at p;obtain⟨z,H⟩:=exQ<|jK ((t.take tw).drop f2);rw[x] at CR;rw[H] at d k p;have sY:=aM Y;rw[k] at sY;have sD:=aM (t.drop f2);rw[aU] at sD;have hsub:(t.length:Int)-((t.length-f2:Nat):Int)=(f2:Int):=a_
 have M:=hid hX;have I:=hid hV;have L:=hid hT;have J:=hid hM;have K:=hid d;have hfi:(f:Int)<=(t.length:Int):=a_
 have hf2i:(f2:Int)<=(t.length:Int):=a_
 have htwi:(tw:Int)<=(t.length:Int):=a_
 have hfti:(f2:Int)<=(tw:Int):=a_
 clear hX hV hT hM d l G m n1 n2 x k H a i;go_enter Tryz.func146,Tryz.ntmps146;go_wp2_with (go_at_call 29;refine(CL.out _).mono ?_;rintro e w' ⟨rfl,rfl⟩);(with_reducible refine(CQ.out _ I.out L.out).mono ?_);rintro e w1 ⟨rfl,c⟩;have E:=hid (M.out.keep c);have D:=hid (J.out.keep c);have A:=hid (lV.of_below (X:=X) c);clear c;go_upto_if 27 with(go_at_call 180;(with_reducible refine(CN.out _ D.out).mono ?_);rintro e w' ⟨rfl,rfl⟩);obtain⟨r2,b⟩: ∃r2:aP,r2= { r with nf:=if tw<t.length then r.sf+tw else r.nf,nt:=if tw<t.length then r.st else r.nt }:=⟨_,rfl⟩;have j:=hid b;go_cut [] (λwx=>Hid (Ei X r2 w wx))
 case first=>
  have u:Ei X r w w1:=⟨E.out,A.out⟩;by_cases g:tw<t.length
  ·have dl:decide (tw<t.length)=true:=aO g;clear b;go_wp2_with fail;obtain⟨a0,a1,a2,a3,a4,a5,a6,a7,a8,a9,g0,g1,g2,g3,g4,g5,g6,g7,g8,g9⟩:=u.1.cells;have y:IntKind.i64.wrap (r.sf+(tw:Int))=r.sf+(tw:Int):=by rw[IntKind.wrap_i64];omega
   have C:Hid (r2= { r with nf:=r.sf+tw,nt:=r.st }):=by rw[j.out,if_pos g,if_pos g];exact hid rfl
   clear g;go_region
   all_goals go_wp2_with fail
   all_goals go_meet
   all_goals (rw[C.out];exact⟨(bF.note u.1 _ _).drew,((u.2.set 8 _).set 9 _).drew⟩)
  ·have dl:decide (tw<t.length)=false:=aG g;have:r2=r:=(by rw[b,if_neg g,if_neg g]);subst this;clear b;go_wp2_with fail;go_meet;exact u
 have F:=hcut;clear b;have h:r2.sf=r.sf:=by rw[j.out]
 have C:Hid (R= { r2 with rf:=r.sf+f2,rt:=r.sf+(f2+z) }):=by rw[<-K.out,j.out];exact hid rfl
 rw[<-h] at h0 h1;have o:=hid h;clear h;go_upto_if 47 with fail;go_cut [7] (λs7 wx=>s7= .int .i64 (((f2+z:Nat)):Int)/\Hid (Ei X r2 w wx))
 case first=>
  by_cases hgt:f2<tw
  ·have dg:decide (f2<tw)=true:=aO hgt;go_wp2_with (go_at_call 99;refine(CR.out _).mono ?_;rintro e w' ⟨rfl,rfl⟩);go_meet;exact⟨q_,F.out⟩
  ·have dg:decide (f2<tw)=false:=aG hgt;obtain rfl:z=0:=a_;go_wp2_with fail;go_meet;exact⟨q_,F.out⟩
 obtain⟨rfl,B⟩:=hcut;obtain⟨a0,a1,a2,a3,a4,a5,a6,a7,a8,a9,g0,g1,g2,g3,g4,g5,g6,g7,g8,g9⟩:=B.out.1.cells;have y:IntKind.i64.wrap (r2.sf+(f2:Int))=r2.sf+(f2:Int):=by rw[IntKind.wrap_i64];omega
 have hw2:IntKind.i64.wrap (r2.sf+((f2:Int)+(z:Int)))=r2.sf+((f2:Int)+(z:Int)):=by rw[IntKind.wrap_i64];omega
 go_wp2_with fail;go_region
 all_goals go_end0
 all_goals (refine⟨⟨_,rfl⟩,?_,(((B.out.2).set 6 _).set 7 _).drew⟩)
 all_goals (rw[C.out,<-o.out];exact(bF.rest B.out.1 _ _).drew)
def uK (w:World) (S:Nat) (a b:Int):Prop:=w.heap[S]?=some (.cells #[a,b] 42 (0,0))
abbrev Xc (w:World) (S:Nat) (a b:Int):Prop:=w.cell? ⟨S,0,none⟩=some (.int .i64 a)/\w.cell? ⟨S,1,none⟩=some (.int .i64 b)
theorem uK.cells {w:World}{S:Nat}{a b:Int} (h:uK w S a b):Xc w S a b:=⟨oB h 0,oB h 1⟩
theorem uK.keep {w w':World}{S:Nat}{a b:Int} (h:uK w S a b) (hb:Below w.heap.size w w'):uK w' S a b:=(hb.block S (aF h)).trans h
def dW (r:aP):Value:= .agg #[r.kind,r.sf,r.st,r.ind,r.kf,r.kt,r.rf,r.rt,r.nf,r.nt]
def jV (x:aP×Int×Int):Ending:= .returned (.tuple #[dW x.1,x.2.1,x.2.2])
structure bW (w:World) (a b:Int) (r:aP) (w':World):Prop where
 s:uK w' w.heap.size a b
 l:bF w' (w.heap.size+1) r
 b:Below w.heap.size w w'
 z:w.heap.size+2<=w'.heap.size
theorem bW.start (w:World) (a b:Int):bW w a b aW ((w.alloc (.cells #[a,b] 42)).alloc (.cells #[(0:Int),(0:Int),(0:Int),(0:Int),(0:Int),(0:Int),(0:Int),(0:Int),(0:Int),(0:Int)] 68)):=by
 refine⟨?_,?_,?_,e_⟩
 ·exact ne
 ·have:=heap_alloc_new (w.alloc (.cells #[a,b] 42)) (.cells #[(0:Int),(0:Int),(0:Int),(0:Int),(0:Int),(0:Int),(0:Int),(0:Int),(0:Int),(0:Int)] 68);rw[sK] at this;exact this
 ·exact(aL w _).trans ((aL (w.alloc (.cells #[a,b] 42)) _).mono e_)
theorem bW.keep {w w1 w2:World}{a b:Int}{r:aP} (h:bW w a b r w1) (hb:Below w1.heap.size w1 w2):bW w a b r w2:=
 ⟨h.s.keep hb,h.l.keep hb,h.b.trans (hb.mono h.b.size),aZ h.z hb.size⟩
theorem Lo {w:World}{p:Addr}{u:Value}{g:Nat} (h:g≠p.block):(w.setCell p u).heap[g]?=w.heap[g]?:=eC w p u g h
theorem bW.set {w w1:World}{a b:Int}{r:aP} (h:bW w a b r w1) {X:Nat} (hX:w.heap.size+2<=X) (i:Nat) (u:Value):bW w a b r (w1.setCell ⟨X,i,none⟩ u):=
 ⟨(Lo (show w.heap.size≠X by omega)).trans h.s,(Lo (show w.heap.size+1≠X by omega)).trans h.l,h.b.setCell (p:=⟨X,i,none⟩) (by show w.heap.size<=X;omega) u,by have:=h.z;simpa [World.setCell] using this⟩
theorem bW.drew {w w1:World}{a b:Int}{r:aP} (h:bW w a b r w1):bW w a b r w1.drew:=⟨h.s,h.l,h.b.drew,h.z⟩
def cY (w:World) (X:Nat) (r:aP):World:=
 (((((((((w.setCell ⟨X,0,none⟩ (.int .i64 r.kind)).setCell ⟨X,1,none⟩ (.int .i64 r.sf)).setCell ⟨X,2,none⟩ (.int .i64 r.st)).setCell ⟨X,3,none⟩ (.int .i64 r.ind)).setCell ⟨X,4,none⟩ (.int .i64 r.kf)).setCell ⟨X,5,none⟩ (.int .i64 r.kt)).setCell ⟨X,6,none⟩ (.int .i64 r.rf)).setCell ⟨X,7,none⟩ (.int .i64 r.rt)).setCell ⟨X,8,none⟩ (.int .i64 r.nf)).setCell ⟨X,9,none⟩ (.int .i64 r.nt)
theorem bF.put {w:World}{X:Nat}{r r2:aP} (h:bF w X r):bF (cY w X r2) X r2:=by
 unfold bF at h ⊢;unfold cY;exact ai
theorem Lp {w:World}{X g:Nat}{r:aP} (h:g≠X):(cY w X r).heap[g]?=w.heap[g]?:=by
 have a: ¬X=g:=λe=>h e.symm;unfold cY;simp[World.setCell,Array.getElem?_modify,a]
theorem Lq (w:World) (X:Nat) (r:aP):(cY w X r).heap.size=w.heap.size:=by unfold cY;simp[World.setCell]
theorem Xd (w:World) (X:Nat) (r:aP):(cY w X r).os=w.os:=by unfold cY;simp[World.setCell]
theorem Xe (w:World) (X:Nat) (r:aP):(cY w X r).tape=w.tape:=by unfold cY;simp[World.setCell]
theorem Xf (w:World) (X:Nat) (r:aP):(cY w X r).output=w.output:=by unfold cY;simp[World.setCell]
theorem bW.put {w w1:World}{a b:Int}{r r2:aP} (h:bW w a b r w1):bW w a b r2 (cY w1 (w.heap.size+1) r2):=by
 refine⟨?_,bF.put h.l,⟨?_,?_,?_,?_,?_⟩,?_⟩
 ·have c:=Lp (w:=w1) (X:=w.heap.size+1) (g:=w.heap.size) (r:=r2) a_;unfold uK;rw[c];exact h.s
 ·rw[Xd];exact h.b.os
 ·rw[Xe];exact h.b.tape
 ·rw[Xf];exact h.b.output
 ·rw[Lq];exact h.b.size
 ·intro i d;rw[Lp a_];exact h.b.block i d
 ·rw[Lq];exact h.z
theorem xR (T:List UInt8):T=List.replicate (aX T) 32++T.drop (aX T):=by
 have h:T.take (aX T)=List.replicate (aX T) 32:=by
  apply List.ext_getElem?;intro i;by_cases hi:i<aX T
  ·rw[List.getElem?_take,if_pos hi,nV T i hi,List.getElem?_replicate,if_pos hi]
  ·rw[List.getElem?_take,if_neg hi,List.getElem?_replicate,if_neg hi]
 rw[<-h,rR]
theorem Ek (n k:Nat) (U:List UInt8):(List.replicate n (32:UInt8)++U).drop (n+k)=U.drop k:=by
 rw[List.drop_append,List.length_replicate,List.drop_of_length_le D_,qM];congr 1;omega
theorem Xg (U:List UInt8) (n f:Nat) (h35:U.head?≠some 35) (r:aP):
  pB (List.replicate n 32++U) (n+f) r=⟨r.kind,r.sf,r.st,r.ind,r.kf,r.kt,r.sf+(n+cE U f),r.sf+(n+(cE U f+jK ((U.take (dZ U (cE U f+cU (U.drop (cE U f))))).drop (cE U f)))),
   if dZ U (cE U f+cU (U.drop (cE U f)))<U.length then r.sf+(n+dZ U (cE U f+cU (U.drop (cE U f)))) else r.nf,if dZ U (cE U f+cU (U.drop (cE U f)))<U.length then r.st else r.nt⟩:=by
 have e:cE (List.replicate n 32++U) (n+f)=n+cE U f:=by
  unfold cE;rw[Ek];omega
 unfold pB;rw[e,Ek,show n+cE U f+cU (U.drop (cE U f))=n+(cE U f+cU (U.drop (cE U f))) by omega,Vi n _ U h35];unfold Am;have a:(List.replicate n (32:UInt8)++U).length=n+U.length:=by rw[aT,List.length_replicate]
 obtain⟨tw,b⟩:=exQ<|dZ U (cE U f+cU (U.drop (cE U f)));obtain⟨f2,d⟩:=exQ<|cE U f;rw[b,d,a];have c:((List.replicate n (32:UInt8)++U).take (n+tw)).drop (n+f2)=(U.take tw).drop f2:=by
  rw[List.take_append,List.length_replicate,uC D_,show n+tw-n=tw by omega,Ek]
 rw[c];by_cases ht:tw<U.length
 ·rw[if_pos ht,if_pos ht,if_pos a_,if_pos a_];simp only[aP.mk.injEq,true_and,and_true];omega
 ·rw[if_neg ht,if_neg ht,if_neg a_,if_neg a_];simp only[aP.mk.injEq,true_and,and_true];omega
theorem bW.only {w w1 w2:World}{a b:Int}{r:aP} (h:bW w a b r w1) {X:Nat} (hX:w.heap.size+2<=X) (ho:lV X w1 w2):bW w a b r w2:=
  ⟨(ho.block w.heap.size (aF h.s) EO).trans h.s,(ho.block (w.heap.size+1) (aF h.l) EO).trans h.l,
   ⟨ho.os.trans h.b.os,ho.tape.trans h.b.tape,ho.output.trans h.b.output,aZ h.b.size ho.size,λi c=>(ho.block i (iX c h.b.size) EO).trans (h.b.block i c)⟩,aZ h.z ho.size⟩
def kZ (x y:Int) (n:Nat) (o:Option sQ):aP×Int×Int:=match o with | none=>(aW,x+n,2) | some c=>(oV x y n c,y,0)
theorem sX {x y:Int}{n:Nat}{c:sQ}{r:aP} (h:oV x y n c=r):Ending.returned (.tuple #[dW r,y,(0:Int)])=jV (kZ x y n (some c)):=by unfold jV kZ;simp only[];rw[h]
theorem An (U T:List UInt8) (n:Nat) (x y:Int) (H:Nat×Nat) (h35:U.head?≠some 35) (hT:T=List.replicate n 32++U) (r:aP) (hr:r=⟨H.1,x,y,n,if H.1=4 then x+n else 0,if H.1=4 then x+n+H.2 else 0,x+n,x+n,0,0⟩):
  oV x y n (sR U H (cE U (eI H)) (dZ U (cE U (eI H)+cU (U.drop (cE U (eI H))))))=pB T (n+eI H) r:=by
 rw[hT,Xg U n (eI H) h35 r,hr];unfold oV sR;obtain⟨tw,a⟩:=exQ<|dZ U (cE U (eI H)+cU (U.drop (cE U (eI H))));obtain⟨f2,b⟩:=exQ<|cE U (eI H);rw[a,b];by_cases ht:tw<U.length
 ·simp only[if_pos ht,aP.mk.injEq,true_and,and_true];omega
 ·simp only[if_neg ht,aP.mk.injEq,true_and,and_true];omega
theorem Xh (l:List UInt8) (x y:Nat) (w:World) (hs:l.length<=1073741824) (hxy:x<=y) (hyl:y<=l.length) (T:List UInt8) (hTd:(l.drop x).take (y-x)=T) (h10:T.contains 10=false) (hV:eB w) (hT:cW w) (hM:mF w) (hw:cX true T=T.length):
  Calls Tryz.prog 105 #[bs l, .agg #[x,y]] w λe w'=>e=jV (kZ x y (aX T) (fQ (T.drop (aX T))))/\Below w.heap.size w w':=by
 have sl:=aM l;have S:T.length=y-x:=by rw[<-hTd,bT,aU];omega
 have CW:Hid (∀w,Calls Tryz.prog 142 #[bs l, .agg #[x,y]] w λe w'=>e= .returned (.bool true)/\Below w.heap.size w w'):=hid (λw=>by
  have:=Eh l x y w hs;have e:pU l x y=true:=by
   unfold pU;rw[if_neg a_,fV,show ((y:Int)-(x:Int)).toNat=y-x by omega,hTd,h10];rfl
  rw[e] at this;exact this)
 have aq:(bs l).extract x y=bs T:=by rw[gL,aQ,hTd]
 have CG:Hid (∀w,cW w->Calls Tryz.prog 143 #[bs T] w λe w'=>e= .returned (.tuple #[(0:Int),false])/\Below w.heap.size w w'):=hid (λw hT=>by have:=Kt T w (by have:=S;omega) hT;rw[Ks hw] at this;exact this);obtain⟨n,hn⟩:=exQ<|aX T;have av:=jU T;rw[hn] at av;have CL:Hid (∀w,Calls Tryz.prog 29 #[bs T, .string ⟨#[32]⟩] w λe w'=>e= .returned (.string (bs (T.drop n)))/\w=w'):=hid (λw=>by rw[<-hn];exact Ln T w);have sU:=aM (T.drop n);rw[aU] at sU;have hsub:(T.length:Int)-((T.length-n:Nat):Int)=(n:Int):=a_
 obtain⟨U,hU⟩:=exQ<|T.drop n;rw[hU] at CL sU;rw[hn,hU];have aw:U.length<=1073741824:=by rw[<-aM U,sU];omega
 have sT:=aM T;have HTl:=hid S;have ab:T.length<=1073741824:=a_
 clear S;have HV:=hid hV;have HT:=hid hT;have HM:=hid hM;clear hV hT hM hw;have ao:(x:Int)<=(y:Int):=a_
 have aj:(y:Int)<=(l.length:Int):=a_
 go_enter Tryz.func105,Tryz.ntmps105;go_wp2_with fail;have Z:=hid (bW.start w x y);(with_reducible refine(CW.out _).mono ?_);rintro e w1 ⟨rfl,O⟩;have o:=hid (Z.out.keep O);clear O;obtain⟨s0,s1⟩:=o.out.s.cells;go_wp2_with fail;have ae:=hid (HT.out.keep o.out.b);(with_reducible refine(CG.out _ ae.out).mono ?_);rintro e w2 ⟨rfl,Q⟩;have C:=hid (o.out.keep Q);clear Q s0 s1;obtain⟨s0,s1⟩:=C.out.s.cells;go_upto_region 8 with(go_at_call 29;refine(CL.out _).mono ?_;rintro e w' ⟨rfl,rfl⟩);go_cut [4,5,6,7,10,11] (λs4 s5 s6 s7 au az wx=> ∃X:Nat,s4= .pointer (some ⟨w.heap.size+1,0,none⟩)/\s5= .int .i64 0/\s6= .int .i64 0/\s7= .string (bs T)/\au= .string (bs U)/\az= .pointer (some ⟨X,0,none⟩)/\w.heap.size+2<=X/\Hid (bW w x y aW wx/\bF wx X ⟨1,x,y,n,0,0,0,0,0,0⟩))
 case first=>
  go_wp2_with fail;go_meet;exact⟨w2.heap.size,rfl,rfl,rfl,rfl,rfl,rfl,C.out.z,C.out.keep (aL _ _),heap_alloc_new w2 _⟩
 obtain⟨X,rfl,rfl,rfl,rfl,rfl,rfl,E,HS⟩:=hcut;obtain⟨s0,s1⟩:=HS.out.1.s.cells;obtain⟨a0,a1,a2,a3,a4,a5,a6,a7,a8,a9,g0,g1,g2,g3,g4,g5,g6,g7,g8,g9⟩:=HS.out.2.cells;go_upto_region 10 with fail;go_cut [12] (λax wx=>ax= .int .i64 ((x:Int)+(n:Int))/\Hid (bW w x y aW wx/\bF wx X ⟨1,x,y,n,0,0,x+n,x+n,0,0⟩))
 case first=>
  go_wp2_with fail;go_meet;exact⟨rfl,(HS.out.1.set E 6 _).set E 7 _,eP (eP HS.out.2 6 _) 7 _⟩
 clear s0 s1 a0 a1 a2 a3 a4 a5 a6 a7 a8 a9 g0 g1 g2 g3 g4 g5 g6 g7 g8 g9;obtain⟨rfl,d⟩:=hcut;obtain⟨s0,s1⟩:=d.out.1.s.cells;obtain⟨a0,a1,a2,a3,a4,a5,a6,a7,a8,a9,g0,g1,g2,g3,g4,g5,g6,g7,g8,g9⟩:=d.out.2.cells;obtain⟨b0,b1,b2,b3,b4,b5,b6,b7,b8,b9,I,t,p,r,m,M,F,K,G,J⟩:=d.out.1.l.cells;by_cases hUe:U= []
 ·exact rd
 ·have aa:0<(bs U).size:=by rw[aM];exact qV.2 hUe
  have hne:(bs U).toList.isEmpty=false:=by rw[Lib.toList_data,aQ];cases U with | nil=>exact absurd rfl hUe | cons _ _=>rfl
  have hne2: ¬(bs U).toList= []:=by rw[Lib.toList_data,aQ];exact hUe
  have B:=iE U 35 35 rfl aa;have j:=iE U 34 34 rfl aa;have i:=iE U 39 39 rfl aa;obtain⟨cc,an⟩: ∃cc:Int,(((bs U)[0]'aa).toNat:Int)=cc:=⟨_,rfl⟩;rw[an] at B j i;have c:fQ U=if U.head?=some 35 then some ⟨2,0,0,0,some 0⟩ else if(U.head?=some 34\/U.head?=some 39)/\cU U=0 then none else some (sR U (eO U) (cE U (eI (eO U))) (dZ U (cE U (eI (eO U))+cU (U.drop (cE U (eI (eO U))))))):=by unfold fQ;rw[if_neg hUe]
  by_cases h35:U.head?=some 35
  ·have zd:=trivial;exact rd
  rw[if_neg h35] at c;rw[show (U.head?==some 35)=false from aE.2 h35] at B;have CQ:=hid (λw hV hT=>Eg U w a_ hV hT);by_cases hbq:(U.head?=some 34\/U.head?=some 39)/\cU U=0
  ·rw[if_pos hbq] at c;have V:=hid c;rw[hbq.2] at CQ;have TQ:((cc==34)||(cc==39))=true:=by
    rw[j,i];rcases hbq.1 with h | h<;>rw[h]<;>rfl
   clear c h35 hU hUe hbq;by_cases hc34:cc=34
   ·have zb:=trivial;exact rd
   ·have zc:=trivial;exact rd
  ·rw [if_neg hbq] at c;have V:=hid c;have am:=Dw U hbq;have CH:=hid (λw hV hT hM=>Wy U w hUe aw hV hT hM);have P:=hid h35;have ag:Hid (T=List.replicate n 32++U):=hid (by have:=xR T;rw[hn,hU] at this;exact this);obtain⟨H,hH⟩:=exQ<|eO U;rw[hH] at V am CH;obtain⟨q,ah⟩:=exQ<|cU U;rw[ah] at hbq CQ;clear c h35 hU hH ah;go_upto_region 16 with fail;go_cut [75] (λay wx=>ay= .bool false/\Hid (bW w x y aW wx/\bF wx X ⟨1,x,y,n,0,0,x+n,x+n,0,0⟩))
   case first=>
    by_cases hc34:cc=34
    ·have B5:=trivial;exact ux
    ·have al:(cc==34)=false:=aE.2 hc34;by_cases hc39:cc=39
     ·exact ux
     ·have ap:(cc==39)=false:=aE.2 hc39;clear hbq j i B;go_wp2_with fail;go_meet;exact⟨rfl,d.out⟩
   obtain⟨rfl,f⟩:=hcut;clear s0 s1 a0 a1 a2 a3 a4 a5 a6 a7 a8 a9 g0 g1 g2 g3 g4 g5 g6 g7 g8 g9 b0 b1 b2 b3 b4 b5 b6 b7 b8 b9 I t p r m M F K G J;clear hbq j i B an;obtain⟨s0,s1⟩:=f.out.1.s.cells;obtain⟨a0,a1,a2,a3,a4,a5,a6,a7,a8,a9,g0,g1,g2,g3,g4,g5,g6,g7,g8,g9⟩:=f.out.2.cells;obtain⟨b0,b1,b2,b3,b4,b5,b6,b7,b8,b9,I,t,p,r,m,M,F,K,G,J⟩:=f.out.1.l.cells;go_wp2_with fail;(with_reducible refine(CH.out _ (HV.out.keep f.out.1.b) (HT.out.keep f.out.1.b) (HM.out.keep f.out.1.b)).mono ?_);unfold Lm;rintro e w4 ⟨rfl,af⟩;have A:=hid (aK (f.out.1.keep af) (f.out.2.keep af));clear af;clear s0 s1 a0 a1 a2 a3 a4 a5 a6 a7 a8 a9 g0 g1 g2 g3 g4 g5 g6 g7 g8 g9 b0 b1 b2 b3 b4 b5 b6 b7 b8 b9 I t p r m M F K G J;obtain⟨s0,s1⟩:=A.out.1.s.cells;obtain⟨a0,a1,a2,a3,a4,a5,a6,a7,a8,a9,g0,g1,g2,g3,g4,g5,g6,g7,g8,g9⟩:=A.out.2.cells;obtain⟨b0,b1,b2,b3,b4,b5,b6,b7,b8,b9,I,t,p,r,m,M,F,K,G,J⟩:=A.out.1.l.cells;have ad:(x:Int)<=1073741824:=a_;rcases am with⟨rfl,_⟩ | rfl | ⟨k,rfl,hk1,hk,hk3⟩
   ·have yx:=trivial;exact q9
   ·have yz:=trivial;exact q9
   ·exact q9
theorem Lr (l:List UInt8) (a b:Int) (w:World) (hs:l.length<=1073741824) (h:pU l a b=false):
  Calls Tryz.prog 105 #[bs l, .agg #[a,b]] w λe w'=>e=jV (aW,0,1)/\Below w.heap.size w w':=by
 have AS:=trivial;exact tg
theorem Xi (l:List UInt8) (x y:Nat) (w:World) (hs:l.length<=1073741824) (hxy:x<=y) (hyl:y<=l.length) (T:List UInt8) (hTd:(l.drop x).take (y-x)=T) (h10:T.contains 10=false) (hT:cW w) (k:Nat) (hw:cX true T=k) (hk:k<T.length):
  Calls Tryz.prog 105 #[bs l, .agg #[x,y]] w λe w'=>e=jV (aW,(x:Int)+k,2)/\Below w.heap.size w w':=tg
theorem Xj (l:List UInt8) (a b:Int) (w:World) (hs:l.length<=1073741824) (hV:eB w) (hT:cW w) (hM:mF w):
  Calls Tryz.prog 105 #[bs l, .agg #[a,b]] w λe w'=>e=jV (eZ l a b)/\Below w.heap.size w w':=by
 obtain⟨R,c⟩:=exQ<|eZ l a b;rw[c];unfold eZ at c;by_cases hout:a<0\/b<a\/(l.length:Int)<b
 ·rw[if_pos hout] at c;subst c;exact Lr l a b w hs (by unfold pU;rw[if_pos hout])
 rw[if_neg hout] at c;obtain⟨x,rfl⟩: ∃x:Nat,a=x:=⟨a.toNat,a_⟩;obtain⟨y,rfl⟩: ∃y:Nat,b=y:=⟨b.toNat,a_⟩;simp only[fV,show ((y:Int)-(x:Int)).toNat=y-x by omega] at c;obtain⟨T,d⟩:=exQ<|(l.drop x).take (y-x);rw[d] at c;cases h10:T.contains 10 with
 | true=>
  rw[h10,if_pos rfl] at c;subst c;exact Lr l x y w hs (by unfold pU;rw[if_neg hout,fV,show ((y:Int)-(x:Int)).toNat=y-x by omega,d,h10];rfl)
 | false=>
  rw[h10,if_neg e_] at c;by_cases hk:cX true T<T.length
  ·rw[if_pos hk] at c;subst c;exact Xi l x y w hs a_ a_ T d h10 hT _ rfl hk
  ·rw[if_neg hk] at c;have f:cX true T=T.length:=by
    have:=(sP true T.length T 0).2;unfold cX at hk ⊢;omega
   have:=Xh l x y w hs a_ a_ T d h10 hV hT hM f;have e:kZ x y (aX T) (fQ (T.drop (aX T)))=R:=by rw[<-c];rfl
   rw[e] at this;exact this
end Go.Proofs.YtfhjncbdgjlcoaaGreatDoor
