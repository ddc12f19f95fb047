import Derived.Test.YtfhjncbdgjlcoaaGreatDoorYn11
set_option linter.unusedVariables false
set_option linter.unusedSimpArgs false
set_option maxRecDepth 100000
set_option maxHeartbeats 4000000
namespace Go.Proofs.YtfhjncbdgjlcoaaGreatDoor
open Tryz
open Go.RowKit
open Go.Lib hiding intOf
theorem Fe (l:aC):0<=(lF l 0).1/\(lF l 0).1<=l.length:=by
 unfold lF;rw[if_neg a_];unfold cD;by_cases h1:0<=(0:Int)/\l[(0:Int).toNat]?=some 34
 .rw[if_pos h1];have:=(Dj (l.length+1) (l.drop ((0:Int).toNat+1)) ((0:Int).toNat+1) []).1;exact EI
 .rw[if_neg h1];simp
theorem Ff: ∀(f:Nat) (l:aC) (i:Nat) (acc:aC),(i:Int)<=(jT f l i acc).2.1/\(jT f l i acc).2.1<=i+l.length
 | 0,_,_,_=>by simp[jT];omega
 | _+1,[],_,_=>by simp[jT]
 | f+1,c::r,i,acc=>by
  rw[wF];split
  .split
   .rename_i h;have:=Ff f (r.drop 1) (i+2) (acc++ [39]);rw[bC] at this;have h0:0<r.length:=GP;simp only[bM];omega
   .simp only[bM];omega
  .split
   .simp only[bM];omega
   .have hle:=decodeL_le (c::r) (List.cons_ne_nil _ _);have:=Ff f ((c::r).drop (decodeL (c::r)).2) (i+(decodeL (c::r)).2) (acc++(c::r).take (decodeL (c::r)).2);rw[bC] at this;omega
theorem Fg (l:aC):0<=(iJ l 0).2.1/\(iJ l 0).2.1<=l.length:=by
 unfold iJ;rw[if_neg a_];by_cases h1:l[(0:Int).toNat]?=some 39
 .rw[if_pos h1];have:=Ff (l.length+1) (l.drop ((0:Int).toNat+1)) ((0:Int).toNat+1) [];exact FZ
 .rw[if_neg h1];simp
theorem Bg (l:aC):dA l<=l.length:=by
 have h1:=Fe l;have h2:=Fg l;unfold dA
 repeat' split
 all_goals omega
theorem Fh (l:aC) (w:World) (hs:l.length<=1073741824) (hV:eQ w) (hT:dE w):
  Calls prog 144 #[bs l] w (aT w (.int .i64 (dA l))):=by
 have J8:=trivial;exact G0
theorem Yq (s:aC) (j:Nat):Lib.occAt s [32,35] j=true↔s[j]?=some 32/\s[j+1]?=some 35:=by
 unfold Lib.occAt;have c:s[j]?=(s.drop j)[0]?:=by rw[kG,Nat.add_zero]
 have d:s[j+1]?=(s.drop j)[1]?:=by rw[kG]
 rw[c,d]
 match s.drop j with
 | []=>simp[List.isPrefixOf]
 | [a]=>simp[List.isPrefixOf]
 | a::b::r=>
  simp[List.isPrefixOf];constructor
  .rintro⟨rfl,rfl⟩;exact⟨rfl,rfl⟩
  .rintro⟨rfl,rfl⟩;exact⟨rfl,rfl⟩
theorem Yr (l:aC) (a m:Nat) (ha:a<=l.length) (hm:m+1=max a 1) (hl:m<=l.length):
  (Lib.index (l.drop m) [32,35]= -1->eO l a=l.length)/\(∀i:Nat,Lib.index (l.drop m) [32,35]=i->eO l a=m+i+1/\m+i+1<=l.length):=by
 have c: ∀j,Lib.occAt (l.drop m) [32,35] j=true↔l[m+j]?=some 32/\l[m+j+1]?=some 35:=λj=>by
  rw[Yq,kG,kG];rfl
 have b: ∀i,(∀j,j<i->Lib.occAt (l.drop m) [32,35] j=false)-> ∀j,max a 1<=j->j<m+i+1-> ¬(l[j]?=some 35/\l[j-1]?=some 32):=by
  rintro i h j d g ⟨e1,e2⟩;have:=h (j-1-m) a_;have e:=(c (j-1-m)).2 ⟨by rw[show m+(j-1-m)=j-1 by omega];exact e2,by rw[show m+(j-1-m)+1=j by omega];exact e1⟩;rw[this] at e;cases e
 rcases Lib.index_spec (l.drop m) [32,35] with⟨d,g⟩ | ⟨i,d,g,e,o⟩
 .refine⟨λ_=>Es l a l.length (aF _) (λh=>absurd h (Nat.lt_irrefl _)) (λj g1 g2=>?_),λi k=>by rw[d] at k;omega⟩;refine b (l.length-m) (λj n=>g j DJ) j g1 a_
 .refine⟨λh=>by rw[d] at h;omega,λi' k=>?_⟩;obtain rfl:i=i':=by rw[d] at k;omega
  have f:=(c i).1 e;have hlt:=(aW.1 f.2).1;refine⟨Es l a (m+i+1) a_ (λ_=>⟨a_,f.2,by rw[Nat.add_sub_cancel];exact f.1⟩) (b i (λj n=>?_)),a_⟩;exact o j n
theorem Ml (l:aC) (a:Nat) (w:World) (hs:l.length<=1073741824) (ha:a<=l.length) (hM:nJ w):
  Calls prog 180 #[bs l,a] w λe w'=>e= .returned (.int .i64 (eO l a))/\w=w':=by
 have sl:=aP l;obtain⟨M,hM⟩:=hM;obtain⟨m,J⟩: ∃m,m+1=max a 1:=⟨max a 1-1,a_⟩;have ad:m<=l.length:=a_
 have z:=Yr l a m ha J ad;obtain⟨X,U⟩:=exQ<|Lib.index (l.drop m) [32,35];have r:=Lib.index_ge (l.drop m) [32,35];have CI:Hid (Calls prog 159 #[.string ((bs l).extract m l.length), .string ⟨#[32,35]⟩] w λe w'=>e= .returned (.int .i64 X)/\w=w'):=hid (by have h:=strings_Index ((bs l).extract m l.length) ⟨#[32,35]⟩ M w (by rw[iW _ _ _ rfl,aP,bC];omega) hM;rw[iW _ _ _ rfl,aY,show (⟨#[32,35]⟩:ByteArray).data.toList= [32,35] from rfl,U] at h;rw[iW _ _ _ rfl];exact h.mono λ_ _ ⟨a,b⟩=>⟨a,b.symm⟩);rw[U] at z r;obtain⟨N,hN⟩:=exQ<|eO l a;rw[hN] at z ⊢;have P:max ((a:Int)-1) 0=(m:Int):=a_
 clear U hN hM;have ab:(a:Int)<=(l.length:Int):=a_
 have hm0:(0:Int)<=(m:Int):=a_
 have O:(m:Int)<=(l.length:Int):=a_
 have HM:=hid J;clear J;by_cases H:X<0
 .have u:=hid (z.1 a_);clear z;go_in;go_wp2_with (go_at_call 159;refine CI.out.mono ?_;rintro e w' ⟨rfl,rfl⟩);exact aa
 .obtain⟨i,rfl⟩: ∃i:Nat,X=i:=⟨X.toNat,a_⟩;obtain⟨n1,n2⟩:=z.2 i rfl;have u:=hid n1;have dx:decide ((i:Int)<0)=false:=aJ a_;clear z H n1;go_in;go_wp2_with (go_at_call 159;refine CI.out.mono ?_;rintro e w' ⟨rfl,rfl⟩);go_ret;exact⟨nE (by rw[u.out];omega),rfl⟩
theorem Bi (l:aC) (k:Nat) (h:k<l.length) (h2:k<(bs l).size):(bs l)[k]'h2=l[k]'h:=by
 have:=cT l k h2;rw[bI h] at this;exact(bA this).symm
theorem Ys (l:aC) (k:Nat) (c:UInt8) (w:World) (hs:l.length<=1073741824) (hk:k<=1073741824):
  Calls prog 179 #[bs l,k, .int .u8 (c.toNat:Int)] w λe w'=>e= .returned (.bool (gZ l k c))/\w=w':=by
 have MA:=trivial;exact H9
def Mm (h:Nat×Nat):Ending:= .returned (.tuple #[h.1,h.2])
theorem wK (l:aC) (k:Nat) (c:UInt8) (ki ci:Int) (B:Bool) (hki:(k:Int)=ki) (hci:(c.toNat:Int)=ci) (hB:gZ l k c=B) (hs:l.length<=1073741824) (hk:k<=1073741824) (w:World):
  Calls prog 179 #[bs l,ki, .int .u8 ci] w λe w'=>e= .returned (.bool B)/\w=w':=by
 subst hki hci hB;exact Ys l k c w hs hk
theorem Bj (t:aC) (c f k:Nat):rR t c (f+1) k=if c<=k then(5,0) else if gZ t k 58 then(4,k) else rR t c f (k+1):=rfl
theorem Yt (l:aC) (w:World) (hne:l≠ []) (hs:l.length<=1073741824) (hV:eQ w) (hT:dE w) (hM:nJ w):
  Calls prog 145 #[bs l] w λe w'=>e=Mm (fD l)/\aA w w':=by
 have J6:=trivial;exact H5
theorem pE {w:World}{g:Nat}{t:TypeId}{cs:Array Value} (h:w.heap[g]?=some (.cells cs t (0,0))) (i:Nat):w.cell? (g,i)=cs[i]?:=cell_of_row w g i cs t (0,0) h
theorem qR {w:World}{g:Nat}{t:TypeId}{cs:Array Value} (h:w.heap[g]?=some (.cells cs t (0,0))) (i:Nat):w.frozen? ⟨g,i,none⟩=false:=by
 simp[World.frozen?,h]
theorem fE {w:World}{g:Nat}{t:TypeId}{cs:Array Value} (h:w.heap[g]?=some (.cells cs t (0,0))) (i:Nat) (u:Value):(w.setCell ⟨g,i,none⟩ u).heap[g]?=some (.cells (cs.setIfInBounds i u) t (0,0)):=aj
def bL (w:World) (X:Nat) (r:aS):Prop:=w.heap[X]?=some (.cells #[r.kind,r.sf,r.st,r.ind,r.kf,r.kt,r.rf,r.rt,r.nf,r.nt] 68 (0,0))
abbrev Yu (w:World) (X:Nat) (r:aS):Prop:=
 w.cell? (X,0)=some (.int .i64 r.kind)/\w.cell? (X,1)=some (.int .i64 r.sf)/\w.cell? (X,2)=some (.int .i64 r.st)/\w.cell? (X,3)=some (.int .i64 r.ind)/\
 w.cell? (X,4)=some (.int .i64 r.kf)/\w.cell? (X,5)=some (.int .i64 r.kt)/\w.cell? (X,6)=some (.int .i64 r.rf)/\w.cell? (X,7)=some (.int .i64 r.rt)/\
 w.cell? (X,8)=some (.int .i64 r.nf)/\w.cell? (X,9)=some (.int .i64 r.nt)/\
 w.frozen? ⟨X,0,none⟩=false/\w.frozen? ⟨X,1,none⟩=false/\w.frozen? ⟨X,2,none⟩=false/\w.frozen? ⟨X,3,none⟩=false/\w.frozen? ⟨X,4,none⟩=false/\
 w.frozen? ⟨X,5,none⟩=false/\w.frozen? ⟨X,6,none⟩=false/\w.frozen? ⟨X,7,none⟩=false/\w.frozen? ⟨X,8,none⟩=false/\w.frozen? ⟨X,9,none⟩=false
theorem bL.cells {w:World}{X:Nat}{r:aS} (h:bL w X r):Yu w X r:=
  ⟨pE h 0,pE h 1,pE h 2,pE h 3,pE h 4,pE h 5,pE h 6,pE h 7,pE h 8,pE h 9,
   qR h 0,qR h 1,qR h 2,qR h 3,qR h 4,qR h 5,qR h 6,qR h 7,qR h 8,qR h 9⟩
theorem bL.lt {w:World}{X:Nat}{r:aS} (h:bL w X r):X<w.heap.size:=aG h
theorem bL.keep {w w':World}{X:Nat}{r:aS} (h:bL w X r) (hb:aA w w'):bL w' X r:=(hb.block X h.lt).trans h
theorem bL.drew {w:World}{X:Nat}{r:aS} (h:bL w X r):bL w.drew X r:=h
def mW (X:Nat) (a b:World):Prop:=a.grownBy b (some X)
theorem mW.of_below {X:Nat}{a b:World} (h:aA a b):mW X a b:=⟨h.os,h.tape,h.output,h.size,λi c _=>h.block i c⟩
theorem mW.set {X:Nat}{a b:World} (h:mW X a b) (i:Nat) (u:Value):mW X a (b.setCell ⟨X,i,none⟩ u):=
 ⟨h.os,h.tape,h.output,by have:=h.size;simpa [World.setCell] using this,λj d c=>(eW b ⟨X,i,none⟩ u j (by rintro rfl;exact c rfl)).trans (h.block j d c)⟩
theorem mW.drew {X:Nat}{a b:World} (h:mW X a b):mW X a b.drew:=⟨h.os,h.tape,h.output,h.size,h.block⟩
def qS (l:aC) (a b:Int):Bool:=if a<0\/b<a\/(l.length:Int)<b then false else !((l.drop a.toNat).take (b-a).toNat).contains 10
theorem Yv (l:aC) (c:UInt8):decide (0<=Lib.indexByte l c)=l.contains c:=(Lib.contains_iff_indexByte l c).symm
theorem Fi (l:aC) (a b:Int) (w:World) (hs:l.length<=1073741824):
  Calls prog 142 #[bs l, .agg #[a,b]] w (aT w (.bool (qS l a b))):=by
 have sl:=aP l;obtain⟨R,c⟩:=exQ<|qS l a b;rw[c];unfold qS at c;by_cases h1:a<0
 .rw[if_pos (.inl h1)] at c;exact EP
 by_cases h2:b<a
 .rw[if_pos (.inr (.inl h2))] at c;exact EP
 by_cases h3:(l.length:Int)<b
 .rw[if_pos (.inr (.inr h3))] at c;exact EP
 rw[if_neg a_] at c;obtain⟨x,rfl⟩: ∃x:Nat,a=x:=⟨a.toNat,a_⟩;obtain⟨y,rfl⟩: ∃y:Nat,b=y:=⟨b.toNat,a_⟩;rw[gA,show ((y:Int)-(x:Int)).toNat=y-x by omega] at c;obtain⟨B,d⟩:=exQ<|((l.drop x).take (y-x)).contains 10;have CC:Hid (∀w,Calls prog 119 #[((bs l).extract x y), .string ⟨#[10]⟩] w λe w'=>e= .returned (.bool B)/\w=w'):=hid (λw=>by have h:=strings_Contains_one ((bs l).extract x y) 10 w;rw[gO,aY,aY,Yv,d] at h;rw[gO,aY];exact h.mono λ_ _ ⟨a,b⟩=>⟨a,b.symm⟩);rw[d] at c;have d2:decide (y<x)=false:=aJ a_;have d3:decide (l.length<y)=false:=aJ a_;have hxy:(x:Int)<=(y:Int):=a_
 have hyl:(y:Int)<=(l.length:Int):=a_
 clear d h1 h2 h3;subst c;go_in;go_wp2_with (go_at_call 119;refine(CC.out _).mono ?_;rintro e w' ⟨rfl,rfl⟩);go_ret;exact⟨rfl,aL _ _⟩
theorem Mn (l:aC) (w:World):Calls prog 29 #[bs l, .string ⟨#[32]⟩] w λe w'=>e= .returned (.string (bs (l.drop (bB l))))/\w=w':=by
 have h:=strings_TrimLeft_one (bs l) 32 b_ w;have e:Lib.trimLeftB (bs l).data.toList 32=l.drop (bB l):=by
  rw[aY];unfold Lib.trimLeftB bB;have h:=List.takeWhile_append_dropWhile (p:=(· ==32)) (l:=l)
  conv=>rhs;arg 2;rw[<-h]
  exact(List.drop_left).symm
 rw[e] at h;exact au
theorem Yw (l:aC) (w:World) (hs:l.length<=1073741824):Calls prog 99 #[bs l, .string ⟨#[32]⟩] w λe w'=>e= .returned (.string (bs (l.take (kC l))))/\w=w':=by
 have h:=strings_TrimRight_one (bs l) 32 b_ w M';have e:Lib.trimRightB (bs l).data.toList 32=l.take (kC l):=by
  rw[aY];unfold Lib.trimRightB kC bB;have h:=List.takeWhile_append_dropWhile (p:=(· ==32)) (l:=l.reverse);have c:l.reverse.dropWhile (· ==32)=l.reverse.drop (l.reverse.takeWhile (· ==32)).length:=by
   conv=>rhs;arg 2;rw[<-h]
   exact(List.drop_left).symm
  rw[c,List.drop_reverse,List.reverse_reverse]
 rw[e] at h;exact au
def Bk (t:aC) (f2 tw:Nat) (r:aS):aS:=
 ⟨r.kind,r.sf,r.st,r.ind,r.kf,r.kt,r.sf+f2,r.sf+(f2+kC ((t.take tw).drop f2)),if tw<t.length then r.sf+tw else r.nf,if tw<t.length then r.st else r.nt⟩
def pX (t:aC) (f:Nat) (r:aS):aS:=Bk t (cL t f) (eO t (cL t f+dA (t.drop (cL t f)))) r
theorem bL.note {w:World}{X:Nat}{r:aS} (h:bL w X r) (a b:Int):bL ((w.setCell ⟨X,8,none⟩ (.int .i64 a)).setCell ⟨X,9,none⟩ (.int .i64 b)) X { r with nf:=a,nt:=b }:=fE (fE h 8 _) 9 _
theorem bL.rest {w:World}{X:Nat}{r:aS} (h:bL w X r) (a b:Int):bL ((w.setCell ⟨X,6,none⟩ (.int .i64 a)).setCell ⟨X,7,none⟩ (.int .i64 b)) X { r with rf:=a,rt:=b }:=fE (fE h 6 _) 7 _
def Fj (X:Nat) (r:aS) (w w':World):Prop:=bL w' X r/\mW X w w'
theorem Fk (t:aC) (f X:Nat) (r:aS) (w:World) (hs:t.length<=1073741824) (hf:f<=t.length) (hX:bL w X r) (h0:0<=r.sf) (h1:r.sf<=1073741824) (hV:eQ w) (hT:dE w) (hM:nJ w):
  Calls prog 146 #[some X,bs t,f] w λe w'=>(∃v,e= .returned v)/\bL w' X (pX t f r)/\mW X w w':=by
 have sl:=aP t;obtain⟨b1,b2,_,_⟩:=Ew t f hf;have k:cL t f=f+bB (t.drop f):=rfl;obtain⟨R,d⟩:=exQ<|pX t f r;rw[d];unfold pX at d;obtain⟨f2,s⟩:=exQ<|cL t f;rw[s] at d b1 b2 k;have CL:Hid (∀w,Calls prog 29 #[((bs t).extract f t.length), .string ⟨#[32]⟩] w λe w'=>e= .returned (.string (bs (t.drop f2)))/\w=w'):=hid (λw=>by have:=Mn (t.drop f) w;rw[jO,<-k] at this;rw[iW _ _ _ rfl];exact this);have CQ:Hid (∀w,eQ w->dE w->Calls prog 144 #[((bs t).extract f2 t.length)] w (aT w (.int .i64 (dA (t.drop f2))))):=hid (λw hV hT=>by have:=Fh (t.drop f2) w DJ hV hT;rw[iW _ _ _ rfl];exact this);have l:=Bg (t.drop f2);rw[bC] at l;obtain⟨q,H⟩:=exQ<|dA (t.drop f2);rw[H] at CQ d l;have CN:=hid (λw hM=>Ml t (f2+q) w hs a_ hM);have p:=uZ t (f2+q);obtain⟨tw,o⟩:=exQ<|eO t (f2+q);rw[o] at CN d p;unfold Bk at d;obtain⟨n1,n2,_⟩:=p;have hft:f2<=tw:=by
  by_cases c:tw<t.length
  .have:=(n2 c).1;omega
  .omega
 have CR:Hid (∀w,Calls prog 99 #[((bs t).extract f2 tw), .string ⟨#[32]⟩] w λe w'=>e= .returned (.string (bs (((t.take tw).drop f2).take (kC ((t.take tw).drop f2)))))/\w=w'):=hid (λw=>by have:=Yw ((t.take tw).drop f2) w (by rw[bC,bR];omega);rw[gO,aY,<-List.drop_take];exact this);have b:((f2+q:Nat):Int)=(f2:Int)+(q:Int):=a_
 rw[b] at CN;obtain⟨Y,B⟩:=exQ<|((t.take tw).drop f2).take (kC ((t.take tw).drop f2));have h:Y.length=kC ((t.take tw).drop f2):=by rw[<-B,bR,Nat.min_eq_left (Aw _)]
 have m:=Aw ((t.take tw).drop f2);rw[bC,bR,Nat.min_eq_left n1] at m;obtain⟨z,F⟩:=exQ<|kC ((t.take tw).drop f2);rw[B] at CR;rw[F] at d h m;have sY:=aP Y;rw[h] at sY;have sD:=aP (t.drop f2);rw[bC] at sD;have hsub:(t.length:Int)-((t.length-f2:Nat):Int)=(f2:Int):=a_
 have M:=hid hX;have L:=hid hV;have J:=hid hT;have I:=hid hM;have K:=hid d;have hfi:(f:Int)<=(t.length:Int):=a_
 have hf2i:(f2:Int)<=(t.length:Int):=a_
 have htwi:(tw:Int)<=(t.length:Int):=a_
 have hfti:(f2:Int)<=(tw:Int):=a_
 clear hX hV hT hM d s H o n1 n2 B h F b k;go_in;go_wp2_with (go_at_call 29;refine(CL.out _).mono ?_;rintro e w' ⟨rfl,rfl⟩);(with_reducible refine(CQ.out _ L.out J.out).mono ?_);rintro e w1 ⟨rfl,g⟩;have E:=hid (M.out.keep g);have C:=hid (I.out.keep g);have A:=hid (mW.of_below (X:=X) g);clear g;go_upto_if 27 with(go_at_call 180;(with_reducible refine(CN.out _ C.out).mono ?_);rintro e w' ⟨rfl,rfl⟩);obtain⟨r2,a⟩: ∃r2:aS,r2= { r with nf:=if tw<t.length then r.sf+tw else r.nf,nt:=if tw<t.length then r.st else r.nt }:=⟨_,rfl⟩;have i:=hid a;go_cut [] (λwx=>Hid (Fj X r2 w wx))
 case first=>
  have u:Fj X r w w1:=⟨E.out,A.out⟩;by_cases c:tw<t.length
  .have dl:decide (tw<t.length)=true:=aQ c;clear a;go_wp2_with fail;obtain⟨a0,a1,a2,a3,a4,a5,a6,a7,a8,a9,g0,g1,g2,g3,g4,g5,g6,g7,g8,g9⟩:=u.1.cells;have y:IntKind.i64.wrap (r.sf+(tw:Int))=r.sf+(tw:Int):=by rw[IntKind.wrap_i64];omega
   have D:Hid (r2= { r with nf:=r.sf+tw,nt:=r.st }):=by rw[i.out,if_pos c,if_pos c];exact hid rfl
   clear c;go_region
   all_goals go_wp2_with fail
   all_goals go_meet
   all_goals (rw[D.out];exact⟨(bL.note u.1 _ _).drew,((u.2.set 8 _).set 9 _).drew⟩)
  .have dl:decide (tw<t.length)=false:=aJ c;have:r2=r:=(by rw[a,if_neg c,if_neg c]);subst this;clear a;go_wp2;go_meet;exact u
 have G:=hcut;clear a;have j:r2.sf=r.sf:=by rw[i.out]
 have D:Hid (R= { r2 with rf:=r.sf+f2,rt:=r.sf+(f2+z) }):=by rw[<-K.out,i.out];exact hid rfl
 rw[<-j] at h0 h1;have n:=hid j;clear j;go_upto_if 47 with fail;go_cut [7] (λs7 wx=>s7= .int .i64 (((f2+z:Nat)):Int)/\Hid (Fj X r2 w wx))
 case first=>
  by_cases hgt:f2<tw
  .have dg:decide (f2<tw)=true:=aQ hgt;go_wp2_with (go_at_call 99;refine(CR.out _).mono ?_;rintro e w' ⟨rfl,rfl⟩);go_meet;exact⟨t_,G.out⟩
  .have dg:decide (f2<tw)=false:=aJ hgt;obtain rfl:z=0:=a_;go_wp2;go_meet;exact⟨t_,G.out⟩
 obtain⟨rfl,x⟩:=hcut;obtain⟨a0,a1,a2,a3,a4,a5,a6,a7,a8,a9,g0,g1,g2,g3,g4,g5,g6,g7,g8,g9⟩:=x.out.1.cells;have y:IntKind.i64.wrap (r2.sf+(f2:Int))=r2.sf+(f2:Int):=by rw[IntKind.wrap_i64];omega
 have hw2:IntKind.i64.wrap (r2.sf+((f2:Int)+(z:Int)))=r2.sf+((f2:Int)+(z:Int)):=by rw[IntKind.wrap_i64];omega
 go_wp2;go_region
 all_goals go_end0
 all_goals (refine⟨⟨_,rfl⟩,?_,(((x.out.2).set 6 _).set 7 _).drew⟩)
 all_goals (rw[D.out,<-n.out];exact(bL.rest x.out.1 _ _).drew)
def vC (w:World) (S:Nat) (a b:Int):Prop:=w.heap[S]?=some (.cells #[a,b] 42 (0,0))
abbrev Yx (w:World) (S:Nat) (a b:Int):Prop:=w.cell? (S,0)=some (.int .i64 a)/\w.cell? (S,1)=some (.int .i64 b)
theorem vC.cells {w:World}{S:Nat}{a b:Int} (h:vC w S a b):Yx w S a b:=⟨pE h 0,pE h 1⟩
theorem vC.keep {w w':World}{S:Nat}{a b:Int} (h:vC w S a b) (hb:aA w w'):vC w' S a b:=(hb.block S (aG h)).trans h
def eL (r:aS):Value:= .agg #[r.kind,r.sf,r.st,r.ind,r.kf,r.kt,r.rf,r.rt,r.nf,r.nt]
def kM (x:aS×Int×Int):Ending:= .returned (.tuple #[eL x.1,x.2.1,x.2.2])
structure cG (w:World) (a b:Int) (r:aS) (w':World):Prop where
 s:vC w' w.heap.size a b
 l:bL w' (w.heap.size+1) r
 b:Below w.heap.size w w'
 z:w.heap.size+2<=w'.heap.size
theorem cG.start (w:World) (a b:Int):cG w a b bG ((w.alloc (.cells #[a,b] 42)).alloc (.cells #[(0:Int),(0:Int),(0:Int),(0:Int),(0:Int),(0:Int),(0:Int),(0:Int),(0:Int),(0:Int)] 68)):=by
 refine⟨?_,?_,?_,e_⟩
 .exact ol
 .have:=heap_alloc_new (w.alloc (.cells #[a,b] 42)) (.cells #[(0:Int),(0:Int),(0:Int),(0:Int),(0:Int),(0:Int),(0:Int),(0:Int),(0:Int),(0:Int)] 68);rw[tH] at this;exact this
 .exact(aL w _).trans ((aL (w.alloc (.cells #[a,b] 42)) _).mono e_)
theorem cG.keep {w w1 w2:World}{a b:Int}{r:aS} (h:cG w a b r w1) (hb:aA w1 w2):cG w a b r w2:=
 ⟨h.s.keep hb,h.l.keep hb,h.b.trans (hb.mono h.b.size),bF h.z hb.size⟩
theorem Mo {w:World}{p:Addr}{u:Value}{g:Nat} (h:g≠p.block):(w.setCell p u).heap[g]?=w.heap[g]?:=eW w p u g h
theorem cG.set {w w1:World}{a b:Int}{r:aS} (h:cG w a b r w1) {X:Nat} (hX:w.heap.size+2<=X) (i:Nat) (u:Value):cG w a b r (w1.setCell ⟨X,i,none⟩ u):=
 ⟨(Mo (show w.heap.size≠X by omega)).trans h.s,(Mo (show w.heap.size+1≠X by omega)).trans h.l,h.b.setCell (p:=⟨X,i,none⟩) (by show w.heap.size<=X;omega) u,by have:=h.z;simpa [World.setCell] using this⟩
theorem cG.drew {w w1:World}{a b:Int}{r:aS} (h:cG w a b r w1):cG w a b r w1.drew:=⟨h.s,h.l,h.b.drew,h.z⟩
def dJ (w:World) (X:Nat) (r:aS):World:=
 (((((((((w.setCell ⟨X,0,none⟩ (.int .i64 r.kind)).setCell ⟨X,1,none⟩ (.int .i64 r.sf)).setCell ⟨X,2,none⟩ (.int .i64 r.st)).setCell ⟨X,3,none⟩ (.int .i64 r.ind)).setCell ⟨X,4,none⟩ (.int .i64 r.kf)).setCell ⟨X,5,none⟩ (.int .i64 r.kt)).setCell ⟨X,6,none⟩ (.int .i64 r.rf)).setCell ⟨X,7,none⟩ (.int .i64 r.rt)).setCell ⟨X,8,none⟩ (.int .i64 r.nf)).setCell ⟨X,9,none⟩ (.int .i64 r.nt)
theorem bL.put {w:World}{X:Nat}{r r2:aS} (h:bL w X r):bL (dJ w X r2) X r2:=by
 unfold bL at h ⊢;unfold dJ;exact aj
theorem Mp {w:World}{X g:Nat}{r:aS} (h:g≠X):(dJ w X r).heap[g]?=w.heap[g]?:=by
 have a: ¬X=g:=λe=>h e.symm;unfold dJ;simp[World.setCell,Array.getElem?_modify,a]
theorem Mq (w:World) (X:Nat) (r:aS):(dJ w X r).heap.size=w.heap.size:=by unfold dJ;simp[World.setCell]
theorem Yy (w:World) (X:Nat) (r:aS):(dJ w X r).os=w.os:=by unfold dJ;simp[World.setCell]
theorem Yz (w:World) (X:Nat) (r:aS):(dJ w X r).tape=w.tape:=by unfold dJ;simp[World.setCell]
theorem Za (w:World) (X:Nat) (r:aS):(dJ w X r).output=w.output:=by unfold dJ;simp[World.setCell]
theorem cG.put {w w1:World}{a b:Int}{r r2:aS} (h:cG w a b r w1):cG w a b r2 (dJ w1 (w.heap.size+1) r2):=by
 refine⟨?_,bL.put h.l,⟨?_,?_,?_,?_,?_⟩,?_⟩
 .have c:=Mp (w:=w1) (X:=w.heap.size+1) (g:=w.heap.size) (r:=r2) a_;unfold vC;rw[c];exact h.s
 .rw[Yy];exact h.b.os
 .rw[Yz];exact h.b.tape
 .rw[Za];exact h.b.output
 .rw[Mq];exact h.b.size
 .intro i d;rw[Mp a_];exact h.b.block i d
 .rw[Mq];exact h.z
theorem yG (T:aC):T=List.replicate (bB T) 32++T.drop (bB T):=by
 have h:T.take (bB T)=List.replicate (bB T) 32:=by
  apply List.ext_getElem?;intro i;by_cases hi:i<bB T
  .rw[List.getElem?_take,if_pos hi,pA T i hi,List.getElem?_replicate,if_pos hi]
  .rw[List.getElem?_take,if_neg hi,List.getElem?_replicate,if_neg hi]
 rw[<-h,sS]
theorem Fl (n k:Nat) (U:aC):(List.replicate n (32:UInt8)++U).drop (n+k)=U.drop k:=by
 rw[List.drop_append,List.length_replicate,List.drop_of_length_le L',rJ];congr 1;omega
theorem Zb (U:aC) (n f:Nat) (h35:U.head?≠some 35) (r:aS):
  pX (List.replicate n 32++U) (n+f) r=⟨r.kind,r.sf,r.st,r.ind,r.kf,r.kt,r.sf+(n+cL U f),r.sf+(n+(cL U f+kC ((U.take (eO U (cL U f+dA (U.drop (cL U f))))).drop (cL U f)))),
   if eO U (cL U f+dA (U.drop (cL U f)))<U.length then r.sf+(n+eO U (cL U f+dA (U.drop (cL U f)))) else r.nf,if eO U (cL U f+dA (U.drop (cL U f)))<U.length then r.st else r.nt⟩:=by
 have e:cL (List.replicate n 32++U) (n+f)=n+cL U f:=by
  unfold cL;rw[Fl];omega
 unfold pX;rw[e,Fl,show n+cL U f+dA (U.drop (cL U f))=n+(cL U f+dA (U.drop (cL U f))) by omega,Xf n _ U h35];unfold Bk;have a:(List.replicate n (32:UInt8)++U).length=n+U.length:=by rw[aZ,List.length_replicate]
 obtain⟨tw,b⟩:=exQ<|eO U (cL U f+dA (U.drop (cL U f)));obtain⟨f2,d⟩:=exQ<|cL U f;rw[b,d,a];have c:((List.replicate n (32:UInt8)++U).take (n+tw)).drop (n+f2)=(U.take tw).drop f2:=by
  rw[List.take_append,List.length_replicate,uV L',show n+tw-n=tw by omega,Fl]
 rw[c];by_cases ht:tw<U.length
 .rw[if_pos ht,if_pos ht,if_pos a_,if_pos a_];simp only[aS.mk.injEq,true_and,and_true];omega
 .rw[if_neg ht,if_neg ht,if_neg a_,if_neg a_];simp only[aS.mk.injEq,true_and,and_true];omega
theorem cG.only {w w1 w2:World}{a b:Int}{r:aS} (h:cG w a b r w1) {X:Nat} (hX:w.heap.size+2<=X) (ho:mW X w1 w2):cG w a b r w2:=
  ⟨(ho.block w.heap.size (aG h.s) O_).trans h.s,(ho.block (w.heap.size+1) (aG h.l) O_).trans h.l,
   ⟨ho.os.trans h.b.os,ho.tape.trans h.b.tape,ho.output.trans h.b.output,bF h.b.size ho.size,λi c=>(ho.block i (iG c h.b.size) O_).trans (h.b.block i c)⟩,bF h.z ho.size⟩
def lX (x y:Int) (n:Nat) (o:Option tN):aS×Int×Int:=match o with | none=>(bG,x+n,2) | some c=>(pS x y n c,y,0)
theorem tS {x y:Int}{n:Nat}{c:tN}{r:aS} (h:pS x y n c=r):Ending.returned (.tuple #[eL r,y,(0:Int)])=kM (lX x y n (some c)):=by unfold kM lX;simp only[];rw[h]
theorem Bl (U T:aC) (n:Nat) (x y:Int) (H:Nat×Nat) (h35:U.head?≠some 35) (hT:T=List.replicate n 32++U) (r:aS) (hr:r=⟨H.1,x,y,n,if H.1=4 then x+n else 0,if H.1=4 then x+n+H.2 else 0,x+n,x+n,0,0⟩):
  pS x y n (tO U H (cL U (eU H)) (eO U (cL U (eU H)+dA (U.drop (cL U (eU H))))))=pX T (n+eU H) r:=by
 rw[hT,Zb U n (eU H) h35 r,hr];unfold pS tO;obtain⟨tw,b⟩:=exQ<|eO U (cL U (eU H)+dA (U.drop (cL U (eU H))));obtain⟨f2,a⟩:=exQ<|cL U (eU H);rw[b,a];by_cases ht:tw<U.length
 .simp only[if_pos ht,aS.mk.injEq,true_and,and_true];omega
 .simp only[if_neg ht,aS.mk.injEq,true_and,and_true];omega
theorem Zc (l:aC) (x y:Nat) (w:World) (hs:l.length<=1073741824) (hxy:x<=y) (hyl:y<=l.length) (T:aC) (hTd:(l.drop x).take (y-x)=T) (h10:T.contains 10=false) (hV:eQ w) (hT:dE w) (hM:nJ w) (hw:dI true T=T.length):
  Calls prog 105 #[bs l, .agg #[x,y]] w λe w'=>e=kM (lX x y (bB T) (gG (T.drop (bB T))))/\aA w w':=by
 have sl:=aP l;have Q:T.length=y-x:=by rw[<-hTd,bR,bC];omega
 have CW:Hid (∀w,Calls prog 142 #[bs l, .agg #[x,y]] w (aT w (.bool true))):=hid (λw=>by
  have:=Fi l x y w hs;have e:qS l x y=true:=by
   unfold qS;rw[if_neg a_,gA,show ((y:Int)-(x:Int)).toNat=y-x by omega,hTd,h10];rfl
  rw[e] at this;exact this)
 have hex:(bs l).extract x y=bs T:=by rw[gO,aY,hTd]
 have CG:Hid (∀w,dE w->Calls prog 143 #[bs T] w (aT w (.tuple #[(0:Int),false]))):=hid (λw hT=>by have:=Lv T w (by have:=Q;omega) hT;rw[Lu hw] at this;exact this);obtain⟨n,hn⟩:=exQ<|bB T;have aw:=jU T;rw[hn] at aw;have CL:Hid (∀w,Calls prog 29 #[bs T, .string ⟨#[32]⟩] w λe w'=>e= .returned (.string (bs (T.drop n)))/\w=w'):=hid (λw=>by rw[<-hn];exact Mn T w);have sU:=aP (T.drop n);rw[bC] at sU;have hsub:(T.length:Int)-((T.length-n:Nat):Int)=(n:Int):=a_
 obtain⟨U,V⟩:=exQ<|T.drop n;rw[V] at CL sU;rw[hn,V];have aq:U.length<=1073741824:=by rw[<-aP U,sU];omega
 have sT:=aP T;have HTl:=hid Q;have P:T.length<=1073741824:=a_
 clear Q;have HV:=hid hV;have HT:=hid hT;have HM:=hid hM;clear hV hT hM hw;have hxyi:(x:Int)<=(y:Int):=a_
 have hyli:(y:Int)<=(l.length:Int):=a_
 go_in;go_wp2_with fail;have al:=hid (cG.start w x y);(with_reducible refine(CW.out _).mono ?_);rintro e w1 ⟨rfl,ak⟩;have Y:=hid (al.out.keep ak);clear ak;obtain⟨s0,s1⟩:=Y.out.s.cells;go_wp2_with fail;have au:=hid (HT.out.keep Y.out.b);(with_reducible refine(CG.out _ au.out).mono ?_);rintro e w2 ⟨rfl,ae⟩;have Z:=hid (Y.out.keep ae);clear ae s0 s1;obtain⟨s0,s1⟩:=Z.out.s.cells;go_upto_region 8 with(go_at_call 29;refine(CL.out _).mono ?_;rintro e w' ⟨rfl,rfl⟩);go_cut [4,5,6,7,10,11] (λs4 s5 s6 s7 am an wx=> ∃X:Nat,s4= .pointer (some ⟨w.heap.size+1,0,none⟩)/\s5= .int .i64 0/\s6= .int .i64 0/\s7= .string (bs T)/\am= .string (bs U)/\an= .pointer (some ⟨X,0,none⟩)/\w.heap.size+2<=X/\Hid (cG w x y bG wx/\bL wx X ⟨1,x,y,n,0,0,0,0,0,0⟩))
 case first=>
  go_wp2;go_meet;exact⟨w2.heap.size,rfl,rfl,rfl,rfl,rfl,rfl,Z.out.z,Z.out.keep (aL _ _),heap_alloc_new w2 _⟩
 obtain⟨X,rfl,rfl,rfl,rfl,rfl,rfl,A,HS⟩:=hcut;obtain⟨s0,s1⟩:=HS.out.1.s.cells;obtain⟨a0,a1,a2,a3,a4,a5,a6,a7,a8,a9,g0,g1,g2,g3,g4,g5,g6,g7,g8,g9⟩:=HS.out.2.cells;go_upto_region 10 with fail;go_cut [12] (λar wx=>ar= .int .i64 ((x:Int)+(n:Int))/\Hid (cG w x y bG wx/\bL wx X ⟨1,x,y,n,0,0,x+n,x+n,0,0⟩))
 case first=>
  go_wp2;go_meet;exact⟨rfl,(HS.out.1.set A 6 _).set A 7 _,fE (fE HS.out.2 6 _) 7 _⟩
 clear s0 s1 a0 a1 a2 a3 a4 a5 a6 a7 a8 a9 g0 g1 g2 g3 g4 g5 g6 g7 g8 g9;obtain⟨rfl,c⟩:=hcut;obtain⟨s0,s1⟩:=c.out.1.s.cells;obtain⟨a0,a1,a2,a3,a4,a5,a6,a7,a8,a9,g0,g1,g2,g3,g4,g5,g6,g7,g8,g9⟩:=c.out.2.cells;obtain⟨b0,b1,b2,b3,b4,b5,b6,b7,b8,b9,G,r,o,m,p,E,J,I,F,K⟩:=c.out.1.l.cells;by_cases hUe:U= []
 .have L6:=trivial;exact H7
 .have N:0<(bs U).size:=by rw[aP];exact rS.2 hUe
  have hne:(bs U).toList.isEmpty=false:=by rw[Lib.toList_data,aY];cases U with | nil=>exact absurd rfl hUe | cons _ _=>rfl
  have hne2: ¬(bs U).toList= []:=by rw[Lib.toList_data,aY];exact hUe
  have j:=iX U 35 35 rfl N;have g:=iX U 34 34 rfl N;have f:=iX U 39 39 rfl N;obtain⟨cc,ah⟩: ∃cc:Int,(((bs U)[0]'N).toNat:Int)=cc:=⟨_,rfl⟩;rw[ah] at j g f;have a:gG U=if U.head?=some 35 then some ⟨2,0,0,0,some 0⟩ else if(U.head?=some 34\/U.head?=some 39)/\dA U=0 then none else some (tO U (fD U) (cL U (eU (fD U))) (eO U (cL U (eU (fD U))+dA (U.drop (cL U (eU (fD U))))))):=by unfold gG;rw[if_neg hUe]
  by_cases h35:U.head?=some 35
  .have L5:=trivial;exact H7
  rw[if_neg h35] at a;rw[show (U.head?==some 35)=false from aI.2 h35] at j;have CQ:=hid (λw hV hT=>Fh U w a_ hV hT);by_cases hbq:(U.head?=some 34\/U.head?=some 39)/\dA U=0
  .rw[if_pos hbq] at a;have O:=hid a;rw[hbq.2] at CQ;have TQ:((cc==34)||(cc==39))=true:=by
    rw[g,f];rcases hbq.1 with h | h<;>rw[h]<;>rfl
   clear a h35 V hUe hbq;by_cases hc34:cc=34
   .have L3:=trivial;exact H7
   .have L4:=trivial;exact H7
  .rw [if_neg hbq] at a;have O:=hid a;have ag:=Eu U hbq;have CH:=hid (λw hV hT hM=>Yt U w hUe aq hV hT hM);have D:=hid h35;have S:Hid (T=List.replicate n 32++U):=hid (by have:=yG T;rw[hn,V] at this;exact this);obtain⟨H,hH⟩:=exQ<|fD U;rw[hH] at O ag CH;obtain⟨q,af⟩:=exQ<|dA U;rw[af] at hbq CQ;clear a h35 V hH af;go_upto_region 16 with fail;go_cut [75] (λao wx=>ao= .bool false/\Hid (cG w x y bG wx/\bL wx X ⟨1,x,y,n,0,0,x+n,x+n,0,0⟩))
   case first=>
    by_cases hc34:cc=34
    .have OF:=trivial;exact JP
    .have aj:(cc==34)=false:=aI.2 hc34;by_cases hc39:cc=39
     .exact JP
     .have av:(cc==39)=false:=aI.2 hc39;clear hbq g f j;go_wp2;go_meet;exact⟨rfl,c.out⟩
   obtain⟨rfl,d⟩:=hcut;clear s0 s1 a0 a1 a2 a3 a4 a5 a6 a7 a8 a9 g0 g1 g2 g3 g4 g5 g6 g7 g8 g9 b0 b1 b2 b3 b4 b5 b6 b7 b8 b9 G r o m p E J I F K;clear hbq g f j ah;obtain⟨s0,s1⟩:=d.out.1.s.cells;obtain⟨a0,a1,a2,a3,a4,a5,a6,a7,a8,a9,g0,g1,g2,g3,g4,g5,g6,g7,g8,g9⟩:=d.out.2.cells;obtain⟨b0,b1,b2,b3,b4,b5,b6,b7,b8,b9,G,r,o,m,p,E,J,I,F,K⟩:=d.out.1.l.cells;go_wp2_with fail;(with_reducible refine(CH.out _ (HV.out.keep d.out.1.b) (HT.out.keep d.out.1.b) (HM.out.keep d.out.1.b)).mono ?_);unfold Mm;rintro e w4 ⟨rfl,ab⟩;have i:=hid (aK (d.out.1.keep ab) (d.out.2.keep ab));clear ab;clear s0 s1 a0 a1 a2 a3 a4 a5 a6 a7 a8 a9 g0 g1 g2 g3 g4 g5 g6 g7 g8 g9 b0 b1 b2 b3 b4 b5 b6 b7 b8 b9 G r o m p E J I F K;obtain⟨s0,s1⟩:=i.out.1.s.cells;obtain⟨a0,a1,a2,a3,a4,a5,a6,a7,a8,a9,g0,g1,g2,g3,g4,g5,g6,g7,g8,g9⟩:=i.out.2.cells;obtain⟨b0,b1,b2,b3,b4,b5,b6,b7,b8,b9,G,r,o,m,p,E,J,I,F,K⟩:=i.out.1.l.cells;have aa:(x:Int)<=1073741824:=a_;rcases ag with⟨rfl,_⟩ | rfl | ⟨k,rfl,hk1,hk,hk3⟩
   .have L0:=trivial;exact G9
   .have L1:=trivial;exact G9
   .exact G9
theorem Mr (l:aC) (a b:Int) (w:World) (hs:l.length<=1073741824) (h:qS l a b=false):
  Calls prog 105 #[bs l, .agg #[a,b]] w λe w'=>e=kM (bG,0,1)/\aA w w':=by
 have NM:=trivial;exact I8
theorem Zd (l:aC) (x y:Nat) (w:World) (hs:l.length<=1073741824) (hxy:x<=y) (hyl:y<=l.length) (T:aC) (hTd:(l.drop x).take (y-x)=T) (h10:T.contains 10=false) (hT:dE w) (k:Nat) (hw:dI true T=k) (hk:k<T.length):
  Calls prog 105 #[bs l, .agg #[x,y]] w λe w'=>e=kM (bG,(x:Int)+k,2)/\aA w w':=I8
theorem Ze (l:aC) (a b:Int) (w:World) (hs:l.length<=1073741824) (hV:eQ w) (hT:dE w) (hM:nJ w):
  Calls prog 105 #[bs l, .agg #[a,b]] w λe w'=>e=kM (fN l a b)/\aA w w':=by
 obtain⟨R,c⟩:=exQ<|fN l a b;rw[c];unfold fN at c;by_cases hout:a<0\/b<a\/(l.length:Int)<b
 .rw[if_pos hout] at c;subst c;exact Mr l a b w hs (by unfold qS;rw[if_pos hout])
 rw[if_neg hout] at c;obtain⟨x,rfl⟩: ∃x:Nat,a=x:=⟨a.toNat,a_⟩;obtain⟨y,rfl⟩: ∃y:Nat,b=y:=⟨b.toNat,a_⟩;simp only[gA,show ((y:Int)-(x:Int)).toNat=y-x by omega] at c;obtain⟨T,d⟩:=exQ<|(l.drop x).take (y-x);rw[d] at c;cases h10:T.contains 10 with
 | true=>
  rw[h10,if_pos rfl] at c;subst c;exact Mr l x y w hs (by unfold qS;rw[if_neg hout,gA,show ((y:Int)-(x:Int)).toNat=y-x by omega,d,h10];rfl)
 | false=>
  rw[h10,if_neg e_] at c;by_cases hk:dI true T<T.length
  .rw[if_pos hk] at c;subst c;exact Zd l x y w hs a_ a_ T d h10 hT _ rfl hk
  .rw[if_neg hk] at c;have f:dI true T=T.length:=by
    have:=(tM true T.length T 0).2;unfold dI at hk ⊢;omega
   have:=Zc l x y w hs a_ a_ T d h10 hV hT hM f;have e:lX x y (bB T) (gG (T.drop (bB T)))=R:=by rw[<-c];rfl
   rw[e] at this;exact this
end Go.Proofs.YtfhjncbdgjlcoaaGreatDoor
