import Derived.Test.YtjnooaljcgkfpaaGreatDoorBk1
import Derived.Lib.Builder
import Derived.Lib.AppendStr
import Derived.Lib.UnsafeStr
import Derived.Lib.FrozenHead
import Derived.Lib.FrozenHead2
import Derived.Lib.OthersKept
import Derived.Laws.Externs
import Derived.Shelf.RegionOpenPlain
import Derived.RegionTactic
import Derived.KernelRfl
import Derived.Test.YtjnooaljcgkfpaaGreatDoorBk13
set_option maxRecDepth 100000
set_option maxHeartbeats 2000000
namespace Go.Proofs.YtjnooaljcgkfpaaGreatDoor
set_option linter.unusedVariables false
set_option linter.unusedSimpArgs false
section
open Go.RowKit
structure yK (T:TypeId) (n:Nat):Prop where
 lies:liesAt Tryz.prog Tryz.prog.depth T (n / Tryz.prog.cellsOf T) 0 57 1=true
 ne:T≠5
def EB (T:TypeId) (ext:List Value) (B b:Nat) (p:Value) (l:List UInt8) (w:World):Prop:=
 B<=b/\ ∃v,w.heap[b]?=some (.cells (p::v::ext).toArray T (0,0))/\w.ownsRowF B 5 1 v l.length (Lib.byteCells l)/\v.ownBlock≠some b
def iE (T:TypeId) (ext:List Value) (B b:Nat) (l:List UInt8) (w:World):Prop:=EB T ext B b (.pointer none) l w\/EB T ext B b (.pointer (some ⟨b,0,none⟩)) l w
section
variable {T:TypeId}{ext:List Value}{B b:Nat}{p:Value}{l:List UInt8}{w w':World}
theorem EB.cell0 (h:EB T ext B b p l w):w.cell? ⟨b,0,none⟩=some p:=by
 obtain⟨_,v,a,_⟩:=h;simp[World.cell?,a]
theorem EB.shape (h:EB T ext B b p l w):w.shape? b=some (T,ext.length+2):=by
 obtain⟨_,v,a,_⟩:=h;simp[World.shape?,a]
theorem EB.lt (h:EB T ext B b p l w):b<w.heap.size:=by
 obtain⟨_,v,a,_⟩:=h;exact aE a
theorem EB.frozen0 (h:EB T ext B b p l w):w.frozen? ⟨b,0,none⟩=false:=by
 obtain⟨_,v,a,_⟩:=h;simp[World.frozen?,a]
theorem EB.used (h:EB T ext B b p l w) (q:Value):EB T ext B b q l (w.setCell ⟨b,0,none⟩ q):=by
 obtain⟨f,v,d,a,c⟩:=h;refine⟨f,v,?_,?_,c⟩
 ·simp[World.setCell,Array.getElem?_modify,d]
 ·refine a.kept (row:=some b) ⟨rfl,rfl,rfl,by simp[World.setCell],λk _ g=>eQ _ _ _ _ (λe=>g (by simp[e]))⟩ ?_;exact Or.inr c
theorem EB.put {v v':Value}{l':List UInt8} (hB:B<=b) (hb:w.heap[b]?=some (.cells (p::v::ext).toArray T (0,0))) (hown:w.ownsRowF B 5 1 v' l'.length (Lib.byteCells l')) (hT:T≠5):
  EB T ext B b p l' (w.setCell ⟨b,1,none⟩ v'):=by
 have a:=Lib.ownBlock_neF hown hb hT;refine⟨hB,v',?_,?_,a⟩
 ·simp[World.setCell,Array.getElem?_modify,hb]
 ·exact hown.kept (row:=some b) ⟨rfl,rfl,rfl,by simp[World.setCell],λk _ c=>eQ _ _ _ _ (λe=>c (by simp[e]))⟩ (Or.inr a)
theorem EB.keep (h:EB T ext B b p l w) (hb:Below w.heap.size w w'):EB T ext B b p l w':=by
 have d:=h.lt;obtain⟨f,v,e,a,c⟩:=h;refine⟨f,v,(hb.block b d).trans e,?_,c⟩;refine a.kept (row:=none) ⟨hb.os,hb.tape,hb.output,hb.size,λk g _=>hb.block k g⟩ ?_;cases hv:v.ownBlock<;>simp
theorem iE.keep (h:iE T ext B b l w) (hb:Below w.heap.size w w'):iE T ext B b l w':=h.elim (λh=> .inl (h.keep hb)) (λh=> .inr (h.keep hb))
theorem iE.lt (h:iE T ext B b l w):b<w.heap.size:=h.elim (λh=>h.lt) (λh=>h.lt)
theorem iE.le (h:iE T ext B b l w):B<=b:=h.elim (λh=>h.1) (λh=>h.1)
theorem iE.new (w:World) (T:TypeId) (ext:List Value):iE T ext w.heap.size w.heap.size [] (w.alloc (.cells (.pointer none:: .slice none 0 0::ext).toArray T)):=
 .inl ⟨aD _,_,heap_alloc_new w _,World.ownsRowF_nil _ _ _ _,by simp[Value.ownBlock]⟩
end
abbrev mP (T:TypeId) (ext:List Value) (B b:Nat) (l:List UInt8) (w w':World):Prop:=iE T ext B b l w'/\Below B w w'/\Lib.OthersKept 5 (some b) w w'
theorem Og {T:TypeId}{ext:List Value} (hT:yK T (ext.length+2)) (B b:Nat) (l:List UInt8) (w:World) (h:iE T ext B b l w):
  Calls Tryz.prog 124 #[.pointer (some ⟨b,0,none⟩)] w λe w'=>e= .returned (.tuple #[])/\EB T ext B b (.pointer (some ⟨b,0,none⟩)) l w'/\Below B w w'/\Lib.OthersKept 5 (some b) w w':=by
 obtain⟨j,c,d⟩:=nU.1 (show (Tryz.prog.info? 57).map (·.size)=some 2 by kernel_rfl);rcases h with h | h
 ·have f:=h.cell0;have hfz:=h.frozen0;have a:=h.shape;have H:=hid h;go_enter Tryz.func124,Tryz.ntmps124;go_wp2_with fail;rw[Lib.run_to_unsafe w ⟨b,0,none⟩ Tryz.underlying54 Tryz.underlying185 c (by rw[d];decide) a (Nat.zero_lt_succ _)];simp only[Result.andThen];rw[Oper.upon_value];go_wp2_with fail;rw[run_callFunc_extern Tryz.func155 (by kernel_rfl) (by kernel_rfl) (by kernel_rfl) (e:=Extern.AbiNoEscape.same) (by kernel_rfl)];rw[Lib.run_noEscape];simp only[Result.andThen];rw[Oper.upon_value];go_wp2_with fail;rw[Lib.run_from_unsafe w ⟨b,0,none⟩ Tryz.underlying185 Tryz.underlying54 c a hT.lies];simp only[Result.andThen];rw[Oper.upon_value];go_wp2_with fail;go_end0;exact⟨rfl,H.out.used _,(aB B w).setCell (p:=⟨b,0,none⟩) H.out.1 _,(Lib.OthersKept.refl _ _ w).setCell ⟨b,0,none⟩ rfl _⟩
 ·have f:=h.cell0;have hnq:=Lib.run_neq_ptr_same w ⟨b,0,none⟩ Tryz.underlying54 c;have H:=hid h;go_enter Tryz.func124,Tryz.ntmps124;go_wp2_with fail;go_end0;exact⟨rfl,H.out,aB B _,Lib.OthersKept.refl _ _ _⟩
theorem sZ {T:TypeId}{ext:List Value} (hT:yK T (ext.length+2)) (B b:Nat) (l:List UInt8) (c:UInt8) (w:World) (h:iE T ext B b l w) (hl:l.length<=4294967296) (hBw:B<=w.heap.size):
  Calls Tryz.prog 99 #[.pointer (some ⟨b,0,none⟩), .int .u8 (c.toNat:Int)] w λe w'=>e= .returned .nilIface/\mP T ext B b (l++ [c]) w w':=by
 obtain⟨i0,G,t,z,y⟩:=info_parts (show (Tryz.prog.info? 5).map (λi=>(i.zero,i.size,i.bytes))=some (some (.int .u8 0),1,1) by kernel_rfl);have F:=hid (Og hT B b l w h);clear h;go_enter Tryz.func99,Tryz.ntmps99;go_wp2_with fail;refine F.out.mono ?_;rintro e w1 ⟨rfl,E,o,s⟩;obtain⟨A,v,n,d,r⟩:=E;have c0:w1.cell? ⟨b,0,none⟩=some (.pointer (some ⟨b,0,none⟩)):=by rw[Lib.cell_of_heap n];rfl
 have c1:w1.cell? ⟨b,1,none⟩=some v:=by rw[Lib.cell_of_heap n];rfl
 go_wp2_with (at_builtin;refine wpList_append_ownF _ rfl _ _ 55 rfl B 5 i0 (.int .u8 0) 1 1 Tryz.underlying55 G t z y rfl (by decide) _ _ _ rfl (d.alloc _) ⟨w1.heap.size,0,none⟩ 1 1 [.int .u8 (c.toNat:Int)] rfl rfl ?c1 ?c2 ?c3 ?c4 ?c5 ?_)
 case c1=>
  intro j u q
  match j,q with
  | 0,q=>simp at q;subst q;simp[Addr.add]
 case c2=>intro u C;simp at C;subst C;rfl
 case c3=>unfold maxLen;omega
 case c4=>omega
 case c5=>have:=o.size;simp;omega
 intro v' w2 f a _;have x:b<w1.heap.size:=aE n;have m:w2.heap[b]?=some (.cells (.pointer (some ⟨b,0,none⟩)::v::ext).toArray T (0,0)):=by
  rw[a.block b (by simp;omega) (λe=>r e.symm),Lib.alloc_old w1 _ b x];exact n
 have d0:w2.cell? ⟨b,0,none⟩=some (.pointer (some ⟨b,0,none⟩)):=by rw[Lib.cell_of_heap m];rfl
 have d1:w2.cell? ⟨b,1,none⟩=some v:=by rw[Lib.cell_of_heap m];rfl
 have f1:w2.frozen? ⟨b,1,none⟩=false:=Lib.frozen_of_heap m 1;obtain⟨g,cap,rfl⟩: ∃g cap,v'= .slice (some ⟨g,0,none⟩) (l.length+1) cap:=by
  rcases f.2 with⟨_,h0⟩ | ⟨g,cap,cur,fz,D,_⟩
  ·omega
  ·exact⟨g,cap,D⟩
 go_wp2_with fail;go_ret;refine⟨rfl,?_,?_,((s.alloc _).grown a (Lib.ownsRowF_kind (d.alloc _))).setCell ⟨b,1,none⟩ rfl _⟩
 ·refine .inr (EB.put A m (l':=l++ [c]) ?_ hT.ne);rw[show Lib.byteCells (l++ [c])=Lib.byteCells l++ [.int .u8 (c.toNat:Int)] from by rw[Lib.byteCells_append];rfl,aI,dQ];exact f
 ·exact((o.alloc (by have:=o.size;omega) _).grown a (by have:=o.size;simp;omega) (λk H=>(d.lt k H).1)).setCell (p:=⟨b,1,none⟩) A _
theorem uF {T:TypeId}{ext:List Value} (hT:yK T (ext.length+2)) (B b:Nat) (l s:List UInt8) (w:World) (h:iE T ext B b l w) (hl:l.length<=4294967296) (hs:s.length<=4294967296) (hBw:B<=w.heap.size):
  Calls Tryz.prog 82 #[.pointer (some ⟨b,0,none⟩), .string (bs s)] w λe w'=>e= .returned (.tuple #[.int .i64 (s.length:Int), .nilIface])/\mP T ext B b (l++s) w w':=by
 obtain⟨i0,D,r,y,x⟩:=info_parts (show (Tryz.prog.info? 5).map (λi=>(i.zero,i.size,i.bytes))=some (some (.int .u8 0),1,1) by kernel_rfl);have C:=hid (Og hT B b l w h);have ss:=aQ s;clear h;go_enter Tryz.func82,Tryz.ntmps82;go_wp2_with fail;refine C.out.mono ?_;rintro e w1 ⟨rfl,A,m,q⟩;obtain⟨z,v,j,c,o⟩:=A;have c0:w1.cell? ⟨b,0,none⟩=some (.pointer (some ⟨b,0,none⟩)):=by rw[Lib.cell_of_heap j];rfl
 have c1:w1.cell? ⟨b,1,none⟩=some v:=by rw[Lib.cell_of_heap j];rfl
 go_wp2_with (at_builtin;refine Lib.wpList_append_own_stringF _ rfl _ _ 55 9 rfl B 5 i0 Tryz.underlying55 Tryz.underlying9 D r y x _ _ _ rfl c (bs s) rfl ?c3 ?c4 ?c5 ?_)
 case c3=>rw[ss];unfold maxLen;omega
 case c4=>rw[ss];omega
 case c5=>have:=m.size;omega
 intro v' w2 d a _;have u:b<w1.heap.size:=aE j;have f:w2.heap[b]?=some (.cells (.pointer (some ⟨b,0,none⟩)::v::ext).toArray T (0,0)):=by
  rw[a.block b u (λe=>o e.symm)];exact j
 have d0:w2.cell? ⟨b,0,none⟩=some (.pointer (some ⟨b,0,none⟩)):=by rw[Lib.cell_of_heap f];rfl
 have d1:w2.cell? ⟨b,1,none⟩=some v:=by rw[Lib.cell_of_heap f];rfl
 have f1:w2.frozen? ⟨b,1,none⟩=false:=Lib.frozen_of_heap f 1;obtain⟨ao,n',cap,rfl⟩: ∃ao n' cap,v'= .slice ao n' cap:=by
  rcases d.2 with⟨n,_⟩ | ⟨g,cap,cur,fz,n,_⟩
  ·exact⟨_,_,_,n⟩
  ·exact⟨_,_,_,n⟩
 have t:Lib.byteCells (l++s)=Lib.byteCells l++Lib.strCells (bs s):=by
  rw[Lib.byteCells_append];congr 1
 go_wp2_with fail;go_ret2;refine⟨rfl,?_,?_,(q.grown a (Lib.ownsRowF_kind c)).setCell ⟨b,1,none⟩ rfl _⟩
 ·refine .inr (EB.put z f (l':=l++s) ?_ hT.ne);rw[t,aI,<-ss];exact d
 ·exact(m.grown a (by have:=m.size;omega) (λk E=>(c.lt k E).1)).setCell (p:=⟨b,1,none⟩) z _
theorem Oh {T:TypeId}{ext:List Value} (B b:Nat) (l:List UInt8) (w:World) (h:iE T ext B b l w) (h0:l≠ []):
  Calls Tryz.prog 29 #[.pointer (some ⟨b,0,none⟩)] w λe w'=>e= .returned (.string (bs l))/\Below B w w':=by
 obtain⟨p,hB,v,d,a,hne⟩: ∃p,EB T ext B b p l w:=by
  rcases h with h | h
  ·exact⟨_,h⟩
  ·exact⟨_,h⟩
 have i:l.length≠0:=by simpa using h0
 obtain⟨g,cap,cur,fz,rfl,f,t,hfz,hnc,n,hcs,c⟩: ∃g cap cur fz,v= .slice (some ⟨g,0,none⟩) l.length cap/\B<=g/\w.heap[g]?=some (.cells cur 5 fz)/\fz.2<=l.length*1/\l.length<=cap/\cap<=maxLen/\cur.size=cap*1/\cur.toList.take (l.length*1)=Lib.byteCells l:=by
  rcases a.2 with⟨_,o⟩ | ⟨g,cap,cur,fz,s,r⟩
  ·exact absurd o i
  ·exact⟨g,cap,cur,fz,s,r⟩
 have c1:w.drew.cell? ⟨b,1,none⟩=some (.slice (some ⟨g,0,none⟩) l.length cap):=by
  have:w.drew.heap[b]?=some (.cells (p:: .slice (some ⟨g,0,none⟩) l.length cap::ext).toArray T (0,0)):=d;rw[Lib.cell_of_heap this];rfl
 have hSD:(Builtin.unsafeSliceData_ #[55] 84 #[.slice (some ⟨g,0,none⟩) l.length cap]).run Tryz.prog w.drew= .ok (.pointer (some ⟨g,0,none⟩)) w.drew:=
  Lib.run_unsafeSliceData_row _ _ _ _ _ _ (by omega)
 have hUS:(Builtin.unsafeString_ #[84,3] 9 #[.pointer (some ⟨g,0,none⟩), .int .i64 l.length]).run Tryz.prog w.drew= .ok (.string (bs l)) (w.drew.freeze ⟨g,0,none⟩ l.length):=by
  refine Lib.run_unsafeString_row w.drew 84 3 9 5 Tryz.underlying84 (by kernel_rfl) g cur.size (by have m:w.drew.heap[g]?=some (.cells cur 5 fz):=t;simp[World.shape?,m]) l h0 (by omega) (by unfold maxLen at n;omega) ?_;intro j x q;have:=a.cells (g:=g) rfl j (.int .u8 x.toNat) (by simp[Lib.byteCells,q]);exact this
 have k:Below B w (w.drew.freeze ⟨g,0,none⟩ l.length):=Lib.below_freeze (Below.drew (aB B w)) (p:=⟨g,0,none⟩) f _;clear a c d;go_enter Tryz.func29,Tryz.ntmps29;go_wp2_with fail;go_region
 all_goals (go_wp2_with fail;go_ret;exact⟨rfl,k⟩)
end
section
open Go.RowKit
open Go.Lib hiding intOf
mutual
def fE:VT->aA
 | .mk k s ks l=>if k=1 then nG else if k=4 then(dZ s).1 else if k=5 then 91::(gR true l++ [93]) else if k=6 then 123::(gS true l ks++ [125]) else s
def gR (first:Bool):List VT->aA
 | []=> []
 | x::l=>(if first then [] else [44])++fE x++gR false l
def gS (first:Bool):List VT->List aA->aA
 | [],_=> []
 | x::l,ks=>(if first then [] else [44])++((dZ (ks.headD [])).1++ [58]++fE x)++gS false l ks.tail
end
theorem Oi (f:Bool) (a:List VT) (x:VT):gR f (a++ [x])=gR f a++((if f&&a.isEmpty then [] else [44])++fE x):=by
 induction a generalizing f with
 | nil=>simp[gR]
 | cons y a ih=>rw[cU,gR,gR,ih];simp
theorem Oj (f:Bool) (a:List VT) (x:VT): ∀(ks:List aA) (k:aA),ks[a.length]?=some k->gS f (a++ [x]) ks=gS f a ks++((if f&&a.isEmpty then [] else [44])++((dZ k).1++ [58]++fE x)):=by
 induction a generalizing f with
 | nil=>
  intro ks k c;cases ks with
  | nil=>simp at c
  | cons k0 ks=>simp at c;subst c;simp[gS]
 | cons y a ih=>
  intro ks k c;cases ks with
  | nil=>simp at c
  | cons k0 ks=>
   rw[cU,gS,gS];simp only[List.tail_cons];rw[ih false ks k (by simpa using c)];simp
def Kp (B b:Nat) (w w':World):Prop:=Below B w w'/\Lib.OthersKept 5 (some b) w w'
section
variable {B b:Nat}{w w1 w2:World}
theorem Kp.refl (B b:Nat) (w:World):Kp B b w w:=⟨aB B w,Lib.OthersKept.refl _ _ w⟩
theorem Kp.trans (h:Kp B b w w1) (h2:Kp B b w1 w2):Kp B b w w2:=⟨h.1.trans h2.1,h.2.trans h2.2⟩
theorem Kp.of_below (h:Below w.heap.size w w1) (hB:B<=w.heap.size):Kp B b w w1:=
 ⟨h.mono hB,λk o a _ _=>(h.block k (aE a)).trans a⟩
theorem Kp.size (h:Kp B b w w1):w.heap.size<=w1.heap.size:=h.1.size
theorem bF.kp {X:Nat}{t:VT}{kv iv:Value} (h:bF w X t kv iv) (hk:Kp B b w w1) (hX:X≠b):bF w1 X t kv iv:=
 hk.2 X _ h (λe=>hX (bC e)) (λc fz e=>by injection e with _ e;exact absurd e (by decide))
end
mutual
theorem vZ: ∀t:VT,(fE t).length+4<=12*t.bulk
 | .mk k s ks l=>by
  rw[fE,VT.bulk];have h1:=tY s;have h2:=Ok true l;have h3:=Ol true l ks;split
  ·simp[nG];omega
  ·split
   ·omega
   ·split
    ·simp only[aL,aI,bY];omega
    ·split
     ·simp only[aL,aI,bY];omega
     ·omega
theorem Ok (f:Bool): ∀l:List VT,(gR f l).length<=12*aY l
 | []=>by simp[gR]
 | x::l=>by
  rw[gR,aY];have h1:=vZ x;have h2:=Ok false l;simp only[aI];split
  ·simp only[bY];omega
  ·simp only[aL,bY];omega
theorem Ol (f:Bool): ∀(l:List VT) (ks:List aA),(gS f l ks).length<=12*aY l+6*bN ks
 | [],ks=>by simp[gS]
 | x::l,ks=>by
  rw[gS,aY];have h1:=vZ x;have h2:=Ol false l ks.tail;have h3:=tY (ks.headD []);have h4:bN ks=(ks.headD []).length+bN ks.tail:=by cases ks<;>simp[bN]
  simp only[aI,aL,bY];split
  ·simp only[bY];omega
  ·simp only[aL,bY];omega
end
theorem Be {l:List VT}{i:Nat}{x:VT} (h:l[i]?=some x):aY (l.take i)+x.bulk<=aY l:=by
 have a:=vA (l.take (i+1)) (l.drop (i+1));rw[mC,jM h,vA,aY,aY] at a;omega
theorem yL (a b:List aA):bN (a++b)=bN a+bN b:=by simp[bN]
theorem Om (l:List aA) (n:Nat):bN (l.take n)<=bN l:=by
 have h:=yL (l.take n) (l.drop n);rw[mC] at h;omega
theorem On {l:List aA}{i:Nat}{x:aA} (h:l[i]?=some x):bN (l.take i)+x.length<=bN l:=by
 have a:=yL (l.take (i+1)) (l.drop (i+1));have c:bN [x]=x.length:=by simp[bN]
 rw[mC,jM h,yL,c] at a;omega
def pX:List Value:= [.bool false, .int .i64 0]
theorem pT:yK 87 (pX.length+2):=⟨by kernel_rfl,by decide⟩
abbrev PN (B b:Nat) (l:aA) (w:World):Prop:=iE 87 pX B b l w
theorem iE.ext0 {T:TypeId}{x y:Value}{B b:Nat}{l:aA}{w:World} (h:iE T [x,y] B b l w):w.cell? ⟨b,2,none⟩=some x:=by
 rcases h with⟨_,v,a,_⟩ | ⟨_,v,a,_⟩<;>simp[World.cell?,a]
theorem Bf (B b:Nat) (l:aA) (lev:Int) (w:World) (h:PN B b l w):
  Calls Tryz.prog 125 #[.pointer (some ⟨b,0,none⟩), .int .i64 lev] w λe w'=>e= .returned (.tuple #[])/\w'=w:=by
 have c2:w.cell? ⟨b,2,none⟩=some (.bool false):=iE.ext0 h;go_enter Tryz.func125,Tryz.ntmps125;go_wp2_with fail;go_end0;exact⟨rfl,rfl⟩
theorem Oo (w0:World) (hV:dA w0) (b:Nat) (l s:aA) (w:World) (h:PN w0.heap.size b l w) (hb0:Below w0.heap.size w0 w) (hl:l.length<=4294967296) (hs:s.length<=134217728):
  Calls Tryz.prog 83 #[.pointer (some ⟨b,0,none⟩), .string (bs s)] w λe w'=>e= .returned (.tuple #[])/\PN w0.heap.size b (l++(dZ s).1) w'/\Kp w0.heap.size b w w':=by
 have C1:=Mm s w (by omega) (hV.keep hb0).1.1 (hV.keep hb0).2.1;have n:=tY s;have d:w0.heap.size<=w.heap.size:=hb0.size;have a:=hid (fun(w':World) (hb:Below w.heap.size w w')=>uF pT w0.heap.size b l (dZ s).1 w' (h.keep hb) hl (by omega) (aV d hb.size));unfold Au at C1;obtain⟨Q,i⟩:=exQ<|dZ s;rw[i] at C1 a;rw[i];obtain⟨qt,qe⟩:=Q;have c:=hid C1;clear C1 i n h;simp only[] at c a ⊢;go_enter Tryz.func83,Tryz.ntmps83;go_wp2_with fail;refine c.out.mono ?_;rintro e w1 ⟨rfl,g⟩;have f:=hid g;clear g;go_wp2_with fail;refine(a.out _ f.out).mono ?_;rintro e w2 ⟨rfl,k,j,m⟩;have o:=hid k;have q:Hid (Kp w0.heap.size b w w2):=hid ((Kp.of_below f.out d).trans ⟨j,m⟩);clear k j m;go_wp2_with fail;go_end0;exact⟨rfl,o.out,q.out⟩
def uG (w0:World) (n:Nat):Prop:= ∀(b:Nat) (t:VT) (kv iv:Value) (w:World) (l:aA) (lev:Int),VD w0 n t kv iv->dO cE t=true->PN w0.heap.size b l w->Below w0.heap.size w0 w->l.length+12*t.bulk<=1610612736->0<=lev/\lev+(n:Int)<=1073741824->
 Calls Tryz.prog 52 #[.pointer (some ⟨b,0,none⟩),vv t kv iv, .int .i64 lev] w λe w'=>e= .returned (.tuple #[])/\PN w0.heap.size b (l++fE t) w'/\Kp w0.heap.size b w w'
theorem aBy (w0:World) (hV:dA w0) (n:Nat) (IH:uG w0 n) (b:Nat) (t:VT) (kv:Value) (p:Option Addr) (c:Nat) (i:Nat) (x:VT) (w:World) (l:aA) (lev:Int) (hlc:t.items.length<=1073741824) (hit:nQ w0 n p t.items) (hx:t.items[i]?=some x) (hev:dO cE x=true) (h:PN w0.heap.size b l w) (hb0:Below w0.heap.size w0 w) (hl:l.length+12*x.bulk<=1610612736) (hlev:0<=lev/\lev+(n:Int)<=1073741824) (hkv: ∃pk nk ck,kv= .slice pk nk ck):
  Calls Tryz.prog 85 #[.pointer (some ⟨b,0,none⟩),vv t kv (.slice p t.items.length c), .int .i64 (i:Int), .int .i64 lev] w λe w'=>e= .returned (.tuple #[])/\PN w0.heap.size b (l++fE x) w'/\Kp w0.heap.size b w w':=by
 obtain⟨pk,nk,ck,rfl⟩:=hkv;have k:w0.heap.size<=w.heap.size:=hb0.size;obtain⟨X,z⟩:=exQ<|w.heap.size;obtain⟨W1,f⟩:=exQ<|w.alloc (.cells #[.int .i64 t.kind, .string (bs t.text), .slice pk nk ck, .slice p t.items.length c] 25);have j:Hid (Below w.heap.size w W1):=hid (by rw[<-f];exact aH _ _);have q:Hid (bF W1 X t (.slice pk nk ck) (.slice p t.items.length c)):=hid (by rw[<-f,<-z];exact bF.new w t _ _);have a:=hid (hb0.trans (j.out.mono k));obtain⟨g,o,kv',iv',rfl,m,n0,n1,n2,n3,d⟩:=hit i x hx;obtain⟨pk2,ck2,px,cx,rfl,rfl⟩:=d.form;have hil:=(aP.1 hx).1;have hi1:(i:Int)<(t.items.length:Int):=by omega
 have hi0:(0:Int)<=(i:Int):=by omega
 have m0:W1.cell? ⟨g,o+i*4,none⟩=some (.int .i64 x.kind):=by rw[a.out.cell (p:=⟨g,_,none⟩) m];exact n0
 have m1:W1.cell? ⟨g,o+i*4+1,none⟩=some (.string (bs x.text)):=by rw[a.out.cell (p:=⟨g,_,none⟩) m];exact n1
 have m2:W1.cell? ⟨g,o+i*4+2,none⟩=some (.slice pk2 x.keys.length ck2):=by rw[a.out.cell (p:=⟨g,_,none⟩) m];exact n2
 have m3:W1.cell? ⟨g,o+i*4+3,none⟩=some (.slice px x.items.length cx):=by rw[a.out.cell (p:=⟨g,_,none⟩) m];exact n3
 have s:=hid (IH b x _ _ W1 l lev d hev (h.keep j.out) a.out hl hlev);unfold vv at s ⊢;clear hit d n0 n1 n2 n3 h hx hev hb0;go_enter Tryz.func85,Tryz.ntmps85;go_upto_region 1 with fail;clear f;obtain⟨b0,b1,b2,b3⟩:=q.out.cells;go_wp2_with fail;refine s.out.mono ?_;rintro e w2 ⟨rfl,r,u⟩;have v:=hid r;have y:Hid (Kp w0.heap.size b w w2):=hid ((Kp.of_below j.out k).trans u);clear r u b0 b1 b2 b3 m0 m1 m2 m3;go_wp2_with fail;go_end0;exact⟨rfl,v.out,y.out⟩
theorem aBz (w0:World) (hV:dA w0) (n:Nat) (IH:uG w0 n) (b:Nat) (t:VT) (kv:Value) (p:Option Addr) (c:Nat) (i:Nat) (x:VT) (k:aA) (w:World) (l:aA) (lev:Int) (hlc:t.items.length<=1073741824) (hkl:t.keys.length<=1073741824) (hks:SV w0 kv t.keys) (hk:t.keys[i]?=some k) (hkb:k.length<=134217728) (hit:nQ w0 n p t.items) (hx:t.items[i]?=some x) (hev:dO cE x=true) (h:PN w0.heap.size b l w) (hb0:Below w0.heap.size w0 w) (hl:l.length+12*k.length+8+12*x.bulk<=1610612736) (hlev:0<=lev/\lev+(n:Int)<=1073741824):
  Calls Tryz.prog 86 #[.pointer (some ⟨b,0,none⟩),vv t kv (.slice p t.items.length c), .int .i64 (i:Int), .int .i64 lev] w λe w'=>e= .returned (.tuple #[])/\PN w0.heap.size b (l++((dZ k).1++ [58]++fE x)) w'/\Kp w0.heap.size b w w':=by
 obtain⟨pk,ck,rfl,hck,d⟩:=hks;have z:w0.heap.size<=w.heap.size:=hb0.size;obtain⟨X,L⟩:=exQ<|w.heap.size;obtain⟨W1,r⟩:=exQ<|w.alloc (.cells #[.int .i64 t.kind, .string (bs t.text), .slice pk t.keys.length ck, .slice p t.items.length c] 25);have s:Hid (Below w.heap.size w W1):=hid (by rw[<-r];exact aH _ _);have v:Hid (bF W1 X t (.slice pk t.keys.length ck) (.slice p t.items.length c)):=hid (by rw[<-r,<-L];exact bF.new w t _ _);have a:=hid (hb0.trans (s.out.mono z));have F:X≠b:=by rw[<-L];exact Nat.ne_of_gt h.lt
 have hBX:w0.heap.size<=X:=by omega
 have hBb:=h.le;have hqb:=tY k;obtain⟨gk,ok,rfl,y⟩:=(d.keep a.out).at_ hk;have hil:=(aP.1 hx).1;have hkil:=(aP.1 hk).1;have hi1:(i:Int)<(t.items.length:Int):=by omega
 have hi1k:(i:Int)<(t.keys.length:Int):=by omega
 have hi0:(0:Int)<=(i:Int):=by omega
 have G:=hid hit;have Q:=hid hx;have H:=hid hev;have K:=hid (Oo w0 hV b l k W1 (h.keep s.out) a.out (by omega) hkb);have A:=hid IH;unfold vv;clear hit h hx hev hk d hb0;go_enter Tryz.func86,Tryz.ntmps86;go_upto_region 1 with fail;clear r;obtain⟨b0,b1,b2,b3⟩:=v.out.cells;go_wp2_with fail;refine K.out.mono ?_;rintro e w2 ⟨rfl,m,j⟩;have O:=hid m;have I:=hid j;have E:=hid (a.out.trans j.1);clear m j b0 b1 b2 b3 y;have C:=hid (sZ pT w0.heap.size b (l++(dZ k).1) 58 w2 O.out (by rw[aI];omega) E.out.size);go_wp2_with fail;refine C.out.mono ?_;rintro e w3 ⟨rfl,m,j,N⟩;have M:=hid m;have u:Hid (Kp w0.heap.size b W1 w3):=hid (I.out.trans ⟨j,N⟩);have f:=hid (a.out.trans u.out.1);clear m j N C K;have c2:w3.cell? ⟨b,2,none⟩=some (.bool false):=iE.ext0 M.out;obtain⟨b0,b1,b2,b3⟩:=(v.out.kp u.out F).cells;obtain⟨g,o,kv',iv',rfl,D,n0,n1,n2,n3,q⟩:=G.out i x Q.out;obtain⟨pk2,ck2,px,cx,rfl,rfl⟩:=q.form;have m0:w3.cell? ⟨g,o+i*4,none⟩=some (.int .i64 x.kind):=by rw[f.out.cell (p:=⟨g,_,none⟩) D];exact n0
 have m1:w3.cell? ⟨g,o+i*4+1,none⟩=some (.string (bs x.text)):=by rw[f.out.cell (p:=⟨g,_,none⟩) D];exact n1
 have m2:w3.cell? ⟨g,o+i*4+2,none⟩=some (.slice pk2 x.keys.length ck2):=by rw[f.out.cell (p:=⟨g,_,none⟩) D];exact n2
 have m3:w3.cell? ⟨g,o+i*4+3,none⟩=some (.slice px x.items.length cx):=by rw[f.out.cell (p:=⟨g,_,none⟩) D];exact n3
 have J:=hid (A.out b x _ _ w3 (l++(dZ k).1++ [58]) lev q H.out M.out f.out (by simp only[aI,dQ];omega) hlev);unfold vv at J;clear q n0 n1 n2 n3;go_wp2_with fail;refine J.out.mono ?_;rintro e w4 ⟨rfl,m,j⟩;have R:=hid m;have P:Hid (Kp w0.heap.size b w w4):=hid ((Kp.of_below s.out z).trans (u.out.trans j));clear m j b0 b1 b2 b3 m0 m1 m2 m3 c2;go_wp2_with fail;go_end0;exact⟨rfl,by simpa using R.out,P.out⟩
theorem aBA (w0:World) (hV:dA w0) (n:Nat) (IH:uG w0 n) (b:Nat) (t:VT) (kv:Value) (p:Option Addr) (c:Nat) (w:World) (l:aA) (lev:Int) (hbk:t.bulk<=134217728) (hks:SV w0 kv t.keys) (hit:nQ w0 n p t.items) (hev:pG cE t.items=true) (h:PN w0.heap.size b l w) (hb0:Below w0.heap.size w0 w) (hl:l.length+12*t.bulk<=1610612736) (hlev:0<=lev/\lev+1+(n:Int)<=1073741824):
  Calls Tryz.prog 84 #[.pointer (some ⟨b,0,none⟩),vv t kv (.slice p t.items.length c), .int .i64 lev, .string ⟨#[91,93]⟩, .func (.func 85) #[.pointer (some ⟨b,0,none⟩)] #[]] w λe w'=>e= .returned (.tuple #[])/\PN w0.heap.size b (l++91::(gR true t.items++ [93])) w'/\Kp w0.heap.size b w w':=by
 have HKS:=hid hks;obtain⟨pk,ck,rfl,hck,E⟩:=hks;have M:w0.heap.size<=w.heap.size:=hb0.size;obtain⟨X,hX⟩:=exQ<|w.heap.size;obtain⟨W1,I⟩:=exQ<|w.alloc (.cells #[.int .i64 t.kind, .string (bs t.text), .slice pk t.keys.length ck, .slice p t.items.length c] 25);have J:Hid (Below w.heap.size w W1):=hid (by rw[<-I];exact aH _ _);have m:Hid (bF W1 X t (.slice pk t.keys.length ck) (.slice p t.items.length c)):=hid (by rw[<-I,<-hX];exact bF.new w t _ _);have a:=hid (hb0.trans (J.out.mono M));have s:X≠b:=by rw[<-hX];exact Nat.ne_of_gt h.lt
 have hBX:w0.heap.size<=X:=by omega
 have hll:aY t.items+bN t.keys+t.keys.length<t.bulk:=by cases t;rw[VT.bulk];simp only[VT.items,VT.keys];omega
 have hlen:=oJ t.items;have ad:=hid hit;have af:=hid hev;have H1:=hid (h.keep J.out);have P:=hid IH;have L:Hid (∀w',Below W1.heap.size W1 w'->Calls Tryz.prog 99 #[.pointer (some ⟨b,0,none⟩), .int .u8 91] w' λe w2=>e= .returned .nilIface/\mP 87 pX w0.heap.size b (l++ [91]) w' w2):=hid (λw' z=>sZ pT w0.heap.size b l 91 w' (H1.out.keep z) (by omega) (aV a.out.size z.size));unfold vv;clear hit h hev E hb0;go_enter Tryz.func84,Tryz.ntmps84;go_upto_region 1 with fail;clear I;go_cut [11,12,13,14,15,16] (λs11 s12 s13 s14 s15 s16 wx=>Hid (PN w0.heap.size b (l++ [91]) wx)/\Hid (Kp w0.heap.size b W1 wx))
 case first=>
  go_region_law ((go_simp;go_at_call 99;(refine(L.out _ (aB _ _).drew).mono ?_);rintro e w3 ⟨rfl,j,g,D⟩))
  all_goals
   have y:=hid j;have d:Hid (Kp w0.heap.size b W1 w3):=hid (Kp.trans (Kp.of_below (aB _ W1).drew a.out.size) ⟨g,D⟩);clear j g D;go_wp2_with fail;go_meet;exact⟨y,d⟩
 obtain⟨H2,Q⟩:=hcut;clear L;obtain⟨b0,b1,b2,b3⟩:=(m.out.kp Q.out s).cells;go_wp2_with fail;clear b0 b1 b2 b3;go_loopw [10,20] (λs10 s20 wr=> ∃i:Nat,s20= .int .i64 (i:Int)/\i<=t.items.length/\Hid (PN w0.heap.size b (l++ [91]++gR true (t.items.take i)) wr)/\Hid ((gR true (t.items.take i)).length<=12*aY (t.items.take i))/\Hid (Kp w0.heap.size b W1 wr)) (λ_ s20 _=>t.items.length-(RowKit.intOf s20).toNat)
 case atStart=>exact⟨0,rfl,cH _,hid (by simpa [gR] using H2.out),hid (by simp[gR]),Q⟩
 case round=>
  obtain⟨i,rfl,hi,G,R,f⟩:=hrel;by_cases hil:i<t.items.length
  ·obtain⟨x,S⟩: ∃x,t.items[i]?=some x:=⟨_,bH hil⟩;have ag:(i:Int)<(t.items.length:Int):=(by omega);have dk:decide ((i:Int)<(t.items.length:Int))=true:=aN ag;have F:=bA S;have hxb:=pH F;have N:dO cE x=true:=by
    have U:=af.out;rw[uZ,eH] at U;exact U x F
   have v:=hid (a.out.trans f.out.1);have Y:=R.out;have htk:aY (t.items.take i)+x.bulk<=aY t.items:=Be S;have HX:=hid S;have aa:=hid N;obtain⟨A,o⟩:=exQ<|l++ [91]++gR true (t.items.take i);have V:A.length=l.length+1+(gR true (t.items.take i)).length:=by rw[<-o];simp only[aI,aL,bY]
   rw[o] at G;have r:Hid (∀w',Below wr.heap.size wr w'->Calls Tryz.prog 99 #[.pointer (some ⟨b,0,none⟩), .int .u8 44] w' λe w2=>e= .returned .nilIface/\mP 87 pX w0.heap.size b (A++ [44]) w' w2):=hid (λw' z=>sZ pT w0.heap.size b A 44 w' (G.out.keep z) (by omega) (aV v.out.size z.size));have HA:=hid o;clear S N o F;obtain⟨b0,b1,b2,b3⟩:=(m.out.kp f.out s).cells;obtain⟨C,q⟩: ∃C:aA,A++(if i=0 then [] else [44])=C:=⟨_,rfl⟩;have hCl:C.length<=A.length+1:=by rw[<-q];split<;>simp
   have K:=hid q;clear q;go_upto_if 24 with fail;go_cut [25,26,27,28] (λs25 s26 s27 s28 wx=>Hid (PN w0.heap.size b C wx)/\Hid (Kp w0.heap.size b wr wx))
   case first=>
    cases i with
    | zero=>
     have q:=K.out;simp only[if_true,List.append_nil] at q;subst q;go_wp2_with fail;go_meet;exact⟨G,hid (Kp.refl _ _ _)⟩
    | succ i0=>
     have q:=K.out;rw[if_neg (by omega)] at q;subst q;have d0:decide ((0:Int)<((i0+1:Nat):Int))=true:=aN (by omega);have d1:decide ((0:Int)<(i0:Int)+1)=true:=aN (by omega);go_wp2_with fail;refine(r.out _ (aB _ _)).mono ?_;rintro e w3 ⟨rfl,j,g,D⟩;have y:=hid j;have d:Hid (Kp w0.heap.size b wr w3):=hid ⟨g,D⟩;clear j g D;go_wp2_with fail;go_meet;exact⟨y,d⟩
   obtain⟨y,d⟩:=hcut;have H:Hid (Kp w0.heap.size b W1 wc):=hid (f.out.trans d.out);have ae:=hid (a.out.trans H.out.1);clear b0 b1 b2 b3 r;obtain⟨b0,b1,b2,b3⟩:=(m.out.kp H.out s).cells;have u:=hid (Bf w0.heap.size b C (lev+1) wc y.out);go_wp2_with fail;refine u.out.mono ?_;rintro e w4 ⟨rfl,rfl⟩;have Z:=hid (aBy w0 hV n P.out b t (.slice pk t.keys.length ck) p c i x w4 C (lev+1) (by omega) ad.out HX.out aa.out y.out ae.out (by omega) (by omega) ⟨_,_,_,rfl⟩);unfold vv at Z;go_wp2_with fail;refine Z.out.mono ?_;rintro e w5 ⟨rfl,j,g⟩;have H5:=hid j;have ab:Hid (Kp w0.heap.size b W1 w5):=hid (H.out.trans g);clear j g b0 b1 b2 b3 Z u;have O:l++ [91]++gR true (t.items.take (i+1))=C++fE x:=by
    rw[jM HX.out,Oi,<-dY,HA.out,<-K.out];by_cases h0:i=0
    ·subst h0;simp
    ·have:(t.items.take i).isEmpty=false:=by
      cases hi0:t.items.take i with
      | nil=>
       have:=congrArg List.length hi0;rw[cB] at this;simp only[bY] at this;omega
      | cons _ _=>rfl
     rw[this,if_neg h0];simp
   have W:(gR true (t.items.take (i+1))).length<=12*aY (t.items.take (i+1)):=by
    rw[jM HX.out,Oi,aI,vA,aY];have U:=R.out;have j:=vZ x;have g:aY ([]:List VT)=0:=rfl;rw[g];split<;>simp only[aI,aL,bY]<;>omega
   go_wp2_with fail;go_roundw
   case rel=>exact⟨i+1,by go_num,hil,hid (by rw[O];exact H5.out),hid W,ab⟩
   case measure=>simp only[RowKit.intOf];omega
  ·have dk:decide ((i:Int)<(t.items.length:Int))=false:=aJ (by omega);obtain rfl:i=t.items.length:=(by omega);rw[List.take_length] at G R;obtain⟨A,o⟩:=exQ<|l++ [91]++gR true t.items;have V:A.length=l.length+1+(gR true t.items).length:=by rw[<-o];simp only[aI,aL,bY]
   rw[o] at G;have Y:=R.out;have htl:=Om t.keys t.items.length;have k:l++91::(gR true t.items++ [93])=A++ [93]:=by rw[<-o];simp
   have HG:=hid k;have v:=hid (a.out.trans f.out.1);have r:Hid (∀w',Below wr.heap.size wr w'->Calls Tryz.prog 99 #[.pointer (some ⟨b,0,none⟩), .int .u8 93] w' λe w2=>e= .returned .nilIface/\mP 87 pX w0.heap.size b (A++ [93]) w' w2):=hid (λw' z=>sZ pT w0.heap.size b A 93 w' (G.out.keep z) (by omega) (aV v.out.size z.size));clear o k;obtain⟨b0,b1,b2,b3⟩:=(m.out.kp f.out s).cells;go_upto_if 43 with fail;go_cut [44,45,46] (λs44 s45 s46 wx=>wr=wx)
   case first=>
    by_cases hz:0<t.items.length
    ·have dz:decide ((0:Int)<(t.items.length:Int))=true:=aN (by omega);have dz2:decide (0<t.items.length)=true:=aN hz;have u:=hid (Bf w0.heap.size b A lev wr G.out);go_wp2_with fail;refine u.out.mono ?_;rintro e w4 ⟨rfl,rfl⟩;go_wp2_with fail;go_meet;exact rfl
    ·have dz:decide ((0:Int)<(t.items.length:Int))=false:=aJ (by omega);have dz2:decide (0<t.items.length)=false:=aJ hz;go_wp2_with fail;go_meet;exact rfl
   obtain rfl:=hcut;go_upto_region 12 with fail;go_region_law ((go_simp;go_at_call 99;(refine(r.out _ (aB _ _).drew).mono ?_);rintro e w3 ⟨rfl,j,g,D⟩))
   all_goals
    have y:=hid j;have d:Hid (Kp w0.heap.size b W1 w3):=hid (f.out.trans (Kp.trans (Kp.of_below (aB _ _).drew v.out.size) ⟨g,D⟩));clear j g D;go_wp2_with fail;go_end0;exact⟨rfl,by rw[HG.out];exact y.out,(Kp.of_below J.out M).trans d.out⟩
theorem aBB (w0:World) (hV:dA w0) (n:Nat) (IH:uG w0 n) (b:Nat) (t:VT) (kv:Value) (p:Option Addr) (c:Nat) (w:World) (l:aA) (lev:Int) (hbk:t.bulk<=134217728) (hks:SV w0 kv t.keys) (hkl:t.keys.length=t.items.length) (hit:nQ w0 n p t.items) (hev:pG cE t.items=true) (h:PN w0.heap.size b l w) (hb0:Below w0.heap.size w0 w) (hl:l.length+12*t.bulk<=1610612736) (hlev:0<=lev/\lev+1+(n:Int)<=1073741824):
  Calls Tryz.prog 84 #[.pointer (some ⟨b,0,none⟩),vv t kv (.slice p t.items.length c), .int .i64 lev, .string ⟨#[123,125]⟩, .func (.func 86) #[.pointer (some ⟨b,0,none⟩)] #[]] w λe w'=>e= .returned (.tuple #[])/\PN w0.heap.size b (l++123::(gS true t.items t.keys++ [125])) w'/\Kp w0.heap.size b w w':=by
 have Z:=hid hkl;have hkl2:t.keys.length<=134217728:=by cases t;rw[VT.bulk] at hbk;simp only[VT.keys] at hkl ⊢;omega
 clear hkl;have ad:=hid hks;obtain⟨pk,ck,rfl,hck,G⟩:=hks;have O:w0.heap.size<=w.heap.size:=hb0.size;obtain⟨X,hX⟩:=exQ<|w.heap.size;obtain⟨W1,K⟩:=exQ<|w.alloc (.cells #[.int .i64 t.kind, .string (bs t.text), .slice pk t.keys.length ck, .slice p t.items.length c] 25);have L:Hid (Below w.heap.size w W1):=hid (by rw[<-K];exact aH _ _);have o:Hid (bF W1 X t (.slice pk t.keys.length ck) (.slice p t.items.length c)):=hid (by rw[<-K,<-hX];exact bF.new w t _ _);have a:=hid (hb0.trans (L.out.mono O));have u:X≠b:=by rw[<-hX];exact Nat.ne_of_gt h.lt
 have hBX:w0.heap.size<=X:=by omega
 have hll:aY t.items+bN t.keys+t.keys.length<t.bulk:=by cases t;rw[VT.bulk];simp only[VT.items,VT.keys];omega
 have hlen:=oJ t.items;have ah:=hid hit;have ak:=hid hev;have H1:=hid (h.keep L.out);have R:=hid IH;have N:Hid (∀w',Below W1.heap.size W1 w'->Calls Tryz.prog 99 #[.pointer (some ⟨b,0,none⟩), .int .u8 123] w' λe w2=>e= .returned .nilIface/\mP 87 pX w0.heap.size b (l++ [123]) w' w2):=hid (λw' E=>sZ pT w0.heap.size b l 123 w' (H1.out.keep E) (by omega) (aV a.out.size E.size));unfold vv;clear hit h hev G hb0;go_enter Tryz.func84,Tryz.ntmps84;go_upto_region 1 with fail;clear K;go_cut [11,12,13,14,15,16] (λs11 s12 s13 s14 s15 s16 wx=>Hid (PN w0.heap.size b (l++ [123]) wx)/\Hid (Kp w0.heap.size b W1 wx))
 case first=>
  go_region_law ((go_simp;go_at_call 99;(refine(N.out _ (aB _ _).drew).mono ?_);rintro e w3 ⟨rfl,j,g,F⟩))
  all_goals
   have D:=hid j;have d:Hid (Kp w0.heap.size b W1 w3):=hid (Kp.trans (Kp.of_below (aB _ W1).drew a.out.size) ⟨g,F⟩);clear j g F;go_wp2_with fail;go_meet;exact⟨D,d⟩
 obtain⟨H2,S⟩:=hcut;clear N;obtain⟨b0,b1,b2,b3⟩:=(o.out.kp S.out u).cells;go_wp2_with fail;clear b0 b1 b2 b3;go_loopw [10,20] (λs10 s20 wr=> ∃i:Nat,s20= .int .i64 (i:Int)/\i<=t.items.length/\Hid (PN w0.heap.size b (l++ [123]++gS true (t.items.take i) t.keys) wr)/\Hid ((gS true (t.items.take i) t.keys).length<=12*aY (t.items.take i)+6*bN (t.keys.take i))/\Hid (Kp w0.heap.size b W1 wr)) (λ_ s20 _=>t.items.length-(RowKit.intOf s20).toNat)
 case atStart=>exact⟨0,rfl,cH _,hid (by simpa [gS] using H2.out),hid (by simp[gS]),S⟩
 case round=>
  obtain⟨i,rfl,hi,I,U,f⟩:=hrel;by_cases hil:i<t.items.length
  ·obtain⟨x,V⟩: ∃x,t.items[i]?=some x:=⟨_,bH hil⟩;have al:(i:Int)<(t.items.length:Int):=(by omega);have dk:decide ((i:Int)<(t.items.length:Int))=true:=aN al;have H:=bA V;have hxb:=pH H;have P:dO cE x=true:=by
    have Y:=ak.out;rw[uZ,eH] at Y;exact Y x H
   have z:=hid (a.out.trans f.out.1);have ae:=U.out;have htk:aY (t.items.take i)+x.bulk<=aY t.items:=Be V;obtain⟨k,W⟩: ∃k,t.keys[i]?=some k:=⟨_,bH (by have:=Z.out;omega)⟩;have htt:bN (t.keys.take i)+k.length<=bN t.keys:=On W;have hkm:=zK (bA W);have y:=hid W;clear W;have HX:=hid V;have af:=hid P;obtain⟨A,q⟩:=exQ<|l++ [123]++gS true (t.items.take i) t.keys;have aa:A.length=l.length+1+(gS true (t.items.take i) t.keys).length:=by rw[<-q];simp only[aI,aL,bY]
   rw[q] at I;have s:Hid (∀w',Below wr.heap.size wr w'->Calls Tryz.prog 99 #[.pointer (some ⟨b,0,none⟩), .int .u8 44] w' λe w2=>e= .returned .nilIface/\mP 87 pX w0.heap.size b (A++ [44]) w' w2):=hid (λw' E=>sZ pT w0.heap.size b A 44 w' (I.out.keep E) (by omega) (aV z.out.size E.size));have HA:=hid q;clear V P q H;obtain⟨b0,b1,b2,b3⟩:=(o.out.kp f.out u).cells;obtain⟨C,r⟩: ∃C:aA,A++(if i=0 then [] else [44])=C:=⟨_,rfl⟩;have hCl:C.length<=A.length+1:=by rw[<-r];split<;>simp
   have M:=hid r;clear r;go_upto_if 24 with fail;go_cut [25,26,27,28] (λs25 s26 s27 s28 wx=>Hid (PN w0.heap.size b C wx)/\Hid (Kp w0.heap.size b wr wx))
   case first=>
    cases i with
    | zero=>
     have r:=M.out;simp only[if_true,List.append_nil] at r;subst r;go_wp2_with fail;go_meet;exact⟨I,hid (Kp.refl _ _ _)⟩
    | succ i0=>
     have r:=M.out;rw[if_neg (by omega)] at r;subst r;have d0:decide ((0:Int)<((i0+1:Nat):Int))=true:=aN (by omega);have d1:decide ((0:Int)<(i0:Int)+1)=true:=aN (by omega);go_wp2_with fail;refine(s.out _ (aB _ _)).mono ?_;rintro e w3 ⟨rfl,j,g,F⟩;have D:=hid j;have d:Hid (Kp w0.heap.size b wr w3):=hid ⟨g,F⟩;clear j g F;go_wp2_with fail;go_meet;exact⟨D,d⟩
   obtain⟨D,d⟩:=hcut;have J:Hid (Kp w0.heap.size b W1 wc):=hid (f.out.trans d.out);have ai:=hid (a.out.trans J.out.1);clear b0 b1 b2 b3 s;obtain⟨b0,b1,b2,b3⟩:=(o.out.kp J.out u).cells;have v:=hid (Bf w0.heap.size b C (lev+1) wc D.out);go_wp2_with fail;refine v.out.mono ?_;rintro e w4 ⟨rfl,rfl⟩;have HE:=hid (aBz w0 hV n R.out b t (.slice pk t.keys.length ck) p c i x k w4 C (lev+1) (by omega) (by omega) ad.out y.out (by omega) ah.out HX.out af.out D.out ai.out (by omega) (by omega));unfold vv at HE;go_wp2_with fail;refine HE.out.mono ?_;rintro e w5 ⟨rfl,j,g⟩;have H5:=hid j;have ag:Hid (Kp w0.heap.size b W1 w5):=hid (J.out.trans g);clear j g b0 b1 b2 b3 HE v;have Q:l++ [123]++gS true (t.items.take (i+1)) t.keys=C++((dZ k).1++ [58]++fE x):=by
    rw[jM HX.out,Oj _ _ _ _ k (by rw[cB,Nat.min_eq_left (by omega)];exact y.out),<-dY,HA.out,<-M.out];by_cases h0:i=0
    ·subst h0;simp
    ·have:(t.items.take i).isEmpty=false:=by
      cases hi0:t.items.take i with
      | nil=>
       have:=congrArg List.length hi0;rw[cB] at this;simp only[bY] at this;omega
      | cons _ _=>rfl
     rw[this,if_neg h0];simp
   have ab:(gS true (t.items.take (i+1)) t.keys).length<=12*aY (t.items.take (i+1))+6*bN (t.keys.take (i+1)):=by
    rw[jM HX.out,Oj _ _ _ _ k (by rw[cB,Nat.min_eq_left (by omega)];exact y.out),aI,vA,aY];have Y:=U.out;have j:=vZ x;have g:aY ([]:List VT)=0:=rfl;rw[g];have aj:bN (t.keys.take i++ [k])=bN (t.keys.take i)+k.length:=by rw[yL];simp[bN]
    have h5:=tY k;rw[jM y.out,aj];split<;>simp only[aI,aL,bY]<;>omega
   go_wp2_with fail;go_roundw
   case rel=>exact⟨i+1,by go_num,hil,hid (by rw[Q];exact H5.out),hid ab,ag⟩
   case measure=>simp only[RowKit.intOf];omega
  ·have dk:decide ((i:Int)<(t.items.length:Int))=false:=aJ (by omega);obtain rfl:i=t.items.length:=(by omega);rw[List.take_length] at I U;obtain⟨A,q⟩:=exQ<|l++ [123]++gS true t.items t.keys;have aa:A.length=l.length+1+(gS true t.items t.keys).length:=by rw[<-q];simp only[aI,aL,bY]
   rw[q] at I;have ae:=U.out;have htl:=Om t.keys t.items.length;have m:l++123::(gS true t.items t.keys++ [125])=A++ [125]:=by rw[<-q];simp
   have HG:=hid m;have z:=hid (a.out.trans f.out.1);have s:Hid (∀w',Below wr.heap.size wr w'->Calls Tryz.prog 99 #[.pointer (some ⟨b,0,none⟩), .int .u8 125] w' λe w2=>e= .returned .nilIface/\mP 87 pX w0.heap.size b (A++ [125]) w' w2):=hid (λw' E=>sZ pT w0.heap.size b A 125 w' (I.out.keep E) (by omega) (aV z.out.size E.size));clear q m;obtain⟨b0,b1,b2,b3⟩:=(o.out.kp f.out u).cells;go_upto_if 43 with fail;go_cut [44,45,46] (λs44 s45 s46 wx=>wr=wx)
   case first=>
    by_cases hz:0<t.items.length
    ·have dz:decide ((0:Int)<(t.items.length:Int))=true:=aN (by omega);have dz2:decide (0<t.items.length)=true:=aN hz;have v:=hid (Bf w0.heap.size b A lev wr I.out);go_wp2_with fail;refine v.out.mono ?_;rintro e w4 ⟨rfl,rfl⟩;go_wp2_with fail;go_meet;exact rfl
    ·have dz:decide ((0:Int)<(t.items.length:Int))=false:=aJ (by omega);have dz2:decide (0<t.items.length)=false:=aJ hz;go_wp2_with fail;go_meet;exact rfl
   obtain rfl:=hcut;go_upto_region 12 with fail;go_region_law ((go_simp;go_at_call 99;(refine(s.out _ (aB _ _).drew).mono ?_);rintro e w3 ⟨rfl,j,g,F⟩))
   all_goals
    have D:=hid j;have d:Hid (Kp w0.heap.size b W1 w3):=hid (f.out.trans (Kp.trans (Kp.of_below (aB _ _).drew z.out.size) ⟨g,F⟩));clear j g F;go_wp2_with fail;go_end0;exact⟨rfl,by rw[HG.out];exact D.out,(Kp.of_below L.out O).trans d.out⟩
theorem Fz {t:VT} (h:dO cE t=true):cE t=true/\pG cE t.items=true:=by
 cases t
 rw[dO,bV] at h;exact h
theorem Op {t:VT} (h:cE t=true) (h6:t.kind=6):t.keys.length=t.items.length:=by
 unfold cE at h;rw[bV] at h;have a:=h.2;unfold sS sR at a;rw[if_neg (by omega),if_pos h6,bV] at a;unfold pY at a;simp only[bV,eA] at a;exact a.1.2
theorem Oq (t:VT):fE t=(if t.kind=1 then nG else if t.kind=4 then(dZ t.text).1 else if t.kind=5 then 91::(gR true t.items++ [93]) else if t.kind=6 then 123::(gS true t.items t.keys++ [125]) else t.text):=by cases t;rw[fE];rfl
theorem aBC (w0:World) (hV:dA w0) (n:Nat) (IH:uG w0 n):uG w0 (n+1):=by
 intro b t kv iv w l lev D C h r L hlev;have hmf: ∀(fn:Fn) (first cap:Array Value) (w:World),(Instr.makeFunc fn first cap).run Tryz.prog w= .ok (.func fn first cap) w:=λ_ _ _ _=>rfl;obtain⟨m',M,z,p,c,rfl,hlc,A⟩:=D.parts;obtain rfl:n=m':=by omega
 have J:=hid z;obtain⟨pk,ck,rfl,hck,u⟩:=z;have y:w0.heap.size<=w.heap.size:=r.size;obtain⟨X,N⟩:=exQ<|w.heap.size;obtain⟨W1,f⟩:=exQ<|w.alloc (.cells #[.int .i64 t.kind, .string (bs t.text), .slice pk t.keys.length ck, .slice p t.items.length c] 25);have v:Hid (Below w.heap.size w W1):=hid (by rw[<-f];exact aH _ _);have j:Hid (bF W1 X t (.slice pk t.keys.length ck) (.slice p t.items.length c)):=hid (by rw[<-f,<-N];exact bF.new w t _ _);have a:=hid (r.trans (v.out.mono y));have x:=hid (h.keep v.out);obtain⟨F,H⟩:=Fz C;have K:=hid F;have m:Hid (Kp w0.heap.size b w W1):=hid (Kp.of_below v.out y);have hbs:t.text.length+aY t.items+bN t.keys+t.keys.length<t.bulk:=by cases t;rw[VT.bulk];simp only[VT.items,VT.keys,VT.text];omega
 have E:=hid A;have G:=hid H;have q:=hid IH;rw[Oq];unfold vv;have HQ:Hid (∀s:aA,s.length<=t.bulk->Calls Tryz.prog 82 #[.pointer (some ⟨b,0,none⟩), .string (bs s)] W1 λe w'=>e= .returned (.tuple #[.int .i64 (s.length:Int), .nilIface])/\mP 87 pX w0.heap.size b (l++s) W1 w'):=hid (λs hs=>uF pT w0.heap.size b l s W1 x.out (by omega) (by omega) a.out.size);clear A D C h u F H r M;by_cases k1:t.kind=1
 ·rw[if_pos k1];have d1:(t.kind==1)=true:=by rw[k1];rfl
  have k:Hid (Calls Tryz.prog 82 #[.pointer (some ⟨b,0,none⟩), .string ⟨#[110,117,108,108]⟩] W1 λe w'=>e= .returned (.tuple #[.int .i64 4, .nilIface])/\mP 87 pX w0.heap.size b (l++nG) W1 w'):=hid (uF pT w0.heap.size b l nG W1 x.out (by omega) (by decide) a.out.size);clear k1;go_enter Tryz.func52,Tryz.ntmps52;go_upto_region 1 with fail;clear f;obtain⟨b0,b1,b2,b3⟩:=j.out.cells;go_wp2_with fail;refine k.out.mono ?_;rintro e w2 ⟨rfl,g,i,I⟩;have o:=hid g;have d:Hid (Kp w0.heap.size b w w2):=hid (m.out.trans ⟨i,I⟩);clear g i I b0 b1 b2 b3;go_wp2_with fail;go_end0;exact⟨rfl,o.out,d.out⟩
 have d1:(t.kind==1)=false:=aG.2 k1;rw[if_neg k1];by_cases k4:t.kind=4
 ·rw[if_pos k4];have d4:(t.kind==4)=true:=by rw[k4];rfl
  have k:=hid (Oo w0 hV b l t.text W1 x.out a.out (by omega) (by omega));clear k1 k4;go_enter Tryz.func52,Tryz.ntmps52;go_upto_region 1 with fail;clear f;obtain⟨b0,b1,b2,b3⟩:=j.out.cells;go_wp2_with fail;refine k.out.mono ?_;rintro e w2 ⟨rfl,g,i⟩;have o:=hid g;have d:Hid (Kp w0.heap.size b w w2):=hid (m.out.trans i);clear g i b0 b1 b2 b3;go_wp2_with fail;go_end0;exact⟨rfl,o.out,d.out⟩
 have d4:(t.kind==4)=false:=aG.2 k4;rw[if_neg k4];by_cases k5:t.kind=5
 ·rw[if_pos k5];have d5:(t.kind==5)=true:=by rw[k5];rfl
  have k:=hid (aBA w0 hV n q.out b t (.slice pk t.keys.length ck) p c W1 l lev (by omega) J.out E.out G.out x.out a.out L (by omega));unfold vv at k;clear k1 k4 k5;go_enter Tryz.func52,Tryz.ntmps52;go_upto_region 1 with fail;clear f;obtain⟨b0,b1,b2,b3⟩:=j.out.cells;go_wp2_with fail;refine k.out.mono ?_;rintro e w2 ⟨rfl,g,i⟩;have o:=hid g;have d:Hid (Kp w0.heap.size b w w2):=hid (m.out.trans i);clear g i b0 b1 b2 b3;go_wp2_with fail;go_end0;exact⟨rfl,o.out,d.out⟩
 have d5:(t.kind==5)=false:=aG.2 k5;rw[if_neg k5];by_cases k6:t.kind=6
 ·rw[if_pos k6];have d6:(t.kind==6)=true:=by rw[k6];rfl
  have k:=hid (aBB w0 hV n q.out b t (.slice pk t.keys.length ck) p c W1 l lev (by omega) J.out (Op K.out k6) E.out G.out x.out a.out L (by omega));unfold vv at k;clear k1 k4 k5 k6;go_enter Tryz.func52,Tryz.ntmps52;go_upto_region 1 with fail;clear f;obtain⟨b0,b1,b2,b3⟩:=j.out.cells;go_wp2_with fail;refine k.out.mono ?_;rintro e w2 ⟨rfl,g,i⟩;have o:=hid g;have d:Hid (Kp w0.heap.size b w w2):=hid (m.out.trans i);clear g i b0 b1 b2 b3;go_wp2_with fail;go_end0;exact⟨rfl,o.out,d.out⟩
 have d6:(t.kind==6)=false:=aG.2 k6;rw[if_neg k6];have k:=hid (fun(w':World) (hb:Below W1.heap.size W1 w')=>uF pT w0.heap.size b l t.text w' (x.out.keep hb) (by omega) (by omega) (aV a.out.size hb.size));clear k1 k4 k5 k6;go_enter Tryz.func52,Tryz.ntmps52;go_upto_region 1 with fail;clear f;obtain⟨b0,b1,b2,b3⟩:=j.out.cells;go_upto_region 2 with fail;go_region_law ((go_simp;go_at_call 82;(refine(k.out _ (aB _ _).drew).mono ?_);rintro e w2 ⟨rfl,g,i,I⟩))
 all_goals
  have o:=hid g;have d:Hid (Kp w0.heap.size b w w2):=hid (m.out.trans (Kp.trans (Kp.of_below (aB _ _).drew a.out.size) ⟨i,I⟩));clear g i I b0 b1 b2 b3;go_wp2_with fail;go_end0;exact⟨rfl,o.out,d.out⟩
theorem Ot (w0:World) (hV:dA w0): ∀n,uG w0 n
 | 0=>λb t kv iv w l lev h=>h.elim
 | n+1=>aBC w0 hV n (Ot w0 hV n)
theorem VD.tight {w:World}: ∀ {n:Nat}{t:VT}{kv iv:Value},VD w n t kv iv->VD w t.depth t kv iv
 | 0,_,_,_,h=>h.elim
 | n+1,t,kv,iv,h=>by
  obtain⟨h1,p,c,h2,h3,h4⟩:=h;obtain⟨k,s,ks,l⟩:=t;rw[VT.depth];refine⟨h1,p,c,h2,h3,?_⟩;rcases h4 with h4 | ⟨g,o,h4,e,d⟩
  ·exact .inl h4
  ·refine .inr ⟨g,o,h4,e,λj x a=>?_⟩;obtain⟨kv',iv',e0,e1,e2,e3,e4⟩:=d j x a;have hd:=zM (bA (show l[j]?=some x from a));have:=e4.tight.more (cC l-x.depth);rw[show x.depth+(cC l-x.depth)=cC l by omega] at this;exact⟨kv',iv',e0,e1,e2,e3,this⟩
theorem VD.small {w:World}{n:Nat}{t:VT}{kv iv:Value} (h:VD w n t kv iv): ∃m,m<=t.bulk/\VD w m t kv iv:=
 ⟨t.depth,aV (zL t) (oI t),h.tight⟩
theorem aBD {s:aA} (h:nY s=true):s≠ []:=by
 unfold nY at h;simp only[bV,eA] at h;have a:cO s=((cO s).1,0):=by rw[<-h.1]
 have:=Ts (Cr a);rw[h.2] at this;exact this
theorem aBE {t:VT} (h:cE t=true):fE t≠ []:=by
 rw[Oq];unfold cE at h;simp only[bV,eA] at h;obtain⟨h7,h⟩:=h;unfold sS sR at h;by_cases h1:t.kind=1
 ·rw[if_pos h1];decide
 by_cases h4:t.kind=4
 ·rw[if_neg h1,if_pos h4];rw[if_neg (by omega),if_neg (by omega)] at h;split at h
  ·cases h
  ·rw[if_neg (by omega),if_neg (by omega)] at h;unfold dZ;rw[if_pos h];simp
 by_cases h5:t.kind=5
 ·rw[if_neg h1,if_neg h4,if_pos h5];simp
 by_cases h6:t.kind=6
 ·rw[if_neg h1,if_neg h4,if_neg h5,if_pos h6];simp
 rw[if_neg h1,if_neg h4,if_neg h5,if_neg h6];rw[if_neg h5,if_neg h6] at h;split at h
 ·cases h
 ·split at h
  ·rw[Bool.or_eq_true,eA,eA] at h;rcases h with h | h<;>rw[h]<;>decide
  ·split at h
   ·exact aBD h
   ·first | cases h | (rw[if_neg h4] at h;cases h)
def Bg (t:VT):aA×Int:=if cY t then(fE t,0) else([],1)
theorem wA {t:VT} (h:cY t=true):dO cE t=true:=by
 unfold cY at h;rw[bV] at h;exact h.2
theorem aBF (n:Nat) (t:VT) (kv iv:Value) (w:World) (hn:VD w n t kv iv) (hbk:t.bulk<=33554432) (hV:dA w):
  Calls Tryz.prog 31 #[vv t kv iv] w λe w'=>e=eC (Bg t)/\Below w.heap.size w w':=by
 obtain⟨m,hm,h⟩:=hn.small;clear hn;obtain⟨pk,ck,p,c,rfl,rfl⟩:=h.form;obtain⟨X,G⟩:=exQ<|w.heap.size;obtain⟨W1,j⟩:=exQ<|w.alloc (.cells #[.int .i64 t.kind, .string (bs t.text), .slice pk t.keys.length ck, .slice p t.items.length c] 25);have k:Hid (Below w.heap.size w W1):=hid (by rw[<-j];exact aH _ _);have r:Hid (bF W1 X t (.slice pk t.keys.length ck) (.slice p t.items.length c)):=hid (by rw[<-j,<-G];exact bF.new w t _ _);have u:=hid (h.keep k.out);have N:=hid (hV.keep k.out);have g:=hid (xZ m t _ _ W1 u.out (by omega) N.out.1);unfold vv at g ⊢;unfold Bg;obtain⟨y,E⟩:=exQ<|cY t;rw[E] at g;rw[E];have L:=hid E;clear h hV E;cases y with
 | false=>
  rw[if_neg (by simp)];go_enter Tryz.func31,Tryz.ntmps31;go_upto_region 1 with fail;clear j;obtain⟨b0,b1,b2,b3⟩:=r.out.cells;go_wp2_with fail;refine g.out.mono ?_;rintro e w2 ⟨rfl,a⟩;have f:=hid (aC k.out a);clear a b0 b1 b2 b3;go_wp2_with fail;go_ret2;exact⟨rfl,by first | exact f.out | (rw[<-G];exact f.out)⟩
 | true=>
  rw[if_pos rfl];have A:=hid (aBE (Fz (wA L.out)).1);obtain⟨C,D⟩:=exQ<|fE t;rw[D] at A;rw[D];have F:=hid D;clear D;go_enter Tryz.func31,Tryz.ntmps31;go_upto_region 1 with fail;clear j;obtain⟨b0,b1,b2,b3⟩:=r.out.cells;go_wp2_with fail;refine g.out.mono ?_;rintro e w2 ⟨rfl,a⟩;have f:=hid a;have o:=r.out.keep a;have x:=hid (u.out.keep a);have H:=hid (N.out.keep a);clear a b0 b1 b2 b3;have hP:=iE.new w2 87 pX;have d:=aH w2 (.cells #[.pointer none, .slice none 0 0, .bool false, .int .i64 0] 87);obtain⟨b,P⟩:=exQ<|w2.heap.size;obtain⟨W3,s⟩:=exQ<|w2.alloc (.cells #[.pointer none, .slice none 0 0, .bool false, .int .i64 0] 87);have hP:PN w2.heap.size w2.heap.size [] W3:=by rw[<-s];exact hP
  rw[s] at d;rw[show PN w2.heap.size w2.heap.size [] W3=PN w2.heap.size b [] W3 from by rw[P]] at hP;have q:=o.keep d;have HP:=hid hP;have K:=hid d;have i:=hid (Ot w2 H.out m b t _ _ W3 [] 0 x.out (wA L.out) hP d (by simp only[bY];omega) (by omega));unfold vv at i;rw[eE] at i;rw[F.out] at i;obtain⟨b0,b1,b2,b3⟩:=q.cells;clear hP d q o;go_wp2_with fail;refine i.out.mono ?_;rintro e w4 ⟨rfl,M,O⟩;have J:=hid (Oh _ b C w4 M A.out);have I:=hid (K.out.trans O.1);clear M O b0 b1 b2 b3 s;go_wp2_with fail;refine J.out.mono ?_;rintro e w5 ⟨rfl,z⟩;have v:=hid (aC k.out (aC f.out (I.out.trans z)));clear z;go_wp2_with fail;go_ret2;exact⟨rfl,by first | exact v.out | (rw[<-G];exact v.out)⟩
def cZ (t:VT):aA×Int:=
 if cY t then
  if t.kind=4 then(if fH t.text&&decide ((lX t.text).1=4) then(t.text,0) else jS t.text)
  else(nF (fE t),0)
 else([],1)
def eD (s:aA):aA×Int:=if Lib.validD s then(if fH s then(s,0) else jS s) else([],2)
theorem Ou (n:Nat) (t:VT) (kv iv:Value) (w:World) (h:VD w n t kv iv) (hbk:t.bulk<=16777216) (hV:dA w):
  Calls Tryz.prog 18 #[vv t kv iv] w λe w'=>e=eC (cZ t)/\Below w.heap.size w w':=by
 obtain⟨pk,ck,p,c,rfl,rfl⟩:=h.form;obtain⟨X,v⟩:=exQ<|w.heap.size;obtain⟨W1,q⟩:=exQ<|w.alloc (.cells #[.int .i64 t.kind, .string (bs t.text), .slice pk t.keys.length ck, .slice p t.items.length c] 25);have m:Hid (Below w.heap.size w W1):=hid (by rw[<-q];exact aH _ _);have d:Hid (bF W1 X t (.slice pk t.keys.length ck) (.slice p t.items.length c)):=hid (by rw[<-q,<-v];exact bF.new w t _ _);have z:=hid (h.keep m.out);have x:=hid (hV.keep m.out);have o:=hid (xZ n t _ _ W1 z.out (by omega) x.out.1);have hbt:t.text.length<t.bulk:=by cases t;rw[VT.bulk];simp only[VT.text];omega
 have hcl:=vZ t;have CP:Hid (∀w',Below W1.heap.size W1 w'->Calls Tryz.prog 31 #[vv t (.slice pk t.keys.length ck) (.slice p t.items.length c)] w' λe w2=>e=eC (Bg t)/\Below w'.heap.size w' w2):=hid (λw' r=>aBF n t _ _ w' (z.out.keep r) (by omega) (x.out.keep r));have CB:Hid (∀w',Below W1.heap.size W1 w'->Calls Tryz.prog 32 #[.string (bs t.text)] w' λe w2=>e= .returned (.bool (fH t.text))/\Below w'.heap.size w' w2):=hid (λw' r=>Aw t.text w' (by omega) (x.out.keep r));have CR:Hid (∀w',Below W1.heap.size W1 w'->Calls Tryz.prog 33 #[.string (bs t.text)] w' λe w2=>e=vU t.text/\Below w'.heap.size w' w2):=hid (λw' r=>My t.text w' (by omega) (x.out.keep r));have CQ:Hid (∀w',Below W1.heap.size W1 w'->Calls Tryz.prog 34 #[.string (bs t.text)] w' λe w2=>e=eC (jS t.text)/\Below w'.heap.size w' w2):=hid (λw' r=>Mx t.text w' (by omega) (x.out.keep r));have CS:Hid (∀w',Below W1.heap.size W1 w'->Calls Tryz.prog 30 #[.string (bs (fE t)), .int .i64 0] w' λe w2=>e=vT (fE t) 0/\Below w'.heap.size w' w2):=hid (λw' r=>Mw _ 0 w' (by omega) (x.out.keep r));unfold vv at o CP ⊢;unfold cZ;unfold Bg at CP;obtain⟨y,I⟩:=exQ<|cY t;rw[I] at o CP;rw[I];clear h hV I;cases y with
 | false=>
  rw[if_neg (by simp)];clear CP CB CR CQ CS;go_enter Tryz.func18,Tryz.ntmps18;go_upto_region 1 with fail;clear q;obtain⟨b0,b1,b2,b3⟩:=d.out.cells;go_wp2_with fail;refine o.out.mono ?_;rintro e w2 ⟨rfl,f⟩;have a:=hid (aC m.out f);clear f b0 b1 b2 b3;go_wp2_with fail;go_ret2;exact⟨rfl,by first | exact a.out | (rw[<-v];exact a.out)⟩
 | true=>
  rw[if_pos rfl];rw[if_pos rfl] at CP;by_cases k4:t.kind=4
  ·rw[if_pos k4];have d4:(t.kind !=4)=false:=(by simp[k4]);have d4b:(t.kind==4)=true:=(by simp[k4]);obtain⟨q1,s⟩:=exQ<|fH t.text;unfold vU at CR;obtain⟨rk,u⟩:=exQ<|(lX t.text).1;obtain⟨rt,D⟩:=exQ<|(lX t.text).2;obtain⟨Q,H⟩:=exQ<|jS t.text;rw[s] at CB;rw[u,D] at CR;rw[H] at CQ;rw[s,u,H];obtain⟨qt,qe⟩:=Q;clear CP CS s u D H k4;unfold eC at CQ;simp only[] at CQ;cases q1 with
   | false=>
    rw[Bool.false_and,if_neg (by simp)];go_enter Tryz.func18,Tryz.ntmps18;go_upto_region 1 with fail;clear q;obtain⟨b0,b1,b2,b3⟩:=d.out.cells;go_wp2_with fail;refine o.out.mono ?_;rintro e w2 ⟨rfl,f⟩;have a:=hid f;clear f b0 b1 b2 b3;obtain⟨b0,b1,b2,b3⟩:=(d.out.keep a.out).cells;go_wp2_with fail;refine(CB.out _ a.out).mono ?_;rintro e w3 ⟨rfl,j⟩;have g:=hid (aC a.out j);clear j b0 b1 b2 b3;obtain⟨b0,b1,b2,b3⟩:=(d.out.keep g.out).cells;go_wp2_with fail;refine(CQ.out _ g.out).mono ?_;rintro e w4 ⟨rfl,k⟩;have i:=hid (aC g.out k);clear k b0 b1 b2 b3;go_wp2_with fail;go_ret2;exact⟨rfl,by first | exact aC m.out i.out | (rw[<-v];exact aC m.out i.out)⟩
   | true=>
    have hfld: ∀w,(Instr.field 25 (.agg #[.int .i64 rk, .string (bs rt), .slice none 0 0, .slice none 0 0]) 0).run Tryz.prog w= .ok (.int .i64 rk) w:=λw=>by kernel_rfl
    rw[Bool.true_and];by_cases r4:rk=4
    ·rw[if_pos (by simpa using r4)];have dr:(rk==4)=true:=(by simp[r4]);clear r4 CQ;go_enter Tryz.func18,Tryz.ntmps18;go_upto_region 1 with fail;clear q;obtain⟨b0,b1,b2,b3⟩:=d.out.cells;go_wp2_with fail;refine o.out.mono ?_;rintro e w2 ⟨rfl,f⟩;have a:=hid f;clear f b0 b1 b2 b3;obtain⟨b0,b1,b2,b3⟩:=(d.out.keep a.out).cells;go_wp2_with fail;refine(CB.out _ a.out).mono ?_;rintro e w3 ⟨rfl,j⟩;have g:=hid (aC a.out j);clear j b0 b1 b2 b3;obtain⟨b0,b1,b2,b3⟩:=(d.out.keep g.out).cells;go_wp2_with fail;refine(CR.out _ g.out).mono ?_;rintro e w4 ⟨rfl,k⟩;have i:=hid (aC g.out k);clear k b0 b1 b2 b3;obtain⟨b0,b1,b2,b3⟩:=(d.out.keep i.out).cells;go_wp2_with fail;go_ret2;exact⟨rfl,by first | exact aC m.out i.out | (rw[<-v];exact aC m.out i.out)⟩
    ·rw[if_neg (by simpa using r4)];have dr:(rk==4)=false:=(by simp[r4]);clear r4;go_enter Tryz.func18,Tryz.ntmps18;go_upto_region 1 with fail;clear q;obtain⟨b0,b1,b2,b3⟩:=d.out.cells;go_wp2_with fail;refine o.out.mono ?_;rintro e w2 ⟨rfl,f⟩;have a:=hid f;clear f b0 b1 b2 b3;obtain⟨b0,b1,b2,b3⟩:=(d.out.keep a.out).cells;go_wp2_with fail;refine(CB.out _ a.out).mono ?_;rintro e w3 ⟨rfl,j⟩;have g:=hid (aC a.out j);clear j b0 b1 b2 b3;obtain⟨b0,b1,b2,b3⟩:=(d.out.keep g.out).cells;go_wp2_with fail;refine(CR.out _ g.out).mono ?_;rintro e w4 ⟨rfl,k⟩;have i:=hid (aC g.out k);clear k b0 b1 b2 b3;obtain⟨b0,b1,b2,b3⟩:=(d.out.keep i.out).cells;go_wp2_with fail;refine(CQ.out _ i.out).mono ?_;rintro e w5 ⟨rfl,E⟩;have A:=hid (aC i.out E);clear E b0 b1 b2 b3;go_wp2_with fail;go_ret2;exact⟨rfl,by first | exact aC m.out A.out | (rw[<-v];exact aC m.out A.out)⟩
  ·rw[if_neg k4];have d4:(t.kind !=4)=true:=(by simp[k4]);unfold vT at CS;unfold eC at CP;simp only[] at CP;obtain⟨C,F⟩:=exQ<|fE t;obtain⟨Z,G⟩:=exQ<|nF C;rw[F,G] at CS;rw[F] at CP;rw[F,G];clear CB CR CQ k4 F G;go_enter Tryz.func18,Tryz.ntmps18;go_upto_region 1 with fail;clear q;obtain⟨b0,b1,b2,b3⟩:=d.out.cells;go_wp2_with fail;refine o.out.mono ?_;rintro e w2 ⟨rfl,f⟩;have a:=hid f;clear f b0 b1 b2 b3;obtain⟨b0,b1,b2,b3⟩:=(d.out.keep a.out).cells;go_wp2_with fail;refine(CP.out _ a.out).mono ?_;rintro e w3 ⟨rfl,j⟩;have g:=hid (aC a.out j);clear j b0 b1 b2 b3;go_wp2_with fail;refine(CS.out _ g.out).mono ?_;rintro e w4 ⟨rfl,k⟩;have i:=hid (aC g.out k);clear k;go_wp2_with fail;go_ret2;exact⟨rfl,by first | exact aC m.out i.out | (rw[<-v];exact aC m.out i.out)⟩
theorem aBG (s:aA) (w:World) (hs:s.length<=16777216) (hV:dA w):
  Calls Tryz.prog 80 #[.string (bs s)] w λe w'=>e=eC (eD s)/\Below w.heap.size w w':=by
 have C1:=At (bs s) w (by rw[aQ];omega) hV.1.1;rw[Av,aW] at C1;obtain⟨N,o⟩:=exQ<|(lO (bs s)).1;rw[o] at C1;have CB:Hid (∀w',Below w.heap.size w w'->Calls Tryz.prog 32 #[.string (bs s)] w' λe w2=>e= .returned (.bool (fH s))/\Below w'.heap.size w' w2):=hid (λw' n=>Aw s w' (by omega) (hV.keep n));have CQ:Hid (∀w',Below w.heap.size w w'->Calls Tryz.prog 34 #[.string (bs s)] w' λe w2=>e=eC (jS s)/\Below w'.heap.size w' w2):=hid (λw' n=>Mx s w' (by omega) (hV.keep n));unfold eD;obtain⟨q0,g⟩:=exQ<|Lib.validD s;obtain⟨q1,d⟩:=exQ<|fH s;obtain⟨Q,m⟩:=exQ<|jS s;rw[g] at C1;rw[d] at CB;rw[m] at CQ;rw[g,d,m];obtain⟨qt,qe⟩:=Q;have h:=hid C1;unfold eC at CQ;simp only[] at CQ;clear C1 o g d m hV;cases q0 with
 | false=>
  rw[if_neg (by simp)];go_enter Tryz.func80,Tryz.ntmps80;go_wp2_with fail;refine h.out.mono ?_;rintro e w2 ⟨rfl,a⟩;have c:=hid a;clear a;go_wp2_with fail;go_ret2;exact⟨rfl,c.out⟩
 | true=>
  rw[if_pos rfl];go_enter Tryz.func80,Tryz.ntmps80;go_wp2_with fail;refine h.out.mono ?_;rintro e w2 ⟨rfl,a⟩;have c:=hid a;clear a;go_wp2_with fail;refine(CB.out _ c.out).mono ?_;rintro e w3 ⟨rfl,j⟩;have f:=hid (aC c.out j);clear j;cases q1 with
  | true=>
   go_wp2_with fail;go_ret2;exact⟨rfl,f.out⟩
  | false=>
   go_wp2_with fail;refine(CQ.out _ f.out).mono ?_;rintro e w4 ⟨rfl,i⟩;have k:=hid (aC f.out i);clear i;go_wp2_with fail;go_ret2;exact⟨rfl,k.out⟩
end
end Go.Proofs.YtjnooaljcgkfpaaGreatDoor
