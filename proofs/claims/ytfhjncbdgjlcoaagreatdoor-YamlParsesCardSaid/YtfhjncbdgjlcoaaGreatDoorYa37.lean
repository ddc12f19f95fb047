import Derived.Test.YtfhjncbdgjlcoaaGreatDoorYa36
import Derived.Test.YtfhjncbdgjlcoaaGreatDoorShelfD
set_option maxRecDepth 100000
set_option maxHeartbeats 8000000
set_option linter.unusedVariables false
set_option linter.unusedSimpArgs false
namespace Go.Proofs.YtfhjncbdgjlcoaaGreatDoor
open Go.RowKit
open Go.Lib hiding intOf
theorem aBD (s:aA) (a b:Nat):(bs s).extract a b=bs (eQ s (a:Int) (b:Int)):=by
 unfold eQ;rw[fV,fV,gL,aQ]
theorem Bv (s:aA) (lv nv:Value) (hlv: ∃p n c,lv= .slice p n c) (hnv: ∃p n c,nv= .slice p n c) (a b:Int) (w:World) (hs:s.length<=1073741824):
  Calls Tryz.prog 28 #[.agg #[bs s,lv,nv], .agg #[a,b]] w λe w'=>e= .returned (.string (bs (kG s a b)))/\Below w.heap.size w w':=by
 have DB:=trivial;exact u6
abbrev Ol (x:bA) (kv:Value):Value:= .agg #[x.kind,x.ind,x.fr,x.til,x.kf,x.kt,x.rf,x.rt,kv]
theorem aBE (s:aA) (pl:Option Addr) (n cl:Nat) (nv:Value) (hnv: ∃p n c,nv= .slice p n c) (x:bA) (kv:Value) (hkv: ∃p n c,kv= .slice p n c) (w:World) (hn:n<=1073741824) (hncl:n<=cl) (hpl:pl=none->n=0) (hfr:x.fr<=1073741824) (htil:x.til<=1073741824):
  Calls Tryz.prog 27 #[.agg #[bs s, .slice pl n cl,nv],Ol x kv] w λe w'=>Below w.heap.size w w'/\e= .returned (if min x.til n<=x.fr+1 then .slice none 0 0 else .slice (pl.map λa=>a.add ((x.fr+1)*10)) (min x.til n-(x.fr+1)) (cl-(x.fr+1))):=u6
structure vA (s:aA) (d:gD):Prop where
 txt:s.length<=65536
 lns:d.lines.length<=131072
 nds:d.nodes.length<=131072
 nd: ∀x∈d.nodes,x.fr<=1073741824/\x.til<=1073741824/\x.kids.length<=131072
 ind: ∀l∈d.lines,0<=l.ind
theorem yI (ls:List aP) (x:bA):(qE ls x).length=min x.til ls.length-(x.fr+1):=by
 unfold qE;rw[aU,bT]
theorem Om {ls:List aP}{x:bA}{i:Nat}{r:aP} (h:(qE ls x)[i]?=some r):ls[x.fr+1+i]?=some r:=by
 unfold qE at h;rw[kR] at h;rw[List.getElem?_take] at h;split at h
 ·exact h
 ·cases h
theorem aBF {w:World}{B:Nat}{d:gD}{pl:Option Addr}{n cl:Nat} (h:w.ownsRow B 68 10 (.slice pl n cl) d.lines.length (gK d.lines)) (x:bA):
  n=d.lines.length/\n<=cl/\(pl=none->n=0)/\ ∃pr cr,(if min x.til n<=x.fr+1 then .slice none 0 0 else .slice (pl.map λa=>a.add ((x.fr+1)*10)) (min x.til n-(x.fr+1)) (cl-(x.fr+1)):Value)= .slice pr (qE d.lines x).length cr/\
   ∀i r,(qE d.lines x)[i]?=some r-> ∃g o,pr=some ⟨g,o,none⟩/\g<w.heap.size/\ ∀j u,j<10->(rA r)[j]?=some u->w.cell? ⟨g,o+i*10+j,none⟩=some u:=by
 have m:=h;rcases h.2 with⟨l,c⟩ | ⟨g,cap,cur,c,h2,p,t,_⟩
 ·injection l with e1 e2 e3;subst e1 e2 e3;refine⟨c.symm,aD _,λ_=>rfl,none,0,?_,λi r b=>?_⟩
  ·rw[if_pos a_,yI,c];simp
  ·have:=Om b;rw[List.length_eq_zero_iff.1 c] at this;cases this
 ·injection c with e1 e2 e3;subst e1 e2 e3;refine⟨rfl,t,λe=>(by cases e),?_⟩;by_cases hm:min x.til d.lines.length<=x.fr+1
  ·refine⟨none,0,?_,λi r b=>?_⟩
   ·rw[if_pos hm,yI,show min x.til d.lines.length-(x.fr+1)=0 by omega]
   ·have:=(aR.1 b).1;rw[yI] at this;omega
  ·refine⟨some ⟨g,(x.fr+1)*10,none⟩,cl-(x.fr+1),?_,λi r b=>⟨g,(x.fr+1)*10,rfl,aF p,λj u q s=>?_⟩⟩
   ·rw[if_neg hm,yI];simp[Addr.add]
   ·have k:=Om b;have hll:=(aR.1 k).1;have f:=pG _ 10 En d.lines _ r k j q;rw[show (x.fr+1)*10+i*10+j=(x.fr+1+i)*10+j by omega,World.ownsRow.cellAt m _ a_,gK,f,s]
theorem On (t:aA) (i:Int): ∀l:List (aA×Int),(∀q∈l,0<=q.2)->lD (l++ [(t,i)])=if lD l<0 then(if aX t≠t.length then i else -1) else lD l
 | [],_=>by simp[lD]
 | (u,j)::l,h=>by
  have h0:=h (u,j) lN;have ih:=On t i l (λq a=>h q (List.mem_cons_of_mem _ a));rw[qK,lD,lD];by_cases hu:aX u≠u.length
  ·rw[if_pos hu,if_pos hu,if_neg (by simp only[] at h0;omega)]
  ·rw[if_neg hu,if_neg hu];exact ih
theorem Gj: ∀l:List (aA×Int),(∀q∈l,0<=q.2/\q.2<=1099511627776)-> -1<=lD l/\lD l<=1099511627776
 | [],_=>by simp[lD]
 | (u,j)::l,h=>by
  have h0:=h (u,j) lN;have ih:=Gj l (λq a=>h q (List.mem_cons_of_mem _ a));rw[lD];split
  ·simp only[] at h0;omega
  ·exact ih
theorem bP.snoc {B:Nat}{l:List aA}{v:Value}{w:World}{t:aA} (h:w.ownsRow B 9 1 v (l.length+1) (iQ l++(#[Value.string (bs t)]:Array Value).toList)):bP B (l++ [t]) v w:=by
 unfold bP;rw[aT];unfold iQ at h ⊢;rw[nE];exact h
theorem Gk: ∀l:List aA,Lib.join l [10]=qD l
 | []=>rfl
 | [x]=>Lib.join_one x [10]
 | x::y::r=>by
  have:=Gk (y::r);unfold qD;rw[<-this];unfold Lib.join;simp[List.intercalate]
theorem bP.stored {B:Nat}{l:List aA}{g cap:Nat}{w:World} (h:bP B l (.slice (some ⟨g,0,none⟩) l.length cap) w) (i:Nat) (t:aA):bP B (l.set i t) (.slice (some ⟨g,0,none⟩) (l.set i t).length cap) (w.setCell ⟨g,i,none⟩ (.string (bs t))):=by
 obtain⟨a,_⟩:=World.ownsRow.stored h i (.string (bs t));unfold bP;rw[List.length_set];unfold iQ at a ⊢;rw[List.map_set];exact a
theorem aBG (t:aA):Lib.trimLeftB t 32= []↔aX t=t.length:=by
 have hsp:aX t<=t.length:=jU t;rw[<-List.length_eq_zero_iff,Ms t];omega
theorem aBH (t:aA) (w:World):Calls Tryz.prog 29 #[bs t, .string ⟨#[32]⟩] w λe w'=>e= .returned (.string (bs (Lib.trimLeftB t 32)))/\w=w':=pg
def kH (c:Nat) (i:Nat) (l:List aA):List aA:=(l.take i).map (·.drop c)++l.drop i
theorem Gl (c i:Nat) (l:List aA):(kH c i l).length=l.length:=by
 unfold kH;rw[aT,bR,bT,aU];omega
theorem aBI {c i:Nat}{l:List aA}{t:aA} (h:l[i]?=some t):(kH c i l)[i]?=some t:=by
 have hl:=(aR.1 h).1;unfold kH;rw[kT h_];simp only[bR,bT];rw[kR,show i+(i-min i l.length)=i by omega];exact h
theorem aBJ {c i:Nat}{l:List aA}{t:aA} (h:l[i]?=some t):kH c (i+1) l=(kH c i l).set i (t.drop c):=by
 have a:=(aR.1 h).1;have ht:l[i]=t:=(aR.1 h).2;unfold kH;rw[List.take_add_one,h,Option.toList_some,nE,mU];rw[List.set_append_right _ _ h_];simp only[bR,bT];rw[show i-min i l.length=0 by omega,fL a];rfl
theorem aBK (c:Nat) (l:List aA):kH c l.length l=l.map (·.drop c):=by
 unfold kH;rw[List.take_length,List.drop_length,List.append_nil]
theorem aBL (c:Nat) (l:List aA):kH c 0 l=l:=by simp[kH]
theorem aBM (s:aA) (ls:List aP) (x:bA):(rJ s ls x).length=(qE ls x).length:=by unfold rJ;rw[bR]
theorem Gm (s:aA) (a b:Int):(kG s a b).length<=s.length:=by
 unfold kG;split
 ·exact dY _
 ·exact tD _ _ _
theorem Gn (n:Nat): ∀l:List aA,(∀t∈l,t.length<=n)->(qD l).length<=l.length*(n+1)
 | [],_=>by simp[qD]
 | [x],h=>by have:=h x lN;simp only[qD,dS];omega
 | x::y::r,h=>by
  have h1:=h x lN;have ih:=Gn n (y::r) (λt b=>h t (List.mem_cons_of_mem _ b));rw[qD,aT,bH,bH (a:=x),Nat.add_mul,Nat.one_mul];omega
theorem aBN {B:Nat}{l:List aA}{v:Value}{w:World} (h:bP B l v w) (hl:l.length<=131072) (hb: ∀t∈l,t.length<=65536):
  Calls Tryz.prog 30 #[v, .string ⟨#[10]⟩] w λe w'=>e= .returned (.string (bs (qD l)))/\Below w.heap.size w w':=by
 rcases h.2 with⟨o,d⟩ | ⟨g,f,cur,d,h2,p,q,_⟩
 ·subst o;rw[List.length_eq_zero_iff.1 d];exact(Tryz.strings_Join_none none 0 ⟨#[10]⟩ w).mono (λe w' ⟨a,b⟩=>⟨a,by rw[b];exact aB _ _⟩)
 ·have i:=h;unfold bP at i;rw[d] at i;subst d;have c:(l.map bs).map (·.data.toList)=l:=by
   rw[List.map_map];conv=>rhs;rw[<-List.map_id l]
   exact List.map_congr_left (λt _=>aQ t)
  have hJ:=Gn 65536 l hb;have hmul:l.length*(65536+1)<=131072*65537:=Nat.mul_le_mul_right _ hl;have k:=Tryz.strings_Join g 0 f (l.map bs) ⟨#[10]⟩ w (λj x n=>by
   rw[dE] at n;obtain⟨t,m,rfl⟩:=tS.1 n;have hlt:=(aR.1 m).1;rw[Nat.zero_add,World.ownsRow.cellAt i _ a_];unfold iQ;rw[dE,m];rfl) (aF p) (by rw[bR];omega) (by rw[bR];exact q) (by
    rw[c,show (⟨#[10]⟩:ByteArray).data.toList= [10] from rfl,Gk];omega)
  rw[bR,c,show (⟨#[10]⟩:ByteArray).data.toList= [10] from rfl,Gk] at k;exact k
theorem Oo (s:aA) (d:gD) (lv nv:Value) (B:Nat) (w:World) (hD:eD B d lv nv w) (hb:vA s d) (hi64: ∀l∈d.lines,l.ind<=1099511627776) (k:Nat) (x:bA) (hx:d.nodes[k]?=some x) (hk4:x.kind=4):
  Calls Tryz.prog 11 #[.agg #[bs s,lv,nv],k] w λe w'=>e= .returned (.tuple #[bs (wO s d.lines x),true])/\Below w.heap.size w w':=by
 have xm:=trivial;exact qd
end Go.Proofs.YtfhjncbdgjlcoaaGreatDoor
