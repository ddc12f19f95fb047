import Derived.Test.YtfhjncbdgjlcoaaGreatDoorYn36
set_option linter.unusedVariables false
set_option linter.unusedSimpArgs false
set_option maxRecDepth 100000
set_option maxHeartbeats 8000000
namespace Go.Proofs.YtfhjncbdgjlcoaaGreatDoor
open Tryz
open Go.RowKit
open Go.Lib hiding intOf
structure oM (s:aB) (d:dU):Prop where
 txt:s.length<=65536
 lns:d.lines.length<=131072
 nds:d.nodes.length<=131072
 nd: ∀x∈d.nodes,x.fr<=1073741824/\x.til<=1073741824/\x.kids.length<=131072
 ind: ∀l∈d.lines,0<=l.ind
theorem xB (ls:List aS) (x:aV):(qD ls x).length=min x.til ls.length-(x.fr+1):=by
 unfold qD;rw[bC,bR]
theorem Pn {ls:List aS}{x:aV}{i:Nat}{r:aS} (h:(qD ls x)[i]?=some r):ls[x.fr+1+i]?=some r:=by
 unfold qD at h;rw[kG] at h;rw[List.getElem?_take] at h;split at h
 .exact h
 .cases h
theorem aCw {w:World}{B:Nat}{d:dU}{pl:Option Addr}{n cl:Nat} (h:w.ownsRow B 68 10 (.slice pl n cl) d.lines.length (gY d.lines)) (x:aV):
  n=d.lines.length/\n<=cl/\(pl=none->n=0)/\ ∃pr cr,(if min x.til n<=x.fr+1 then .slice none 0 0 else .slice (pl.map λa=>a.add ((x.fr+1)*10)) (min x.til n-(x.fr+1)) (cl-(x.fr+1)):Value)= .slice pr (qD d.lines x).length cr/\
   ∀i r,(qD d.lines x)[i]?=some r-> ∃g o,pr=some ⟨g,o,none⟩/\g<w.heap.size/\ ∀j u,j<10->(rZ r)[j]?=some u->w.cell? ⟨g,o+i*10+j,none⟩=some u:=by
 have l:=h;rcases h.2 with⟨p,c⟩ | ⟨g,cap,cur,c,h2,q,t,_⟩
 .injection p with e1 e2 e3;subst e1 e2 e3;refine⟨c.symm,aF _,λ_=>rfl,none,0,?_,λi r b=>?_⟩
  .rw[if_pos a_,xB,c];simp
  .have:=Pn b;rw[List.length_eq_zero_iff.1 c] at this;cases this
 .injection c with e1 e2 e3;subst e1 e2 e3;refine⟨rfl,t,λe=>(by cases e),?_⟩;by_cases hm:min x.til d.lines.length<=x.fr+1
  .refine⟨none,0,?_,λi r b=>?_⟩
   .rw[if_pos hm,xB,show min x.til d.lines.length-(x.fr+1)=0 by omega]
   .have:=(aW.1 b).1;rw[xB] at this;omega
  .refine⟨some ⟨g,(x.fr+1)*10,none⟩,cl-(x.fr+1),?_,λi r b=>⟨g,(x.fr+1)*10,rfl,aG q,λj u s m=>?_⟩⟩
   .rw[if_neg hm,xB];simp[Addr.add]
   .have k:=Pn b;have hll:=(aW.1 k).1;have f:=qT _ 10 Fm d.lines _ r k j s;rw[show (x.fr+1)*10+i*10+j=(x.fr+1+i)*10+j by omega,World.ownsRow.cellAt l _ a_,gY,f,m]
theorem Hd (t:aB) (i:Int): ∀l:List (aB×Int),(∀q∈l,0<=q.2)->jN (l++ [(t,i)])=if jN l<0 then(if bB t≠t.length then i else -1) else jN l
 | [],_=>by simp[jN]
 | (u,j)::l,h=>by
  have h0:=h (u,j) kR;have ih:=Hd t i l (λq a=>h q (List.mem_cons_of_mem _ a));rw[qK,jN,jN];by_cases hu:bB u≠u.length
  .rw[if_pos hu,if_pos hu,if_neg (by simp only[] at h0;omega)]
  .rw[if_neg hu,if_neg hu];exact ih
theorem yY: ∀l:List (aB×Int),(∀q∈l,0<=q.2/\q.2<=1099511627776)-> -1<=jN l/\jN l<=1099511627776
 | [],_=>by simp[jN]
 | (u,j)::l,h=>by
  have h0:=h (u,j) kR;have ih:=yY l (λq a=>h q (List.mem_cons_of_mem _ a));rw[jN];split
  .simp only[] at h0;omega
  .exact ih
theorem bZ.snoc {B:Nat}{l:List aB}{v:Value}{w:World}{t:aB} (h:w.ownsRow B 9 1 v (l.length+1) (jG l++(#[Value.string (bs t)]:Array Value).toList)):bZ B (l++ [t]) v w:=by
 unfold bZ;rw[aZ];unfold jG at h ⊢;rw[lJ];exact h
theorem He: ∀l:List aB,Lib.join l [10]=lB l
 | []=>rfl
 | [x]=>Lib.join_one x [10]
 | x::y::r=>by
  have:=He (y::r);unfold lB;rw[<-this];unfold Lib.join;simp[List.intercalate]
theorem bZ.stored {B:Nat}{l:List aB}{g cap:Nat}{w:World} (h:bZ B l (.slice (some ⟨g,0,none⟩) l.length cap) w) (i:Nat) (t:aB):bZ B (l.set i t) (.slice (some ⟨g,0,none⟩) (l.set i t).length cap) (w.setCell ⟨g,i,none⟩ (.string (bs t))):=by
 obtain⟨a,_⟩:=World.ownsRow.stored h i (.string (bs t));unfold bZ;rw[List.length_set];unfold jG at a ⊢;rw[List.map_set];exact a
theorem aCx (t:aB):Lib.trimLeftB t 32= []↔bB t=t.length:=by
 have hsp:bB t<=t.length:=jU t;rw[<-List.length_eq_zero_iff,Ns t];omega
theorem aCy (t:aB) (w:World):Calls prog 29 #[bs t, .string ⟨#[32]⟩] w λe w'=>e= .returned (.string (bs (Lib.trimLeftB t 32)))/\w=w':=GE
def lC (c:Nat) (i:Nat) (l:List aB):List aB:=(l.take i).map (·.drop c)++l.drop i
theorem Hf (c i:Nat) (l:List aB):(lC c i l).length=l.length:=by
 unfold lC;rw[aZ,bP,bR,bC];omega
theorem aCz {c i:Nat}{l:List aB}{t:aB} (h:l[i]?=some t):(lC c i l)[i]?=some t:=by
 have hl:=(aW.1 h).1;unfold lC;rw[lR h_];simp only[bP,bR];rw[kG,show i+(i-min i l.length)=i by omega];exact h
theorem aCA {c i:Nat}{l:List aB}{t:aB} (h:l[i]?=some t):lC c (i+1) l=(lC c i l).set i (t.drop c):=by
 have a:=(aW.1 h).1;have ht:l[i]=t:=(aW.1 h).2;unfold lC;rw[List.take_add_one,h,Option.toList_some,lJ,nX];rw[List.set_append_right _ _ h_];simp only[bP,bR];rw[show i-min i l.length=0 by omega,gB a];rfl
theorem aCB (c:Nat) (l:List aB):lC c l.length l=l.map (·.drop c):=by
 unfold lC;rw[List.take_length,List.drop_length,List.append_nil]
theorem aCC (c:Nat) (l:List aB):lC c 0 l=l:=by simp[lC]
theorem Po (s:aB) (ls:List aS) (x:aV):(nB s ls x).length=(qD ls x).length:=by unfold nB;rw[bP]
theorem yZ (s:aB) (a b:Int):(iD s a b).length<=s.length:=by
 unfold iD;split
 .exact cI _
 .exact tW _ _ _
theorem Ct (n:Nat): ∀l:List aB,(∀t∈l,t.length<=n)->(lB l).length<=l.length*(n+1)
 | [],_=>by simp[lB]
 | [x],h=>by have:=h x kR;simp only[lB,dF];omega
 | x::y::r,h=>by
  have h1:=h x kR;have ih:=Ct n (y::r) (λt b=>h t (List.mem_cons_of_mem _ b));rw[lB,aZ,bM,bM (a:=x),Nat.add_mul,Nat.one_mul];omega
theorem aCD {B:Nat}{l:List aB}{v:Value}{w:World} (h:bZ B l v w) (hl:l.length<=131072) (hb: ∀t∈l,t.length<=65536):
  Calls prog 30 #[v, .string ⟨#[10]⟩] w (aT w (.string (bs (lB l)))):=by
 rcases h.2 with⟨o,d⟩ | ⟨g,i,cur,d,h2,p,q,_⟩
 .subst o;rw[List.length_eq_zero_iff.1 d];exact(strings_Join_none none 0 ⟨#[10]⟩ w).mono (λe w' ⟨a,b⟩=>⟨a,by rw[b];exact aD _ _⟩)
 .have f:=h;unfold bZ at f;rw[d] at f;subst d;have c:(l.map bs).map (·.data.toList)=l:=by
   rw[List.map_map];conv=>rhs;rw[<-List.map_id l]
   exact List.map_congr_left (λt _=>aY t)
  have hJ:=Ct 65536 l hb;have hmul:l.length*(65536+1)<=131072*65537:=Nat.mul_le_mul_right _ hl;have k:=strings_Join g 0 i (l.map bs) ⟨#[10]⟩ w (λj x n=>by
   rw[cF] at n;obtain⟨t,m,rfl⟩:=uM.1 n;have hlt:=(aW.1 m).1;rw[Nat.zero_add,World.ownsRow.cellAt f _ a_];unfold jG;rw[cF,m];rfl) (aG p) (by rw[bP];omega) (by rw[bP];exact q) (by
    rw[c,show (⟨#[10]⟩:ByteArray).data.toList= [10] from rfl,He];omega)
  rw[bP,c,show (⟨#[10]⟩:ByteArray).data.toList= [10] from rfl,He] at k;exact k
theorem Hg (s:aB) (d:dU) (lv nv:Value) (B:Nat) (w:World) (hD:eP B d lv nv w) (hb:oM s d) (hi64: ∀l∈d.lines,l.ind<=1099511627776) (k:Nat) (x:aV) (hx:d.nodes[k]?=some x) (hk4:x.kind=4):
  Calls prog 11 #[.agg #[bs s,lv,nv],k] w (aT w (.tuple #[bs (qE s d.lines x),true])):=by
 have Q9:=trivial;exact PI
end Go.Proofs.YtfhjncbdgjlcoaaGreatDoor
