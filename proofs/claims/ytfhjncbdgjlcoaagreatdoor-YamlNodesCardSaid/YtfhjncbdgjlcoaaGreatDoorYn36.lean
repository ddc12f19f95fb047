import Derived.Test.YtfhjncbdgjlcoaaGreatDoorYn34
import Derived.Test.YtfhjncbdgjlcoaaGreatDoorYn35
set_option linter.unusedVariables false
set_option linter.unusedSimpArgs false
set_option maxRecDepth 100000
set_option maxHeartbeats 8000000
namespace Go.Proofs.YtfhjncbdgjlcoaaGreatDoor
open Tryz
section
open Go.RowKit
open Go.Lib hiding intOf
theorem Pj (w0:World) (P:Nat) (txt:aB) (sp:List (Nat×Nat)) (hsp0:dV txt sp) (hs:txt.length<=65536) (hn:sp.length<=131072) (hV:bV w0) (HRd:Hid qB) (HKy:Hid qC) (lv:Nat) (hlv:lv<=32) (V:YB) (hVG:lv≠0->gS txt sp V) (IH: ∀m,lv=m+1->xA 40 w0 P txt sp V m):xA 21 w0 P txt sp (kZ txt sp V lv) lv:=by
 intro Pr k kf kt st a w h c b d;exact aCl w0 P txt sp hsp0 hs hn hV HRd HKy lv hlv V hVG IH Pr k kf kt st a w h c b d
theorem Pk (w0:World) (P:Nat) (txt:aB) (sp:List (Nat×Nat)) (hsp0:dV txt sp) (hs:txt.length<=65536) (hn:sp.length<=131072) (hV:bV w0) (HRd:Hid qB) (HKy:Hid qC): ∀(lv:Nat),lv<=32->xA 21 w0 P txt sp (oI txt sp lv) lv
 | 0,hl=>Pj w0 P txt sp hsp0 hs hn hV HRd HKy 0 hl _ (λh=>absurd rfl h) (λm h=>by omega)
 | lv+1,hl=>Pj w0 P txt sp hsp0 hs hn hV HRd HKy (lv+1) hl _ (λ_=>yK hsp0 (pG hsp0 lv) lv) (λm h=>by obtain rfl:m=lv:=a_;exact aBL w0 P txt sp hsp0 hs hn hV HRd m a_ _ (pG hsp0 m) (Pk w0 P txt sp hsp0 hs hn hV HRd HKy m a_))
theorem YK.one {T:TypeId}{Pr:aO}{w0 w:World}{P:Nat}{l:aB}{sp:List (Nat×Nat)}{lines:List aS}{z:List YN}{tot:Nat}{a er:Int}{sv lv nv:Value} (h:YK T Pr w0 P l sp lines z tot a er sv lv nv w) (hz:z= []):
  YK T Pr w0 P l sp lines [((⟨1,0,0,0,0,0,(l.length:Int),(l.length:Int),[]⟩:aV),())] tot a er sv lv (.slice (some ⟨w.heap.size,0,none⟩) 1 1) ((w.alloc (.cells #[(1:Int),(0:Int),(0:Int),(0:Int),(0:Int),(0:Int),l.length,l.length,()] 45)).setCell ⟨P,3,none⟩ (.slice (some ⟨w.heap.size,0,none⟩) 1 1)):=by
 subst hz;have b:=aL w (.cells #[(1:Int),(0:Int),(0:Int),(0:Int),(0:Int),(0:Int),l.length,l.length,()] 45);exact h.node (nv':= .slice (some ⟨w.heap.size,0,none⟩) 1 1) (x:=(⟨1,0,0,0,0,0,(l.length:Int),(l.length:Int),[]⟩:aV)) rfl (aF _) ⟨rfl, .inr ⟨w.heap.size,1,_,rfl,h.bel.size,heap_alloc_new w _,aF _,b_,rfl,rfl⟩⟩ ⟨b.os,b.tape,b.output,b.size,λi c _=>b.block i c⟩ (.inr rfl)
theorem aCs (l:aB) (w:World) (hV:bV w) (HRd:Hid qB) (HKy:Hid qC):
  Calls prog 6 #[bs l] w (Cq l (mA l) w):=PL
def rB (w:World) (p:Option Addr) (ls:List aS):Prop:= ∀k r,ls[k]?=some r-> ∃g,p=some ⟨g,0,none⟩/\ ∀i u,i<10->(rZ r)[i]?=some u->w.cell? ⟨g,k*10+i,none⟩=some u
def rC (w:World) (p:Option Addr) (ns:List aV):Prop:= ∀k x,ns[k]?=some x-> ∃g kv,p=some ⟨g,0,none⟩/\uY w kv x.kids/\ ∀i u,i<9->(iK (x,kv))[i]?=some u->w.cell? ⟨g,k*9+i,none⟩=some u
section
variable {w w':World}{p:Option Addr}
theorem rB.keep {ls:List aS} (h:rB w p ls) (hb:aA w w'):rB w' p ls:=λk r a=>by
 obtain⟨g,e,c⟩:=h k r a;exact⟨g,e,λi u d b=>fM (c i u d b) hb⟩
theorem rC.keep {ns:List aV} (h:rC w p ns) (hb:aA w w'):rC w' p ns:=λk r b=>by
 obtain⟨g,kv,e,a,d⟩:=h k r b;exact⟨g,kv,e,a.keep hb,λi u f c=>fM (d i u f c) hb⟩
end
theorem aCt {B:Nat}{l:List Nat}{v:Value}{w:World} (h:w.ownsRow B 3 1 v l.length (dH l)):uY w v l:=by
 have e:=h;rcases h.2 with⟨d,c⟩ | ⟨g,b,cur,rfl,_⟩
 .exact⟨none,0,by rw[d,c],λj k a=>by have:=(aW.1 a).1;omega⟩
 .refine⟨_,b,rfl,λj k a=>⟨g,rfl,?_⟩⟩;have hl:=(aW.1 a).1;rw[World.ownsRow.cellAt e _ a_,dH,cF,a];rfl
theorem eP.read {B:Nat}{d:dU}{lv nv:Value}{w:World} (h:eP B d lv nv w): ∃p1 c1 p2 c2,lv= .slice p1 d.lines.length c1/\nv= .slice p2 d.nodes.length c2/\rB w p1 d.lines/\rC w p2 d.nodes:=by
 obtain⟨z,v,l,j⟩:=h;obtain⟨p1,c1,e1,n⟩: ∃p1 c1,lv= .slice p1 d.lines.length c1/\rB w p1 d.lines:=by
  rcases l.2 with⟨g1,g2⟩ | ⟨g,a,m,g1,_⟩
  .exact⟨none,0,by rw[g1,g2],λk r b=>by have:=(aW.1 b).1;omega⟩
  .refine⟨_,a,g1,λk r b=>⟨g,rfl,λi u q f=>?_⟩⟩;have n:=(aW.1 b).1;rw[g1] at l;rw[World.ownsRow.cellAt l _ a_,gY,qT _ 10 Fm d.lines k r b i q,f]
 have c:z.length=d.nodes.length:=by rw[<-v,bP]
 obtain⟨p2,c2,e2,A⟩: ∃p2 c2,nv= .slice p2 d.nodes.length c2/\rC w p2 d.nodes:=by
  rcases j.row.2 with⟨g1,g2⟩ | ⟨g,a,m,g1,_⟩
  .exact⟨none,0,by rw[g1,<-c,g2],λk r b=>by have:=(aW.1 b).1;omega⟩
  .refine⟨_,a,by rw[<-c];exact g1,λk x s=>?_⟩;have n:=(aW.1 s).1;obtain⟨y,o⟩: ∃y,z[k]?=some y:=⟨_,bI a_⟩;have e:y.1=x:=by
    rw[<-v,cF,o] at s;exact bA s
   have t:=aCt (j.kids y (bH o));rw[e] at t;refine⟨g,y.2,rfl,t,λi u q f=>?_⟩;rw[g1] at j;exact(j.at_ o i q (by rw[<-e] at f;exact f)).1
 exact⟨p1,c1,p2,c2,e1,e2,n,A⟩
theorem Pl {w:World}{g k:Nat}{r:aS} (h: ∀i u,i<10->(rZ r)[i]?=some u->w.cell? ⟨g,k*10+i,none⟩=some u):w.cell? (g,k*10)=some (.int .i64 r.kind)/\w.cell? (g,k*10+1)=some (.int .i64 r.sf)/\w.cell? (g,k*10+2)=some (.int .i64 r.st)/\w.cell? (g,k*10+3)=some (.int .i64 r.ind)/\w.cell? (g,k*10+4)=some (.int .i64 r.kf)/\w.cell? (g,k*10+5)=some (.int .i64 r.kt)/\w.cell? (g,k*10+6)=some (.int .i64 r.rf)/\w.cell? (g,k*10+7)=some (.int .i64 r.rt)/\w.cell? (g,k*10+8)=some (.int .i64 r.nf)/\w.cell? (g,k*10+9)=some (.int .i64 r.nt):=
 ⟨h 0 _ a_ rfl,h 1 _ a_ rfl,h 2 _ a_ rfl,h 3 _ a_ rfl,h 4 _ a_ rfl,h 5 _ a_ rfl,h 6 _ a_ rfl,h 7 _ a_ rfl,h 8 _ a_ rfl,h 9 _ a_ rfl⟩
theorem Cr {w:World}{g k:Nat}{x:aV}{kv:Value} (h: ∀i u,i<9->(iK (x,kv))[i]?=some u->w.cell? ⟨g,k*9+i,none⟩=some u):w.cell? (g,k*9)=some (.int .i64 (x.kind:Int))/\w.cell? (g,k*9+1)=some (.int .i64 x.ind)/\w.cell? (g,k*9+2)=some (.int .i64 (x.fr:Int))/\w.cell? (g,k*9+3)=some (.int .i64 (x.til:Int))/\w.cell? (g,k*9+4)=some (.int .i64 x.kf)/\w.cell? (g,k*9+5)=some (.int .i64 x.kt)/\w.cell? (g,k*9+6)=some (.int .i64 x.rf)/\w.cell? (g,k*9+7)=some (.int .i64 x.rt)/\w.cell? (g,k*9+8)=some kv:=
 ⟨h 0 _ a_ rfl,h 1 _ a_ rfl,h 2 _ a_ rfl,h 3 _ a_ rfl,h 4 _ a_ rfl,h 5 _ a_ rfl,h 6 _ a_ rfl,h 7 _ a_ rfl,h 8 _ a_ rfl⟩
end
section
open Go.Lib
def iD (s:aB) (a b:Int):aB:=if a<0\/b<a\/(s.length:Int)<b then [] else dQ s a b
def lB:List aB->aB
 | []=> []
 | [x]=>x
 | x::y::r=>x++10::lB (y::r)
def jN:List (aB×Int)->Int
 | []=> -1
 | (t,i)::r=>if bB t≠t.length then i else jN r
def qD (ls:List aS) (x:aV):List aS:=(ls.take x.til).drop (x.fr+1)
def nB (s:aB) (ls:List aS) (x:aV):List (aB×Int):=(qD ls x).map λl=>(iD s l.sf l.st,l.ind)
def qE (s:aB) (ls:List aS) (x:aV):aB:=
 lB ((nB s ls x).map λt=>t.1.drop (jN (nB s ls x)).toNat)++(if nB s ls x≠ []/\iD s x.rf x.rt= [124] then [10] else [])
def lM (s:aB) (ns:List aV) (q:Nat):aB:=match ns[q]? with
 | some y=>(jW (iD s y.kf y.kt)).1
 | none=> []
def aX (s:aB) (d:dU):Nat->Nat->VT
 | 0,_=>eE
 | f+1,k=>match d.nodes[k]? with
  | none=>eE
  | some x=>if x.kind=1 then(gQ (iD s x.rf x.rt)).1 else if x.kind=4 then gN (qE s d.lines x) else
   .mk (if x.kind=3 then 6 else 5) [] (if x.kind=3 then x.kids.map (lM s d.nodes) else []) (x.kids.map (aX s d f))
def eI (ns:List aV):Nat->Nat->Nat->Prop
 | 0,_,_=>False
 | lv+1,k,hi=> ∃x,ns[k]?=some x/\eV (eI ns lv) x.kids (k+1) hi
theorem eI.lt {ns:List aV}: ∀ {lv k hi:Nat},eI ns lv k hi->k<hi
 | lv+1,k,hi,h=>by
  obtain⟨x,hx,h2⟩:=h;have: ∀(l:List Nat) (a:Nat),eV (eI ns lv) l a hi->a<=hi:=by
   intro l
   induction l with
   | nil=>intro a h;exact mP h
   | cons y l ih=>
    intro a h;obtain⟨rfl,m,h2,b⟩:=h;have:=ih m b;have:=eI.lt h2;omega
  have:=this _ _ h2;omega
end
section
open Go.RowKit
open Go.Lib hiding intOf
theorem aCu (s:aB) (a b:Nat):(bs s).extract a b=bs (dQ s (a:Int) (b:Int)):=by
 unfold dQ;rw[gA,gA,gO,aY]
theorem Cs (s:aB) (lv nv:Value) (hlv: ∃p n c,lv= .slice p n c) (hnv: ∃p n c,nv= .slice p n c) (a b:Int) (w:World) (hs:s.length<=1073741824):
  Calls prog 28 #[.agg #[bs s,lv,nv], .agg #[a,b]] w (aT w (.string (bs (iD s a b)))):=by
 have S3:=trivial;exact QK
abbrev Pm (x:aV) (kv:Value):Value:= .agg #[x.kind,x.ind,x.fr,x.til,x.kf,x.kt,x.rf,x.rt,kv]
theorem aCv (s:aB) (pl:Option Addr) (n cl:Nat) (nv:Value) (hnv: ∃p n c,nv= .slice p n c) (x:aV) (kv:Value) (hkv: ∃p n c,kv= .slice p n c) (w:World) (hn:n<=1073741824) (hncl:n<=cl) (hpl:pl=none->n=0) (hfr:x.fr<=1073741824) (htil:x.til<=1073741824):
  Calls prog 27 #[.agg #[bs s, .slice pl n cl,nv],Pm x kv] w λe w'=>aA w w'/\e= .returned (if min x.til n<=x.fr+1 then .slice none 0 0 else .slice (pl.map λa=>a.add ((x.fr+1)*10)) (min x.til n-(x.fr+1)) (cl-(x.fr+1))):=QK
end
end Go.Proofs.YtfhjncbdgjlcoaaGreatDoor
