import Derived.Test.YtjnooaljcgkfpaaGreatDoorBk1
import Derived.Test.YtjnooaljcgkfpaaGreatDoorBk4
import Derived.Deep.AppendLies
import Derived.Deep.Upon
import Derived.Maps.Own
import Derived.Maps.OwnOps
import Derived.Maps.Views
namespace Go.Proofs.YtjnooaljcgkfpaaGreatDoor
set_option linter.unusedVariables false
set_option linter.unusedSimpArgs false
section
open Go.RowKit
open Go.Lib hiding intOf
def sF (ok:Nat->Prop) (w:World) (v:Value) (l:List aA):Prop:= ∃p c,v= .slice p l.length c/\l.length<=c/\(l= []\/ ∃g o,p=some ⟨g,o,none⟩/\ok g/\(∃cur,w.heap[g]?=some (.cells cur 9))/\ ∀(j:Nat) (x:aA),l[j]?=some x->w.cell? ⟨g,o+j,none⟩=some (.string (bs x)))
def eX (ok:Nat->Prop) (w:World):Nat->VT->Value->Value->Prop
 | 0,_,_,_=>False
 | n+1,t,kv,iv=>sF ok w kv t.keys/\ ∃p c,iv= .slice p t.items.length c/\t.items.length<=c/\(t.items= []\/ ∃g o,p=some ⟨g,o,none⟩/\ok g/\(∃cur,w.heap[g]?=some (.cells cur 25))/\ ∀(j:Nat) (x:VT),t.items[j]?=some x-> ∃kv' iv',w.cell? ⟨g,o+j*4,none⟩=some (.int .i64 x.kind)/\w.cell? ⟨g,o+j*4+1,none⟩=some (.string (bs x.text))/\w.cell? ⟨g,o+j*4+2,none⟩=some kv'/\w.cell? ⟨g,o+j*4+3,none⟩=some iv'/\eX ok w n x kv' iv')
theorem sF.toSV {ok:Nat->Prop}{w:World}{v:Value}{l:List aA} (h:sF ok w v l):SV w v l:=by
 obtain⟨p,c,b,e,a⟩:=h;refine⟨p,c,b,e,?_⟩;rcases a with a | ⟨g,o,e1,e2,⟨cur,e3⟩,e4⟩
 ·exact .inl a
 ·exact .inr ⟨g,o,e1,aE e3,e4⟩
theorem eX.toVD {ok:Nat->Prop}{w:World}: ∀ {n:Nat}{t:VT}{kv iv:Value},eX ok w n t kv iv->VD w n t kv iv
 | 0,_,_,_,h=>h
 | n+1,t,kv,iv,h=>by
  obtain⟨h1,p,c,h2,h3,h4⟩:=h;refine⟨h1.toSV,p,c,h2,h3,?_⟩;rcases h4 with h4 | ⟨g,o,e1,e2,⟨cur,e3⟩,e4⟩
  ·exact .inl h4
  ·refine .inr ⟨g,o,e1,aE e3,λj x a=>?_⟩;obtain⟨kv',iv',a0,a1,a2,a3,a4⟩:=e4 j x a;exact⟨kv',iv',a0,a1,a2,a3,eX.toVD a4⟩
theorem sF.agree {ok ok':Nat->Prop}{w w':World} (hk: ∀k,ok k->k<w.heap.size->w'.heap[k]?=w.heap[k]?/\ok' k) {v:Value}{l:List aA} (h:sF ok w v l):sF ok' w' v l:=by
 obtain⟨p,c,e,f,a⟩:=h;refine⟨p,c,e,f,?_⟩;rcases a with a | ⟨g,o,e1,e2,⟨cur,e3⟩,e4⟩
 ·exact .inl a
 ·obtain⟨a1,a2⟩:=hk g e2 (aE e3);exact .inr ⟨g,o,e1,a2,⟨cur,by rw[a1];exact e3⟩,λj x b=>by rw[kY a1];exact e4 j x b⟩
theorem eX.agree {ok ok':Nat->Prop}{w w':World} (hk: ∀k,ok k->k<w.heap.size->w'.heap[k]?=w.heap[k]?/\ok' k): ∀ {n:Nat}{t:VT}{kv iv:Value},eX ok w n t kv iv->eX ok' w' n t kv iv
 | 0,_,_,_,h=>h
 | n+1,t,kv,iv,h=>by
  obtain⟨h1,p,c,h2,h3,h4⟩:=h;refine⟨h1.agree hk,p,c,h2,h3,?_⟩;rcases h4 with h4 | ⟨g,o,e1,e2,⟨cur,e3⟩,e4⟩
  ·exact .inl h4
  ·obtain⟨a1,a2⟩:=hk g e2 (aE e3);refine .inr ⟨g,o,e1,a2,⟨cur,by rw[a1];exact e3⟩,λj x a=>?_⟩;obtain⟨kv',iv',b0,b1,b2,b3,b4⟩:=e4 j x a;exact⟨kv',iv',by rw[kY a1];exact b0,by rw[kY a1];exact b1,by rw[kY a1];exact b2,by rw[kY a1];exact b3,eX.agree hk b4⟩
theorem eX.keep {ok:Nat->Prop}{w w':World} (hb:Below w.heap.size w w') {n:Nat}{t:VT}{kv iv:Value} (h:eX ok w n t kv iv):eX ok w' n t kv iv:=h.agree (λk a b=>⟨hb.block k b,a⟩)
theorem eX.mono {ok ok':Nat->Prop}{w:World}{n:Nat}{t:VT}{kv iv:Value} (h:eX ok w n t kv iv) (hk: ∀k,ok k->k<w.heap.size->ok' k):eX ok' w n t kv iv:=h.agree (λk a b=>⟨rfl,hk k a b⟩)
theorem eX.more {ok:Nat->Prop}{w:World}: ∀ {n:Nat}{t:VT}{kv iv:Value},eX ok w n t kv iv-> ∀m,eX ok w (n+m) t kv iv
 | 0,_,_,_,h,_=>h.elim
 | n+1,t,kv,iv,h,m=>by
  obtain⟨h1,p,c,h2,h3,h4⟩:=h;rw[Nat.add_right_comm];refine⟨h1,p,c,h2,h3,?_⟩;rcases h4 with h4 | ⟨g,o,h4,f,a,e⟩
  ·exact .inl h4
  ·refine .inr ⟨g,o,h4,f,a,λj x b=>?_⟩;obtain⟨kv',iv',e0,e1,e2,e3,e4⟩:=e j x b;exact⟨kv',iv',e0,e1,e2,e3,eX.more e4 m⟩
theorem eX.form {ok:Nat->Prop}{w:World}{n:Nat}{t:VT}{kv iv:Value} (h:eX ok w n t kv iv): ∃pk ck p c,kv= .slice pk t.keys.length ck/\iv= .slice p t.items.length c:=h.toVD.form
abbrev jP (B:Nat) (w:World) (n:Nat) (t:VT) (kv iv:Value):Prop:=eX (λk=>B<=k) w n t kv iv
theorem Tryz.infoString:(Tryz.prog.info? 9).map (λi=>(i.zero,i.size,i.bytes))=some (some (.string ⟨#[]⟩),1,16):=by kernel_rfl
theorem Tryz.infoValue:(Tryz.prog.info? 25).map (λi=>(i.zero,i.size,i.bytes))=some (some (.agg #[.int .i64 0, .string ⟨#[]⟩, .slice none 0 0, .slice none 0 0]),4,72):=by kernel_rfl
def strCells (l:List aA):List Value:=l.map λx=>Value.string (bs x)
def bS (B:Nat) (l:List aA) (v:Value) (w:World):Prop:=w.ownsRow B 9 1 v l.length (strCells l)
theorem Wu (l:List aA): ∀u∈strCells l,u.oneCell'=true:=by
 intro u a;unfold strCells at a;obtain⟨x,_,rfl⟩:=pJ.1 a;rfl
theorem tK (g o j:Nat):((⟨g,o,none⟩:Addr).add j)=⟨g,o+j,none⟩:=by unfold Addr.add;split<;>simp_all
theorem bS.toSVx {B:Nat}{l:List aA}{v:Value}{w:World} (h:bS B l v w):sF (λk=>B<=k/\some k=v.ownBlock) w v l:=by
 have e:=h;rcases h.2 with⟨c,a⟩ | ⟨g,cap,cur,rfl,f,n,i,_⟩
 ·exact⟨none,0,by rw[c,a],by omega, .inl (List.length_eq_zero_iff.1 a)⟩
 ·refine⟨_,cap,rfl,i, .inr ⟨g,0,rfl,⟨f,rfl⟩,⟨cur,n⟩,λj x m=>?_⟩⟩;have b:=World.ownsRow.cells e (g:=g) rfl j (.string (bs x)) (by unfold strCells;rw[cW,m];rfl);rw[tK] at b;exact b
theorem bS.nil (B:Nat) (w:World):bS B [] (.slice none 0 0) w:=⟨rfl, .inl ⟨rfl,rfl⟩⟩
theorem Jz {P:Program}{o:Oper}{a:Act}{K:Act->World->Prop}{Q:Exit->Act->World->Prop} (s x:Operand) (t:TypeId)
  (ho:o.op= .call { callee:= .builtin .append,args:= #[s,x],argTypes:= #[t,t] })
  (B:Nat) (e:TypeId) (i:TypeInfo) (z:Value) (size bytes:Nat) (ht:P.underlying t=some (.slice e)) (hi:P.info? e=some i) (hz:i.zero=some z)
  (hsize:i.size=size) (hby:i.bytes=bytes) (hzs:z.cells.size=size) (hsz:0<size)
  (w:World) (v:Value) (n:Nat) (xs:List Value) (hs:a.eval s=v) (hown:w.ownsRow B e size v n xs)
  (p:Option Addr) (m c:Nat) (news:List Value) (hx:a.eval x= .slice p m c)
  (hl:(m=0/\news= [])\/ ∃ad,p=some ad/\0<m/\news.length=m*size/\(∀j u,news[j]?=some u->w.cell? (ad.add j)=some u)/\ ∀u∈news,u.oneCell'=true)
  (h63:n+m<=maxLen) (hbytes:(n+m)*bytes<=140737488355328) (hB:B<=w.heap.size)
  (h: ∀v' w',w'.ownsRow B e size v' (n+m) (xs++news)->Below B w w'->(∀k,k<w.heap.size->some k≠v.ownBlock->w'.heap[k]?=w.heap[k]?)->(v'.ownBlock=v.ownBlock\/v'.ownBlock=some w.heap.size)->K (a.put o.dst v') w'):o.wp P a w K Q:=by
 rcases hl with⟨rfl,rfl⟩ | ⟨ad,rfl,G,D,I,l⟩
 ·have H: ∃base cap,v= .slice base n cap/\n<=cap:=by
   rcases hown.2 with⟨l,q⟩ | ⟨g,cap,cur,l,_,_,q,_⟩
   ·exact⟨none,0,by rw[l,q],by omega⟩
   ·exact⟨_,_,l,q⟩
  obtain⟨base,cap,rfl,y⟩:=H;have f:Src P i.size t (.slice p 0 c) 0 [] w:=by
   cases p with
   | none=>exact Src.ofNil w ht c
   | some ad=>exact Src.ofSlice w ht ad 0 c [] (by simp) (λj u F=>by simp at F) (λu J=>by cases J)
  have b:=run_append_nothing (P:=P) w t t o.type e i ht hi base n cap y (.slice p 0 c) f;unfold Oper.wp;simp[execOp,ho,resolve,invoke,builtin,hs,hx,b,Result.andThen];refine h _ w (by simpa using hown) (aB _ _) (λk _ _=>rfl) (.inl rfl)
 ·refine wp_append_lies w s x t ho B e i z size bytes ht hi hz hsize hby hzs hsz v n xs hs hown ad m c news hx D I l G h63 hbytes hB w.heap.size rfl ?_;intro g cap w' q E r h5;refine h _ w' q ((aB B w).grown E hB (λk C=>(World.ownsRow.lt hown k C).1)) (λk C A=>E.block k C A) ?_;rcases r with r | r
  ·exact .inl r.symm
  ·exact .inr (by rw[r];rfl)
theorem Wv {o:Oper}{a:Act}{K:Act->World->Prop}{Q:Exit->Act->World->Prop} (s x:Operand)
  (ho:o.op= .call { callee:= .builtin .append,args:= #[s,x],argTypes:= #[22,22] })
  (B:Nat) (w:World) (v:Value) (acc l:List aA) (hs:a.eval s=v) (hown:bS B acc v w) (xv:Value) (hx:a.eval x=xv) (hp:SV w xv l)
  (hl:acc.length+l.length<=4294967296) (hB:B<=w.heap.size)
  (h: ∀v' w',bS B (acc++l) v' w'->Below B w w'->(∀k,k<w.heap.size->some k≠v.ownBlock->w'.heap[k]?=w.heap[k]?)->(v'.ownBlock=v.ownBlock\/v'.ownBlock=some w.heap.size)->K (a.put o.dst v') w'):o.wp Tryz.prog a w K Q:=by
 obtain⟨i0,i,f,q,m⟩:=info_parts Tryz.infoString;obtain⟨p,c,rfl,hc,hp⟩:=hp;refine Jz s x 22 ho B 9 i0 _ 1 16 Tryz.underlying22 i f q m rfl (by decide) w v acc.length (strCells acc) hs hown p l.length c (strCells l) hx ?_ (by unfold maxLen;omega) (by omega) hB (λv' w' t r z A=>h v' w' ?_ r z A)
 ·rcases hp with rfl | ⟨g,o,rfl,_,n⟩
  ·exact .inl ⟨rfl,rfl⟩
  ·cases l with
   | nil=>exact .inl ⟨rfl,rfl⟩
   | cons y l=>
    refine .inr ⟨_,rfl,by simp,by unfold strCells;simp,λj u b=>?_,Wu _⟩;unfold strCells at b;rw[cW] at b;obtain⟨k,C,rfl⟩:=nU.1 b;rw[tK,n j k C]
 ·unfold bS;have e:strCells (acc++l)=strCells acc++strCells l:=by unfold strCells;simp
  rw[e,aI];exact t
abbrev vI:=VT×Value×Value
def oM (l:List vI):List Value:=l.flatMap λx=> [.int .i64 x.1.kind, .string (bs x.1.text),x.2.1,x.2.2]
theorem Ka (x:vI) (l:List vI):oM (x::l)= .int .i64 x.1.kind:: .string (bs x.1.text)::x.2.1::x.2.2::oM l:=rfl
theorem Kb: ∀(l:List vI) (j:Nat) (x:vI),l[j]?=some x->(oM l)[j*4]?=some (.int .i64 x.1.kind)/\(oM l)[j*4+1]?=some (.string (bs x.1.text))/\(oM l)[j*4+2]?=some x.2.1/\(oM l)[j*4+3]?=some x.2.2
 | [],j,x,h=>by simp at h
 | y::l,0,x,h=>by
  obtain rfl:y=x:=by simpa using h
  rw[Ka];exact⟨rfl,rfl,rfl,rfl⟩
 | y::l,j+1,x,h=>by
  rw[bM] at h;have:=Kb l j x h;rw[Ka,show (j+1)*4=j*4+4 by omega];exact this
def fM (B:Nat) (no:Option Nat) (l:List VT) (v:Value) (w:World):Prop:= ∃es:List vI,es.map (·.1)=l/\w.ownsRow B 25 4 v l.length (oM es)/\ ∀e∈es,eX (λk=>B<=k/\some k≠v.ownBlock/\some k≠no) w e.1.depth e.1 e.2.1 e.2.2
theorem fM.nil (B:Nat) (no:Option Nat) (w:World):fM B no [] (.slice none 0 0) w:=⟨[],rfl,⟨rfl, .inl ⟨rfl,rfl⟩⟩,λ_ h=>by cases h⟩
theorem fM.slice {B:Nat}{no:Option Nat}{l:List VT}{v:Value}{w:World} (h:fM B no l v w): ∃p c,v= .slice p l.length c:=by
 obtain⟨es,h1,e,h3⟩:=h;rcases e.2 with⟨a,b⟩ | ⟨g,cap,cur,rfl,_⟩
 ·exact⟨none,0,by rw[a,b]⟩
 ·exact⟨_,_,rfl⟩
theorem Ww {l:List VT}{x:VT} (h:x∈l): ∃m,cC l=x.depth+m:=⟨cC l-x.depth,by have:=zM h;omega⟩
theorem fM.toVDx {B:Nat}{no:Option Nat}{k:Int}{s:aA}{ks:List aA}{l:List VT}{kv iv:Value}{w:World} (hk:sF (λk=>B<=k) w kv ks) (h:fM B no l iv w):jP B w (VT.mk k s ks l).depth (VT.mk k s ks l) kv iv:=by
 obtain⟨es,rfl,i,q⟩:=h;rw[VT.depth];refine⟨hk,?_⟩;have r:=i;rcases i.2 with⟨u,n⟩ | ⟨g,cap,cur,rfl,t,y,p,_⟩
 ·refine⟨none,0,by rw[u];exact congrArg (λx=>Value.slice none x 0) n.symm,by show (es.map (·.1)).length<=0;omega, .inl (List.length_eq_zero_iff.1 n)⟩
 ·refine⟨_,cap,rfl,p, .inr ⟨g,0,rfl,t,⟨cur,y⟩,λj x b=>?_⟩⟩;change (es.map (·.1))[j]?=some x at b;rw[cW] at b;obtain⟨e,o,rfl⟩:=nU.1 b;obtain⟨a0,a1,a2,a3⟩:=Kb es j e o;have a:=World.ownsRow.cells r (g:=g) rfl;have f:=bA o;obtain⟨m,c⟩:=Ww (l:=es.map (·.1)) (pJ.2 ⟨e,f,rfl⟩);refine⟨e.2.1,e.2.2,?_,?_,?_,?_,?_⟩
  ·have:=a _ _ a0;rw[tK] at this;exact this
  ·have:=a _ _ a1;rw[tK] at this;exact this
  ·have:=a _ _ a2;rw[tK] at this;exact this
  ·have:=a _ _ a3;rw[tK] at this;exact this
  ·show eX _ w (cC (es.map (·.1))) e.1 e.2.1 e.2.2;rw[c];exact((q e f).mono (λk hk _=>hk.1)).more m
theorem eX.one {ok:Nat->Prop}{w:World}{n:Nat}{t:VT}{kv iv:Value} (h:eX ok w n t kv iv): ∀u∈([.int .i64 t.kind, .string (bs t.text),kv,iv]:List Value),u.oneCell'=true:=by
 obtain⟨pk,ck,p,c,rfl,rfl⟩:=h.form;intro u a;simp only[eV,List.not_mem_nil,or_false] at a;rcases a with rfl|rfl|rfl|rfl<;>rfl
theorem fM.keepX {B:Nat}{no:Option Nat}{l:List VT}{v:Value}{w w':World} (h:fM B no l v w) (hs:w.heap.size<=w'.heap.size) (hk: ∀k,B<=k->k<w.heap.size->w'.heap[k]?=w.heap[k]?):fM B no l v w':=by
 obtain⟨es,c,a,b⟩:=h;refine⟨es,c,⟨a.1,?_⟩,λe i=>(b e i).agree (λk ok lt=>⟨hk k ok.1 lt,ok⟩)⟩;rcases a.2 with f | ⟨g,cap,cur,e1,e2,e3,e4⟩
 ·exact .inl f
 ·exact .inr ⟨g,cap,cur,e1,e2,by rw[hk g e2 (aE e3)];exact e3,e4⟩
theorem fM.keep {B:Nat}{no:Option Nat}{l:List VT}{v:Value}{w w':World} (h:fM B no l v w) (hb:Below w.heap.size w w'):fM B no l v w':=h.keepX hb.size (λk _ lt=>hb.block k lt)
theorem bS.keepX {B:Nat}{l:List aA}{v:Value}{w w':World} (h:bS B l v w) (hk: ∀k,B<=k->k<w.heap.size->w'.heap[k]?=w.heap[k]?):bS B l v w':=by
 refine⟨h.1,?_⟩;rcases h.2 with a | ⟨g,cap,cur,e1,e2,e3,e4⟩
 ·exact .inl a
 ·exact .inr ⟨g,cap,cur,e1,e2,by rw[hk g e2 (aE e3)];exact e3,e4⟩
theorem bS.keep {B:Nat}{l:List aA}{v:Value}{w w':World} (h:bS B l v w) (hb:Below w.heap.size w w'):bS B l v w':=h.keepX (λk _ lt=>hb.block k lt)
theorem Wx {o:Oper}{a:Act}{K:Act->World->Prop}{Q:Exit->Act->World->Prop} (s x:Operand)
  (ho:o.op= .call { callee:= .builtin .append,args:= #[s,x],argTypes:= #[23,23] })
  (B:Nat) (no:Option Nat) (w:World) (v:Value) (acc:List VT) (t:VT) (kv iv:Value) (hs:a.eval s=v) (hown:fM B no acc v w)
  (ht:eX (λk=>B<=k/\some k≠v.ownBlock/\some k≠no) w t.depth t kv iv) (X:Nat) (hX:X<w.heap.size) (hXv:some X≠v.ownBlock) (hXo:w.heap[X]?=some (.cells #[.int .i64 t.kind, .string (bs t.text),kv,iv] 25)) (hx:a.eval x= .slice (some ⟨X,0,none⟩) 1 1)
  (hl:acc.length+1<=4294967296) (hB:B<=w.heap.size)
  (h: ∀v' w',fM B no (acc++ [t]) v' w'->Below B w w'->(∀k,k<w.heap.size->some k≠v.ownBlock->w'.heap[k]?=w.heap[k]?)->(v'.ownBlock=v.ownBlock\/v'.ownBlock=some w.heap.size)->K (a.put o.dst v') w'):o.wp Tryz.prog a w K Q:=by
 obtain⟨i0,l,i,p,m⟩:=info_parts Tryz.infoValue;obtain⟨es,y,z,r⟩:=hown;have C: ∀j u,([.int .i64 t.kind, .string (bs t.text),kv,iv]:List Value)[j]?=some u->w.cell? ((⟨X,0,none⟩:Addr).add j)=some u:=by
  intro j u f;rw[tK];have g:=(aP.1 f).1;have A:j=0\/j=1\/j=2\/j=3:=by simp at g;omega
  rcases A with rfl|rfl|rfl|rfl<;> · simp at f;subst f;simp[World.cell?,hXo]
 refine Jz s x 23 ho B 25 i0 _ 4 72 Tryz.underlying23 l i p m rfl (by decide) w v acc.length (oM es) hs z _ 1 1 _ hx (.inr ⟨_,rfl,by decide,rfl,C,ht.one⟩) (by unfold maxLen;omega) (by omega) hB (λv' w' g1 g2 g3 g4=>h v' w' ?_ g2 g3 g4);have b: ∀ {n:Nat}{t:VT}{kv iv:Value},eX (λk=>B<=k/\some k≠v.ownBlock/\some k≠no) w n t kv iv->eX (λk=>B<=k/\some k≠v'.ownBlock/\some k≠no) w' n t kv iv:=λq=>q.agree (λk ok lt=>⟨g3 k lt ok.2.1,ok.1,λe=>by
  rcases g4 with g4 | g4
  ·rw[g4] at e;exact ok.2.1 e
  ·rw[g4] at e;injection e with e;omega,ok.2.2⟩)
 refine⟨es++ [(t,kv,iv)],by simp[y],?_,λe c=>?_⟩
 ·have e1:oM (es++ [(t,kv,iv)])=oM es++ [.int .i64 t.kind, .string (bs t.text),kv,iv]:=by unfold oM;simp
  rw[e1,aI];exact g1
 ·rcases mZ.1 c with c | c
  ·exact b (r e c)
  ·obtain rfl:e=(t,kv,iv):=(by simpa using c);exact b ht
end
section
open Go.RowKit
def sG (ops:Array Oper):Nat->Nat->Nat->Bool
 | 0,a,b=>a==b
 | f+1,a,b=>a==b||(match ops[a]? with
  | some o=>o.after.toList.any (λe=>Region.binds .any e&&sG ops f e.on b)
  | none=>false)
def tL (ops:Array Oper) (d:Nat->Bool):Prop:= ∀i o,ops[i]?=some o->d i=true-> ∀e∈o.after,Region.binds .any e=true->d e.on=true
theorem tL.reach {ops:Array Oper}{d:Nat->Bool} (h:tL ops d): ∀(f a b:Nat),sG ops f a b=true->d a=true->d b=true
 | 0,a,b,hr,hd=>by
  have e:a=b:=by simpa [sG] using hr
  rw[<-e];exact hd
 | f+1,a,b,hr,hd=>by
  rw[sG,Bool.or_eq_true] at hr;rcases hr with e | hr
  ·have e:a=b:=(by simpa using e);rw[<-e];exact hd
  ·split at hr
   ·rename_i o i;obtain⟨e,g,c⟩:=List.any_eq_true.1 hr;rw[bV] at c;exact h.reach f _ _ c.2 (h a o i hd e (Array.mem_toList_iff.1 g) c.1)
   ·cases hr
theorem Af {d:Nat->Bool}{i:Nat}:bK d i i=true:=by unfold bK;rw[if_pos rfl]
theorem iA {d:Nat->Bool}{i j:Nat} (h:j≠i):bK d i j=d j:=by unfold bK;rw[if_neg h]
theorem Kc {d:Nat->Bool}{i j:Nat} (h:d j=true):bK d i j=true:=by unfold bK;split<;>simp_all
theorem tL.step {ops:Array Oper}{d:Nat->Bool} (h:tL ops d) {i:Nat}{o:Oper} (ho:ops[i]?=some o) (hall: ∀e∈o.after,Region.binds .any e=true->d e.on=true):tL ops (bK d i):=by
 intro j o' a f e b c;by_cases hj:j=i
 ·subst hj;rw[ho] at a;injection a with a;subst a;exact Kc (hall e b c)
 ·rw[iA hj] at f;exact Kc (h j o' a f e b c)
def gL (sl:List Nat) (v:Nat->Value) (e:Nat):Value:=match sl[e]? with
 | some k=>v k
 | none=>undef
def pP (eff sl:List Nat) (fr:Nat) (v:Nat->Value):Nat->Value
 | 0=>undef
 | k+1=>match eff[k]? with
  | some e=>match sl[e]? with
   | some _=>gL sl v e
   | none=>gL sl v fr
  | none=>undef
theorem xD (eff sl:List Nat) (fr:Nat) (v:Nat->Value) (k:Nat):pP eff sl fr v (k+1)=match eff[k]? with
  | some e=>match sl[e]? with
   | some _=>gL sl v e
   | none=>gL sl v fr
  | none=>undef:=rfl
theorem Kd {l:List Nat} (h:l.Nodup) {i j a:Nat} (hi:l[i]?=some a) (hj:l[j]?=some a):i=j:=by
 obtain⟨f,g⟩:=aP.1 hi;obtain⟨m,k⟩:=aP.1 hj;have n:=List.pairwise_iff_getElem.1 h;rcases Nat.lt_trichotomy i j with c | b | e
 ·exact absurd (g.trans k.symm) (n i j f m c)
 ·exact b
 ·exact absurd (k.trans g.symm) (n j i m f e)
theorem Ke {l:List Nat} (h:l≠ []):l.getLastD 0∈l:=by
 rw[List.getLastD_eq_getLast?,List.getLast?_eq_some_getLast h];exact List.getLast_mem h
structure gE (ops:Array Oper) (sl eff:List Nat) (fr:Nat) (Fb:Value->World->Prop) (val:Nat->Value) (S:World->Prop) (Ph:Nat->Value->World->Prop) (d:Nat->Bool) (v:Nat->Value) (w':World):Prop where
 cl: ∀i,i<sl.length->i ∉ eff->i≠fr->d i=true->gL sl v i=val i
 clo:tL ops d
 st:d (eff.getLastD 0)=false->S w'
 fb:d (eff.getLastD 0)=false->d fr=true->Fb (gL sl v fr) w'
 ph: ∃k,k<=eff.length/\(∀j e,eff[j]?=some e->(d e=true↔j<k))/\Ph k (pP eff sl fr v k) w'
section
variable {ops:Array Oper}{sl eff:List Nat}{fr:Nat}{Fb:Value->World->Prop}{val:Nat->Value}{S:World->Prop}{Ph:Nat->Value->World->Prop}{d:Nat->Bool}{v:Nat->Value}{w' w2:World}
theorem Dp {i k:Nat} (hk:sl[i]?=some k) (x:Value):gL sl (dH v (some k) x) i=x:=by
 unfold gL;rw[hk];exact if_pos rfl
theorem tM (hnd:sl.Nodup) {i k:Nat} (hk:sl[i]?=some k) (x:Value) {j:Nat} (hj:j≠i):gL sl (dH v (some k) x) j=gL sl v j:=by
 unfold gL;cases hs:sl[j]? with
 | none=>rfl
 | some q=>
  exact if_neg (λe=>hj (Kd hnd hs (by rw[e];exact hk)))
theorem Wy {v v2:Nat->Value} (h: ∀e∈eff,gL sl v2 e=gL sl v e) (hf:gL sl v2 fr=gL sl v fr): ∀k,pP eff sl fr v2 k=pP eff sl fr v k
 | 0=>rfl
 | k+1=>by
  rw[xD,xD];cases he:eff[k]? with
  | none=>rfl
  | some e=>
   simp only[];cases hs:sl[e]? with
   | none=>exact hf
   | some q=>exact h e (bA he)
theorem gE.pure (h:gE ops sl eff fr Fb val S Ph d v w') (hnd:sl.Nodup) {i k:Nat}{o:Oper} (ho:ops[i]?=some o) (hall: ∀e∈o.after,Region.binds .any e=true->d e.on=true) (hk:sl[i]?=some k) (hne:i ∉ eff) (hfr:i≠fr) (hel:eff≠ []) {x:Value} (hx:x=val i):gE ops sl eff fr Fb val S Ph (bK d i) (dH v (some k) x) w':=by
 have b: ∀e∈eff,gL sl (dH v (some k) x) e=gL sl v e:=λe c=>tM hnd hk x (λe2=>hne (e2 ▸ c));have p: ∀e∈eff,bK d i e=d e:=λe c=>iA (λe2=>hne (e2 ▸ c));have a:bK d i (eff.getLastD 0)=d (eff.getLastD 0):=p _ (Ke hel);refine⟨λj r l m f=>?_,h.clo.step ho hall,λg=>h.st (by rw[<-a];exact g),λg n=>?_,?_⟩
 ·by_cases hji:j=i
  ·subst hji;rw[Dp hk];exact hx
  ·rw[tM hnd hk x hji];rw[iA hji] at f;exact h.cl j r l m f
 ·rw[tM hnd hk x (Ne.symm hfr)];rw[iA (Ne.symm hfr)] at n;exact h.fb (by rw[<-a];exact g) n
 ·obtain⟨q,t,u,s⟩:=h.ph;refine⟨q,t,λj e c=>?_,?_⟩
  ·rw[p e (bA c)];exact u j e c
  ·rw[Wy b (tM hnd hk x (Ne.symm hfr))];exact s
theorem gE.free (h:gE ops sl eff fr Fb val S Ph d v w') (hnd:sl.Nodup) {i k:Nat}{o:Oper} (ho:ops[i]?=some o) (hall: ∀e∈o.after,Region.binds .any e=true->d e.on=true) (hk:sl[i]?=some k) (hne:i ∉ eff) (hfr:i=fr) (hel:eff≠ []) (hsl:eff.all (λe=>e==eff.getLastD 0||decide (e<sl.length))=true) (hnl:eff.Nodup) (hdl:d (eff.getLastD 0)=false) {x:Value} (hS:S w'->S w2) (hP: ∀k c,Ph k c w'->Ph k c w2) (hx:Fb x w2):gE ops sl eff fr Fb val S Ph (bK d i) (dH v (some k) x) w2:=by
 subst hfr;have f: ∀e∈eff,gL sl (dH v (some k) x) e=gL sl v e:=λe a=>tM hnd hk x (λe2=>hne (e2 ▸ a));have p: ∀e∈eff,bK d i e=d e:=λe a=>iA (λe2=>hne (e2 ▸ a));have hlast:bK d i (eff.getLastD 0)=d (eff.getLastD 0):=p _ (Ke hel);refine⟨λj r m g l=>?_,h.clo.step ho hall,λt=>hS (h.st hdl),λt hf=>by rw[Dp hk];exact hx,?_⟩
 ·rw[tM hnd hk x g];rw[iA g] at l;exact h.cl j r m g l
 ·obtain⟨q,u,n,s⟩:=h.ph;refine⟨q,u,λj e a=>?_,?_⟩
  ·rw[p e (bA a)];exact n j e a
  ·have w:pP eff sl i (dH v (some k) x) q=pP eff sl i v q:=by
    cases q with
    | zero=>rfl
    | succ q=>
     rw[xD,xD];cases a:eff[q]? with
     | none=>rfl
     | some e=>
      simp only[];cases hs:sl[e]? with
      | some z=>exact f e (bA a)
      | none=>
       have b:=eH.1 hsl e (bA a);rw[Bool.or_eq_true] at b;rcases b with b | b
       ·have b:e=eff.getLastD 0:=(by simpa using b);have:=(n q e a).2 (jY _);rw[b,hdl] at this;cases this
       ·have b:=of_decide_eq_true b;rw[Dq] at hs;omega
   rw[w];exact hP _ _ s
theorem gE.at_ (h:gE ops sl eff fr Fb val S Ph d v w') {j e:Nat} (he:eff[j]?=some e) (hi:d e=false) (hp: ∀j' e',j=j'+1->eff[j']?=some e'->d e'=true):Ph j (pP eff sl fr v j) w':=by
 obtain⟨q,hq,b,c⟩:=h.ph;have h4: ¬j<q:=λa=>by rw[(b j e he).2 a] at hi;cases hi
 obtain rfl:j=q:=by
  cases j with
  | zero=>omega
  | succ j'=>
   have hj':=(aP.1 he).1;have h5:=(b j' _ (bH (by omega))).1 (hp j' _ rfl (bH (by omega)));omega
 exact c
theorem gE.eff_ (h:gE ops sl eff fr Fb val S Ph d v w') (hnd:sl.Nodup) (hne:eff.Nodup) {i j:Nat}{o:Oper} (ho:ops[i]?=some o) (hall: ∀e∈o.after,Region.binds .any e=true->d e.on=true) (he:eff[j]?=some i) (hi:d i=false) (hp: ∀j' e',j=j'+1->eff[j']?=some e'->d e'=true)
  {dst:Option Nat} (hk:sl[i]?=dst) (hfr:i≠fr) {x:Value} (hF:i≠eff.getLastD 0-> ∀x,Fb x w'->Fb x w2) (hS:i≠eff.getLastD 0->S w2) (hP:Ph (j+1) (match dst with | some _=>x | none=>gL sl v fr) w2):gE ops sl eff fr Fb val S Ph (bK d i) (dH v dst x) w2:=by
 obtain⟨q,hq,t,h3⟩:=h.ph;have u:=(aP.1 he).1;obtain rfl:j=q:=by
  have h4: ¬j<q:=λs=>by rw[(t j i he).2 s] at hi;cases hi
  cases j with
  | zero=>omega
  | succ j'=>
   have h5:=(t j' _ (bH (by omega))).1 (hp j' _ rfl (bH (by omega)));omega
 have c: ∀m,m≠i->gL sl (dH v dst x) m=gL sl v m:=λm b=>by
  cases dst with
  | none=>rfl
  | some k=>exact tM hnd hk x b
 have f: ∀(a:bK d i (eff.getLastD 0)=false),i≠eff.getLastD 0/\d (eff.getLastD 0)=false:=λa=>by
  have hne:i≠eff.getLastD 0:=λe=>by rw[<-e,Af] at a;cases a
  exact⟨hne,by rw[iA (Ne.symm hne)] at a;exact a⟩
 refine⟨λm b l r g=>?_,h.clo.step ho hall,λa=>?_,λa w=>?_,j+1,u,λm e b=>?_,?_⟩
 ·have n:m≠i:=λe=>l (e ▸ bA he);rw[c m n];rw[iA n] at g;exact h.cl m b l r g
 ·exact hS (f a).1
 ·rw[c fr (Ne.symm hfr)];rw[iA (Ne.symm hfr)] at w;exact hF (f a).1 _ (h.fb (f a).2 w)
 ·by_cases hmj:m=j
  ·subst hmj;rw[he] at b;injection b with b;subst b;rw[Af];exact⟨λ_=>jY _,λ_=>rfl⟩
  ·have p:e≠i:=λe2=>hmj (Kd hne (by rw[<-e2];exact b) he);rw[iA p,t m e b];omega
 ·rw[xD,he];simp only[hk];cases dst with
  | none=>exact hP
  | some k=>
   simp only[];rw[Dp hk];exact hP
theorem gE.fin (h:gE ops sl eff fr Fb val S Ph d v w') (hd: ∀e∈eff,d e=true):Ph eff.length (pP eff sl fr v eff.length) w':=by
 obtain⟨q,hq,a,b⟩:=h.ph;by_cases hlt:q<eff.length
 ·have:=(a q _ (bH hlt)).1 (hd _ (List.getElem_mem hlt));omega
 ·obtain rfl:q=eff.length:=by omega
  exact b
theorem gE.early (h:gE ops sl eff fr Fb val S Ph d v w') {f i:Nat} (hr:sG ops f (eff.getLastD 0) i=true) (hi:d i=false):S w':=by
 refine h.st ?_;cases hc:d (eff.getLastD 0) with
 | false=>rfl
 | true=>rw[h.clo.reach f _ _ hr hc] at hi;cases hi
end
section
variable {ops:Array Oper}{sl eff:List Nat}{fr:Nat}{Fb:Value->World->Prop}{val:Nat->Value}{S:World->Prop}{Ph:Nat->Value->World->Prop}{d:Nat->Bool}{v:Nat->Value}{w' w2:World}
theorem Kf {j:Nat} (hp:j=0\/ ∃e',eff[j-1]?=some e'/\d e'=true): ∀j' e',j=j'+1->eff[j']?=some e'->d e'=true:=by
 rintro j' e' rfl c;rcases hp with h | ⟨e2,a,b⟩
 ·omega
 ·rw[Nat.add_sub_cancel,c] at a;injection a with a;rw[a];exact b
theorem gE.at2 (h:gE ops sl eff fr Fb val S Ph d v w') {j e:Nat} (he:eff[j]?=some e) (hi:d e=false) (hp:j=0\/ ∃e',eff[j-1]?=some e'/\d e'=true):Ph j (pP eff sl fr v j) w':=h.at_ he hi (Kf hp)
theorem gE.eff2 (h:gE ops sl eff fr Fb val S Ph d v w') (hnd:sl.Nodup) (hne:eff.Nodup) {i:Nat} (j:Nat) {o:Oper} (ho:ops[i]?=some o) (hall: ∀e∈o.after,Region.binds .any e=true->d e.on=true) (he:eff[j]?=some i) (hi:d i=false) (hp:j=0\/ ∃e',eff[j-1]?=some e'/\d e'=true)
  {dst:Option Nat} (hk:sl[i]?=dst) (hfr:i≠fr) {x:Value} (hF:i≠eff.getLastD 0-> ∀x,Fb x w'->Fb x w2) (hS:i≠eff.getLastD 0->S w2) (hP:Ph (j+1) (match dst with | some _=>x | none=>gL sl v fr) w2):gE ops sl eff fr Fb val S Ph (bK d i) (dH v dst x) w2:=h.eff_ hnd hne ho hall he hi (Kf hp) hk hfr hF hS hP
end
theorem gE.lastNot {ops:Array Oper}{sl eff:List Nat}{fr:Nat}{Fb:Value->World->Prop}{val:Nat->Value}{S:World->Prop}{Ph:Nat->Value->World->Prop}{d:Nat->Bool}{v:Nat->Value}{w':World} (h:gE ops sl eff fr Fb val S Ph d v w') {f i:Nat} (hr:sG ops f (eff.getLastD 0) i=true) (hi:d i=false):d (eff.getLastD 0)=false:=by
 cases hc:d (eff.getLastD 0) with
 | false=>rfl
 | true=>rw[h.clo.reach f _ _ hr hc] at hi;cases hi
theorem Dr {P:Program}{ops:Array Oper}{Q:Exit->Act->World->Prop}{id:Nat}{a0:Act}{w0:World} (hm:P.follows .mixedOrders=true) (sl eff:List Nat) (fr:Nat) (Fb:Value->World->Prop) (n:Nat) (hn:a0.tmps.size=n) (hback:xB ops=true) (hdst:vG ops sl n=true) (heff:eff.all (λe=>decide (e<ops.size))=true)
  (val:Nat->Value) (S:World->Prop) (Ph:Nat->Value->World->Prop) (h0:S w0.drew) (hP:Ph 0 undef w0.drew)
  (hs: ∀(d:Nat->Bool) (a:Act) (w:World) (i:Nat) (o:Oper),ops[i]?=some o->d i=false->(∀e∈o.after,Region.binds .any e=true->d e.on=true)->(∀k,k ∉ sl->a.tmps.getD k undef=a0.tmps.getD k undef)->gE ops sl eff fr Fb val S Ph d (λk=>a.tmps.getD k undef) w->
   ∀R:Act->World->Prop,(∀x w',gE ops sl eff fr Fb val S Ph (bK d i) (dH (λk=>a.tmps.getD k undef) o.dst x) w'->R (a.put o.dst x) w')->o.wp P a w R Q)
  (hd: ∀(v:Nat->Value) (w:World),(∀i,i<sl.length->i<ops.size->i ∉ eff->i≠fr->gL sl v i=val i)->Ph eff.length (pP eff sl fr v eff.length) w->Q .normal { a0 with tmps:=cV a0.tmps v sl } w):(Code.region id ops true).wp P Q a0 w0:=by
 refine Do hm sl n hn hback hdst (λd v w'=>gE ops sl eff fr Fb val S Ph d v w') ?_ hs (λv w h=>hd v w (λi b c f g=>h.cl i b f g (aN c)) (h.fin (λe l=>?_)))
 ·exact⟨λ_ _ _ _ h=>Bool.noConfusion h,λ_ _ _ h=>Bool.noConfusion h,λ_=>h0,λ_ h=>Bool.noConfusion h,0,cH _,λj e _=>⟨λh=>Bool.noConfusion h,λh=>absurd h (tN _)⟩,hP⟩
 ·exact eH.1 heff e l
end
section
open Go.RowKit
open Go.Lib hiding intOf
theorem dT {w w':World}{a:Addr}{u:Value} (h:w.cell? a=some u) (hb:Below w.heap.size w w'):w'.cell? a=some u:=by
 rw[hb.cell (World.block_lt_of_cell? w a h)];exact h
theorem fM.mono {B B':Nat}{no:Option Nat}{l:List VT}{v:Value}{w:World} (h:fM B no l v w) (hB:B'<=B):fM B' no l v w:=by
 obtain⟨es,f,a,c⟩:=h;refine⟨es,f,⟨a.1,?_⟩,λe j=>(c e j).mono (λk b _=>⟨aV hB b.1,b.2⟩)⟩;rcases a.2 with i | ⟨g,cap,cur,e1,e2,e3⟩
 ·exact .inl i
 ·exact .inr ⟨g,cap,cur,e1,aV hB e2,e3⟩
structure CS (W:World) (Y:Nat) (k:Int) (s:aA) (ks:List aA) (l:List VT) (kv ov:Value) (w:World):Prop where
 box:w.heap[Y]?=some (.cells #[.int .i64 k, .string (bs s),kv,ov] 25)
 keys:bS W.heap.size ks kv w
 off:some Y≠kv.ownBlock
 its:fM (Y+1) kv.ownBlock l ov w
 bel:Below W.heap.size W w
 new_:W.heap.size<=Y
theorem bS.ownLt {B:Nat}{l:List aA}{v:Value}{w:World} (h:bS B l v w) {k:Nat} (hk:some k=v.ownBlock):k<w.heap.size:=by
 rcases h.2 with⟨rfl,_⟩ | ⟨g,cap,cur,rfl,_,a,_⟩
 ·cases hk
 ·injection hk with hk;subst hk;exact aE a
theorem CS.cells {W w:World}{Y:Nat}{k:Int}{s:aA}{ks:List aA}{l:List VT}{kv ov:Value} (h:CS W Y k s ks l kv ov w):w.cell? ⟨Y,0,none⟩=some (.int .i64 k)/\w.cell? ⟨Y,1,none⟩=some (.string (bs s))/\w.cell? ⟨Y,2,none⟩=some kv/\w.cell? ⟨Y,3,none⟩=some ov/\
  w.frozen? ⟨Y,0,none⟩=false/\w.frozen? ⟨Y,1,none⟩=false/\w.frozen? ⟨Y,2,none⟩=false/\w.frozen? ⟨Y,3,none⟩=false:=by
 have a:=h.box;refine⟨?_,?_,?_,?_,?_,?_,?_,?_⟩<;>simp[World.cell?,World.frozen?,a]
theorem bS.keepB {B:Nat}{l:List aA}{v:Value}{w w':World} (h:bS B l v w) (hk: ∀k,B<=k->some k=v.ownBlock->k<w.heap.size->w'.heap[k]?=w.heap[k]?):bS B l v w':=by
 refine⟨h.1,?_⟩;rcases h.2 with a | ⟨g,cap,cur,e1,e2,e3,e4⟩
 ·exact .inl a
 ·subst e1;exact .inr ⟨g,cap,cur,rfl,e2,by rw[hk g e2 rfl (aE e3)];exact e3,e4⟩
theorem bS.slice {B:Nat}{l:List aA}{v:Value}{w:World} (h:bS B l v w): ∃p c,v= .slice p l.length c:=by
 rcases h.2 with⟨a,b⟩ | ⟨g,cap,cur,rfl,_⟩
 ·exact⟨none,0,by rw[a,b]⟩
 ·exact⟨_,_,rfl⟩
theorem bS.mono {B B':Nat}{l:List aA}{v:Value}{w:World} (h:bS B l v w) (hB:B'<=B):bS B' l v w:=⟨h.1,by
 rcases h.2 with a | ⟨g,cap,cur,e1,e2,e3⟩
 ·exact .inl a
 ·exact .inr ⟨g,cap,cur,e1,aV hB e2,e3⟩⟩
theorem Kg {B B':Nat}{no:Option Nat}{l:List VT}{ks:List aA}{kv ov:Value}{w:World} (h:bS B ks kv w) (h2:fM B' no l ov w) {k:Nat} (hk:some k=kv.ownBlock):some k≠ov.ownBlock:=by
 intro e;obtain⟨es,_,b,_⟩:=h2;rcases h.2 with⟨rfl,_⟩ | ⟨g,cap,cur,rfl,_,c,_⟩
 ·cases hk
 ·rcases b.2 with⟨rfl,_⟩ | ⟨g2,cap2,cur2,rfl,_,a,_⟩
  ·cases e
  ·injection hk with hk;injection e with e;subst hk e;rw[c] at a;injection a with a;injection a with _ a;exact absurd a (by decide)
theorem CS.keep {W w w':World}{Y:Nat}{k:Int}{s:aA}{ks:List aA}{l:List VT}{kv ov:Value} (h:CS W Y k s ks l kv ov w) (hb:Below w.heap.size w w'):CS W Y k s ks l kv ov w':=
 ⟨(hb.block Y (aE h.box)).trans h.box,h.keys.keep hb,h.off,h.its.keep hb,aC h.bel hb,h.new_⟩
theorem CS.start {W w:World} (hb:Below W.heap.size W w) (k:Int) (s:aA):CS W w.heap.size k s [] [] (.slice none 0 0) (.slice none 0 0) (w.alloc (.cells #[.int .i64 k, .string (bs s), .slice none 0 0, .slice none 0 0] 25)):=
 ⟨heap_alloc_new w _,bS.nil _ _,(λe=>by cases e),fM.nil _ _ _,aC hb (aH _ _),hb.size⟩
theorem CS.tree {W w:World}{Y:Nat}{k:Int}{s:aA}{ks:List aA}{l:List VT}{kv ov:Value} (h:CS W Y k s ks l kv ov w):jP W.heap.size w (VT.mk k s ks l).depth (VT.mk k s ks l) kv ov:=by
 have hn:=h.new_;exact fM.toVDx (k:=k) (s:=s) (h.keys.toSVx.agree (ok':=λk=>W.heap.size<=k) (λk a _=>⟨rfl,a.1⟩)) (h.its.mono (by omega))
def jB (W0:World) (Y:Nat) (no:Option Nat) (x:VT) (l:List VT) (ov:Value):Nat->Value->World->Prop
 | 0,_,w'=>Below W0.heap.size W0 w'
 | 1,c,w'=> ∃kv iv,c=vv x kv iv/\jP W0.heap.size w' x.depth x kv iv/\Below W0.heap.size W0 w'
 | 2,c,w'=> ∃w1 kv iv,jP W0.heap.size w1 x.depth x kv iv/\Below W0.heap.size W0 w1/\c= .slice (some ⟨w1.heap.size,0,none⟩) 1 1/\w'=w1.alloc (.cells #[.int .i64 x.kind, .string (bs x.text),kv,iv] 25)
 | 3,c,w'=>fM (Y+1) no (l++ [x]) c w'/\Below (Y+1) W0 w'/\W0.heap.size<=w'.heap.size/\ ∀k,k<W0.heap.size->some k≠ov.ownBlock->w'.heap[k]?=W0.heap[k]?
 | _,_,w'=> ∃c w1,(fM (Y+1) no (l++ [x]) c w1/\Below (Y+1) W0 w1/\W0.heap.size<=w1.heap.size/\ ∀k,k<W0.heap.size->some k≠ov.ownBlock->w1.heap[k]?=W0.heap[k]?)/\w'=w1.setCell ⟨Y,3,none⟩ c
theorem fM.ownLt {B:Nat}{no:Option Nat}{l:List VT}{v:Value}{w:World} (h:fM B no l v w) {k:Nat} (hk:some k=v.ownBlock):B<=k/\k<w.heap.size:=by
 obtain⟨es,_,a,_⟩:=h;rcases a.2 with⟨rfl,_⟩ | ⟨g,cap,cur,rfl,b,c,_⟩
 ·cases hk
 ·injection hk with hk;subst hk;exact⟨b,aE c⟩
theorem jB.app {o:Oper}{a:Act}{R:Act->World->Prop}{Q:Exit->Act->World->Prop} (s x:Operand)
  (ho:o.op= .call { callee:= .builtin .append,args:= #[s,x],argTypes:= #[23,23] })
  {W W0:World}{Y:Nat}{k:Int}{tx:aA}{ks:List aA}{l:List VT}{kv ov:Value} (h:CS W Y k tx ks l kv ov W0) {t:VT}{c:Value}{w':World} (h2:jB W0 Y kv.ownBlock t l ov 2 c w') (hs:a.eval s=ov) (hx:a.eval x=c) (hl:l.length<=4294967295)
  (hR: ∀v' w2,jB W0 Y kv.ownBlock t l ov 3 v' w2->R (a.put o.dst v') w2):o.wp Tryz.prog a w' R Q:=by
 obtain⟨w1,kv1,iv1,n,p,rfl,rfl⟩:=h2;have hYl:Y<W0.heap.size:=aE h.box;have b:Below W0.heap.size W0 (w1.alloc (.cells #[.int .i64 t.kind, .string (bs t.text),kv1,iv1] 25)):=aC p (aH _ _);have f: ∀k,some k=ov.ownBlock->k<W0.heap.size:=λk m=>(h.its.ownLt m).2;have g: ∀k,some k=kv.ownBlock->k<W0.heap.size:=λk m=>h.keys.ownLt m;refine Wx s x ho (Y+1) kv.ownBlock _ ov l t kv1 iv1 hs (h.its.keep b) ?_ w1.heap.size (by simp) (λe=>?_) (heap_alloc_new w1 _) hx (by omega) (by have:=b.size;omega) (λv' w2 u r y h6=>hR v' w2 ⟨u,?_,?_,λq i j=>?_⟩)
 ·have w:=(n.keep (aH w1 (.cells #[.int .i64 t.kind, .string (bs t.text),kv1,iv1] 25)));exact w.mono (λq i _=>⟨by omega,(λe=>by have:=f q e;omega),λe=>by have:=g q e;omega⟩)
 ·have:=f _ e;have:=p.size;omega
 ·exact(b.mono (by omega)).trans r
 ·exact aV b.size r.size
 ·rw[y q (iI i b.size) j,b.block q i]
theorem tO {w:World}{g:Nat}{t:TypeId}{cs:Array Value} (h:w.heap[g]?=some (.cells cs t (0,0))) (i:Nat) (u:Value):(w.setCell ⟨g,i,none⟩ u).heap[g]?=some (.cells (cs.setIfInBounds i u) t (0,0)):=by
 simp[World.setCell,Array.getElem?_modify,h]
theorem jB.fin {W W0:World}{Y:Nat}{k:Int}{tx:aA}{ks:List aA}{l:List VT}{kv ov:Value} (h:CS W Y k tx ks l kv ov W0) {t:VT}{c:Value}{w':World} (h4:jB W0 Y kv.ownBlock t l ov 4 c w'): ∃ov',CS W Y k tx ks (l++ [t]) kv ov' w':=by
 obtain⟨c,w1,⟨o,i,h3,s⟩,rfl⟩:=h4;have hYl:Y<W0.heap.size:=aE h.box;have a: ∀q,q≠Y->(w1.setCell ⟨Y,3,none⟩ c).heap[q]?=w1.heap[q]?:=λq f=>eQ w1 ⟨Y,3,none⟩ c q f;have b:(w1.setCell ⟨Y,3,none⟩ c).heap.size=w1.heap.size:=by simp[World.setCell]
 refine⟨c,?_,?_,h.off,?_,?_,h.new_⟩
 ·have r:w1.heap[Y]?=some (.cells #[.int .i64 k, .string (bs tx),kv,ov] 25):=by
   rw[i.block Y (by omega)];exact h.box
  exact tO r 3 c
 ·refine h.keys.keepB (λq f j g=>?_);rw[a q (λe=>h.off (by rw[<-e];exact j)),s q g (Kg h.keys h.its j)]
 ·exact o.keepX (by rw[b];exact aD _) (λq f _=>a q (by omega))
 ·have m:=h.new_;have n:Below W.heap.size W0 w1:=i.mono (by omega);exact(h.bel.trans n).setCell (p:=⟨Y,3,none⟩) (by show W.heap.size<=Y;exact m) c
def nV (W W0:World) (Y:Nat) (key:aA) (ks:List aA) (kv:Value):Nat->Value->World->Prop
 | 0,_,w'=>Below W0.heap.size W0 w'
 | 1,c,w'=>c= .string (bs key)/\Below W0.heap.size W0 w'
 | 2,c,w'=> ∃w1,Below W0.heap.size W0 w1/\c= .slice (some ⟨w1.heap.size,0,none⟩) 1 1/\w'=w1.alloc (.cells #[.string (bs key)] 9)
 | 3,c,w'=>bS W.heap.size (ks++ [key]) c w'/\Below W.heap.size W0 w'/\W0.heap.size<=w'.heap.size/\(∀k,k<W0.heap.size->some k≠kv.ownBlock->w'.heap[k]?=W0.heap[k]?)/\ ∀k,some k=c.ownBlock->some k=kv.ownBlock\/W0.heap.size<=k
 | _,_,w'=> ∃c w1,(bS W.heap.size (ks++ [key]) c w1/\Below W.heap.size W0 w1/\W0.heap.size<=w1.heap.size/\(∀k,k<W0.heap.size->some k≠kv.ownBlock->w1.heap[k]?=W0.heap[k]?)/\ ∀k,some k=c.ownBlock->some k=kv.ownBlock\/W0.heap.size<=k)/\w'=w1.setCell ⟨Y,2,none⟩ c
theorem nV.app {o:Oper}{a:Act}{R:Act->World->Prop}{Q:Exit->Act->World->Prop} (s x:Operand)
  (ho:o.op= .call { callee:= .builtin .append,args:= #[s,x],argTypes:= #[22,22] })
  {W W0:World}{Y:Nat}{k:Int}{tx:aA}{ks:List aA}{l:List VT}{kv ov:Value} (h:CS W Y k tx ks l kv ov W0) {key:aA}{c:Value}{w':World} (h2:nV W W0 Y key ks kv 2 c w') (hs:a.eval s=kv) (hx:a.eval x=c) (hl:ks.length<=4294967295)
  (hR: ∀v' w2,nV W W0 Y key ks kv 3 v' w2->R (a.put o.dst v') w2):o.wp Tryz.prog a w' R Q:=by
 obtain⟨w1,t,rfl,rfl⟩:=h2;have b:Below W0.heap.size W0 (w1.alloc (.cells #[.string (bs key)] 9)):=aC t (aH _ _);have i:SV (w1.alloc (.cells #[.string (bs key)] 9)) (.slice (some ⟨w1.heap.size,0,none⟩) 1 1) [key]:=⟨_,1,rfl,aD _, .inr ⟨w1.heap.size,0,rfl,by simp,λj y m=>by have n:=(aP.1 m).1;simp at n;subst n;simp at m;subst m;rw[Nat.zero_add,World.cell?_alloc_new];rfl⟩⟩;refine Wv s x ho W.heap.size _ kv ks [key] hs (h.keys.keep b) _ hx i (by simp;omega) (aV h.bel.size b.size) (λv' w2 r p u f=>hR v' w2 ⟨r,(b.mono h.bel.size).trans p,aV b.size p.size,λq e g=>?_,λq e=>?_⟩)
 ·rw[u q (iI e b.size) g,b.block q e]
 ·rcases f with f | f
  ·exact .inl (by rw[e,f])
  ·rw[f] at e;injection e with e;subst e;exact .inr b.size
theorem nV.fin {W W0:World}{Y:Nat}{k:Int}{tx:aA}{ks:List aA}{l:List VT}{kv ov:Value} (h:CS W Y k tx ks l kv ov W0) {key:aA}{c:Value}{w':World} (h4:nV W W0 Y key ks kv 4 c w'): ∃kv',CS W Y k tx (ks++ [key]) l kv' ov w':=by
 obtain⟨c,w1,⟨n,o,h3,f,j⟩,rfl⟩:=h4;have i:Y<W0.heap.size:=aE h.box;have a: ∀q,q≠Y->(w1.setCell ⟨Y,2,none⟩ c).heap[q]?=w1.heap[q]?:=λq m=>eQ w1 ⟨Y,2,none⟩ c q m;have b:some Y≠c.ownBlock:=λe=>by
  rcases j Y e with e2 | e2
  ·exact h.off e2
  ·omega
 refine⟨c,?_,?_,b,?_,?_,h.new_⟩
 ·have s:w1.heap[Y]?=some (.cells #[.int .i64 k, .string (bs tx),kv,ov] 25):=by
   rw[f Y i h.off];exact h.box
  exact tO s 2 c
 ·exact n.keepB (λq m t hlt=>a q (λe=>b (by rw[<-e];exact t)))
 ·obtain⟨es,g1,g2,g3⟩:=h.its;refine⟨es,g1,⟨g2.1,?_⟩,λe r=>(g3 e r).agree (λq ok lt=>⟨by rw[a q (by have:=ok.1;omega),f q lt ok.2.2],ok.1,ok.2.1,λe2=>?_⟩)⟩
  ·rcases g2.2 with g4 | ⟨g,cap,cur,e1,e2,e3,e4⟩
   ·exact .inl g4
   ·subst e1;refine .inr ⟨g,cap,cur,rfl,e2,?_,e4⟩;rw[a g (by omega),f g (aE e3) (λe=>(Kg h.keys h.its e) rfl)];exact e3
  ·rcases j q e2 with e3 | e3
   ·exact ok.2.2 e3
   ·omega
 ·exact(h.bel.trans o).setCell (p:=⟨Y,2,none⟩) (by show W.heap.size<=Y;exact h.new_) c
end
section
open Go.RowKit Go.Maps Go.WideMaps
def rC:List (List UInt8)->DataW Unit
 | []=> .map []
 | k::l=>(rC l).put (.string k) (.lit (.bool true))
theorem Kh: ∀l,IsMap (rC l)
 | []=>isMap_empty
 | k::l=>(Kh l).put _ _
theorem Ki (k:List UInt8): ∀l,(rC l).atKey (.string k) (.lit (.bool false))= .lit (.bool (decide (k∈l)))
 | []=>rfl
 | x::l=>by
  unfold rC;by_cases h:k=x
  ·subst h;rw[atKey_put_same (Kh l) (show WideAt.IsKeyLit (.string k) from trivial),aN fV]
  ·rw[atKey_put_other (λe=>h (by injection e)),Ki k l];congr 2;rw[decide_eq_decide];exact⟨λh1=>List.mem_cons_of_mem _ h1,λh1=>(eV.1 h1).resolve_left h⟩
def HM (b:Nat) (had:List (List UInt8)) (w:World):Prop:=w.ownsMap Tryz.prog 9 (plainElem Tryz.prog 4) b had.length (rC had)
theorem Ag:Keyed Tryz.prog 9:=string_keyed Tryz.underlying9
theorem Wz (w:World):(zeroValue 4).run Tryz.prog w= .ok (.bool false) w:=by kernel_rfl
theorem HM.look {b:Nat}{had:List (List UInt8)}{w:World} (h:HM b had w) (k:List UInt8) (hk:k.length<=1073741824):(Instr.lookup 92 (.map (some b)) (.string (bs k)) false).run Tryz.prog w= .ok (.bool (decide (k∈had))) w:=by
 have c:keyOf Tryz.prog 9 (.string (bs k))=some (.string k):=by
  have:=keyOf_string_mk (P:=Tryz.prog) Tryz.underlying9 (s:=bs k) (by rw[aQ];unfold maxLen;omega);rw[aW] at this;exact this
 obtain⟨v,ps,a,e⟩:=World.ownsMap.lookup h Ag Tryz.underlying92 (Wz w) (plainElem_bool Tryz.underlying4 false) c;rw[Ki] at e;have f:v= .bool (decide (k∈had)):=by
  unfold plainElem at e;rw[show Tryz.prog.underlying 4=some .bool from Tryz.underlying4] at e;cases v<;>simp at e;rw[e.1]
 rw[a,f]
theorem HM.lt {b:Nat}{had:List (List UInt8)}{w:World} (h:HM b had w):b<w.heap.size:=World.ownsMap.lt h
theorem HM.obj {b:Nat}{had:List (List UInt8)}{w:World} (h:HM b had w): ∃es c,w.heap[b]?=some (.map es c):=by
 obtain⟨es,c,a,_⟩:=h;exact⟨es,c,a⟩
theorem HM.same {b:Nat}{had:List (List UInt8)}{w w':World} (h:HM b had w) (hs:w'.heap[b]?=w.heap[b]?):HM b had w':=by
 obtain⟨es,c,e,f,g,a⟩:=h;exact⟨es,c,hs.trans e,f,g,a⟩
end
end Go.Proofs.YtjnooaljcgkfpaaGreatDoor
