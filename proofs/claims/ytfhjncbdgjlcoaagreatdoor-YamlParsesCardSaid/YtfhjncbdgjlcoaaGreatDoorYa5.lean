import Derived.Test.YtfhjncbdgjlcoaaGreatDoorYa4
import Derived.Deep.Upon
set_option linter.unusedVariables false
set_option linter.unusedSimpArgs false
namespace Go.Proofs.YtfhjncbdgjlcoaaGreatDoor
section
open Go.RowKit
open Go.Lib hiding intOf
def rW (ok:Nat->Prop) (w:World) (v:Value) (l:List aA):Prop:= ∃p c,v= .slice p l.length c/\l.length<=c/\(l= []\/ ∃g o,p=some ⟨g,o,none⟩/\ok g/\(∃cur,w.heap[g]?=some (.cells cur 9))/\ ∀(j:Nat) (x:aA),l[j]?=some x->w.cell? ⟨g,o+j,none⟩=some (.string (bs x)))
def fC (ok:Nat->Prop) (w:World):Nat->VT->Value->Value->Prop
 | 0,_,_,_=>False
 | n+1,t,kv,iv=>rW ok w kv t.keys/\ ∃p c,iv= .slice p t.items.length c/\t.items.length<=c/\(t.items= []\/ ∃g o,p=some ⟨g,o,none⟩/\ok g/\(∃cur,w.heap[g]?=some (.cells cur 36))/\ ∀(j:Nat) (x:VT),t.items[j]?=some x-> ∃kv' iv',w.cell? ⟨g,o+j*4,none⟩=some (.int .i64 x.kind)/\w.cell? ⟨g,o+j*4+1,none⟩=some (.string (bs x.text))/\w.cell? ⟨g,o+j*4+2,none⟩=some kv'/\w.cell? ⟨g,o+j*4+3,none⟩=some iv'/\fC ok w n x kv' iv')
theorem rW.toSV {ok:Nat->Prop}{w:World}{v:Value}{l:List aA} (h:rW ok w v l):SV w v l:=by
 obtain⟨p,c,e,b,a⟩:=h;refine⟨p,c,e,b,?_⟩;rcases a with a | ⟨g,o,e1,e2,⟨cur,e3⟩,e4⟩
 ·exact .inl a
 ·exact .inr ⟨g,o,e1,aF e3,e4⟩
theorem fC.toVD {ok:Nat->Prop}{w:World}: ∀ {n:Nat}{t:VT}{kv iv:Value},fC ok w n t kv iv->VD w n t kv iv
 | 0,_,_,_,h=>h
 | n+1,t,kv,iv,h=>by
  obtain⟨h1,p,c,h2,h3,h4⟩:=h;refine⟨h1.toSV,p,c,h2,h3,?_⟩;rcases h4 with h4 | ⟨g,o,e1,e2,⟨cur,e3⟩,e4⟩
  ·exact .inl h4
  ·refine .inr ⟨g,o,e1,aF e3,λj x e=>?_⟩;obtain⟨b,a,a0,a1,a2,a3,a4⟩:=e4 j x e;exact⟨b,a,a0,a1,a2,a3,fC.toVD a4⟩
theorem rW.agree {ok ok':Nat->Prop}{w w':World} (hk: ∀k,ok k->k<w.heap.size->w'.heap[k]?=w.heap[k]?/\ok' k) {v:Value}{l:List aA} (h:rW ok w v l):rW ok' w' v l:=by
 obtain⟨p,c,i,e,a⟩:=h;refine⟨p,c,i,e,?_⟩;rcases a with a | ⟨g,o,e1,e2,⟨b,e3⟩,e4⟩
 ·exact .inl a
 ·obtain⟨a1,a2⟩:=hk g e2 (aF e3);exact .inr ⟨g,o,e1,a2,⟨b,by rw[a1];exact e3⟩,λj x f=>by rw[iY a1];exact e4 j x f⟩
theorem fC.agree {ok ok':Nat->Prop}{w w':World} (hk: ∀k,ok k->k<w.heap.size->w'.heap[k]?=w.heap[k]?/\ok' k): ∀ {n:Nat}{t:VT}{kv iv:Value},fC ok w n t kv iv->fC ok' w' n t kv iv
 | 0,_,_,_,h=>h
 | n+1,t,kv,iv,h=>by
  obtain⟨h1,p,c,h2,h3,h4⟩:=h;refine⟨h1.agree hk,p,c,h2,h3,?_⟩;rcases h4 with h4 | ⟨g,o,e1,e2,⟨e,e3⟩,e4⟩
  ·exact .inl h4
  ·obtain⟨a1,a2⟩:=hk g e2 (aF e3);refine .inr ⟨g,o,e1,a2,⟨e,by rw[a1];exact e3⟩,λj x f=>?_⟩;obtain⟨b,a,b0,b1,b2,b3,b4⟩:=e4 j x f;exact⟨b,a,by rw[iY a1];exact b0,by rw[iY a1];exact b1,by rw[iY a1];exact b2,by rw[iY a1];exact b3,fC.agree hk b4⟩
theorem fC.keep {ok:Nat->Prop}{w w':World} (hb:Below w.heap.size w w') {n:Nat}{t:VT}{kv iv:Value} (h:fC ok w n t kv iv):fC ok w' n t kv iv:=h.agree (λk a b=>⟨hb.block k b,a⟩)
theorem fC.mono {ok ok':Nat->Prop}{w:World}{n:Nat}{t:VT}{kv iv:Value} (h:fC ok w n t kv iv) (hk: ∀k,ok k->k<w.heap.size->ok' k):fC ok' w n t kv iv:=h.agree (λk a b=>⟨rfl,hk k a b⟩)
theorem fC.more {ok:Nat->Prop}{w:World}: ∀ {n:Nat}{t:VT}{kv iv:Value},fC ok w n t kv iv-> ∀m,fC ok w (n+m) t kv iv
 | 0,_,_,_,h,_=>h.elim
 | n+1,t,kv,iv,h,m=>by
  obtain⟨h1,p,c,h2,h3,h4⟩:=h;rw[Nat.add_right_comm];refine⟨h1,p,c,h2,h3,?_⟩;rcases h4 with h4 | ⟨g,o,h4,e,f,i⟩
  ·exact .inl h4
  ·refine .inr ⟨g,o,h4,e,f,λj x k=>?_⟩;obtain⟨b,a,e0,e1,e2,e3,e4⟩:=i j x k;exact⟨b,a,e0,e1,e2,e3,fC.more e4 m⟩
theorem fC.form {ok:Nat->Prop}{w:World}{n:Nat}{t:VT}{kv iv:Value} (h:fC ok w n t kv iv): ∃pk ck p c,kv= .slice pk t.keys.length ck/\iv= .slice p t.items.length c:=h.toVD.form
abbrev fX (B:Nat) (w:World) (n:Nat) (t:VT) (kv iv:Value):Prop:=fC (λk=>B<=k) w n t kv iv
theorem Tryz.infoString:(Tryz.prog.info? 9).map (λi=>(i.zero,i.size,i.bytes))=some (some (.string ⟨#[]⟩),1,16):=d'
theorem Tryz.infoValue:(Tryz.prog.info? 36).map (λi=>(i.zero,i.size,i.bytes))=some (some (.agg #[(0:Int), .string ⟨#[]⟩,(),()]),4,72):=d'
def iQ (l:List aA):List Value:=l.map λx=>Value.string (bs x)
def bP (B:Nat) (l:List aA) (v:Value) (w:World):Prop:=w.ownsRow B 9 1 v l.length (iQ l)
theorem Sj (l:List aA): ∀u∈iQ l,u.oneCell'=true:=by
 intro u a;unfold iQ at a;obtain⟨x,_,rfl⟩:=rQ.1 a;rfl
theorem rX (g o j:Nat):((⟨g,o,none⟩:Addr).add j)=⟨g,o+j,none⟩:=by unfold Addr.add;split<;>simp_all
theorem bP.toSVx {B:Nat}{l:List aA}{v:Value}{w:World} (h:bP B l v w):rW (λk=>B<=k/\some k=v.ownBlock) w v l:=by
 have f:=h;rcases h.2 with⟨o,e⟩ | ⟨g,a,b,rfl,i,p,m,_⟩
 ·exact⟨none,0,by rw[o,e],a_, .inl (List.length_eq_zero_iff.1 e)⟩
 ·refine⟨_,a,rfl,m, .inr ⟨g,0,rfl,⟨i,rfl⟩,⟨b,p⟩,λj x n=>?_⟩⟩;have c:=World.ownsRow.cells f (g:=g) rfl j (.string (bs x)) (by unfold iQ;rw[dE,n];rfl);rw[rX] at c;exact c
theorem bP.nil (B:Nat) (w:World):bP B [] (.slice none 0 0) w:=⟨rfl, .inl ⟨rfl,rfl⟩⟩
theorem Io {P:Program}{o:Oper}{a:Act}{K:Act->World->Prop}{Q:Exit->Act->World->Prop} (s x:Operand) (t:TypeId)
  (ho:o.op= .call { callee:= .builtin .append,args:= #[s,x],argTypes:= #[t,t] })
  (B:Nat) (e:TypeId) (i:TypeInfo) (z:Value) (size bytes:Nat) (ht:P.underlying t=some (.slice e)) (hi:P.info? e=some i) (hz:i.zero=some z)
  (hsize:i.size=size) (hby:i.bytes=bytes) (hzs:z.cells.size=size) (hsz:0<size)
  (w:World) (v:Value) (n:Nat) (xs:List Value) (hs:a.eval s=v) (hown:w.ownsRow B e size v n xs)
  (p:Option Addr) (m c:Nat) (news:List Value) (hx:a.eval x= .slice p m c)
  (hl:(m=0/\news= [])\/ ∃ad,p=some ad/\0<m/\news.length=m*size/\(∀j u,news[j]?=some u->w.cell? (ad.add j)=some u)/\ ∀u∈news,u.oneCell'=true)
  (h63:n+m<=maxLen) (hbytes:(n+m)*bytes<=140737488355328) (hB:B<=w.heap.size)
  (h: ∀v' w',w'.ownsRow B e size v' (n+m) (xs++news)->Below B w w'->(∀k,k<w.heap.size->some k≠v.ownBlock->w'.heap[k]?=w.heap[k]?)->(v'.ownBlock=v.ownBlock\/v'.ownBlock=some w.heap.size)->K (a.put o.dst v') w'):o.wp P a w K Q:=by
 rcases hl with⟨rfl,rfl⟩ | ⟨ad,rfl,M,D,I,y⟩
 ·have H: ∃f b,v= .slice f n b/\n<=b:=by
   rcases hown.2 with⟨y,q⟩ | ⟨g,b,cur,y,_,_,q,_⟩
   ·exact⟨none,0,by rw[y,q],a_⟩
   ·exact⟨_,_,y,q⟩
  obtain⟨f,b,rfl,E⟩:=H;have l:Src P i.size t (.slice p 0 c) 0 [] w:=by
   cases p with
   | none=>exact Src.ofNil w ht c
   | some ad=>exact Src.ofSlice w ht ad 0 c [] e_ (λj u J=>by simp at J) (λu L=>by cases L)
  have A:=run_append_nothing (P:=P) w t t o.type e i ht hi f n b E (.slice p 0 c) l;unfold Oper.wp;simp[execOp,ho,resolve,invoke,builtin,hs,hx,A,Result.andThen];refine h _ w (by simpa using hown) (aB _ _) (λk _ _=>rfl) (.inl rfl)
 ·refine wp_append_lies w s x t ho B e i z size bytes ht hi hz hsize hby hzs hsz v n xs hs hown ad m c news hx D I y M h63 hbytes hB w.heap.size rfl ?_;intro g b w' q G r h5;refine h _ w' q ((aB B w).grown G hB (λk F=>(World.ownsRow.lt hown k F).1)) (λk F C=>G.block k F C) ?_;rcases r with r | r
  ·exact .inl r.symm
  ·exact .inr (by rw[r];rfl)
theorem Ip {o:Oper}{a:Act}{K:Act->World->Prop}{Q:Exit->Act->World->Prop} (s x:Operand)
  (ho:o.op= .call { callee:= .builtin .append,args:= #[s,x],argTypes:= #[33,33] })
  (B:Nat) (w:World) (v:Value) (acc l:List aA) (hs:a.eval s=v) (hown:bP B acc v w) (xv:Value) (hx:a.eval x=xv) (hp:SV w xv l)
  (hl:acc.length+l.length<=4294967296) (hB:B<=w.heap.size)
  (h: ∀v' w',bP B (acc++l) v' w'->Below B w w'->(∀k,k<w.heap.size->some k≠v.ownBlock->w'.heap[k]?=w.heap[k]?)->(v'.ownBlock=v.ownBlock\/v'.ownBlock=some w.heap.size)->K (a.put o.dst v') w'):o.wp Tryz.prog a w K Q:=by
 obtain⟨i0,b,q,i,m⟩:=info_parts Tryz.infoString;obtain⟨p,c,rfl,hc,hp⟩:=hp;refine Io s x 33 ho B 9 i0 _ 1 16 Tryz.underlying33 b q i m rfl b_ w v acc.length (iQ acc) hs hown p l.length c (iQ l) hx ?_ o_ a_ hB (λv' w' t z A r=>h v' w' ?_ z A r)
 ·rcases hp with rfl | ⟨g,o,rfl,_,f⟩
  ·exact .inl ⟨rfl,rfl⟩
  ·cases l with
   | nil=>exact .inl ⟨rfl,rfl⟩
   | cons y l=>
    refine .inr ⟨_,rfl,e_,by unfold iQ;simp,λj u n=>?_,Sj _⟩;unfold iQ at n;rw[dE] at n;obtain⟨k,C,rfl⟩:=tS.1 n;rw[rX,f j k C]
 ·unfold bP;have e:iQ (acc++l)=iQ acc++iQ l:=by unfold iQ;simp
  rw[e,aT];exact t
theorem Sk {ops:Array Oper}{rest:List Oper}{o:Oper}{a:Act}{Q:Exit->Act->World->Prop} (hgd:o.guard=none) (s x:Operand)
  (ho:o.op= .call { callee:= .builtin .append,args:= #[s,x],argTypes:= #[33,33] })
  (B:Nat) (w:World) (v:Value) (acc l:List aA) (hs:a.eval s=v) (hown:bP B acc v w) (xv:Value) (hx:a.eval x=xv) (hp:SV w xv l)
  (hl:acc.length+l.length<=4294967296) (hB:B<=w.heap.size)
  (h: ∀v' w',bP B (acc++l) v' w'->Below B w w'->(∀k,k<w.heap.size->some k≠v.ownBlock->w'.heap[k]?=w.heap[k]?)->(v'.ownBlock=v.ownBlock\/v'.ownBlock=some w.heap.size)->wpList Tryz.prog ops Q rest (a.put o.dst v') w'):wpList Tryz.prog ops Q (o::rest) a w:=
 wpList_plain hgd λ_ f=>Ip s x ho B w v acc l hs hown xv hx hp hl hB (λv' w' g b c e=>f _ _ (h v' w' g b c e))
abbrev vP:=VT×Value×Value
def oS (l:List vP):List Value:=l.flatMap λx=> [x.1.kind,bs x.1.text,x.2.1,x.2.2]
theorem Iq (x:vP) (l:List vP):oS (x::l)= .int .i64 x.1.kind:: .string (bs x.1.text)::x.2.1::x.2.2::oS l:=rfl
theorem Ir: ∀(l:List vP) (j:Nat) (x:vP),l[j]?=some x->(oS l)[j*4]?=some (.int .i64 x.1.kind)/\(oS l)[j*4+1]?=some (.string (bs x.1.text))/\(oS l)[j*4+2]?=some x.2.1/\(oS l)[j*4+3]?=some x.2.2
 | [],j,x,h=>by simp at h
 | y::l,0,x,h=>by
  obtain rfl:y=x:=r_
  rw[Iq];exact⟨rfl,rfl,rfl,rfl⟩
 | y::l,j+1,x,h=>by
  rw[bZ] at h;have:=Ir l j x h;rw[Iq,show (j+1)*4=j*4+4 by omega];exact this
def gB (B:Nat) (no:Option Nat) (l:List VT) (v:Value) (w:World):Prop:= ∃es:List vP,es.map (·.1)=l/\w.ownsRow B 36 4 v l.length (oS es)/\ ∀e∈es,fC (λk=>B<=k/\some k≠v.ownBlock/\some k≠no) w e.1.depth e.1 e.2.1 e.2.2
theorem gB.nil (B:Nat) (no:Option Nat) (w:World):gB B no [] (.slice none 0 0) w:=⟨[],rfl,⟨rfl, .inl ⟨rfl,rfl⟩⟩,λ_ h=>by cases h⟩
theorem gB.slice {B:Nat}{no:Option Nat}{l:List VT}{v:Value}{w:World} (h:gB B no l v w): ∃p c,v= .slice p l.length c:=by
 obtain⟨es,h1,e,h3⟩:=h;rcases e.2 with⟨a,b⟩ | ⟨g,cap,cur,rfl,_⟩
 ·exact⟨none,0,by rw[a,b]⟩
 ·exact⟨_,_,rfl⟩
theorem Sl {l:List VT}{x:VT} (h:x∈l): ∃m,eY l=x.depth+m:=⟨eY l-x.depth,by have:=Sb h;omega⟩
theorem gB.toVDx {B:Nat}{no:Option Nat}{k:Int}{s:aA}{ks:List aA}{l:List VT}{kv iv:Value}{w:World} (hk:rW (λk=>B<=k) w kv ks) (h:gB B no l iv w):fX B w (VT.mk k s ks l).depth (VT.mk k s ks l) kv iv:=by
 obtain⟨es,rfl,n,u⟩:=h;rw[VT.depth];refine⟨hk,?_⟩;have r:=n;rcases n.2 with⟨y,o⟩ | ⟨g,b,c,rfl,t,A,z,_⟩
 ·refine⟨none,0,by rw[y];exact congrArg (λx=>Value.slice none x 0) o.symm,by show (es.map (·.1)).length<=0;omega, .inl (List.length_eq_zero_iff.1 o)⟩
 ·refine⟨_,b,rfl,z, .inr ⟨g,0,rfl,t,⟨c,A⟩,λj x f=>?_⟩⟩;change (es.map (·.1))[j]?=some x at f;rw[dE] at f;obtain⟨e,q,rfl⟩:=tS.1 f;obtain⟨a0,a1,a2,a3⟩:=Ir es j e q;have a:=World.ownsRow.cells r (g:=g) rfl;have p:=bD q;obtain⟨m,i⟩:=Sl (l:=es.map (·.1)) (rQ.2 ⟨e,p,rfl⟩);refine⟨e.2.1,e.2.2,?_,?_,?_,?_,?_⟩
  ·have:=a _ _ a0;rw[rX] at this;exact this
  ·have:=a _ _ a1;rw[rX] at this;exact this
  ·have:=a _ _ a2;rw[rX] at this;exact this
  ·have:=a _ _ a3;rw[rX] at this;exact this
  ·show fC _ w (eY (es.map (·.1))) e.1 e.2.1 e.2.2;rw[i];exact((u e p).mono (λk hk _=>hk.1)).more m
theorem fC.one {ok:Nat->Prop}{w:World}{n:Nat}{t:VT}{kv iv:Value} (h:fC ok w n t kv iv): ∀u∈([t.kind,bs t.text,kv,iv]:List Value),u.oneCell'=true:=by
 obtain⟨pk,ck,p,c,rfl,rfl⟩:=h.form;intro u a;simp only[fY,List.not_mem_nil,or_false] at a;rcases a with rfl|rfl|rfl|rfl<;>rfl
theorem gB.keepX {B:Nat}{no:Option Nat}{l:List VT}{v:Value}{w w':World} (h:gB B no l v w) (hs:w.heap.size<=w'.heap.size) (hk: ∀k,B<=k->k<w.heap.size->w'.heap[k]?=w.heap[k]?):gB B no l v w':=by
 obtain⟨es,j,c,f⟩:=h;refine⟨es,j,⟨c.1,?_⟩,λe m=>(f e m).agree (λk ok lt=>⟨hk k ok.1 lt,ok⟩)⟩;rcases c.2 with i | ⟨g,a,b,e1,e2,e3,e4⟩
 ·exact .inl i
 ·exact .inr ⟨g,a,b,e1,e2,by rw[hk g e2 (aF e3)];exact e3,e4⟩
theorem gB.keep {B:Nat}{no:Option Nat}{l:List VT}{v:Value}{w w':World} (h:gB B no l v w) (hb:Below w.heap.size w w'):gB B no l v w':=h.keepX hb.size (λk _ lt=>hb.block k lt)
theorem bP.keepX {B:Nat}{l:List aA}{v:Value}{w w':World} (h:bP B l v w) (hk: ∀k,B<=k->k<w.heap.size->w'.heap[k]?=w.heap[k]?):bP B l v w':=by
 refine⟨h.1,?_⟩;rcases h.2 with c | ⟨g,a,b,e1,e2,e3,e4⟩
 ·exact .inl c
 ·exact .inr ⟨g,a,b,e1,e2,by rw[hk g e2 (aF e3)];exact e3,e4⟩
theorem bP.keep {B:Nat}{l:List aA}{v:Value}{w w':World} (h:bP B l v w) (hb:Below w.heap.size w w'):bP B l v w':=h.keepX (λk _ lt=>hb.block k lt)
theorem Sm {o:Oper}{a:Act}{K:Act->World->Prop}{Q:Exit->Act->World->Prop} (s x:Operand)
  (ho:o.op= .call { callee:= .builtin .append,args:= #[s,x],argTypes:= #[34,34] })
  (B:Nat) (no:Option Nat) (w:World) (v:Value) (acc:List VT) (t:VT) (kv iv:Value) (hs:a.eval s=v) (hown:gB B no acc v w)
  (ht:fC (λk=>B<=k/\some k≠v.ownBlock/\some k≠no) w t.depth t kv iv) (X:Nat) (hX:X<w.heap.size) (hXv:some X≠v.ownBlock) (hXo:w.heap[X]?=some (.cells #[t.kind,bs t.text,kv,iv] 36)) (hx:a.eval x= .slice (some ⟨X,0,none⟩) 1 1)
  (hl:acc.length+1<=4294967296) (hB:B<=w.heap.size)
  (h: ∀v' w',gB B no (acc++ [t]) v' w'->Below B w w'->(∀k,k<w.heap.size->some k≠v.ownBlock->w'.heap[k]?=w.heap[k]?)->(v'.ownBlock=v.ownBlock\/v'.ownBlock=some w.heap.size)->K (a.put o.dst v') w'):o.wp Tryz.prog a w K Q:=by
 obtain⟨i0,f,p,i,g⟩:=info_parts Tryz.infoValue;obtain⟨es,C,y,z⟩:=hown;have r: ∀j u,([t.kind,bs t.text,kv,iv]:List Value)[j]?=some u->w.cell? ((⟨X,0,none⟩:Addr).add j)=some u:=by
  intro j u m;rw[rX];have l:=(aR.1 m).1;have A:j=0\/j=1\/j=2\/j=3:=by simp at l;omega
  rcases A with rfl|rfl|rfl|rfl<;> · simp at m;subst m;simp[World.cell?,hXo]
 refine Io s x 34 ho B 36 i0 _ 4 72 Tryz.underlying34 f p i g rfl b_ w v acc.length (oS es) hs y _ 1 1 _ hx (.inr ⟨_,rfl,b_,rfl,r,ht.one⟩) o_ a_ hB (λv' w' g1 g2 g3 g4=>h v' w' ?_ g2 g3 g4);have b: ∀ {n:Nat}{t:VT}{kv iv:Value},fC (λk=>B<=k/\some k≠v.ownBlock/\some k≠no) w n t kv iv->fC (λk=>B<=k/\some k≠v'.ownBlock/\some k≠no) w' n t kv iv:=λq=>q.agree (λk ok lt=>⟨g3 k lt ok.2.1,ok.1,λe=>by
  rcases g4 with g4 | g4
  ·rw[g4] at e;exact ok.2.1 e
  ·rw[g4] at e;injection e with e;omega,ok.2.2⟩)
 refine⟨es++ [(t,kv,iv)],by simp[C],?_,λe c=>?_⟩
 ·have e1:oS (es++ [(t,kv,iv)])=oS es++ [.int .i64 t.kind, .string (bs t.text),kv,iv]:=by unfold oS;simp
  rw[e1,aT];exact g1
 ·rcases rT.1 c with c | c
  ·exact b (z e c)
  ·obtain rfl:e=(t,kv,iv):=(by simpa using c);exact b ht
end
section
open Go.RowKit
def mD (ops:Array Oper):Nat->Nat->Nat->Bool
 | 0,a,b=>a==b
 | f+1,a,b=>a==b||(match ops[a]? with
  | some o=>o.after.toList.any (λe=>Region.binds .any e&&mD ops f e.on b)
  | none=>false)
def tT (ops:Array Oper) (d:Nat->Bool):Prop:= ∀i o,ops[i]?=some o->d i=true-> ∀e∈o.after,Region.binds .any e=true->d e.on=true
theorem tT.reach {ops:Array Oper}{d:Nat->Bool} (h:tT ops d): ∀(f a b:Nat),mD ops f a b=true->d a=true->d b=true
 | 0,a,b,hr,hd=>by
  have e:a=b:=by simpa [mD] using hr
  rw[<-e];exact hd
 | f+1,a,b,hr,hd=>by
  rw[mD,Bool.or_eq_true] at hr;rcases hr with e | hr
  ·have e:a=b:=(by simpa using e);rw[<-e];exact hd
  ·split at hr
   ·rename_i o g;obtain⟨e,i,c⟩:=List.any_eq_true.1 hr;rw[fK] at c;exact h.reach f _ _ c.2 (h a o g hd e (Array.mem_toList_iff.1 i) c.1)
   ·cases hr
theorem xE {d:Nat->Bool}{i:Nat}:aY d i i=true:=by unfold aY;rw[if_pos rfl]
theorem iH {d:Nat->Bool}{i j:Nat} (h:j≠i):aY d i j=d j:=by unfold aY;rw[if_neg h]
theorem Cy {d:Nat->Bool}{i j:Nat} (h:d j=true):aY d i j=true:=by unfold aY;split<;>simp_all
theorem tT.step {ops:Array Oper}{d:Nat->Bool} (h:tT ops d) {i:Nat}{o:Oper} (ho:ops[i]?=some o) (hall: ∀e∈o.after,Region.binds .any e=true->d e.on=true):tT ops (aY d i):=by
 intro j o' a b e f c;by_cases hj:j=i
 ·subst hj;rw[ho] at a;injection a with a;subst a;exact Cy (hall e f c)
 ·rw[iH hj] at b;exact Cy (h j o' a b e f c)
def gZ (sl:List Nat) (v:Nat->Value) (e:Nat):Value:=match sl[e]? with
 | some k=>v k
 | none=>undef
def pN (eff sl:List Nat) (fr:Nat) (v:Nat->Value):Nat->Value
 | 0=>undef
 | k+1=>match eff[k]? with
  | some e=>match sl[e]? with
   | some _=>gZ sl v e
   | none=>gZ sl v fr
  | none=>undef
theorem xF (eff sl:List Nat) (fr:Nat) (v:Nat->Value) (k:Nat):pN eff sl fr v (k+1)=match eff[k]? with
  | some e=>match sl[e]? with
   | some _=>gZ sl v e
   | none=>gZ sl v fr
  | none=>undef:=rfl
theorem Is {l:List Nat} (h:l.Nodup) {i j a:Nat} (hi:l[i]?=some a) (hj:l[j]?=some a):i=j:=ev
theorem It {l:List Nat} (h:l≠ []):l.getLastD 0∈l:=mr
structure gQ (ops:Array Oper) (sl eff:List Nat) (fr:Nat) (Fb:Value->World->Prop) (val:Nat->Value) (S:World->Prop) (Ph:Nat->Value->World->Prop) (d:Nat->Bool) (v:Nat->Value) (w':World):Prop where
 cl: ∀i,i<sl.length->i ∉ eff->i≠fr->d i=true->gZ sl v i=val i
 clo:tT ops d
 st:d (eff.getLastD 0)=false->S w'
 fb:d (eff.getLastD 0)=false->d fr=true->Fb (gZ sl v fr) w'
 ph: ∃k,k<=eff.length/\(∀j e,eff[j]?=some e->(d e=true↔j<k))/\Ph k (pN eff sl fr v k) w'
section
variable {ops:Array Oper}{sl eff:List Nat}{fr:Nat}{Fb:Value->World->Prop}{val:Nat->Value}{S:World->Prop}{Ph:Nat->Value->World->Prop}{d:Nat->Bool}{v:Nat->Value}{w' w2:World}
theorem Cz {i k:Nat} (hk:sl[i]?=some k) (x:Value):gZ sl (cB v (some k) x) i=x:=by
 unfold gZ;rw[hk];exact if_pos rfl
theorem tU (hnd:sl.Nodup) {i k:Nat} (hk:sl[i]?=some k) (x:Value) {j:Nat} (hj:j≠i):gZ sl (cB v (some k) x) j=gZ sl v j:=by
 unfold gZ;cases hs:sl[j]? with
 | none=>rfl
 | some q=>
  exact if_neg (λe=>hj (Is hnd hs (by rw[e];exact hk)))
theorem Sn {v v2:Nat->Value} (h: ∀e∈eff,gZ sl v2 e=gZ sl v e) (hf:gZ sl v2 fr=gZ sl v fr): ∀k,pN eff sl fr v2 k=pN eff sl fr v k
 | 0=>rfl
 | k+1=>by
  rw[xF,xF];cases he:eff[k]? with
  | none=>rfl
  | some e=>
   simp only[];cases hs:sl[e]? with
   | none=>exact hf
   | some q=>exact h e (bD he)
theorem gQ.pure (h:gQ ops sl eff fr Fb val S Ph d v w') (hnd:sl.Nodup) {i k:Nat}{o:Oper} (ho:ops[i]?=some o) (hall: ∀e∈o.after,Region.binds .any e=true->d e.on=true) (hk:sl[i]?=some k) (hne:i ∉ eff) (hfr:i≠fr) (hel:eff≠ []) {x:Value} (hx:x=val i):gQ ops sl eff fr Fb val S Ph (aY d i) (cB v (some k) x) w':=by
 have BJ:=trivial;exact uh
theorem gQ.free (h:gQ ops sl eff fr Fb val S Ph d v w') (hnd:sl.Nodup) {i k:Nat}{o:Oper} (ho:ops[i]?=some o) (hall: ∀e∈o.after,Region.binds .any e=true->d e.on=true) (hk:sl[i]?=some k) (hne:i ∉ eff) (hfr:i=fr) (hel:eff≠ []) (hsl:eff.all (λe=>e==eff.getLastD 0||decide (e<sl.length))=true) (hnl:eff.Nodup) (hdl:d (eff.getLastD 0)=false) {x:Value} (hS:S w'->S w2) (hP: ∀k c,Ph k c w'->Ph k c w2) (hx:Fb x w2):gQ ops sl eff fr Fb val S Ph (aY d i) (cB v (some k) x) w2:=by
 have BI:=trivial;exact uh
theorem gQ.at_ (h:gQ ops sl eff fr Fb val S Ph d v w') {j e:Nat} (he:eff[j]?=some e) (hi:d e=false) (hp: ∀j' e',j=j'+1->eff[j']?=some e'->d e'=true):Ph j (pN eff sl fr v j) w':=jh
theorem gQ.eff_ (h:gQ ops sl eff fr Fb val S Ph d v w') (hnd:sl.Nodup) (hne:eff.Nodup) {i j:Nat}{o:Oper} (ho:ops[i]?=some o) (hall: ∀e∈o.after,Region.binds .any e=true->d e.on=true) (he:eff[j]?=some i) (hi:d i=false) (hp: ∀j' e',j=j'+1->eff[j']?=some e'->d e'=true)
  {dst:Option Nat} (hk:sl[i]?=dst) (hfr:i≠fr) {x:Value} (hF:i≠eff.getLastD 0-> ∀x,Fb x w'->Fb x w2) (hS:i≠eff.getLastD 0->S w2) (hP:Ph (j+1) (match dst with | some _=>x | none=>gZ sl v fr) w2):gQ ops sl eff fr Fb val S Ph (aY d i) (cB v dst x) w2:=by
 have zi:=trivial;exact ri
theorem gQ.fin (h:gQ ops sl eff fr Fb val S Ph d v w') (hd: ∀e∈eff,d e=true):Ph eff.length (pN eff sl fr v eff.length) w':=ju
theorem gQ.early (h:gQ ops sl eff fr Fb val S Ph d v w') {f i:Nat} (hr:mD ops f (eff.getLastD 0) i=true) (hi:d i=false):S w':=by
 refine h.st ?_;exact dh
end
section
variable {ops:Array Oper}{sl eff:List Nat}{fr:Nat}{Fb:Value->World->Prop}{val:Nat->Value}{S:World->Prop}{Ph:Nat->Value->World->Prop}{d:Nat->Bool}{v:Nat->Value}{w' w2:World}
theorem Iv {j:Nat} (hp:j=0\/ ∃e',eff[j-1]?=some e'/\d e'=true): ∀j' e',j=j'+1->eff[j']?=some e'->d e'=true:=kb
theorem gQ.at2 (h:gQ ops sl eff fr Fb val S Ph d v w') {j e:Nat} (he:eff[j]?=some e) (hi:d e=false) (hp:j=0\/ ∃e',eff[j-1]?=some e'/\d e'=true):Ph j (pN eff sl fr v j) w':=h.at_ he hi (Iv hp)
theorem gQ.eff2 (h:gQ ops sl eff fr Fb val S Ph d v w') (hnd:sl.Nodup) (hne:eff.Nodup) {i:Nat} (j:Nat) {o:Oper} (ho:ops[i]?=some o) (hall: ∀e∈o.after,Region.binds .any e=true->d e.on=true) (he:eff[j]?=some i) (hi:d i=false) (hp:j=0\/ ∃e',eff[j-1]?=some e'/\d e'=true)
  {dst:Option Nat} (hk:sl[i]?=dst) (hfr:i≠fr) {x:Value} (hF:i≠eff.getLastD 0-> ∀x,Fb x w'->Fb x w2) (hS:i≠eff.getLastD 0->S w2) (hP:Ph (j+1) (match dst with | some _=>x | none=>gZ sl v fr) w2):gQ ops sl eff fr Fb val S Ph (aY d i) (cB v dst x) w2:=h.eff_ hnd hne ho hall he hi (Iv hp) hk hfr hF hS hP
end
theorem gQ.lastNot {ops:Array Oper}{sl eff:List Nat}{fr:Nat}{Fb:Value->World->Prop}{val:Nat->Value}{S:World->Prop}{Ph:Nat->Value->World->Prop}{d:Nat->Bool}{v:Nat->Value}{w':World} (h:gQ ops sl eff fr Fb val S Ph d v w') {f i:Nat} (hr:mD ops f (eff.getLastD 0) i=true) (hi:d i=false):d (eff.getLastD 0)=false:=dh
theorem zL {P:Program}{ops:Array Oper}{Q:Exit->Act->World->Prop}{id:Nat}{a0:Act}{w0:World} (hm:P.follows .mixedOrders=true) (sl eff:List Nat) (fr:Nat) (Fb:Value->World->Prop) (n:Nat) (hn:a0.tmps.size=n) (hback:tQ ops=true) (hdst:rV ops sl n=true) (heff:eff.all (λe=>decide (e<ops.size))=true)
  (val:Nat->Value) (S:World->Prop) (Ph:Nat->Value->World->Prop) (h0:S w0.drew) (hP:Ph 0 undef w0.drew)
  (hs: ∀(d:Nat->Bool) (a:Act) (w:World) (i:Nat) (o:Oper),ops[i]?=some o->d i=false->(∀e∈o.after,Region.binds .any e=true->d e.on=true)->(∀k,k ∉ sl->a.tmps.getD k undef=a0.tmps.getD k undef)->gQ ops sl eff fr Fb val S Ph d (λk=>a.tmps.getD k undef) w->
   ∀R:Act->World->Prop,(∀x w',gQ ops sl eff fr Fb val S Ph (aY d i) (cB (λk=>a.tmps.getD k undef) o.dst x) w'->R (a.put o.dst x) w')->o.wp P a w R Q)
  (hd: ∀(v:Nat->Value) (w:World),(∀i,i<sl.length->i<ops.size->i ∉ eff->i≠fr->gZ sl v i=val i)->Ph eff.length (pN eff sl fr v eff.length) w->Q .normal { a0 with tmps:=cS a0.tmps v sl } w):(Code.region id ops true).wp P Q a0 w0:=by
 have DH:=trivial;exact ve
end
section
open Go.RowKit
open Go.Lib hiding intOf
theorem cM {w w':World}{a:Addr}{u:Value} (h:w.cell? a=some u) (hb:Below w.heap.size w w'):w'.cell? a=some u:=by
 rw[hb.cell (World.block_lt_of_cell? w a h)];exact h
theorem gB.mono {B B':Nat}{no:Option Nat}{l:List VT}{v:Value}{w:World} (h:gB B no l v w) (hB:B'<=B):gB B' no l v w:=by
 obtain⟨es,m,c,i⟩:=h;refine⟨es,m,⟨c.1,?_⟩,λe n=>(i e n).mono (λk f _=>⟨aZ hB f.1,f.2⟩)⟩;rcases c.2 with j | ⟨g,a,b,e1,e2,e3⟩
 ·exact .inl j
 ·exact .inr ⟨g,a,b,e1,aZ hB e2,e3⟩
structure CS (W:World) (Y:Nat) (k:Int) (s:aA) (ks:List aA) (l:List VT) (kv ov:Value) (w:World):Prop where
 box:w.heap[Y]?=some (.cells #[k,bs s,kv,ov] 36)
 keys:bP W.heap.size ks kv w
 off:some Y≠kv.ownBlock
 its:gB (Y+1) kv.ownBlock l ov w
 bel:Below W.heap.size W w
 new_:W.heap.size<=Y
theorem bP.ownLt {B:Nat}{l:List aA}{v:Value}{w:World} (h:bP B l v w) {k:Nat} (hk:some k=v.ownBlock):k<w.heap.size:=by
 rcases h.2 with⟨rfl,_⟩ | ⟨g,cap,cur,rfl,_,a,_⟩
 ·cases hk
 ·injection hk with hk;subst hk;exact aF a
theorem CS.cells {W w:World}{Y:Nat}{k:Int}{s:aA}{ks:List aA}{l:List VT}{kv ov:Value} (h:CS W Y k s ks l kv ov w):w.cell? ⟨Y,0,none⟩=some (.int .i64 k)/\w.cell? ⟨Y,1,none⟩=some (.string (bs s))/\w.cell? ⟨Y,2,none⟩=some kv/\w.cell? ⟨Y,3,none⟩=some ov/\
  w.frozen? ⟨Y,0,none⟩=false/\w.frozen? ⟨Y,1,none⟩=false/\w.frozen? ⟨Y,2,none⟩=false/\w.frozen? ⟨Y,3,none⟩=false:=by
 have hb:=h.box;exact n9
theorem bP.keepB {B:Nat}{l:List aA}{v:Value}{w w':World} (h:bP B l v w) (hk: ∀k,B<=k->some k=v.ownBlock->k<w.heap.size->w'.heap[k]?=w.heap[k]?):bP B l v w':=by
 refine⟨h.1,?_⟩;rcases h.2 with c | ⟨g,a,b,e1,e2,e3,e4⟩
 ·exact .inl c
 ·subst e1;exact .inr ⟨g,a,b,rfl,e2,by rw[hk g e2 rfl (aF e3)];exact e3,e4⟩
theorem bP.slice {B:Nat}{l:List aA}{v:Value}{w:World} (h:bP B l v w): ∃p c,v= .slice p l.length c:=by
 rcases h.2 with⟨a,b⟩ | ⟨g,cap,cur,rfl,_⟩
 ·exact⟨none,0,by rw[a,b]⟩
 ·exact⟨_,_,rfl⟩
theorem bP.mono {B B':Nat}{l:List aA}{v:Value}{w:World} (h:bP B l v w) (hB:B'<=B):bP B' l v w:=⟨h.1,by
 rcases h.2 with c | ⟨g,a,b,e1,e2,e3⟩
 ·exact .inl c
 ·exact .inr ⟨g,a,b,e1,aZ hB e2,e3⟩⟩
theorem Iw {B B':Nat}{no:Option Nat}{l:List VT}{ks:List aA}{kv ov:Value}{w:World} (h:bP B ks kv w) (h2:gB B' no l ov w) {k:Nat} (hk:some k=kv.ownBlock):some k≠ov.ownBlock:=by
 intro e;obtain⟨es,_,F,_⟩:=h2;rcases h.2 with⟨rfl,_⟩ | ⟨g,cap,p,rfl,_,q,_⟩
 ·cases hk
 ·rcases F.2 with⟨rfl,_⟩ | ⟨g2,cap2,cur2,rfl,_,c,_⟩
  ·cases e
  ·injection hk with hk;injection e with e;subst hk e;rw[q] at c;exact pj
theorem CS.keep {W w w':World}{Y:Nat}{k:Int}{s:aA}{ks:List aA}{l:List VT}{kv ov:Value} (h:CS W Y k s ks l kv ov w) (hb:Below w.heap.size w w'):CS W Y k s ks l kv ov w':=
 ⟨(hb.block Y (aF h.box)).trans h.box,h.keys.keep hb,h.off,h.its.keep hb,aC h.bel hb,h.new_⟩
theorem CS.start {W w:World} (hb:Below W.heap.size W w) (k:Int) (s:aA):CS W w.heap.size k s [] [] (.slice none 0 0) (.slice none 0 0) (w.alloc (.cells #[k,bs s,(),()] 36)):=
 ⟨heap_alloc_new w _,bP.nil _ _,(λe=>by cases e),gB.nil _ _ _,aC hb (aL _ _),hb.size⟩
theorem CS.tree {W w:World}{Y:Nat}{k:Int}{s:aA}{ks:List aA}{l:List VT}{kv ov:Value} (h:CS W Y k s ks l kv ov w):fX W.heap.size w (VT.mk k s ks l).depth (VT.mk k s ks l) kv ov:=by
 have hn:=h.new_;exact gB.toVDx (k:=k) (s:=s) (h.keys.toSVx.agree (ok':=λk=>W.heap.size<=k) (λk a _=>⟨rfl,a.1⟩)) (h.its.mono a_)
def gR (W0:World) (Y:Nat) (no:Option Nat) (x:VT) (l:List VT) (ov:Value):Nat->Value->World->Prop
 | 0,_,w'=>Below W0.heap.size W0 w'
 | 1,c,w'=> ∃kv iv,c=vv x kv iv/\fX W0.heap.size w' x.depth x kv iv/\Below W0.heap.size W0 w'
 | 2,c,w'=> ∃w1 kv iv,fX W0.heap.size w1 x.depth x kv iv/\Below W0.heap.size W0 w1/\c= .slice (some ⟨w1.heap.size,0,none⟩) 1 1/\w'=w1.alloc (.cells #[x.kind,bs x.text,kv,iv] 36)
 | 3,c,w'=>gB (Y+1) no (l++ [x]) c w'/\Below (Y+1) W0 w'/\W0.heap.size<=w'.heap.size/\ ∀k,k<W0.heap.size->some k≠ov.ownBlock->w'.heap[k]?=W0.heap[k]?
 | _,_,w'=> ∃c w1,(gB (Y+1) no (l++ [x]) c w1/\Below (Y+1) W0 w1/\W0.heap.size<=w1.heap.size/\ ∀k,k<W0.heap.size->some k≠ov.ownBlock->w1.heap[k]?=W0.heap[k]?)/\w'=w1.setCell ⟨Y,3,none⟩ c
theorem gB.ownLt {B:Nat}{no:Option Nat}{l:List VT}{v:Value}{w:World} (h:gB B no l v w) {k:Nat} (hk:some k=v.ownBlock):B<=k/\k<w.heap.size:=by
 obtain⟨es,_,a,_⟩:=h;rcases a.2 with⟨rfl,_⟩ | ⟨g,cap,cur,rfl,b,c,_⟩
 ·cases hk
 ·injection hk with hk;subst hk;exact⟨b,aF c⟩
theorem gR.app {o:Oper}{a:Act}{R:Act->World->Prop}{Q:Exit->Act->World->Prop} (s x:Operand)
  (ho:o.op= .call { callee:= .builtin .append,args:= #[s,x],argTypes:= #[34,34] })
  {W W0:World}{Y:Nat}{k:Int}{tx:aA}{ks:List aA}{l:List VT}{kv ov:Value} (h:CS W Y k tx ks l kv ov W0) {t:VT}{c:Value}{w':World} (h2:gR W0 Y kv.ownBlock t l ov 2 c w') (hs:a.eval s=ov) (hx:a.eval x=c) (hl:l.length<=4294967295)
  (hR: ∀v' w2,gR W0 Y kv.ownBlock t l ov 3 v' w2->R (a.put o.dst v') w2):o.wp Tryz.prog a w' R Q:=by
 obtain⟨w1,g,f,n,u,rfl,rfl⟩:=h2;have hYl:Y<W0.heap.size:=aF h.box;have b:Below W0.heap.size W0 (w1.alloc (.cells #[t.kind,bs t.text,g,f] 36)):=aC u (aL _ _);have i: ∀k,some k=ov.ownBlock->k<W0.heap.size:=λk p=>(h.its.ownLt p).2;have j: ∀k,some k=kv.ownBlock->k<W0.heap.size:=λk p=>h.keys.ownLt p;refine Sm s x ho (Y+1) kv.ownBlock _ ov l t g f hs (h.its.keep b) ?_ w1.heap.size e_ (λe=>?_) (heap_alloc_new w1 _) hx a_ (by have:=b.size;omega) (λv' w2 A w z h6=>hR v' w2 ⟨A,?_,?_,λq r m=>?_⟩)
 ·have y:=(n.keep (aL w1 (.cells #[t.kind,bs t.text,g,f] 36)));exact y.mono (λq r _=>⟨a_,(λe=>by have:=i q e;omega),λe=>by have:=j q e;omega⟩)
 ·have:=i _ e;have:=u.size;omega
 ·exact(b.mono a_).trans w
 ·exact aZ b.size w.size
 ·rw[z q (iX r b.size) m,b.block q r]
theorem rZ {w:World}{g:Nat}{t:TypeId}{cs:Array Value} (h:w.heap[g]?=some (.cells cs t (0,0))) (i:Nat) (u:Value):(w.setCell ⟨g,i,none⟩ u).heap[g]?=some (.cells (cs.setIfInBounds i u) t (0,0)):=ai
theorem gR.fin {W W0:World}{Y:Nat}{k:Int}{tx:aA}{ks:List aA}{l:List VT}{kv ov:Value} (h:CS W Y k tx ks l kv ov W0) {t:VT}{c:Value}{w':World} (h4:gR W0 Y kv.ownBlock t l ov 4 c w'): ∃ov',CS W Y k tx ks (l++ [t]) kv ov' w':=by
 obtain⟨c,w1,⟨s,i,h3,o⟩,rfl⟩:=h4;have hYl:Y<W0.heap.size:=aF h.box;have a: ∀q,q≠Y->(w1.setCell ⟨Y,3,none⟩ c).heap[q]?=w1.heap[q]?:=λq f=>eC w1 ⟨Y,3,none⟩ c q f;have g:(w1.setCell ⟨Y,3,none⟩ c).heap.size=w1.heap.size:=by simp[World.setCell]
 refine⟨c,?_,?_,h.off,?_,?_,h.new_⟩
 ·have m:w1.heap[Y]?=some (.cells #[k,bs tx,kv,ov] 36):=by
   rw[i.block Y a_];exact h.box
  exact rZ m 3 c
 ·refine h.keys.keepB (λq f j b=>?_);rw[a q (λe=>h.off (by rw[<-e];exact j)),o q b (Iw h.keys h.its j)]
 ·exact s.keepX (by rw[g];exact aD _) (λq f _=>a q a_)
 ·have r:=h.new_;have n:Below W.heap.size W0 w1:=i.mono a_;exact(h.bel.trans n).setCell (p:=⟨Y,3,none⟩) (by show W.heap.size<=Y;exact r) c
def lO (W W0:World) (Y:Nat) (key:aA) (ks:List aA) (kv:Value):Nat->Value->World->Prop
 | 0,_,w'=>Below W0.heap.size W0 w'
 | 1,c,w'=>c= .string (bs key)/\Below W0.heap.size W0 w'
 | 2,c,w'=> ∃w1,Below W0.heap.size W0 w1/\c= .slice (some ⟨w1.heap.size,0,none⟩) 1 1/\w'=w1.alloc (.cells #[bs key] 9)
 | 3,c,w'=>bP W.heap.size (ks++ [key]) c w'/\Below W.heap.size W0 w'/\W0.heap.size<=w'.heap.size/\(∀k,k<W0.heap.size->some k≠kv.ownBlock->w'.heap[k]?=W0.heap[k]?)/\ ∀k,some k=c.ownBlock->some k=kv.ownBlock\/W0.heap.size<=k
 | _,_,w'=> ∃c w1,(bP W.heap.size (ks++ [key]) c w1/\Below W.heap.size W0 w1/\W0.heap.size<=w1.heap.size/\(∀k,k<W0.heap.size->some k≠kv.ownBlock->w1.heap[k]?=W0.heap[k]?)/\ ∀k,some k=c.ownBlock->some k=kv.ownBlock\/W0.heap.size<=k)/\w'=w1.setCell ⟨Y,2,none⟩ c
theorem lO.app {o:Oper}{a:Act}{R:Act->World->Prop}{Q:Exit->Act->World->Prop} (s x:Operand)
  (ho:o.op= .call { callee:= .builtin .append,args:= #[s,x],argTypes:= #[33,33] })
  {W W0:World}{Y:Nat}{k:Int}{tx:aA}{ks:List aA}{l:List VT}{kv ov:Value} (h:CS W Y k tx ks l kv ov W0) {key:aA}{c:Value}{w':World} (h2:lO W W0 Y key ks kv 2 c w') (hs:a.eval s=kv) (hx:a.eval x=c) (hl:ks.length<=4294967295)
  (hR: ∀v' w2,lO W W0 Y key ks kv 3 v' w2->R (a.put o.dst v') w2):o.wp Tryz.prog a w' R Q:=by
 obtain⟨w1,r,rfl,rfl⟩:=h2;have b:Below W0.heap.size W0 (w1.alloc (.cells #[bs key] 9)):=aC r (aL _ _);have i:SV (w1.alloc (.cells #[bs key] 9)) (.slice (some ⟨w1.heap.size,0,none⟩) 1 1) [key]:=⟨_,1,rfl,aD _, .inr ⟨w1.heap.size,0,rfl,e_,λj y m=>by have n:=(aR.1 m).1;simp at n;subst n;simp at m;subst m;rw[Nat.zero_add,World.cell?_alloc_new];rfl⟩⟩;refine Ip s x ho W.heap.size _ kv ks [key] hs (h.keys.keep b) _ hx i h_ (aZ h.bel.size b.size) (λv' w2 u p t f=>hR v' w2 ⟨u,(b.mono h.bel.size).trans p,aZ b.size p.size,λq e g=>?_,λq e=>?_⟩)
 ·rw[t q (iX e b.size) g,b.block q e]
 ·rcases f with f | f
  ·exact .inl (by rw[e,f])
  ·rw[f] at e;injection e with e;subst e;exact .inr b.size
theorem lO.fin {W W0:World}{Y:Nat}{k:Int}{tx:aA}{ks:List aA}{l:List VT}{kv ov:Value} (h:CS W Y k tx ks l kv ov W0) {key:aA}{c:Value}{w':World} (h4:lO W W0 Y key ks kv 4 c w'): ∃kv',CS W Y k tx (ks++ [key]) l kv' ov w':=by
 obtain⟨c,w1,⟨w,r,h3,m,n⟩,rfl⟩:=h4;have i:Y<W0.heap.size:=aF h.box;have a: ∀q,q≠Y->(w1.setCell ⟨Y,2,none⟩ c).heap[q]?=w1.heap[q]?:=λq o=>eC w1 ⟨Y,2,none⟩ c q o;have b:some Y≠c.ownBlock:=λe=>by
  rcases n Y e with e2 | e2
  ·exact h.off e2
  ·omega
 refine⟨c,?_,?_,b,?_,?_,h.new_⟩
 ·have t:w1.heap[Y]?=some (.cells #[k,bs tx,kv,ov] 36):=by
   rw[m Y i h.off];exact h.box
  exact rZ t 2 c
 ·exact w.keepB (λq o u hlt=>a q (λe=>b (by rw[<-e];exact u)))
 ·obtain⟨es,g1,g2,g3⟩:=h.its;refine⟨es,g1,⟨g2.1,?_⟩,λe s=>(g3 e s).agree (λq ok lt=>⟨by rw[a q (by have:=ok.1;omega),m q lt ok.2.2],ok.1,ok.2.1,λe2=>?_⟩)⟩
  ·rcases g2.2 with g4 | ⟨g,j,f,e1,e2,e3,e4⟩
   ·exact .inl g4
   ·subst e1;refine .inr ⟨g,j,f,rfl,e2,?_,e4⟩;rw[a g a_,m g (aF e3) (λe=>(Iw h.keys h.its e) rfl)];exact e3
  ·rcases n q e2 with e3 | e3
   ·exact ok.2.2 e3
   ·omega
 ·exact(h.bel.trans r).setCell (p:=⟨Y,2,none⟩) (by show W.heap.size<=Y;exact h.new_) c
end
section
open Go.RowKit Go.Maps Go.WideMaps
def sB:List (List UInt8)->DataW Unit
 | []=> .map []
 | k::l=>(sB l).put (.string k) (.lit (.bool true))
theorem Ix: ∀l,IsMap (sB l)
 | []=>isMap_empty
 | k::l=>(Ix l).put _ _
theorem Iy (k:List UInt8): ∀l,(sB l).atKey (.string k) (.lit (.bool false))= .lit (.bool (decide (k∈l)))
 | []=>rfl
 | x::l=>by
  unfold sB;by_cases h:k=x
  ·subst h;rw[atKey_put_same (Ix l) (show WideAt.IsKeyLit (.string k) from trivial),aO lN]
  ·rw[atKey_put_other (λe=>h (by injection e)),Iy k l];congr 2;rw[decide_eq_decide];exact⟨λh1=>List.mem_cons_of_mem _ h1,λh1=>(fY.1 h1).resolve_left h⟩
def HM (b:Nat) (had:List (List UInt8)) (w:World):Prop:=w.ownsMap Tryz.prog 9 (plainElem Tryz.prog 4) b had.length (sB had)
theorem Da:Keyed Tryz.prog 9:=string_keyed Tryz.underlying9
theorem So (w:World):(zeroValue 4).run Tryz.prog w= .ok (.bool false) w:=d'
theorem HM.look {b:Nat}{had:List (List UInt8)}{w:World} (h:HM b had w) (k:List UInt8) (hk:k.length<=1073741824):(Instr.lookup 124 (.map (some b)) (.string (bs k)) false).run Tryz.prog w= .ok (.bool (decide (k∈had))) w:=by
 have c:keyOf Tryz.prog 9 (.string (bs k))=some (.string k):=by
  have:=keyOf_string_mk (P:=Tryz.prog) Tryz.underlying9 (s:=bs k) EL;rw[aQ] at this;exact this
 obtain⟨v,ps,e,a⟩:=World.ownsMap.lookup h Da Tryz.underlying124 (So w) (plainElem_bool Tryz.underlying4 false) c;rw[Iy] at a;have f:v= .bool (decide (k∈had)):=by
  unfold plainElem at a;rw[show Tryz.prog.underlying 4=some .bool from Tryz.underlying4] at a;cases v<;>simp at a;rw[a.1]
 rw[e,f]
theorem HM.lt {b:Nat}{had:List (List UInt8)}{w:World} (h:HM b had w):b<w.heap.size:=World.ownsMap.lt h
theorem HM.obj {b:Nat}{had:List (List UInt8)}{w:World} (h:HM b had w): ∃es c,w.heap[b]?=some (.map es c):=by
 obtain⟨es,c,a,_⟩:=h;exact⟨es,c,a⟩
theorem HM.same {b:Nat}{had:List (List UInt8)}{w w':World} (h:HM b had w) (hs:w'.heap[b]?=w.heap[b]?):HM b had w':=by
 obtain⟨es,c,f,a,e,g⟩:=h;exact⟨es,c,hs.trans f,a,e,g⟩
end
end Go.Proofs.YtfhjncbdgjlcoaaGreatDoor
