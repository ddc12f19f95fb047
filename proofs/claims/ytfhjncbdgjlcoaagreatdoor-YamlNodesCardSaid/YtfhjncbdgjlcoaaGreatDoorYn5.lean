import Derived.Test.YtfhjncbdgjlcoaaGreatDoorYn4
import Derived.Deep.Upon
set_option linter.unusedVariables false
set_option linter.unusedSimpArgs false
namespace Go.Proofs.YtfhjncbdgjlcoaaGreatDoor
open Tryz
section
open Go.RowKit
open Go.Lib hiding intOf
def sZ (ok:Nat->Prop) (w:World) (v:Value) (l:List aB):Prop:= ∃p c,v= .slice p l.length c/\l.length<=c/\(l= []\/ ∃g o,p=some ⟨g,o,none⟩/\ok g/\(∃cur,w.heap[g]?=some (.cells cur 9))/\ ∀(j:Nat) (x:aB),l[j]?=some x->w.cell? ⟨g,o+j,none⟩=some (.string (bs x)))
def fS (ok:Nat->Prop) (w:World):Nat->VT->Value->Value->Prop
 | 0,_,_,_=>False
 | n+1,t,kv,iv=>sZ ok w kv t.keys/\ ∃p c,iv= .slice p t.items.length c/\t.items.length<=c/\(t.items= []\/ ∃g o,p=some ⟨g,o,none⟩/\ok g/\(∃cur,w.heap[g]?=some (.cells cur 36))/\ ∀(j:Nat) (x:VT),t.items[j]?=some x-> ∃kv' iv',w.cell? ⟨g,o+j*4,none⟩=some (.int .i64 x.kind)/\w.cell? ⟨g,o+j*4+1,none⟩=some (.string (bs x.text))/\w.cell? ⟨g,o+j*4+2,none⟩=some kv'/\w.cell? ⟨g,o+j*4+3,none⟩=some iv'/\fS ok w n x kv' iv')
theorem sZ.toSV {ok:Nat->Prop}{w:World}{v:Value}{l:List aB} (h:sZ ok w v l):SV w v l:=by
 obtain⟨p,c,e,b,a⟩:=h;refine⟨p,c,e,b,?_⟩;rcases a with a | ⟨g,o,e1,e2,⟨cur,e3⟩,e4⟩
 .exact .inl a
 .exact .inr ⟨g,o,e1,aG e3,e4⟩
theorem fS.toVD {ok:Nat->Prop}{w:World}: ∀ {n:Nat}{t:VT}{kv iv:Value},fS ok w n t kv iv->VD w n t kv iv
 | 0,_,_,_,h=>h
 | n+1,t,kv,iv,h=>by
  obtain⟨h1,p,c,h2,h3,h4⟩:=h;refine⟨h1.toSV,p,c,h2,h3,?_⟩;rcases h4 with h4 | ⟨g,o,e1,e2,⟨cur,e3⟩,e4⟩
  .exact .inl h4
  .refine .inr ⟨g,o,e1,aG e3,λj x e=>?_⟩;obtain⟨a,b,a0,a1,a2,a3,a4⟩:=e4 j x e;exact⟨a,b,a0,a1,a2,a3,fS.toVD a4⟩
theorem sZ.agree {ok ok':Nat->Prop}{w w':World} (hk: ∀k,ok k->k<w.heap.size->w'.heap[k]?=w.heap[k]?/\ok' k) {v:Value}{l:List aB} (h:sZ ok w v l):sZ ok' w' v l:=by
 obtain⟨p,c,i,e,b⟩:=h;refine⟨p,c,i,e,?_⟩;rcases b with b | ⟨g,o,e1,e2,⟨a,e3⟩,e4⟩
 .exact .inl b
 .obtain⟨a1,a2⟩:=hk g e2 (aG e3);exact .inr ⟨g,o,e1,a2,⟨a,by rw[a1];exact e3⟩,λj x f=>by rw[jQ a1];exact e4 j x f⟩
theorem fS.agree {ok ok':Nat->Prop}{w w':World} (hk: ∀k,ok k->k<w.heap.size->w'.heap[k]?=w.heap[k]?/\ok' k): ∀ {n:Nat}{t:VT}{kv iv:Value},fS ok w n t kv iv->fS ok' w' n t kv iv
 | 0,_,_,_,h=>h
 | n+1,t,kv,iv,h=>by
  obtain⟨h1,p,c,h2,h3,h4⟩:=h;refine⟨h1.agree hk,p,c,h2,h3,?_⟩;rcases h4 with h4 | ⟨g,o,e1,e2,⟨a,e3⟩,e4⟩
  .exact .inl h4
  .obtain⟨a1,a2⟩:=hk g e2 (aG e3);refine .inr ⟨g,o,e1,a2,⟨a,by rw[a1];exact e3⟩,λj x f=>?_⟩;obtain⟨b,e,b0,b1,b2,b3,b4⟩:=e4 j x f;exact⟨b,e,by rw[jQ a1];exact b0,by rw[jQ a1];exact b1,by rw[jQ a1];exact b2,by rw[jQ a1];exact b3,fS.agree hk b4⟩
theorem fS.keep {ok:Nat->Prop}{w w':World} (hb:aA w w') {n:Nat}{t:VT}{kv iv:Value} (h:fS ok w n t kv iv):fS ok w' n t kv iv:=h.agree (λk a b=>⟨hb.block k b,a⟩)
theorem fS.mono {ok ok':Nat->Prop}{w:World}{n:Nat}{t:VT}{kv iv:Value} (h:fS ok w n t kv iv) (hk: ∀k,ok k->k<w.heap.size->ok' k):fS ok' w n t kv iv:=h.agree (λk a b=>⟨rfl,hk k a b⟩)
theorem fS.more {ok:Nat->Prop}{w:World}: ∀ {n:Nat}{t:VT}{kv iv:Value},fS ok w n t kv iv-> ∀m,fS ok w (n+m) t kv iv
 | 0,_,_,_,h,_=>h.elim
 | n+1,t,kv,iv,h,m=>by
  obtain⟨h1,p,c,h2,h3,h4⟩:=h;rw[Nat.add_right_comm];refine⟨h1,p,c,h2,h3,?_⟩;rcases h4 with h4 | ⟨g,o,h4,k,f,i⟩
  .exact .inl h4
  .refine .inr ⟨g,o,h4,k,f,λj x e=>?_⟩;obtain⟨a,b,e0,e1,e2,e3,e4⟩:=i j x e;exact⟨a,b,e0,e1,e2,e3,fS.more e4 m⟩
theorem fS.form {ok:Nat->Prop}{w:World}{n:Nat}{t:VT}{kv iv:Value} (h:fS ok w n t kv iv): ∃pk ck p c,kv= .slice pk t.keys.length ck/\iv= .slice p t.items.length c:=h.toVD.form
abbrev gF (B:Nat) (w:World) (n:Nat) (t:VT) (kv iv:Value):Prop:=fS (λk=>B<=k) w n t kv iv
theorem infoString:(prog.info? 9).map (λi=>(i.zero,i.size,i.bytes))=some (some (.string ⟨#[]⟩),1,16):=d'
theorem infoValue:(prog.info? 36).map (λi=>(i.zero,i.size,i.bytes))=some (some (.agg #[(0:Int), .string ⟨#[]⟩,(),()]),4,72):=d'
def jG (l:List aB):List Value:=l.map λx=>Value.string (bs x)
def bZ (B:Nat) (l:List aB) (v:Value) (w:World):Prop:=w.ownsRow B 9 1 v l.length (jG l)
theorem Ue (l:List aB): ∀u∈jG l,u.oneCell'=true:=by
 intro u a;unfold jG at a;obtain⟨x,_,rfl⟩:=qJ.1 a;rfl
theorem tA (g o j:Nat):((⟨g,o,none⟩:Addr).add j)=⟨g,o+j,none⟩:=by unfold Addr.add;split<;>simp_all
theorem bZ.toSVx {B:Nat}{l:List aB}{v:Value}{w:World} (h:bZ B l v w):sZ (λk=>B<=k/\some k=v.ownBlock) w v l:=by
 have m:=h;rcases h.2 with⟨f,c⟩ | ⟨g,b,a,rfl,n,i,p,_⟩
 .exact⟨none,0,by rw[f,c],a_, .inl (List.length_eq_zero_iff.1 c)⟩
 .refine⟨_,b,rfl,p, .inr ⟨g,0,rfl,⟨n,rfl⟩,⟨a,i⟩,λj x o=>?_⟩⟩;have e:=World.ownsRow.cells m (g:=g) rfl j (.string (bs x)) (by unfold jG;rw[cF,o];rfl);rw[tA] at e;exact e
theorem bZ.nil (B:Nat) (w:World):bZ B [] (.slice none 0 0) w:=⟨rfl, .inl ⟨rfl,rfl⟩⟩
theorem Jp {P:Program}{o:Oper}{a:Act}{K:Act->World->Prop}{Q:Exit->Act->World->Prop} (s x:Operand) (t:TypeId)
  (ho:o.op= .call { callee:= .builtin .append,args:= #[s,x],argTypes:= #[t,t] })
  (B:Nat) (e:TypeId) (i:TypeInfo) (z:Value) (size bytes:Nat) (ht:P.underlying t=some (.slice e)) (hi:P.info? e=some i) (hz:i.zero=some z)
  (hsize:i.size=size) (hby:i.bytes=bytes) (hzs:z.cells.size=size) (hsz:0<size)
  (w:World) (v:Value) (n:Nat) (xs:List Value) (hs:a.eval s=v) (hown:w.ownsRow B e size v n xs)
  (p:Option Addr) (m c:Nat) (news:List Value) (hx:a.eval x= .slice p m c)
  (hl:(m=0/\news= [])\/ ∃ad,p=some ad/\0<m/\news.length=m*size/\(∀j u,news[j]?=some u->w.cell? (ad.add j)=some u)/\ ∀u∈news,u.oneCell'=true)
  (h63:n+m<=maxLen) (hbytes:(n+m)*bytes<=140737488355328) (hB:B<=w.heap.size)
  (h: ∀v' w',w'.ownsRow B e size v' (n+m) (xs++news)->Below B w w'->(∀k,k<w.heap.size->some k≠v.ownBlock->w'.heap[k]?=w.heap[k]?)->(v'.ownBlock=v.ownBlock\/v'.ownBlock=some w.heap.size)->K (a.put o.dst v') w'):o.wp P a w K Q:=by
 rcases hl with⟨rfl,rfl⟩ | ⟨ad,rfl,I,C,M,y⟩
 .have J: ∃f b,v= .slice f n b/\n<=b:=by
   rcases hown.2 with⟨y,q⟩ | ⟨g,b,cur,y,_,_,q,_⟩
   .exact⟨none,0,by rw[y,q],a_⟩
   .exact⟨_,_,y,q⟩
  obtain⟨f,b,rfl,F⟩:=J;have A:Src P i.size t (.slice p 0 c) 0 [] w:=by
   cases p with
   | none=>exact Src.ofNil w ht c
   | some ad=>exact Src.ofSlice w ht ad 0 c [] e_ (λj u L=>by simp at L) (λu H=>by cases H)
  have l:=run_append_nothing (P:=P) w t t o.type e i ht hi f n b F (.slice p 0 c) A;unfold Oper.wp;simp[execOp,ho,resolve,invoke,builtin,hs,hx,l,Result.andThen];refine h _ w (by simpa using hown) (aD _ _) (λk _ _=>rfl) (.inl rfl)
 .refine wp_append_lies w s x t ho B e i z size bytes ht hi hz hsize hby hzs hsz v n xs hs hown ad m c news hx C M y I h63 hbytes hB w.heap.size rfl ?_;intro g b w' q G r h5;refine h _ w' q ((aD B w).grown G hB (λk E=>(World.ownsRow.lt hown k E).1)) (λk E D=>G.block k E D) ?_;rcases r with r | r
  .exact .inl r.symm
  .exact .inr (by rw[r];rfl)
theorem Jq {o:Oper}{a:Act}{K:Act->World->Prop}{Q:Exit->Act->World->Prop} (s x:Operand)
  (ho:o.op= .call { callee:= .builtin .append,args:= #[s,x],argTypes:= #[33,33] })
  (B:Nat) (w:World) (v:Value) (acc l:List aB) (hs:a.eval s=v) (hown:bZ B acc v w) (xv:Value) (hx:a.eval x=xv) (hp:SV w xv l)
  (hl:acc.length+l.length<=4294967296) (hB:B<=w.heap.size)
  (h: ∀v' w',bZ B (acc++l) v' w'->Below B w w'->(∀k,k<w.heap.size->some k≠v.ownBlock->w'.heap[k]?=w.heap[k]?)->(v'.ownBlock=v.ownBlock\/v'.ownBlock=some w.heap.size)->K (a.put o.dst v') w'):o.wp prog a w K Q:=by
 obtain⟨i0,n,f,q,b⟩:=info_parts infoString;obtain⟨p,c,rfl,hc,hp⟩:=hp;refine Jp s x 33 ho B 9 i0 _ 1 16 underlying33 n f q b rfl b_ w v acc.length (jG acc) hs hown p l.length c (jG l) hx ?_ r_ a_ hB (λv' w' r t A C=>h v' w' ?_ t A C)
 .rcases hp with rfl | ⟨g,o,rfl,_,i⟩
  .exact .inl ⟨rfl,rfl⟩
  .cases l with
   | nil=>exact .inl ⟨rfl,rfl⟩
   | cons y l=>
    refine .inr ⟨_,rfl,e_,by unfold jG;simp,λj u m=>?_,Ue _⟩;unfold jG at m;rw[cF] at m;obtain⟨k,z,rfl⟩:=uM.1 m;rw[tA,i j k z]
 .unfold bZ;have e:jG (acc++l)=jG acc++jG l:=by unfold jG;simp
  rw[e,aZ];exact r
theorem Uf {ops:Array Oper}{rest:List Oper}{o:Oper}{a:Act}{Q:Exit->Act->World->Prop} (hgd:o.guard=none) (s x:Operand)
  (ho:o.op= .call { callee:= .builtin .append,args:= #[s,x],argTypes:= #[33,33] })
  (B:Nat) (w:World) (v:Value) (acc l:List aB) (hs:a.eval s=v) (hown:bZ B acc v w) (xv:Value) (hx:a.eval x=xv) (hp:SV w xv l)
  (hl:acc.length+l.length<=4294967296) (hB:B<=w.heap.size)
  (h: ∀v' w',bZ B (acc++l) v' w'->Below B w w'->(∀k,k<w.heap.size->some k≠v.ownBlock->w'.heap[k]?=w.heap[k]?)->(v'.ownBlock=v.ownBlock\/v'.ownBlock=some w.heap.size)->wpList prog ops Q rest (a.put o.dst v') w'):wpList prog ops Q (o::rest) a w:=
 wpList_plain hgd λ_ e=>Jq s x ho B w v acc l hs hown xv hx hp hl hB (λv' w' f b g c=>e _ _ (h v' w' f b g c))
abbrev vY:=VT×Value×Value
def pP (l:List vY):List Value:=l.flatMap λx=> [x.1.kind,bs x.1.text,x.2.1,x.2.2]
theorem Jr (x:vY) (l:List vY):pP (x::l)= .int .i64 x.1.kind:: .string (bs x.1.text)::x.2.1::x.2.2::pP l:=rfl
theorem Js: ∀(l:List vY) (j:Nat) (x:vY),l[j]?=some x->(pP l)[j*4]?=some (.int .i64 x.1.kind)/\(pP l)[j*4+1]?=some (.string (bs x.1.text))/\(pP l)[j*4+2]?=some x.2.1/\(pP l)[j*4+3]?=some x.2.2
 | [],j,x,h=>by simp at h
 | y::l,0,x,h=>by
  obtain rfl:y=x:=s'
  rw[Jr];exact⟨rfl,rfl,rfl,rfl⟩
 | y::l,j+1,x,h=>by
  rw[bY] at h;have:=Js l j x h;rw[Jr,show (j+1)*4=j*4+4 by omega];exact this
def gM (B:Nat) (no:Option Nat) (l:List VT) (v:Value) (w:World):Prop:= ∃es:List vY,es.map (·.1)=l/\w.ownsRow B 36 4 v l.length (pP es)/\ ∀e∈es,fS (λk=>B<=k/\some k≠v.ownBlock/\some k≠no) w e.1.depth e.1 e.2.1 e.2.2
theorem gM.nil (B:Nat) (no:Option Nat) (w:World):gM B no [] (.slice none 0 0) w:=⟨[],rfl,⟨rfl, .inl ⟨rfl,rfl⟩⟩,λ_ h=>by cases h⟩
theorem gM.slice {B:Nat}{no:Option Nat}{l:List VT}{v:Value}{w:World} (h:gM B no l v w): ∃p c,v= .slice p l.length c:=by
 obtain⟨es,h1,e,h3⟩:=h;rcases e.2 with⟨a,b⟩ | ⟨g,cap,cur,rfl,_⟩
 .exact⟨none,0,by rw[a,b]⟩
 .exact⟨_,_,rfl⟩
theorem Ug {l:List VT}{x:VT} (h:x∈l): ∃m,fL l=x.depth+m:=⟨fL l-x.depth,by have:=Tw h;omega⟩
theorem gM.toVDx {B:Nat}{no:Option Nat}{k:Int}{s:aB}{ks:List aB}{l:List VT}{kv iv:Value}{w:World} (hk:sZ (λk=>B<=k) w kv ks) (h:gM B no l iv w):gF B w (VT.mk k s ks l).depth (VT.mk k s ks l) kv iv:=by
 obtain⟨es,rfl,n,t⟩:=h;rw[VT.depth];refine⟨hk,?_⟩;have r:=n;rcases n.2 with⟨A,q⟩ | ⟨g,i,b,rfl,u,y,z,_⟩
 .refine⟨none,0,by rw[A];exact congrArg (λx=>Value.slice none x 0) q.symm,by show (es.map (·.1)).length<=0;omega, .inl (List.length_eq_zero_iff.1 q)⟩
 .refine⟨_,i,rfl,z, .inr ⟨g,0,rfl,u,⟨b,y⟩,λj x f=>?_⟩⟩;change (es.map (·.1))[j]?=some x at f;rw[cF] at f;obtain⟨e,p,rfl⟩:=uM.1 f;obtain⟨a0,a1,a2,a3⟩:=Js es j e p;have a:=World.ownsRow.cells r (g:=g) rfl;have o:=bH p;obtain⟨m,c⟩:=Ug (l:=es.map (·.1)) (qJ.2 ⟨e,o,rfl⟩);refine⟨e.2.1,e.2.2,?_,?_,?_,?_,?_⟩
  .have:=a _ _ a0;rw[tA] at this;exact this
  .have:=a _ _ a1;rw[tA] at this;exact this
  .have:=a _ _ a2;rw[tA] at this;exact this
  .have:=a _ _ a3;rw[tA] at this;exact this
  .show fS _ w (fL (es.map (·.1))) e.1 e.2.1 e.2.2;rw[c];exact((t e o).mono (λk hk _=>hk.1)).more m
theorem fS.one {ok:Nat->Prop}{w:World}{n:Nat}{t:VT}{kv iv:Value} (h:fS ok w n t kv iv): ∀u∈([t.kind,bs t.text,kv,iv]:List Value),u.oneCell'=true:=by
 obtain⟨pk,ck,p,c,rfl,rfl⟩:=h.form;intro u a;simp only[fT,List.not_mem_nil,or_false] at a;rcases a with rfl|rfl|rfl|rfl<;>rfl
theorem gM.keepX {B:Nat}{no:Option Nat}{l:List VT}{v:Value}{w w':World} (h:gM B no l v w) (hs:w.heap.size<=w'.heap.size) (hk: ∀k,B<=k->k<w.heap.size->w'.heap[k]?=w.heap[k]?):gM B no l v w':=by
 obtain⟨es,m,c,f⟩:=h;refine⟨es,m,⟨c.1,?_⟩,λe i=>(f e i).agree (λk ok lt=>⟨hk k ok.1 lt,ok⟩)⟩;rcases c.2 with j | ⟨g,b,a,e1,e2,e3,e4⟩
 .exact .inl j
 .exact .inr ⟨g,b,a,e1,e2,by rw[hk g e2 (aG e3)];exact e3,e4⟩
theorem gM.keep {B:Nat}{no:Option Nat}{l:List VT}{v:Value}{w w':World} (h:gM B no l v w) (hb:aA w w'):gM B no l v w':=h.keepX hb.size (λk _ lt=>hb.block k lt)
theorem bZ.keepX {B:Nat}{l:List aB}{v:Value}{w w':World} (h:bZ B l v w) (hk: ∀k,B<=k->k<w.heap.size->w'.heap[k]?=w.heap[k]?):bZ B l v w':=by
 refine⟨h.1,?_⟩;rcases h.2 with c | ⟨g,b,a,e1,e2,e3,e4⟩
 .exact .inl c
 .exact .inr ⟨g,b,a,e1,e2,by rw[hk g e2 (aG e3)];exact e3,e4⟩
theorem bZ.keep {B:Nat}{l:List aB}{v:Value}{w w':World} (h:bZ B l v w) (hb:aA w w'):bZ B l v w':=h.keepX (λk _ lt=>hb.block k lt)
theorem Uh {o:Oper}{a:Act}{K:Act->World->Prop}{Q:Exit->Act->World->Prop} (s x:Operand)
  (ho:o.op= .call { callee:= .builtin .append,args:= #[s,x],argTypes:= #[34,34] })
  (B:Nat) (no:Option Nat) (w:World) (v:Value) (acc:List VT) (t:VT) (kv iv:Value) (hs:a.eval s=v) (hown:gM B no acc v w)
  (ht:fS (λk=>B<=k/\some k≠v.ownBlock/\some k≠no) w t.depth t kv iv) (X:Nat) (hX:X<w.heap.size) (hXv:some X≠v.ownBlock) (hXo:w.heap[X]?=some (.cells #[t.kind,bs t.text,kv,iv] 36)) (hx:a.eval x= .slice (some ⟨X,0,none⟩) 1 1)
  (hl:acc.length+1<=4294967296) (hB:B<=w.heap.size)
  (h: ∀v' w',gM B no (acc++ [t]) v' w'->Below B w w'->(∀k,k<w.heap.size->some k≠v.ownBlock->w'.heap[k]?=w.heap[k]?)->(v'.ownBlock=v.ownBlock\/v'.ownBlock=some w.heap.size)->K (a.put o.dst v') w'):o.wp prog a w K Q:=by
 obtain⟨i0,p,i,m,f⟩:=info_parts infoValue;obtain⟨es,A,q,y⟩:=hown;have C: ∀j u,([t.kind,bs t.text,kv,iv]:List Value)[j]?=some u->w.cell? ((⟨X,0,none⟩:Addr).add j)=some u:=by
  intro j u l;rw[tA];have g:=(aW.1 l).1;have z:j=0\/j=1\/j=2\/j=3:=by simp at g;omega
  rcases z with rfl|rfl|rfl|rfl<;> · simp at l;subst l;simp[World.cell?,hXo]
 refine Jp s x 34 ho B 36 i0 _ 4 72 underlying34 p i m f rfl b_ w v acc.length (pP es) hs q _ 1 1 _ hx (.inr ⟨_,rfl,b_,rfl,C,ht.one⟩) r_ a_ hB (λv' w' g1 g2 g3 g4=>h v' w' ?_ g2 g3 g4);have b: ∀ {n:Nat}{t:VT}{kv iv:Value},fS (λk=>B<=k/\some k≠v.ownBlock/\some k≠no) w n t kv iv->fS (λk=>B<=k/\some k≠v'.ownBlock/\some k≠no) w' n t kv iv:=λr=>r.agree (λk ok lt=>⟨g3 k lt ok.2.1,ok.1,λe=>by
  rcases g4 with g4 | g4
  .rw[g4] at e;exact ok.2.1 e
  .rw[g4] at e;injection e with e;omega,ok.2.2⟩)
 refine⟨es++ [(t,kv,iv)],by simp[A],?_,λe c=>?_⟩
 .have e1:pP (es++ [(t,kv,iv)])=pP es++ [.int .i64 t.kind, .string (bs t.text),kv,iv]:=by unfold pP;simp
  rw[e1,aZ];exact g1
 .rcases pO.1 c with c | c
  .exact b (y e c)
  .obtain rfl:e=(t,kv,iv):=(by simpa using c);exact b ht
end
section
open Go.RowKit
def nH (ops:Array Oper):Nat->Nat->Nat->Bool
 | 0,a,b=>a==b
 | f+1,a,b=>a==b||(match ops[a]? with
  | some o=>o.after.toList.any (λe=>Region.binds .any e&&nH ops f e.on b)
  | none=>false)
def uN (ops:Array Oper) (d:Nat->Bool):Prop:= ∀i o,ops[i]?=some o->d i=true-> ∀e∈o.after,Region.binds .any e=true->d e.on=true
theorem uN.reach {ops:Array Oper}{d:Nat->Bool} (h:uN ops d): ∀(f a b:Nat),nH ops f a b=true->d a=true->d b=true
 | 0,a,b,hr,hd=>by
  have e:a=b:=by simpa [nH] using hr
  rw[<-e];exact hd
 | f+1,a,b,hr,hd=>by
  rw[nH,Bool.or_eq_true] at hr;rcases hr with e | hr
  .have e:a=b:=(by simpa using e);rw[<-e];exact hd
  .split at hr
   .rename_i o g;obtain⟨e,i,c⟩:=List.any_eq_true.1 hr;rw[fQ] at c;exact h.reach f _ _ c.2 (h a o g hd e (Array.mem_toList_iff.1 i) c.1)
   .cases hr
theorem vZ {d:Nat->Bool}{i:Nat}:bE d i i=true:=by unfold bE;rw[if_pos rfl]
theorem iQ {d:Nat->Bool}{i j:Nat} (h:j≠i):bE d i j=d j:=by unfold bE;rw[if_neg h]
theorem Dv {d:Nat->Bool}{i j:Nat} (h:d j=true):bE d i j=true:=by unfold bE;split<;>simp_all
theorem uN.step {ops:Array Oper}{d:Nat->Bool} (h:uN ops d) {i:Nat}{o:Oper} (ho:ops[i]?=some o) (hall: ∀e∈o.after,Region.binds .any e=true->d e.on=true):uN ops (bE d i):=by
 intro j o' a b e f c;by_cases hj:j=i
 .subst hj;rw[ho] at a;injection a with a;subst a;exact Dv (hall e f c)
 .rw[iQ hj] at b;exact Dv (h j o' a b e f c)
def iR (sl:List Nat) (v:Nat->Value) (e:Nat):Value:=match sl[e]? with
 | some k=>v k
 | none=>undef
def qL (eff sl:List Nat) (fr:Nat) (v:Nat->Value):Nat->Value
 | 0=>undef
 | k+1=>match eff[k]? with
  | some e=>match sl[e]? with
   | some _=>iR sl v e
   | none=>iR sl v fr
  | none=>undef
theorem xT (eff sl:List Nat) (fr:Nat) (v:Nat->Value) (k:Nat):qL eff sl fr v (k+1)=match eff[k]? with
  | some e=>match sl[e]? with
   | some _=>iR sl v e
   | none=>iR sl v fr
  | none=>undef:=rfl
theorem Jt {l:List Nat} (h:l.Nodup) {i j a:Nat} (hi:l[i]?=some a) (hj:l[j]?=some a):i=j:=EB
theorem Ju {l:List Nat} (h:l≠ []):l.getLastD 0∈l:=nj
structure iH (ops:Array Oper) (sl eff:List Nat) (fr:Nat) (Fb:Value->World->Prop) (val:Nat->Value) (S:World->Prop) (Ph:Nat->Value->World->Prop) (d:Nat->Bool) (v:Nat->Value) (w':World):Prop where
 cl: ∀i,i<sl.length->i ∉ eff->i≠fr->d i=true->iR sl v i=val i
 clo:uN ops d
 st:d (eff.getLastD 0)=false->S w'
 fb:d (eff.getLastD 0)=false->d fr=true->Fb (iR sl v fr) w'
 ph: ∃k,k<=eff.length/\(∀j e,eff[j]?=some e->(d e=true↔j<k))/\Ph k (qL eff sl fr v k) w'
section
variable {ops:Array Oper}{sl eff:List Nat}{fr:Nat}{Fb:Value->World->Prop}{val:Nat->Value}{S:World->Prop}{Ph:Nat->Value->World->Prop}{d:Nat->Bool}{v:Nat->Value}{w' w2:World}
theorem Dw {i k:Nat} (hk:sl[i]?=some k) (x:Value):iR sl (cE v (some k) x) i=x:=by
 unfold iR;rw[hk];exact if_pos rfl
theorem uO (hnd:sl.Nodup) {i k:Nat} (hk:sl[i]?=some k) (x:Value) {j:Nat} (hj:j≠i):iR sl (cE v (some k) x) j=iR sl v j:=by
 unfold iR;cases hs:sl[j]? with
 | none=>rfl
 | some q=>
  exact if_neg (λe=>hj (Jt hnd hs JU))
theorem Ui {v v2:Nat->Value} (h: ∀e∈eff,iR sl v2 e=iR sl v e) (hf:iR sl v2 fr=iR sl v fr): ∀k,qL eff sl fr v2 k=qL eff sl fr v k
 | 0=>rfl
 | k+1=>by
  rw[xT,xT];cases he:eff[k]? with
  | none=>rfl
  | some e=>
   simp only[];cases hs:sl[e]? with
   | none=>exact hf
   | some q=>exact h e (bH he)
theorem iH.pure (h:iH ops sl eff fr Fb val S Ph d v w') (hnd:sl.Nodup) {i k:Nat}{o:Oper} (ho:ops[i]?=some o) (hall: ∀e∈o.after,Region.binds .any e=true->d e.on=true) (hk:sl[i]?=some k) (hne:i ∉ eff) (hfr:i≠fr) (hel:eff≠ []) {x:Value} (hx:x=val i):iH ops sl eff fr Fb val S Ph (bE d i) (cE v (some k) x) w':=by
 have N3:=trivial;exact JG
theorem iH.free (h:iH ops sl eff fr Fb val S Ph d v w') (hnd:sl.Nodup) {i k:Nat}{o:Oper} (ho:ops[i]?=some o) (hall: ∀e∈o.after,Region.binds .any e=true->d e.on=true) (hk:sl[i]?=some k) (hne:i ∉ eff) (hfr:i=fr) (hel:eff≠ []) (hsl:eff.all (λe=>e==eff.getLastD 0||decide (e<sl.length))=true) (hnl:eff.Nodup) (hdl:d (eff.getLastD 0)=false) {x:Value} (hS:S w'->S w2) (hP: ∀k c,Ph k c w'->Ph k c w2) (hx:Fb x w2):iH ops sl eff fr Fb val S Ph (bE d i) (cE v (some k) x) w2:=by
 have N0:=trivial;exact JG
theorem iH.at_ (h:iH ops sl eff fr Fb val S Ph d v w') {j e:Nat} (he:eff[j]?=some e) (hi:d e=false) (hp: ∀j' e',j=j'+1->eff[j']?=some e'->d e'=true):Ph j (qL eff sl fr v j) w':=E5
theorem iH.eff_ (h:iH ops sl eff fr Fb val S Ph d v w') (hnd:sl.Nodup) (hne:eff.Nodup) {i j:Nat}{o:Oper} (ho:ops[i]?=some o) (hall: ∀e∈o.after,Region.binds .any e=true->d e.on=true) (he:eff[j]?=some i) (hi:d i=false) (hp: ∀j' e',j=j'+1->eff[j']?=some e'->d e'=true)
  {dst:Option Nat} (hk:sl[i]?=dst) (hfr:i≠fr) {x:Value} (hF:i≠eff.getLastD 0-> ∀x,Fb x w'->Fb x w2) (hS:i≠eff.getLastD 0->S w2) (hP:Ph (j+1) (match dst with | some _=>x | none=>iR sl v fr) w2):iH ops sl eff fr Fb val S Ph (bE d i) (cE v dst x) w2:=by
 have MB:=trivial;exact IB
theorem iH.fin (h:iH ops sl eff fr Fb val S Ph d v w') (hd: ∀e∈eff,d e=true):Ph eff.length (qL eff sl fr v eff.length) w':=FC
theorem iH.early (h:iH ops sl eff fr Fb val S Ph d v w') {f i:Nat} (hr:nH ops f (eff.getLastD 0) i=true) (hi:d i=false):S w':=by
 refine h.st ?_;exact dy
end
section
variable {ops:Array Oper}{sl eff:List Nat}{fr:Nat}{Fb:Value->World->Prop}{val:Nat->Value}{S:World->Prop}{Ph:Nat->Value->World->Prop}{d:Nat->Bool}{v:Nat->Value}{w' w2:World}
theorem Jw {j:Nat} (hp:j=0\/ ∃e',eff[j-1]?=some e'/\d e'=true): ∀j' e',j=j'+1->eff[j']?=some e'->d e'=true:=k6
theorem iH.at2 (h:iH ops sl eff fr Fb val S Ph d v w') {j e:Nat} (he:eff[j]?=some e) (hi:d e=false) (hp:j=0\/ ∃e',eff[j-1]?=some e'/\d e'=true):Ph j (qL eff sl fr v j) w':=h.at_ he hi (Jw hp)
theorem iH.eff2 (h:iH ops sl eff fr Fb val S Ph d v w') (hnd:sl.Nodup) (hne:eff.Nodup) {i:Nat} (j:Nat) {o:Oper} (ho:ops[i]?=some o) (hall: ∀e∈o.after,Region.binds .any e=true->d e.on=true) (he:eff[j]?=some i) (hi:d i=false) (hp:j=0\/ ∃e',eff[j-1]?=some e'/\d e'=true)
  {dst:Option Nat} (hk:sl[i]?=dst) (hfr:i≠fr) {x:Value} (hF:i≠eff.getLastD 0-> ∀x,Fb x w'->Fb x w2) (hS:i≠eff.getLastD 0->S w2) (hP:Ph (j+1) (match dst with | some _=>x | none=>iR sl v fr) w2):iH ops sl eff fr Fb val S Ph (bE d i) (cE v dst x) w2:=h.eff_ hnd hne ho hall he hi (Jw hp) hk hfr hF hS hP
end
theorem iH.lastNot {ops:Array Oper}{sl eff:List Nat}{fr:Nat}{Fb:Value->World->Prop}{val:Nat->Value}{S:World->Prop}{Ph:Nat->Value->World->Prop}{d:Nat->Bool}{v:Nat->Value}{w':World} (h:iH ops sl eff fr Fb val S Ph d v w') {f i:Nat} (hr:nH ops f (eff.getLastD 0) i=true) (hi:d i=false):d (eff.getLastD 0)=false:=dy
theorem Af {P:Program}{ops:Array Oper}{Q:Exit->Act->World->Prop}{id:Nat}{a0:Act}{w0:World} (hm:P.follows .mixedOrders=true) (sl eff:List Nat) (fr:Nat) (Fb:Value->World->Prop) (n:Nat) (hn:a0.tmps.size=n) (hback:uK ops=true) (hdst:rK ops sl n=true) (heff:eff.all (λe=>decide (e<ops.size))=true)
  (val:Nat->Value) (S:World->Prop) (Ph:Nat->Value->World->Prop) (h0:S w0.drew) (hP:Ph 0 undef w0.drew)
  (hs: ∀(d:Nat->Bool) (a:Act) (w:World) (i:Nat) (o:Oper),ops[i]?=some o->d i=false->(∀e∈o.after,Region.binds .any e=true->d e.on=true)->(∀k,k ∉ sl->a.tmps.getD k undef=a0.tmps.getD k undef)->iH ops sl eff fr Fb val S Ph d (λk=>a.tmps.getD k undef) w->
   ∀R:Act->World->Prop,(∀x w',iH ops sl eff fr Fb val S Ph (bE d i) (cE (λk=>a.tmps.getD k undef) o.dst x) w'->R (a.put o.dst x) w')->o.wp P a w R Q)
  (hd: ∀(v:Nat->Value) (w:World),(∀i,i<sl.length->i<ops.size->i ∉ eff->i≠fr->iR sl v i=val i)->Ph eff.length (qL eff sl fr v eff.length) w->Q .normal { a0 with tmps:=cU a0.tmps v sl } w):(Code.region id ops true).wp P Q a0 w0:=by
 have OS:=trivial;exact J0
end
section
open Go.RowKit
open Go.Lib hiding intOf
theorem cB {w w':World}{a:Addr}{u:Value} (h:w.cell? a=some u) (hb:aA w w'):w'.cell? a=some u:=by
 rw[hb.cell (World.block_lt_of_cell? w a h)];exact h
theorem gM.mono {B B':Nat}{no:Option Nat}{l:List VT}{v:Value}{w:World} (h:gM B no l v w) (hB:B'<=B):gM B' no l v w:=by
 obtain⟨es,n,c,i⟩:=h;refine⟨es,n,⟨c.1,?_⟩,λe j=>(i e j).mono (λk f _=>⟨bF hB f.1,f.2⟩)⟩;rcases c.2 with m | ⟨g,b,a,e1,e2,e3⟩
 .exact .inl m
 .exact .inr ⟨g,b,a,e1,bF hB e2,e3⟩
structure CS (W:World) (Y:Nat) (k:Int) (s:aB) (ks:List aB) (l:List VT) (kv ov:Value) (w:World):Prop where
 box:w.heap[Y]?=some (.cells #[k,bs s,kv,ov] 36)
 keys:bZ W.heap.size ks kv w
 off:some Y≠kv.ownBlock
 its:gM (Y+1) kv.ownBlock l ov w
 bel:Below W.heap.size W w
 new_:W.heap.size<=Y
theorem bZ.ownLt {B:Nat}{l:List aB}{v:Value}{w:World} (h:bZ B l v w) {k:Nat} (hk:some k=v.ownBlock):k<w.heap.size:=by
 rcases h.2 with⟨rfl,_⟩ | ⟨g,cap,cur,rfl,_,a,_⟩
 .cases hk
 .injection hk with hk;subst hk;exact aG a
theorem CS.cells {W w:World}{Y:Nat}{k:Int}{s:aB}{ks:List aB}{l:List VT}{kv ov:Value} (h:CS W Y k s ks l kv ov w):w.cell? (Y,0)=some (.int .i64 k)/\w.cell? (Y,1)=some (.string (bs s))/\w.cell? (Y,2)=some kv/\w.cell? (Y,3)=some ov/\
  w.frozen? ⟨Y,0,none⟩=false/\w.frozen? ⟨Y,1,none⟩=false/\w.frozen? ⟨Y,2,none⟩=false/\w.frozen? ⟨Y,3,none⟩=false:=by
 have hb:=h.box;exact ox
theorem bZ.keepB {B:Nat}{l:List aB}{v:Value}{w w':World} (h:bZ B l v w) (hk: ∀k,B<=k->some k=v.ownBlock->k<w.heap.size->w'.heap[k]?=w.heap[k]?):bZ B l v w':=by
 refine⟨h.1,?_⟩;rcases h.2 with c | ⟨g,b,a,e1,e2,e3,e4⟩
 .exact .inl c
 .subst e1;exact .inr ⟨g,b,a,rfl,e2,by rw[hk g e2 rfl (aG e3)];exact e3,e4⟩
theorem bZ.slice {B:Nat}{l:List aB}{v:Value}{w:World} (h:bZ B l v w): ∃p c,v= .slice p l.length c:=by
 rcases h.2 with⟨a,b⟩ | ⟨g,cap,cur,rfl,_⟩
 .exact⟨none,0,by rw[a,b]⟩
 .exact⟨_,_,rfl⟩
theorem bZ.mono {B B':Nat}{l:List aB}{v:Value}{w:World} (h:bZ B l v w) (hB:B'<=B):bZ B' l v w:=⟨h.1,by
 rcases h.2 with c | ⟨g,b,a,e1,e2,e3⟩
 .exact .inl c
 .exact .inr ⟨g,b,a,e1,bF hB e2,e3⟩⟩
theorem Jy {B B':Nat}{no:Option Nat}{l:List VT}{ks:List aB}{kv ov:Value}{w:World} (h:bZ B ks kv w) (h2:gM B' no l ov w) {k:Nat} (hk:some k=kv.ownBlock):some k≠ov.ownBlock:=by
 intro e;obtain⟨es,_,F,_⟩:=h2;rcases h.2 with⟨rfl,_⟩ | ⟨g,cap,o,rfl,_,m,_⟩
 .cases hk
 .rcases F.2 with⟨rfl,_⟩ | ⟨g2,cap2,cur2,rfl,_,c,_⟩
  .cases e
  .injection hk with hk;injection e with e;subst hk e;rw[m] at c;exact qj
theorem CS.keep {W w w':World}{Y:Nat}{k:Int}{s:aB}{ks:List aB}{l:List VT}{kv ov:Value} (h:CS W Y k s ks l kv ov w) (hb:aA w w'):CS W Y k s ks l kv ov w':=
 ⟨(hb.block Y (aG h.box)).trans h.box,h.keys.keep hb,h.off,h.its.keep hb,aE h.bel hb,h.new_⟩
theorem CS.start {W w:World} (hb:aA W w) (k:Int) (s:aB):CS W w.heap.size k s [] [] (.slice none 0 0) (.slice none 0 0) (w.alloc (.cells #[k,bs s,(),()] 36)):=
 ⟨heap_alloc_new w _,bZ.nil _ _,(λe=>by cases e),gM.nil _ _ _,aE hb (aL _ _),hb.size⟩
theorem CS.tree {W w:World}{Y:Nat}{k:Int}{s:aB}{ks:List aB}{l:List VT}{kv ov:Value} (h:CS W Y k s ks l kv ov w):gF W.heap.size w (VT.mk k s ks l).depth (VT.mk k s ks l) kv ov:=by
 have hn:=h.new_;exact gM.toVDx (k:=k) (s:=s) (h.keys.toSVx.agree (ok':=λk=>W.heap.size<=k) (λk a _=>⟨rfl,a.1⟩)) (h.its.mono a_)
def fC (W0:World) (Y:Nat) (no:Option Nat) (x:VT) (l:List VT) (ov:Value):Nat->Value->World->Prop
 | 0,_,w'=>Below W0.heap.size W0 w'
 | 1,c,w'=> ∃kv iv,c=vv x kv iv/\gF W0.heap.size w' x.depth x kv iv/\Below W0.heap.size W0 w'
 | 2,c,w'=> ∃w1 kv iv,gF W0.heap.size w1 x.depth x kv iv/\Below W0.heap.size W0 w1/\c= .slice (some ⟨w1.heap.size,0,none⟩) 1 1/\w'=w1.alloc (.cells #[x.kind,bs x.text,kv,iv] 36)
 | 3,c,w'=>gM (Y+1) no (l++ [x]) c w'/\Below (Y+1) W0 w'/\W0.heap.size<=w'.heap.size/\ ∀k,k<W0.heap.size->some k≠ov.ownBlock->w'.heap[k]?=W0.heap[k]?
 | _,_,w'=> ∃c w1,(gM (Y+1) no (l++ [x]) c w1/\Below (Y+1) W0 w1/\W0.heap.size<=w1.heap.size/\ ∀k,k<W0.heap.size->some k≠ov.ownBlock->w1.heap[k]?=W0.heap[k]?)/\w'=w1.setCell ⟨Y,3,none⟩ c
theorem gM.ownLt {B:Nat}{no:Option Nat}{l:List VT}{v:Value}{w:World} (h:gM B no l v w) {k:Nat} (hk:some k=v.ownBlock):B<=k/\k<w.heap.size:=by
 obtain⟨es,_,a,_⟩:=h;rcases a.2 with⟨rfl,_⟩ | ⟨g,cap,cur,rfl,c,b,_⟩
 .cases hk
 .injection hk with hk;subst hk;exact⟨c,aG b⟩
theorem fC.app {o:Oper}{a:Act}{R:Act->World->Prop}{Q:Exit->Act->World->Prop} (s x:Operand)
  (ho:o.op= .call { callee:= .builtin .append,args:= #[s,x],argTypes:= #[34,34] })
  {W W0:World}{Y:Nat}{k:Int}{tx:aB}{ks:List aB}{l:List VT}{kv ov:Value} (h:CS W Y k tx ks l kv ov W0) {t:VT}{c:Value}{w':World} (h2:fC W0 Y kv.ownBlock t l ov 2 c w') (hs:a.eval s=ov) (hx:a.eval x=c) (hl:l.length<=4294967295)
  (hR: ∀v' w2,fC W0 Y kv.ownBlock t l ov 3 v' w2->R (a.put o.dst v') w2):o.wp prog a w' R Q:=by
 obtain⟨w1,g,f,r,u,rfl,rfl⟩:=h2;have hYl:Y<W0.heap.size:=aG h.box;have b:aA W0 (w1.alloc (.cells #[t.kind,bs t.text,g,f] 36)):=aE u (aL _ _);have i: ∀k,some k=ov.ownBlock->k<W0.heap.size:=λk n=>(h.its.ownLt n).2;have j: ∀k,some k=kv.ownBlock->k<W0.heap.size:=λk n=>h.keys.ownLt n;refine Uh s x ho (Y+1) kv.ownBlock _ ov l t g f hs (h.its.keep b) ?_ w1.heap.size e_ (λe=>?_) (heap_alloc_new w1 _) hx a_ (by have:=b.size;omega) (λv' w2 y w A h6=>hR v' w2 ⟨y,?_,?_,λq p m=>?_⟩)
 .have z:=(r.keep (aL w1 (.cells #[t.kind,bs t.text,g,f] 36)));exact z.mono (λq p _=>⟨a_,(λe=>by have:=i q e;omega),λe=>by have:=j q e;omega⟩)
 .have:=i _ e;have:=u.size;omega
 .exact(b.mono a_).trans w
 .exact bF b.size w.size
 .rw[A q (iG p b.size) m,b.block q p]
theorem rM {w:World}{g:Nat}{t:TypeId}{cs:Array Value} (h:w.heap[g]?=some (.cells cs t (0,0))) (i:Nat) (u:Value):(w.setCell ⟨g,i,none⟩ u).heap[g]?=some (.cells (cs.setIfInBounds i u) t (0,0)):=aj
theorem fC.fin {W W0:World}{Y:Nat}{k:Int}{tx:aB}{ks:List aB}{l:List VT}{kv ov:Value} (h:CS W Y k tx ks l kv ov W0) {t:VT}{c:Value}{w':World} (h4:fC W0 Y kv.ownBlock t l ov 4 c w'): ∃ov',CS W Y k tx ks (l++ [t]) kv ov' w':=by
 obtain⟨c,w1,⟨r,i,h3,s⟩,rfl⟩:=h4;have hYl:Y<W0.heap.size:=aG h.box;have a: ∀q,q≠Y->(w1.setCell ⟨Y,3,none⟩ c).heap[q]?=w1.heap[q]?:=λq f=>eW w1 ⟨Y,3,none⟩ c q f;have g:(w1.setCell ⟨Y,3,none⟩ c).heap.size=w1.heap.size:=by simp[World.setCell]
 refine⟨c,?_,?_,h.off,?_,?_,h.new_⟩
 .have m:w1.heap[Y]?=some (.cells #[k,bs tx,kv,ov] 36):=by
   rw[i.block Y a_];exact h.box
  exact rM m 3 c
 .refine h.keys.keepB (λq f j b=>?_);rw[a q (λe=>h.off (by rw[<-e];exact j)),s q b (Jy h.keys h.its j)]
 .exact r.keepX (by rw[g];exact aF _) (λq f _=>a q a_)
 .have n:=h.new_;have o:Below W.heap.size W0 w1:=i.mono a_;exact(h.bel.trans o).setCell (p:=⟨Y,3,none⟩) (by show W.heap.size<=Y;exact n) c
def lH (W W0:World) (Y:Nat) (key:aB) (ks:List aB) (kv:Value):Nat->Value->World->Prop
 | 0,_,w'=>Below W0.heap.size W0 w'
 | 1,c,w'=>c= .string (bs key)/\Below W0.heap.size W0 w'
 | 2,c,w'=> ∃w1,Below W0.heap.size W0 w1/\c= .slice (some ⟨w1.heap.size,0,none⟩) 1 1/\w'=w1.alloc (.cells #[bs key] 9)
 | 3,c,w'=>bZ W.heap.size (ks++ [key]) c w'/\Below W.heap.size W0 w'/\W0.heap.size<=w'.heap.size/\(∀k,k<W0.heap.size->some k≠kv.ownBlock->w'.heap[k]?=W0.heap[k]?)/\ ∀k,some k=c.ownBlock->some k=kv.ownBlock\/W0.heap.size<=k
 | _,_,w'=> ∃c w1,(bZ W.heap.size (ks++ [key]) c w1/\Below W.heap.size W0 w1/\W0.heap.size<=w1.heap.size/\(∀k,k<W0.heap.size->some k≠kv.ownBlock->w1.heap[k]?=W0.heap[k]?)/\ ∀k,some k=c.ownBlock->some k=kv.ownBlock\/W0.heap.size<=k)/\w'=w1.setCell ⟨Y,2,none⟩ c
theorem lH.app {o:Oper}{a:Act}{R:Act->World->Prop}{Q:Exit->Act->World->Prop} (s x:Operand)
  (ho:o.op= .call { callee:= .builtin .append,args:= #[s,x],argTypes:= #[33,33] })
  {W W0:World}{Y:Nat}{k:Int}{tx:aB}{ks:List aB}{l:List VT}{kv ov:Value} (h:CS W Y k tx ks l kv ov W0) {key:aB}{c:Value}{w':World} (h2:lH W W0 Y key ks kv 2 c w') (hs:a.eval s=kv) (hx:a.eval x=c) (hl:ks.length<=4294967295)
  (hR: ∀v' w2,lH W W0 Y key ks kv 3 v' w2->R (a.put o.dst v') w2):o.wp prog a w' R Q:=by
 obtain⟨w1,t,rfl,rfl⟩:=h2;have b:aA W0 (w1.alloc (.cells #[bs key] 9)):=aE t (aL _ _);have m:SV (w1.alloc (.cells #[bs key] 9)) (.slice (some ⟨w1.heap.size,0,none⟩) 1 1) [key]:=⟨_,1,rfl,aF _, .inr ⟨w1.heap.size,0,rfl,e_,λj y i=>by have n:=(aW.1 i).1;simp at n;subst n;simp at i;subst i;rw[Nat.zero_add,World.cell?_alloc_new];rfl⟩⟩;refine Jq s x ho W.heap.size _ kv ks [key] hs (h.keys.keep b) _ hx m h_ (bF h.bel.size b.size) (λv' w2 r p u f=>hR v' w2 ⟨r,(b.mono h.bel.size).trans p,bF b.size p.size,λq e g=>?_,λq e=>?_⟩)
 .rw[u q (iG e b.size) g,b.block q e]
 .rcases f with f | f
  .exact .inl (by rw[e,f])
  .rw[f] at e;injection e with e;subst e;exact .inr b.size
theorem lH.fin {W W0:World}{Y:Nat}{k:Int}{tx:aB}{ks:List aB}{l:List VT}{kv ov:Value} (h:CS W Y k tx ks l kv ov W0) {key:aB}{c:Value}{w':World} (h4:lH W W0 Y key ks kv 4 c w'): ∃kv',CS W Y k tx (ks++ [key]) l kv' ov w':=by
 obtain⟨c,w1,⟨u,r,h3,j,o⟩,rfl⟩:=h4;have f:Y<W0.heap.size:=aG h.box;have a: ∀q,q≠Y->(w1.setCell ⟨Y,2,none⟩ c).heap[q]?=w1.heap[q]?:=λq n=>eW w1 ⟨Y,2,none⟩ c q n;have b:some Y≠c.ownBlock:=λe=>by
  rcases o Y e with e2 | e2
  .exact h.off e2
  .omega
 refine⟨c,?_,?_,b,?_,?_,h.new_⟩
 .have s:w1.heap[Y]?=some (.cells #[k,bs tx,kv,ov] 36):=by
   rw[j Y f h.off];exact h.box
  exact rM s 2 c
 .exact u.keepB (λq n t hlt=>a q (λe=>b (by rw[<-e];exact t)))
 .obtain⟨es,g1,g2,g3⟩:=h.its;refine⟨es,g1,⟨g2.1,?_⟩,λe w=>(g3 e w).agree (λq ok lt=>⟨by rw[a q (by have:=ok.1;omega),j q lt ok.2.2],ok.1,ok.2.1,λe2=>?_⟩)⟩
  .rcases g2.2 with g4 | ⟨g,i,m,e1,e2,e3,e4⟩
   .exact .inl g4
   .subst e1;refine .inr ⟨g,i,m,rfl,e2,?_,e4⟩;rw[a g a_,j g (aG e3) (λe=>(Jy h.keys h.its e) rfl)];exact e3
  .rcases o q e2 with e3 | e3
   .exact ok.2.2 e3
   .omega
 .exact(h.bel.trans r).setCell (p:=⟨Y,2,none⟩) (by show W.heap.size<=Y;exact h.new_) c
end
section
open Go.RowKit Go.Maps Go.WideMaps
def tB:List aC->DataW Unit
 | []=> .map []
 | k::l=>(tB l).put (.string k) (.lit (.bool true))
theorem Jz: ∀l,IsMap (tB l)
 | []=>isMap_empty
 | k::l=>(Jz l).put _ _
theorem Ka (k:aC): ∀l,(tB l).atKey (.string k) (.lit (.bool false))= .lit (.bool (decide (k∈l)))
 | []=>rfl
 | x::l=>by
  unfold tB;by_cases h:k=x
  .subst h;rw[atKey_put_same (Jz l) (show WideAt.IsKeyLit (.string k) from trivial),aQ kR]
  .rw[atKey_put_other (λe=>h (by injection e)),Ka k l];congr 2;rw[decide_eq_decide];exact⟨λh1=>List.mem_cons_of_mem _ h1,λh1=>(fT.1 h1).resolve_left h⟩
def HM (b:Nat) (had:List aC) (w:World):Prop:=w.ownsMap prog 9 (plainElem prog 4) b had.length (tB had)
theorem Dx:Keyed prog 9:=string_keyed underlying9
theorem Uj (w:World):(zeroValue 4).run prog w= .ok (.bool false) w:=d'
theorem HM.look {b:Nat}{had:List aC}{w:World} (h:HM b had w) (k:aC) (hk:k.length<=1073741824):(Instr.lookup 124 (.map (some b)) (.string (bs k)) false).run prog w= .ok (.bool (decide (k∈had))) w:=by
 have e:keyOf prog 9 (.string (bs k))=some (.string k):=by
  have:=keyOf_string_mk (P:=prog) underlying9 (s:=bs k) GW;rw[aY] at this;exact this
 obtain⟨v,ps,a,c⟩:=World.ownsMap.lookup h Dx underlying124 (Uj w) (plainElem_bool underlying4 false) e;rw[Ka] at c;have f:v= .bool (decide (k∈had)):=by
  unfold plainElem at c;rw[show prog.underlying 4=some .bool from underlying4] at c;cases v<;>simp at c;rw[c.1]
 rw[a,f]
theorem HM.lt {b:Nat}{had:List aC}{w:World} (h:HM b had w):b<w.heap.size:=World.ownsMap.lt h
theorem HM.obj {b:Nat}{had:List aC}{w:World} (h:HM b had w): ∃es c,w.heap[b]?=some (.map es c):=by
 obtain⟨es,c,a,_⟩:=h;exact⟨es,c,a⟩
theorem HM.same {b:Nat}{had:List aC}{w w':World} (h:HM b had w) (hs:w'.heap[b]?=w.heap[b]?):HM b had w':=by
 obtain⟨es,c,a,f,e,g⟩:=h;exact⟨es,c,hs.trans a,f,e,g⟩
end
end Go.Proofs.YtfhjncbdgjlcoaaGreatDoor
