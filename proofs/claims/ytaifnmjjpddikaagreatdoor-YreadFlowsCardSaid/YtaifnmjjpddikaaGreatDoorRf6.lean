import Derived.Test.YtaifnmjjpddikaaGreatDoorRf4
import Derived.Test.YtaifnmjjpddikaaGreatDoorRf5
import Derived.Deep.AppendLies
import Derived.Deep.Upon
import Derived.Test.YtaifnmjjpddikaaGreatDoorRf1
import Derived.Maps.Own
import Derived.Maps.OwnOps
import Derived.Maps.Views
namespace Go.Proofs.YtaifnmjjpddikaaGreatDoor
set_option linter.unusedVariables false
set_option linter.unusedSimpArgs false
section
open Go.RowKit
open Go.Lib hiding intOf
def pT (ok:Nat->Prop) (w:World) (v:Value) (l:List aA):Prop:= ∃p c,v= .slice p l.length c/\l.length<=c/\(l= []\/ ∃g o,p=some ⟨g,o,none⟩/\ok g/\(∃cur,w.heap[g]?=some (.cells cur 9))/\ ∀(j:Nat) (x:aA),l[j]?=some x->w.cell? ⟨g,o+j,none⟩=some (.string (bs x)))
def dK (ok:Nat->Prop) (w:World):Nat->VT->Value->Value->Prop
 | 0,_,_,_=>False
 | n+1,t,kv,iv=>pT ok w kv t.keys/\ ∃p c,iv= .slice p t.items.length c/\t.items.length<=c/\(t.items= []\/ ∃g o,p=some ⟨g,o,none⟩/\ok g/\(∃cur,w.heap[g]?=some (.cells cur 26))/\ ∀(j:Nat) (x:VT),t.items[j]?=some x-> ∃kv' iv',w.cell? ⟨g,o+j*4,none⟩=some (.int .i64 x.kind)/\w.cell? ⟨g,o+j*4+1,none⟩=some (.string (bs x.text))/\w.cell? ⟨g,o+j*4+2,none⟩=some kv'/\w.cell? ⟨g,o+j*4+3,none⟩=some iv'/\dK ok w n x kv' iv')
theorem pT.toSV {ok:Nat->Prop}{w:World}{v:Value}{l:List aA} (h:pT ok w v l):SV w v l:=by
 obtain⟨p,c,h1,h2,h3⟩:=h;refine⟨p,c,h1,h2,?_⟩;rcases h3 with h3 | ⟨g,o,e1,e2,⟨cur,e3⟩,e4⟩
 ·exact .inl h3
 ·exact .inr ⟨g,o,e1,aF e3,e4⟩
theorem dK.toVD {ok:Nat->Prop}{w:World}: ∀ {n:Nat}{t:VT}{kv iv:Value},dK ok w n t kv iv->VD w n t kv iv
 | 0,_,_,_,h=>h
 | n+1,t,kv,iv,h=>by
  obtain⟨h1,p,c,h2,h3,h4⟩:=h;refine⟨h1.toSV,p,c,h2,h3,?_⟩;rcases h4 with h4 | ⟨g,o,e1,e2,⟨cur,e3⟩,e4⟩
  ·exact .inl h4
  ·refine .inr ⟨g,o,e1,aF e3,λj x hx=>?_⟩;obtain⟨kv',iv',a0,a1,a2,a3,a4⟩:=e4 j x hx;exact⟨kv',iv',a0,a1,a2,a3,dK.toVD a4⟩
theorem pT.agree {ok ok':Nat->Prop}{w w':World} (hk: ∀k,ok k->k<w.heap.size->w'.heap[k]?=w.heap[k]?/\ok' k) {v:Value}{l:List aA} (h:pT ok w v l):pT ok' w' v l:=by
 obtain⟨p,c,h1,h2,h3⟩:=h;refine⟨p,c,h1,h2,?_⟩;rcases h3 with h3 | ⟨g,o,e1,e2,⟨cur,e3⟩,e4⟩
 ·exact .inl h3
 ·obtain⟨a1,a2⟩:=hk g e2 (aF e3);exact .inr ⟨g,o,e1,a2,⟨cur,by rw[a1];exact e3⟩,λj x hx=>by rw[fX a1];exact e4 j x hx⟩
theorem dK.agree {ok ok':Nat->Prop}{w w':World} (hk: ∀k,ok k->k<w.heap.size->w'.heap[k]?=w.heap[k]?/\ok' k): ∀ {n:Nat}{t:VT}{kv iv:Value},dK ok w n t kv iv->dK ok' w' n t kv iv
 | 0,_,_,_,h=>h
 | n+1,t,kv,iv,h=>by
  obtain⟨h1,p,c,h2,h3,h4⟩:=h;refine⟨h1.agree hk,p,c,h2,h3,?_⟩;rcases h4 with h4 | ⟨g,o,e1,e2,⟨cur,e3⟩,e4⟩
  ·exact .inl h4
  ·obtain⟨a1,a2⟩:=hk g e2 (aF e3);refine .inr ⟨g,o,e1,a2,⟨cur,by rw[a1];exact e3⟩,λj x hx=>?_⟩;obtain⟨kv',iv',b0,b1,b2,b3,b4⟩:=e4 j x hx;exact⟨kv',iv',by rw[fX a1];exact b0,by rw[fX a1];exact b1,by rw[fX a1];exact b2,by rw[fX a1];exact b3,dK.agree hk b4⟩
theorem dK.keep {ok:Nat->Prop}{w w':World} (hb:Below w.heap.size w w') {n:Nat}{t:VT}{kv iv:Value} (h:dK ok w n t kv iv):dK ok w' n t kv iv:=h.agree (λk h1 h2=>⟨hb.block k h2,h1⟩)
theorem dK.mono {ok ok':Nat->Prop}{w:World}{n:Nat}{t:VT}{kv iv:Value} (h:dK ok w n t kv iv) (hk: ∀k,ok k->k<w.heap.size->ok' k):dK ok' w n t kv iv:=h.agree (λk h1 h2=>⟨rfl,hk k h1 h2⟩)
theorem dK.more {ok:Nat->Prop}{w:World}: ∀ {n:Nat}{t:VT}{kv iv:Value},dK ok w n t kv iv-> ∀m,dK ok w (n+m) t kv iv
 | 0,_,_,_,h,_=>h.elim
 | n+1,t,kv,iv,h,m=>by
  obtain⟨h1,p,c,h2,h3,h4⟩:=h;rw[Nat.add_right_comm];refine⟨h1,p,c,h2,h3,?_⟩;rcases h4 with h4 | ⟨g,o,h4,h5,h6,h7⟩
  ·exact .inl h4
  ·refine .inr ⟨g,o,h4,h5,h6,λj x hx=>?_⟩;obtain⟨kv',iv',e0,e1,e2,e3,e4⟩:=h7 j x hx;exact⟨kv',iv',e0,e1,e2,e3,dK.more e4 m⟩
theorem dK.form {ok:Nat->Prop}{w:World}{n:Nat}{t:VT}{kv iv:Value} (h:dK ok w n t kv iv): ∃pk ck p c,kv= .slice pk t.keys.length ck/\iv= .slice p t.items.length c:=h.toVD.form
abbrev eU (B:Nat) (w:World) (n:Nat) (t:VT) (kv iv:Value):Prop:=dK (λk=>B<=k) w n t kv iv
theorem Tryz.infoString:(Tryz.prog.info? 9).map (λi=>(i.zero,i.size,i.bytes))=some (some (.string ⟨#[]⟩),1,16):=by kernel_rfl
theorem Tryz.infoValue:(Tryz.prog.info? 26).map (λi=>(i.zero,i.size,i.bytes))=some (some (.agg #[.int .i64 0, .string ⟨#[]⟩, .slice none 0 0, .slice none 0 0]),4,72):=by kernel_rfl
def gT (l:List aA):List Value:=l.map λx=>Value.string (bs x)
def bV (B:Nat) (l:List aA) (v:Value) (w:World):Prop:=w.ownsRow B 9 1 v l.length (gT l)
theorem Ro (l:List aA): ∀u∈gT l,u.oneCell'=true:=by
 intro u hu;unfold gT at hu;obtain⟨x,_,rfl⟩:=qS.1 hu;rfl
theorem nW (g o j:Nat):((⟨g,o,none⟩:Addr).add j)=⟨g,o+j,none⟩:=by unfold Addr.add;split<;>simp_all
theorem bV.toSVx {B:Nat}{l:List aA}{v:Value}{w:World} (h:bV B l v w):pT (λk=>B<=k/\some k=v.ownBlock) w v l:=by
 have h0:=h;rcases h.2 with⟨h1,h2⟩ | ⟨g,cap,cur,rfl,hb,hg,hn,_⟩
 ·exact⟨none,0,by rw[h1,h2],by omega, .inl (List.length_eq_zero_iff.1 h2)⟩
 ·refine⟨_,cap,rfl,hn, .inr ⟨g,0,rfl,⟨hb,rfl⟩,⟨cur,hg⟩,λj x hx=>?_⟩⟩;have hc:=World.ownsRow.cells h0 (g:=g) rfl j (.string (bs x)) (by unfold gT;rw[cU,hx];rfl);rw[nW] at hc;exact hc
theorem bV.nil (B:Nat) (w:World):bV B [] (.slice none 0 0) w:=⟨rfl, .inl ⟨rfl,rfl⟩⟩
theorem Aq {P:Program}{o:Oper}{a:Act}{K:Act->World->Prop}{Q:Exit->Act->World->Prop} (s x:Operand) (t:TypeId)
  (ho:o.op= .call { callee:= .builtin .append,args:= #[s,x],argTypes:= #[t,t] })
  (B:Nat) (e:TypeId) (i:TypeInfo) (z:Value) (size bytes:Nat) (ht:P.underlying t=some (.slice e)) (hi:P.info? e=some i) (hz:i.zero=some z)
  (hsize:i.size=size) (hby:i.bytes=bytes) (hzs:z.cells.size=size) (hsz:0<size)
  (w:World) (v:Value) (n:Nat) (xs:List Value) (hs:a.eval s=v) (hown:w.ownsRow B e size v n xs)
  (p:Option Addr) (m c:Nat) (news:List Value) (hx:a.eval x= .slice p m c)
  (hl:(m=0/\news= [])\/ ∃ad,p=some ad/\0<m/\news.length=m*size/\(∀j u,news[j]?=some u->w.cell? (ad.add j)=some u)/\ ∀u∈news,u.oneCell'=true)
  (h63:n+m<=maxLen) (hbytes:(n+m)*bytes<=140737488355328) (hB:B<=w.heap.size)
  (h: ∀v' w',w'.ownsRow B e size v' (n+m) (xs++news)->Below B w w'->(∀k,k<w.heap.size->some k≠v.ownBlock->w'.heap[k]?=w.heap[k]?)->(v'.ownBlock=v.ownBlock\/v'.ownBlock=some w.heap.size)->K (a.put o.dst v') w'):o.wp P a w K Q:=by
 rcases hl with⟨rfl,rfl⟩ | ⟨ad,rfl,hm,hln,hc,h1⟩
 ·have hv: ∃base cap,v= .slice base n cap/\n<=cap:=by
   rcases hown.2 with⟨h1,h2⟩ | ⟨g,cap,cur,h1,_,_,h2,_⟩
   ·exact⟨none,0,by rw[h1,h2],by omega⟩
   ·exact⟨_,_,h1,h2⟩
  obtain⟨base,cap,rfl,hle⟩:=hv;have hsrc:Src P i.size t (.slice p 0 c) 0 [] w:=by
   cases p with
   | none=>exact Src.ofNil w ht c
   | some ad=>exact Src.ofSlice w ht ad 0 c [] (by simp) (λj u hj=>by simp at hj) (λu hu=>by cases hu)
  have hrun:=run_append_nothing (P:=P) w t t o.type e i ht hi base n cap hle (.slice p 0 c) hsrc;unfold Oper.wp;simp[execOp,ho,resolve,invoke,builtin,hs,hx,hrun,Result.andThen];refine h _ w (by simpa using hown) (aB _ _) (λk _ _=>rfl) (.inl rfl)
 ·refine wp_append_lies w s x t ho B e i z size bytes ht hi hz hsize hby hzs hsz v n xs hs hown ad m c news hx hln hc h1 hm h63 hbytes hB w.heap.size rfl ?_;intro g cap w' h2 h3 h4 h5;refine h _ w' h2 ((aB B w).grown h3 hB (λk hk=>(World.ownsRow.lt hown k hk).1)) (λk hk hne=>h3.block k hk hne) ?_;rcases h4 with h4 | h4
  ·exact .inl h4.symm
  ·exact .inr (by rw[h4];rfl)
theorem Rp {o:Oper}{a:Act}{K:Act->World->Prop}{Q:Exit->Act->World->Prop} (s x:Operand)
  (ho:o.op= .call { callee:= .builtin .append,args:= #[s,x],argTypes:= #[23,23] })
  (B:Nat) (w:World) (v:Value) (acc l:List aA) (hs:a.eval s=v) (hown:bV B acc v w) (xv:Value) (hx:a.eval x=xv) (hp:SV w xv l)
  (hl:acc.length+l.length<=4294967296) (hB:B<=w.heap.size)
  (h: ∀v' w',bV B (acc++l) v' w'->Below B w w'->(∀k,k<w.heap.size->some k≠v.ownBlock->w'.heap[k]?=w.heap[k]?)->(v'.ownBlock=v.ownBlock\/v'.ownBlock=some w.heap.size)->K (a.put o.dst v') w'):o.wp Tryz.prog a w K Q:=by
 obtain⟨i0,hi0,hz0,hz1,hz2⟩:=info_parts Tryz.infoString;obtain⟨p,c,rfl,hc,hp⟩:=hp;refine Aq s x 23 ho B 9 i0 _ 1 16 Tryz.underlying23 hi0 hz0 hz1 hz2 rfl (by decide) w v acc.length (gT acc) hs hown p l.length c (gT l) hx ?_ (by unfold maxLen;omega) (by omega) hB (λv' w' h2 h3 h4 h5=>h v' w' ?_ h3 h4 h5)
 ·rcases hp with rfl | ⟨g,o,rfl,_,hat⟩
  ·exact .inl ⟨rfl,rfl⟩
  ·cases l with
   | nil=>exact .inl ⟨rfl,rfl⟩
   | cons y l=>
    refine .inr ⟨_,rfl,by simp,by unfold gT;simp,λj u hj=>?_,Ro _⟩;unfold gT at hj;rw[cU] at hj;obtain⟨k,hk,rfl⟩:=rT.1 hj;rw[nW,hat j k hk]
 ·unfold bV;have e:gT (acc++l)=gT acc++gT l:=by unfold gT;simp
  rw[e,aS];exact h2
abbrev jH:=VT×Value×Value
def kZ (l:List jH):List Value:=l.flatMap λx=> [.int .i64 x.1.kind, .string (bs x.1.text),x.2.1,x.2.2]
theorem Ar (x:jH) (l:List jH):kZ (x::l)= .int .i64 x.1.kind:: .string (bs x.1.text)::x.2.1::x.2.2::kZ l:=rfl
theorem xQ: ∀(l:List jH) (j:Nat) (x:jH),l[j]?=some x->(kZ l)[j*4]?=some (.int .i64 x.1.kind)/\(kZ l)[j*4+1]?=some (.string (bs x.1.text))/\(kZ l)[j*4+2]?=some x.2.1/\(kZ l)[j*4+3]?=some x.2.2
 | [],j,x,h=>by simp at h
 | y::l,0,x,h=>by
  obtain rfl:y=x:=by simpa using h
  rw[Ar];exact⟨rfl,rfl,rfl,rfl⟩
 | y::l,j+1,x,h=>by
  rw[cD] at h;have:=xQ l j x h;rw[Ar,show (j+1)*4=j*4+4 by omega];exact this
def fD (B:Nat) (no:Option Nat) (l:List VT) (v:Value) (w:World):Prop:= ∃es:List jH,es.map (·.1)=l/\w.ownsRow B 26 4 v l.length (kZ es)/\ ∀e∈es,dK (λk=>B<=k/\some k≠v.ownBlock/\some k≠no) w e.1.depth e.1 e.2.1 e.2.2
theorem fD.nil (B:Nat) (no:Option Nat) (w:World):fD B no [] (.slice none 0 0) w:=⟨[],rfl,⟨rfl, .inl ⟨rfl,rfl⟩⟩,λ_ h=>by cases h⟩
theorem fD.slice {B:Nat}{no:Option Nat}{l:List VT}{v:Value}{w:World} (h:fD B no l v w): ∃p c,v= .slice p l.length c:=by
 obtain⟨es,h1,h2,h3⟩:=h;rcases h2.2 with⟨a,b⟩ | ⟨g,cap,cur,rfl,_⟩
 ·exact⟨none,0,by rw[a,b]⟩
 ·exact⟨_,_,rfl⟩
theorem Gz {l:List VT}{x:VT} (h:x∈l): ∃m,dI l=x.depth+m:=⟨dI l-x.depth,by have:=Gr h;omega⟩
theorem fD.toVDx {B:Nat}{no:Option Nat}{k:Int}{s:aA}{ks:List aA}{l:List VT}{kv iv:Value}{w:World} (hk:pT (λk=>B<=k) w kv ks) (h:fD B no l iv w):eU B w (VT.mk k s ks l).depth (VT.mk k s ks l) kv iv:=by
 obtain⟨es,rfl,h2,h3⟩:=h;rw[VT.depth];refine⟨hk,?_⟩;have h0:=h2;rcases h2.2 with⟨h4,h5⟩ | ⟨g,cap,cur,rfl,hb,hg,hn,_⟩
 ·refine⟨none,0,by rw[h4];exact congrArg (λx=>Value.slice none x 0) h5.symm,by show (es.map (·.1)).length<=0;omega, .inl (List.length_eq_zero_iff.1 h5)⟩
 ·refine⟨_,cap,rfl,hn, .inr ⟨g,0,rfl,hb,⟨cur,hg⟩,λj x hx=>?_⟩⟩;change (es.map (·.1))[j]?=some x at hx;rw[cU] at hx;obtain⟨e,he,rfl⟩:=rT.1 hx;obtain⟨a0,a1,a2,a3⟩:=xQ es j e he;have hc:=World.ownsRow.cells h0 (g:=g) rfl;have hm:=aX he;obtain⟨m,hm2⟩:=Gz (l:=es.map (·.1)) (qS.2 ⟨e,hm,rfl⟩);refine⟨e.2.1,e.2.2,?_,?_,?_,?_,?_⟩
  ·have:=hc _ _ a0;rw[nW] at this;exact this
  ·have:=hc _ _ a1;rw[nW] at this;exact this
  ·have:=hc _ _ a2;rw[nW] at this;exact this
  ·have:=hc _ _ a3;rw[nW] at this;exact this
  ·show dK _ w (dI (es.map (·.1))) e.1 e.2.1 e.2.2;rw[hm2];exact((h3 e hm).mono (λk hk _=>hk.1)).more m
theorem dK.one {ok:Nat->Prop}{w:World}{n:Nat}{t:VT}{kv iv:Value} (h:dK ok w n t kv iv): ∀u∈([.int .i64 t.kind, .string (bs t.text),kv,iv]:List Value),u.oneCell'=true:=by
 obtain⟨pk,ck,p,c,rfl,rfl⟩:=h.form;intro u hu;simp only[dN,List.not_mem_nil,or_false] at hu;rcases hu with rfl|rfl|rfl|rfl<;>rfl
theorem fD.keepX {B:Nat}{no:Option Nat}{l:List VT}{v:Value}{w w':World} (h:fD B no l v w) (hs:w.heap.size<=w'.heap.size) (hk: ∀k,B<=k->k<w.heap.size->w'.heap[k]?=w.heap[k]?):fD B no l v w':=by
 obtain⟨es,h1,h2,h3⟩:=h;refine⟨es,h1,⟨h2.1,?_⟩,λe he=>(h3 e he).agree (λk ok lt=>⟨hk k ok.1 lt,ok⟩)⟩;rcases h2.2 with h4 | ⟨g,cap,cur,e1,e2,e3,e4⟩
 ·exact .inl h4
 ·exact .inr ⟨g,cap,cur,e1,e2,by rw[hk g e2 (aF e3)];exact e3,e4⟩
theorem fD.keep {B:Nat}{no:Option Nat}{l:List VT}{v:Value}{w w':World} (h:fD B no l v w) (hb:Below w.heap.size w w'):fD B no l v w':=h.keepX hb.size (λk _ lt=>hb.block k lt)
theorem bV.keepX {B:Nat}{l:List aA}{v:Value}{w w':World} (h:bV B l v w) (hk: ∀k,B<=k->k<w.heap.size->w'.heap[k]?=w.heap[k]?):bV B l v w':=by
 refine⟨h.1,?_⟩;rcases h.2 with h4 | ⟨g,cap,cur,e1,e2,e3,e4⟩
 ·exact .inl h4
 ·exact .inr ⟨g,cap,cur,e1,e2,by rw[hk g e2 (aF e3)];exact e3,e4⟩
theorem bV.keep {B:Nat}{l:List aA}{v:Value}{w w':World} (h:bV B l v w) (hb:Below w.heap.size w w'):bV B l v w':=h.keepX (λk _ lt=>hb.block k lt)
theorem Rq {o:Oper}{a:Act}{K:Act->World->Prop}{Q:Exit->Act->World->Prop} (s x:Operand)
  (ho:o.op= .call { callee:= .builtin .append,args:= #[s,x],argTypes:= #[24,24] })
  (B:Nat) (no:Option Nat) (w:World) (v:Value) (acc:List VT) (t:VT) (kv iv:Value) (hs:a.eval s=v) (hown:fD B no acc v w)
  (ht:dK (λk=>B<=k/\some k≠v.ownBlock/\some k≠no) w t.depth t kv iv) (X:Nat) (hX:X<w.heap.size) (hXv:some X≠v.ownBlock) (hXo:w.heap[X]?=some (.cells #[.int .i64 t.kind, .string (bs t.text),kv,iv] 26)) (hx:a.eval x= .slice (some ⟨X,0,none⟩) 1 1)
  (hl:acc.length+1<=4294967296) (hB:B<=w.heap.size)
  (h: ∀v' w',fD B no (acc++ [t]) v' w'->Below B w w'->(∀k,k<w.heap.size->some k≠v.ownBlock->w'.heap[k]?=w.heap[k]?)->(v'.ownBlock=v.ownBlock\/v'.ownBlock=some w.heap.size)->K (a.put o.dst v') w'):o.wp Tryz.prog a w K Q:=by
 obtain⟨i0,hi0,hz0,hz1,hz2⟩:=info_parts Tryz.infoValue;obtain⟨es,h1,h2,h3⟩:=hown;have hc: ∀j u,([.int .i64 t.kind, .string (bs t.text),kv,iv]:List Value)[j]?=some u->w.cell? ((⟨X,0,none⟩:Addr).add j)=some u:=by
  intro j u hj;rw[nW];have hlt:=(aQ.1 hj).1;have h4:j=0\/j=1\/j=2\/j=3:=by simp at hlt;omega
  rcases h4 with rfl|rfl|rfl|rfl<;> · simp at hj;subst hj;simp[World.cell?,hXo]
 refine Aq s x 24 ho B 26 i0 _ 4 72 Tryz.underlying24 hi0 hz0 hz1 hz2 rfl (by decide) w v acc.length (kZ es) hs h2 _ 1 1 _ hx (.inr ⟨_,rfl,by decide,rfl,hc,ht.one⟩) (by unfold maxLen;omega) (by omega) hB (λv' w' g1 g2 g3 g4=>h v' w' ?_ g2 g3 g4);have hag: ∀ {n:Nat}{t:VT}{kv iv:Value},dK (λk=>B<=k/\some k≠v.ownBlock/\some k≠no) w n t kv iv->dK (λk=>B<=k/\some k≠v'.ownBlock/\some k≠no) w' n t kv iv:=λhh=>hh.agree (λk ok lt=>⟨g3 k lt ok.2.1,ok.1,λe=>by
  rcases g4 with g4 | g4
  ·rw[g4] at e;exact ok.2.1 e
  ·rw[g4] at e;injection e with e;omega,ok.2.2⟩)
 refine⟨es++ [(t,kv,iv)],by simp[h1],?_,λe he=>?_⟩
 ·have e1:kZ (es++ [(t,kv,iv)])=kZ es++ [.int .i64 t.kind, .string (bs t.text),kv,iv]:=by unfold kZ;simp
  rw[e1,aS];exact g1
 ·rcases pP.1 he with he | he
  ·exact hag (h3 e he)
  ·obtain rfl:e=(t,kv,iv):=(by simpa using he);exact hag ht
end
section
open Go.RowKit
def nX (ops:Array Oper):Nat->Nat->Nat->Bool
 | 0,a,b=>a==b
 | f+1,a,b=>a==b||(match ops[a]? with
  | some o=>o.after.toList.any (λe=>Region.binds .any e&&nX ops f e.on b)
  | none=>false)
def nY (ops:Array Oper) (d:Nat->Bool):Prop:= ∀i o,ops[i]?=some o->d i=true-> ∀e∈o.after,Region.binds .any e=true->d e.on=true
theorem nY.reach {ops:Array Oper}{d:Nat->Bool} (h:nY ops d): ∀(f a b:Nat),nX ops f a b=true->d a=true->d b=true
 | 0,a,b,hr,hd=>by
  have e:a=b:=by simpa [nX] using hr
  rw[<-e];exact hd
 | f+1,a,b,hr,hd=>by
  rw[nX,Bool.or_eq_true] at hr;rcases hr with e | hr
  ·have e:a=b:=(by simpa using e);rw[<-e];exact hd
  ·split at hr
   ·rename_i o ho;obtain⟨e,he,h2⟩:=List.any_eq_true.1 hr;rw[fB] at h2;exact h.reach f _ _ h2.2 (h a o ho hd e (Array.mem_toList_iff.1 he) h2.1)
   ·cases hr
theorem nZ {d:Nat->Bool}{i:Nat}:bI d i i=true:=by unfold bI;rw[if_pos rfl]
theorem bM {d:Nat->Bool}{i j:Nat} (h:j≠i):bI d i j=d j:=by unfold bI;rw[if_neg h]
theorem Ha {d:Nat->Bool}{i j:Nat} (h:d j=true):bI d i j=true:=by unfold bI;split<;>simp_all
theorem nY.step {ops:Array Oper}{d:Nat->Bool} (h:nY ops d) {i:Nat}{o:Oper} (ho:ops[i]?=some o) (hall: ∀e∈o.after,Region.binds .any e=true->d e.on=true):nY ops (bI d i):=by
 intro j o' ho' hd e he hb;by_cases hj:j=i
 ·subst hj;rw[ho] at ho';injection ho' with ho';subst ho';exact Ha (hall e he hb)
 ·rw[bM hj] at hd;exact Ha (h j o' ho' hd e he hb)
def fY (sl:List Nat) (v:Nat->Value) (e:Nat):Value:=match sl[e]? with
 | some k=>v k
 | none=>undef
def oA (eff sl:List Nat) (fr:Nat) (v:Nat->Value):Nat->Value
 | 0=>undef
 | k+1=>match eff[k]? with
  | some e=>match sl[e]? with
   | some _=>fY sl v e
   | none=>fY sl v fr
  | none=>undef
theorem vJ (eff sl:List Nat) (fr:Nat) (v:Nat->Value) (k:Nat):oA eff sl fr v (k+1)=match eff[k]? with
  | some e=>match sl[e]? with
   | some _=>fY sl v e
   | none=>fY sl v fr
  | none=>undef:=rfl
theorem Hb {l:List Nat} (h:l.Nodup) {i j a:Nat} (hi:l[i]?=some a) (hj:l[j]?=some a):i=j:=by
 obtain⟨h1,h2⟩:=aQ.1 hi;obtain⟨h3,h4⟩:=aQ.1 hj;have hp:=List.pairwise_iff_getElem.1 h;rcases Nat.lt_trichotomy i j with hlt | heq | hgt
 ·exact absurd (h2.trans h4.symm) (hp i j h1 h3 hlt)
 ·exact heq
 ·exact absurd (h4.trans h2.symm) (hp j i h3 h1 hgt)
theorem Hc {l:List Nat} (h:l≠ []):l.getLastD 0∈l:=by
 rw[List.getLastD_eq_getLast?,List.getLast?_eq_some_getLast h];exact List.getLast_mem h
structure fO (ops:Array Oper) (sl eff:List Nat) (fr:Nat) (Fb:Value->World->Prop) (val:Nat->Value) (S:World->Prop) (Ph:Nat->Value->World->Prop) (d:Nat->Bool) (v:Nat->Value) (w':World):Prop where
 cl: ∀i,i<sl.length->i ∉ eff->i≠fr->d i=true->fY sl v i=val i
 clo:nY ops d
 st:d (eff.getLastD 0)=false->S w'
 fb:d (eff.getLastD 0)=false->d fr=true->Fb (fY sl v fr) w'
 ph: ∃k,k<=eff.length/\(∀j e,eff[j]?=some e->(d e=true↔j<k))/\Ph k (oA eff sl fr v k) w'
section
variable {ops:Array Oper}{sl eff:List Nat}{fr:Nat}{Fb:Value->World->Prop}{val:Nat->Value}{S:World->Prop}{Ph:Nat->Value->World->Prop}{d:Nat->Bool}{v:Nat->Value}{w' w2:World}
theorem As {i k:Nat} (hk:sl[i]?=some k) (x:Value):fY sl (bZ v (some k) x) i=x:=by
 unfold fY;rw[hk];exact if_pos rfl
theorem rU (hnd:sl.Nodup) {i k:Nat} (hk:sl[i]?=some k) (x:Value) {j:Nat} (hj:j≠i):fY sl (bZ v (some k) x) j=fY sl v j:=by
 unfold fY;cases hs:sl[j]? with
 | none=>rfl
 | some q=>
  exact if_neg (λe=>hj (Hb hnd hs (by rw[e];exact hk)))
theorem Rr {v v2:Nat->Value} (h: ∀e∈eff,fY sl v2 e=fY sl v e) (hf:fY sl v2 fr=fY sl v fr): ∀k,oA eff sl fr v2 k=oA eff sl fr v k
 | 0=>rfl
 | k+1=>by
  rw[vJ,vJ];cases he:eff[k]? with
  | none=>rfl
  | some e=>
   simp only[];cases hs:sl[e]? with
   | none=>exact hf
   | some q=>exact h e (aX he)
theorem fO.pure (h:fO ops sl eff fr Fb val S Ph d v w') (hnd:sl.Nodup) {i k:Nat}{o:Oper} (ho:ops[i]?=some o) (hall: ∀e∈o.after,Region.binds .any e=true->d e.on=true) (hk:sl[i]?=some k) (hne:i ∉ eff) (hfr:i≠fr) (hel:eff≠ []) {x:Value} (hx:x=val i):fO ops sl eff fr Fb val S Ph (bI d i) (bZ v (some k) x) w':=by
 have hsame: ∀e∈eff,fY sl (bZ v (some k) x) e=fY sl v e:=λe he=>rU hnd hk x (λe2=>hne (e2 ▸ he));have hd: ∀e∈eff,bI d i e=d e:=λe he=>bM (λe2=>hne (e2 ▸ he));have hlast:bI d i (eff.getLastD 0)=d (eff.getLastD 0):=hd _ (Hc hel);refine⟨λj hj hje hjf hdj=>?_,h.clo.step ho hall,λhl=>h.st (by rw[<-hlast];exact hl),λhl hf=>?_,?_⟩
 ·by_cases hji:j=i
  ·subst hji;rw[As hk];exact hx
  ·rw[rU hnd hk x hji];rw[bM hji] at hdj;exact h.cl j hj hje hjf hdj
 ·rw[rU hnd hk x (Ne.symm hfr)];rw[bM (Ne.symm hfr)] at hf;exact h.fb (by rw[<-hlast];exact hl) hf
 ·obtain⟨q,hq,h2,h3⟩:=h.ph;refine⟨q,hq,λj e he=>?_,?_⟩
  ·rw[hd e (aX he)];exact h2 j e he
  ·rw[Rr hsame (rU hnd hk x (Ne.symm hfr))];exact h3
theorem fO.free (h:fO ops sl eff fr Fb val S Ph d v w') (hnd:sl.Nodup) {i k:Nat}{o:Oper} (ho:ops[i]?=some o) (hall: ∀e∈o.after,Region.binds .any e=true->d e.on=true) (hk:sl[i]?=some k) (hne:i ∉ eff) (hfr:i=fr) (hel:eff≠ []) (hsl:eff.all (λe=>e==eff.getLastD 0||decide (e<sl.length))=true) (hnl:eff.Nodup) (hdl:d (eff.getLastD 0)=false) {x:Value} (hS:S w'->S w2) (hP: ∀k c,Ph k c w'->Ph k c w2) (hx:Fb x w2):fO ops sl eff fr Fb val S Ph (bI d i) (bZ v (some k) x) w2:=by
 subst hfr;have hsame: ∀e∈eff,fY sl (bZ v (some k) x) e=fY sl v e:=λe he=>rU hnd hk x (λe2=>hne (e2 ▸ he));have hd: ∀e∈eff,bI d i e=d e:=λe he=>bM (λe2=>hne (e2 ▸ he));have hlast:bI d i (eff.getLastD 0)=d (eff.getLastD 0):=hd _ (Hc hel);refine⟨λj hj hje hjf hdj=>?_,h.clo.step ho hall,λhl=>hS (h.st hdl),λhl hf=>by rw[As hk];exact hx,?_⟩
 ·rw[rU hnd hk x hjf];rw[bM hjf] at hdj;exact h.cl j hj hje hjf hdj
 ·obtain⟨q,hq,h2,h3⟩:=h.ph;refine⟨q,hq,λj e he=>?_,?_⟩
  ·rw[hd e (aX he)];exact h2 j e he
  ·have hL:oA eff sl i (bZ v (some k) x) q=oA eff sl i v q:=by
    cases q with
    | zero=>rfl
    | succ q=>
     rw[vJ,vJ];cases he:eff[q]? with
     | none=>rfl
     | some e=>
      simp only[];cases hs:sl[e]? with
      | some z=>exact hsame e (aX he)
      | none=>
       have hm:=fG.1 hsl e (aX he);rw[Bool.or_eq_true] at hm;rcases hm with hm | hm
       ·have hm:e=eff.getLastD 0:=(by simpa using hm);have:=(h2 q e he).2 (tS _);rw[hm,hdl] at this;cases this
       ·have hm:=of_decide_eq_true hm;rw[At] at hs;omega
   rw[hL];exact hP _ _ h3
theorem fO.at_ (h:fO ops sl eff fr Fb val S Ph d v w') {j e:Nat} (he:eff[j]?=some e) (hi:d e=false) (hp: ∀j' e',j=j'+1->eff[j']?=some e'->d e'=true):Ph j (oA eff sl fr v j) w':=by
 obtain⟨q,hq,h2,h3⟩:=h.ph;have h4: ¬j<q:=λhlt=>by rw[(h2 j e he).2 hlt] at hi;cases hi
 obtain rfl:j=q:=by
  cases j with
  | zero=>omega
  | succ j'=>
   have hj':=(aQ.1 he).1;have h5:=(h2 j' _ (bJ (by omega))).1 (hp j' _ rfl (bJ (by omega)));omega
 exact h3
theorem fO.eff_ (h:fO ops sl eff fr Fb val S Ph d v w') (hnd:sl.Nodup) (hne:eff.Nodup) {i j:Nat}{o:Oper} (ho:ops[i]?=some o) (hall: ∀e∈o.after,Region.binds .any e=true->d e.on=true) (he:eff[j]?=some i) (hi:d i=false) (hp: ∀j' e',j=j'+1->eff[j']?=some e'->d e'=true)
  {dst:Option Nat} (hk:sl[i]?=dst) (hfr:i≠fr) {x:Value} (hF:i≠eff.getLastD 0-> ∀x,Fb x w'->Fb x w2) (hS:i≠eff.getLastD 0->S w2) (hP:Ph (j+1) (match dst with | some _=>x | none=>fY sl v fr) w2):fO ops sl eff fr Fb val S Ph (bI d i) (bZ v dst x) w2:=by
 obtain⟨q,hq,h2,h3⟩:=h.ph;have hjl:=(aQ.1 he).1;obtain rfl:j=q:=by
  have h4: ¬j<q:=λhlt=>by rw[(h2 j i he).2 hlt] at hi;cases hi
  cases j with
  | zero=>omega
  | succ j'=>
   have h5:=(h2 j' _ (bJ (by omega))).1 (hp j' _ rfl (bJ (by omega)));omega
 have hoth: ∀m,m≠i->fY sl (bZ v dst x) m=fY sl v m:=λm hm=>by
  cases dst with
  | none=>rfl
  | some k=>exact rU hnd hk x hm
 have hli: ∀(hl:bI d i (eff.getLastD 0)=false),i≠eff.getLastD 0/\d (eff.getLastD 0)=false:=λhl=>by
  have hne:i≠eff.getLastD 0:=λe=>by rw[<-e,nZ] at hl;cases hl
  exact⟨hne,by rw[bM (Ne.symm hne)] at hl;exact hl⟩
 refine⟨λm hm hme hmf hdm=>?_,h.clo.step ho hall,λhl=>?_,λhl hf=>?_,j+1,hjl,λm e hm=>?_,?_⟩
 ·have hmi:m≠i:=λe=>hme (e ▸ aX he);rw[hoth m hmi];rw[bM hmi] at hdm;exact h.cl m hm hme hmf hdm
 ·exact hS (hli hl).1
 ·rw[hoth fr (Ne.symm hfr)];rw[bM (Ne.symm hfr)] at hf;exact hF (hli hl).1 _ (h.fb (hli hl).2 hf)
 ·by_cases hmj:m=j
  ·subst hmj;rw[he] at hm;injection hm with hm;subst hm;rw[nZ];exact⟨λ_=>tS _,λ_=>rfl⟩
  ·have hei:e≠i:=λe2=>hmj (Hb hne (by rw[<-e2];exact hm) he);rw[bM hei,h2 m e hm];omega
 ·rw[vJ,he];simp only[hk];cases dst with
  | none=>exact hP
  | some k=>
   simp only[];rw[As hk];exact hP
theorem fO.fin (h:fO ops sl eff fr Fb val S Ph d v w') (hd: ∀e∈eff,d e=true):Ph eff.length (oA eff sl fr v eff.length) w':=by
 obtain⟨q,hq,h2,h3⟩:=h.ph;by_cases hlt:q<eff.length
 ·have:=(h2 q _ (bJ hlt)).1 (hd _ (List.getElem_mem hlt));omega
 ·obtain rfl:q=eff.length:=by omega
  exact h3
theorem fO.early (h:fO ops sl eff fr Fb val S Ph d v w') {f i:Nat} (hr:nX ops f (eff.getLastD 0) i=true) (hi:d i=false):S w':=by
 refine h.st ?_;cases hc:d (eff.getLastD 0) with
 | false=>rfl
 | true=>rw[h.clo.reach f _ _ hr hc] at hi;cases hi
end
section
variable {ops:Array Oper}{sl eff:List Nat}{fr:Nat}{Fb:Value->World->Prop}{val:Nat->Value}{S:World->Prop}{Ph:Nat->Value->World->Prop}{d:Nat->Bool}{v:Nat->Value}{w' w2:World}
theorem Hd {j:Nat} (hp:j=0\/ ∃e',eff[j-1]?=some e'/\d e'=true): ∀j' e',j=j'+1->eff[j']?=some e'->d e'=true:=by
 rintro j' e' rfl he;rcases hp with h | ⟨e2,h1,h2⟩
 ·omega
 ·rw[Nat.add_sub_cancel,he] at h1;injection h1 with h1;rw[h1];exact h2
theorem fO.at2 (h:fO ops sl eff fr Fb val S Ph d v w') {j e:Nat} (he:eff[j]?=some e) (hi:d e=false) (hp:j=0\/ ∃e',eff[j-1]?=some e'/\d e'=true):Ph j (oA eff sl fr v j) w':=h.at_ he hi (Hd hp)
theorem fO.eff2 (h:fO ops sl eff fr Fb val S Ph d v w') (hnd:sl.Nodup) (hne:eff.Nodup) {i:Nat} (j:Nat) {o:Oper} (ho:ops[i]?=some o) (hall: ∀e∈o.after,Region.binds .any e=true->d e.on=true) (he:eff[j]?=some i) (hi:d i=false) (hp:j=0\/ ∃e',eff[j-1]?=some e'/\d e'=true)
  {dst:Option Nat} (hk:sl[i]?=dst) (hfr:i≠fr) {x:Value} (hF:i≠eff.getLastD 0-> ∀x,Fb x w'->Fb x w2) (hS:i≠eff.getLastD 0->S w2) (hP:Ph (j+1) (match dst with | some _=>x | none=>fY sl v fr) w2):fO ops sl eff fr Fb val S Ph (bI d i) (bZ v dst x) w2:=h.eff_ hnd hne ho hall he hi (Hd hp) hk hfr hF hS hP
end
theorem fO.lastNot {ops:Array Oper}{sl eff:List Nat}{fr:Nat}{Fb:Value->World->Prop}{val:Nat->Value}{S:World->Prop}{Ph:Nat->Value->World->Prop}{d:Nat->Bool}{v:Nat->Value}{w':World} (h:fO ops sl eff fr Fb val S Ph d v w') {f i:Nat} (hr:nX ops f (eff.getLastD 0) i=true) (hi:d i=false):d (eff.getLastD 0)=false:=by
 cases hc:d (eff.getLastD 0) with
 | false=>rfl
 | true=>rw[h.clo.reach f _ _ hr hc] at hi;cases hi
theorem Au {P:Program}{ops:Array Oper}{Q:Exit->Act->World->Prop}{id:Nat}{a0:Act}{w0:World} (hm:P.follows .mixedOrders=true) (sl eff:List Nat) (fr:Nat) (Fb:Value->World->Prop) (n:Nat) (hn:a0.tmps.size=n) (hback:pR ops=true) (hdst:nV ops sl n=true) (heff:eff.all (λe=>decide (e<ops.size))=true)
  (val:Nat->Value) (S:World->Prop) (Ph:Nat->Value->World->Prop) (h0:S w0.drew) (hP:Ph 0 undef w0.drew)
  (hs: ∀(d:Nat->Bool) (a:Act) (w:World) (i:Nat) (o:Oper),ops[i]?=some o->d i=false->(∀e∈o.after,Region.binds .any e=true->d e.on=true)->(∀k,k ∉ sl->a.tmps.getD k undef=a0.tmps.getD k undef)->fO ops sl eff fr Fb val S Ph d (λk=>a.tmps.getD k undef) w->
   ∀R:Act->World->Prop,(∀x w',fO ops sl eff fr Fb val S Ph (bI d i) (bZ (λk=>a.tmps.getD k undef) o.dst x) w'->R (a.put o.dst x) w')->o.wp P a w R Q)
  (hd: ∀(v:Nat->Value) (w:World),(∀i,i<sl.length->i<ops.size->i ∉ eff->i≠fr->fY sl v i=val i)->Ph eff.length (oA eff sl fr v eff.length) w->Q .normal { a0 with tmps:=cE a0.tmps v sl } w):(Code.region id ops true).wp P Q a0 w0:=by
 refine vH hm sl n hn hback hdst (λd v w'=>fO ops sl eff fr Fb val S Ph d v w') ?_ hs (λv w h=>hd v w (λi h1 h2 h3 h4=>h.cl i h1 h3 h4 (aN h2)) (h.fin (λe he=>?_)))
 ·exact⟨λ_ _ _ _ h=>Bool.noConfusion h,λ_ _ _ h=>Bool.noConfusion h,λ_=>h0,λ_ h=>Bool.noConfusion h,0,cN _,λj e _=>⟨λh=>Bool.noConfusion h,λh=>absurd h (pU _)⟩,hP⟩
 ·exact fG.1 heff e he
end
section
open Go.RowKit
open Go.Lib hiding intOf
theorem bE {w w':World}{a:Addr}{u:Value} (h:w.cell? a=some u) (hb:Below w.heap.size w w'):w'.cell? a=some u:=by
 rw[hb.cell (World.block_lt_of_cell? w a h)];exact h
theorem fD.mono {B B':Nat}{no:Option Nat}{l:List VT}{v:Value}{w:World} (h:fD B no l v w) (hB:B'<=B):fD B' no l v w:=by
 obtain⟨es,h1,h2,h3⟩:=h;refine⟨es,h1,⟨h2.1,?_⟩,λe he=>(h3 e he).mono (λk hk _=>⟨aW hB hk.1,hk.2⟩)⟩;rcases h2.2 with h4 | ⟨g,cap,cur,e1,e2,e3⟩
 ·exact .inl h4
 ·exact .inr ⟨g,cap,cur,e1,aW hB e2,e3⟩
structure CS (W:World) (Y:Nat) (k:Int) (s:aA) (ks:List aA) (l:List VT) (kv ov:Value) (w:World):Prop where
 box:w.heap[Y]?=some (.cells #[.int .i64 k, .string (bs s),kv,ov] 26)
 keys:bV W.heap.size ks kv w
 off:some Y≠kv.ownBlock
 its:fD (Y+1) kv.ownBlock l ov w
 bel:Below W.heap.size W w
 new_:W.heap.size<=Y
theorem bV.ownLt {B:Nat}{l:List aA}{v:Value}{w:World} (h:bV B l v w) {k:Nat} (hk:some k=v.ownBlock):k<w.heap.size:=by
 rcases h.2 with⟨rfl,_⟩ | ⟨g,cap,cur,rfl,_,hg,_⟩
 ·cases hk
 ·injection hk with hk;subst hk;exact aF hg
theorem CS.cells {W w:World}{Y:Nat}{k:Int}{s:aA}{ks:List aA}{l:List VT}{kv ov:Value} (h:CS W Y k s ks l kv ov w):w.cell? ⟨Y,0,none⟩=some (.int .i64 k)/\w.cell? ⟨Y,1,none⟩=some (.string (bs s))/\w.cell? ⟨Y,2,none⟩=some kv/\w.cell? ⟨Y,3,none⟩=some ov/\
  w.frozen? ⟨Y,0,none⟩=false/\w.frozen? ⟨Y,1,none⟩=false/\w.frozen? ⟨Y,2,none⟩=false/\w.frozen? ⟨Y,3,none⟩=false:=by
 have hb:=h.box;refine⟨?_,?_,?_,?_,?_,?_,?_,?_⟩<;>simp[World.cell?,World.frozen?,hb]
theorem bV.keepB {B:Nat}{l:List aA}{v:Value}{w w':World} (h:bV B l v w) (hk: ∀k,B<=k->some k=v.ownBlock->k<w.heap.size->w'.heap[k]?=w.heap[k]?):bV B l v w':=by
 refine⟨h.1,?_⟩;rcases h.2 with h4 | ⟨g,cap,cur,e1,e2,e3,e4⟩
 ·exact .inl h4
 ·subst e1;exact .inr ⟨g,cap,cur,rfl,e2,by rw[hk g e2 rfl (aF e3)];exact e3,e4⟩
theorem bV.slice {B:Nat}{l:List aA}{v:Value}{w:World} (h:bV B l v w): ∃p c,v= .slice p l.length c:=by
 rcases h.2 with⟨a,b⟩ | ⟨g,cap,cur,rfl,_⟩
 ·exact⟨none,0,by rw[a,b]⟩
 ·exact⟨_,_,rfl⟩
theorem bV.mono {B B':Nat}{l:List aA}{v:Value}{w:World} (h:bV B l v w) (hB:B'<=B):bV B' l v w:=⟨h.1,by
 rcases h.2 with h4 | ⟨g,cap,cur,e1,e2,e3⟩
 ·exact .inl h4
 ·exact .inr ⟨g,cap,cur,e1,aW hB e2,e3⟩⟩
theorem He {B B':Nat}{no:Option Nat}{l:List VT}{ks:List aA}{kv ov:Value}{w:World} (h:bV B ks kv w) (h2:fD B' no l ov w) {k:Nat} (hk:some k=kv.ownBlock):some k≠ov.ownBlock:=by
 intro e;obtain⟨es,_,hv,_⟩:=h2;rcases h.2 with⟨rfl,_⟩ | ⟨g,cap,cur,rfl,_,hg,_⟩
 ·cases hk
 ·rcases hv.2 with⟨rfl,_⟩ | ⟨g2,cap2,cur2,rfl,_,hg2,_⟩
  ·cases e
  ·injection hk with hk;injection e with e;subst hk e;rw[hg] at hg2;injection hg2 with hg2;injection hg2 with _ hg2;exact absurd hg2 (by decide)
theorem CS.keep {W w w':World}{Y:Nat}{k:Int}{s:aA}{ks:List aA}{l:List VT}{kv ov:Value} (h:CS W Y k s ks l kv ov w) (hb:Below w.heap.size w w'):CS W Y k s ks l kv ov w':=
 ⟨(hb.block Y (aF h.box)).trans h.box,h.keys.keep hb,h.off,h.its.keep hb,aC h.bel hb,h.new_⟩
theorem CS.start {W w:World} (hb:Below W.heap.size W w) (k:Int) (s:aA):CS W w.heap.size k s [] [] (.slice none 0 0) (.slice none 0 0) (w.alloc (.cells #[.int .i64 k, .string (bs s), .slice none 0 0, .slice none 0 0] 26)):=
 ⟨heap_alloc_new w _,bV.nil _ _,(λe=>by cases e),fD.nil _ _ _,aC hb (aH _ _),hb.size⟩
theorem CS.tree {W w:World}{Y:Nat}{k:Int}{s:aA}{ks:List aA}{l:List VT}{kv ov:Value} (h:CS W Y k s ks l kv ov w):eU W.heap.size w (VT.mk k s ks l).depth (VT.mk k s ks l) kv ov:=by
 have hn:=h.new_;exact fD.toVDx (k:=k) (s:=s) (h.keys.toSVx.agree (ok':=λk=>W.heap.size<=k) (λk hk _=>⟨rfl,hk.1⟩)) (h.its.mono (by omega))
def iD (W0:World) (Y:Nat) (no:Option Nat) (x:VT) (l:List VT) (ov:Value):Nat->Value->World->Prop
 | 0,_,w'=>Below W0.heap.size W0 w'
 | 1,c,w'=> ∃kv iv,c=vv x kv iv/\eU W0.heap.size w' x.depth x kv iv/\Below W0.heap.size W0 w'
 | 2,c,w'=> ∃w1 kv iv,eU W0.heap.size w1 x.depth x kv iv/\Below W0.heap.size W0 w1/\c= .slice (some ⟨w1.heap.size,0,none⟩) 1 1/\w'=w1.alloc (.cells #[.int .i64 x.kind, .string (bs x.text),kv,iv] 26)
 | 3,c,w'=>fD (Y+1) no (l++ [x]) c w'/\Below (Y+1) W0 w'/\W0.heap.size<=w'.heap.size/\ ∀k,k<W0.heap.size->some k≠ov.ownBlock->w'.heap[k]?=W0.heap[k]?
 | _,_,w'=> ∃c w1,(fD (Y+1) no (l++ [x]) c w1/\Below (Y+1) W0 w1/\W0.heap.size<=w1.heap.size/\ ∀k,k<W0.heap.size->some k≠ov.ownBlock->w1.heap[k]?=W0.heap[k]?)/\w'=w1.setCell ⟨Y,3,none⟩ c
theorem fD.ownLt {B:Nat}{no:Option Nat}{l:List VT}{v:Value}{w:World} (h:fD B no l v w) {k:Nat} (hk:some k=v.ownBlock):B<=k/\k<w.heap.size:=by
 obtain⟨es,_,h2,_⟩:=h;rcases h2.2 with⟨rfl,_⟩ | ⟨g,cap,cur,rfl,hb,hg,_⟩
 ·cases hk
 ·injection hk with hk;subst hk;exact⟨hb,aF hg⟩
theorem iD.app {o:Oper}{a:Act}{R:Act->World->Prop}{Q:Exit->Act->World->Prop} (s x:Operand)
  (ho:o.op= .call { callee:= .builtin .append,args:= #[s,x],argTypes:= #[24,24] })
  {W W0:World}{Y:Nat}{k:Int}{tx:aA}{ks:List aA}{l:List VT}{kv ov:Value} (h:CS W Y k tx ks l kv ov W0) {t:VT}{c:Value}{w':World} (h2:iD W0 Y kv.ownBlock t l ov 2 c w') (hs:a.eval s=ov) (hx:a.eval x=c) (hl:l.length<=4294967295)
  (hR: ∀v' w2,iD W0 Y kv.ownBlock t l ov 3 v' w2->R (a.put o.dst v') w2):o.wp Tryz.prog a w' R Q:=by
 obtain⟨w1,kv1,iv1,hvd,hb,rfl,rfl⟩:=h2;have hYl:Y<W0.heap.size:=aF h.box;have hb2:Below W0.heap.size W0 (w1.alloc (.cells #[.int .i64 t.kind, .string (bs t.text),kv1,iv1] 26)):=aC hb (aH _ _);have hlt: ∀k,some k=ov.ownBlock->k<W0.heap.size:=λk hk=>(h.its.ownLt hk).2;have hklt: ∀k,some k=kv.ownBlock->k<W0.heap.size:=λk hk=>h.keys.ownLt hk;refine Rq s x ho (Y+1) kv.ownBlock _ ov l t kv1 iv1 hs (h.its.keep hb2) ?_ w1.heap.size (by simp) (λe=>?_) (heap_alloc_new w1 _) hx (by omega) (by have:=hb2.size;omega) (λv' w2 h3 h4 h5 h6=>hR v' w2 ⟨h3,?_,?_,λq hq hne=>?_⟩)
 ·have h7:=(hvd.keep (aH w1 (.cells #[.int .i64 t.kind, .string (bs t.text),kv1,iv1] 26)));exact h7.mono (λq hq _=>⟨by omega,(λe=>by have:=hlt q e;omega),λe=>by have:=hklt q e;omega⟩)
 ·have:=hlt _ e;have:=hb.size;omega
 ·exact(hb2.mono (by omega)).trans h4
 ·exact aW hb2.size h4.size
 ·rw[h5 q (iN hq hb2.size) hne,hb2.block q hq]
theorem gL {w:World}{g:Nat}{t:TypeId}{cs:Array Value} (h:w.heap[g]?=some (.cells cs t (0,0))) (i:Nat) (u:Value):(w.setCell ⟨g,i,none⟩ u).heap[g]?=some (.cells (cs.setIfInBounds i u) t (0,0)):=by
 simp[World.setCell,Array.getElem?_modify,h]
theorem iD.fin {W W0:World}{Y:Nat}{k:Int}{tx:aA}{ks:List aA}{l:List VT}{kv ov:Value} (h:CS W Y k tx ks l kv ov W0) {t:VT}{c:Value}{w':World} (h4:iD W0 Y kv.ownBlock t l ov 4 c w'): ∃ov',CS W Y k tx ks (l++ [t]) kv ov' w':=by
 obtain⟨c,w1,⟨h1,h2,h3,h5⟩,rfl⟩:=h4;have hYl:Y<W0.heap.size:=aF h.box;have hset: ∀q,q≠Y->(w1.setCell ⟨Y,3,none⟩ c).heap[q]?=w1.heap[q]?:=λq hq=>dC w1 ⟨Y,3,none⟩ c q hq;have hsz:(w1.setCell ⟨Y,3,none⟩ c).heap.size=w1.heap.size:=by simp[World.setCell]
 refine⟨c,?_,?_,h.off,?_,?_,h.new_⟩
 ·have hb:w1.heap[Y]?=some (.cells #[.int .i64 k, .string (bs tx),kv,ov] 26):=by
   rw[h2.block Y (by omega)];exact h.box
  exact gL hb 3 c
 ·refine h.keys.keepB (λq hq hk hlt=>?_);rw[hset q (λe=>h.off (by rw[<-e];exact hk)),h5 q hlt (He h.keys h.its hk)]
 ·exact h1.keepX (by rw[hsz];exact aE _) (λq hq _=>hset q (by omega))
 ·have hn:=h.new_;have h6:Below W.heap.size W0 w1:=h2.mono (by omega);exact(h.bel.trans h6).setCell (p:=⟨Y,3,none⟩) (by show W.heap.size<=Y;exact hn) c
def mF (W W0:World) (Y:Nat) (key:aA) (ks:List aA) (kv:Value):Nat->Value->World->Prop
 | 0,_,w'=>Below W0.heap.size W0 w'
 | 1,c,w'=>c= .string (bs key)/\Below W0.heap.size W0 w'
 | 2,c,w'=> ∃w1,Below W0.heap.size W0 w1/\c= .slice (some ⟨w1.heap.size,0,none⟩) 1 1/\w'=w1.alloc (.cells #[.string (bs key)] 9)
 | 3,c,w'=>bV W.heap.size (ks++ [key]) c w'/\Below W.heap.size W0 w'/\W0.heap.size<=w'.heap.size/\(∀k,k<W0.heap.size->some k≠kv.ownBlock->w'.heap[k]?=W0.heap[k]?)/\ ∀k,some k=c.ownBlock->some k=kv.ownBlock\/W0.heap.size<=k
 | _,_,w'=> ∃c w1,(bV W.heap.size (ks++ [key]) c w1/\Below W.heap.size W0 w1/\W0.heap.size<=w1.heap.size/\(∀k,k<W0.heap.size->some k≠kv.ownBlock->w1.heap[k]?=W0.heap[k]?)/\ ∀k,some k=c.ownBlock->some k=kv.ownBlock\/W0.heap.size<=k)/\w'=w1.setCell ⟨Y,2,none⟩ c
theorem mF.app {o:Oper}{a:Act}{R:Act->World->Prop}{Q:Exit->Act->World->Prop} (s x:Operand)
  (ho:o.op= .call { callee:= .builtin .append,args:= #[s,x],argTypes:= #[23,23] })
  {W W0:World}{Y:Nat}{k:Int}{tx:aA}{ks:List aA}{l:List VT}{kv ov:Value} (h:CS W Y k tx ks l kv ov W0) {key:aA}{c:Value}{w':World} (h2:mF W W0 Y key ks kv 2 c w') (hs:a.eval s=kv) (hx:a.eval x=c) (hl:ks.length<=4294967295)
  (hR: ∀v' w2,mF W W0 Y key ks kv 3 v' w2->R (a.put o.dst v') w2):o.wp Tryz.prog a w' R Q:=by
 obtain⟨w1,hb,rfl,rfl⟩:=h2;have hb2:Below W0.heap.size W0 (w1.alloc (.cells #[.string (bs key)] 9)):=aC hb (aH _ _);have hsv:SV (w1.alloc (.cells #[.string (bs key)] 9)) (.slice (some ⟨w1.heap.size,0,none⟩) 1 1) [key]:=⟨_,1,rfl,aE _, .inr ⟨w1.heap.size,0,rfl,by simp,λj y hy=>by have hj:=(aQ.1 hy).1;simp at hj;subst hj;simp at hy;subst hy;rw[Nat.zero_add,World.cell?_alloc_new];rfl⟩⟩;refine Rp s x ho W.heap.size _ kv ks [key] hs (h.keys.keep hb2) _ hx hsv (by simp;omega) (aW h.bel.size hb2.size) (λv' w2 h3 h4 h5 h6=>hR v' w2 ⟨h3,(hb2.mono h.bel.size).trans h4,aW hb2.size h4.size,λq hq hne=>?_,λq hq=>?_⟩)
 ·rw[h5 q (iN hq hb2.size) hne,hb2.block q hq]
 ·rcases h6 with h6 | h6
  ·exact .inl (by rw[hq,h6])
  ·rw[h6] at hq;injection hq with hq;subst hq;exact .inr hb2.size
theorem mF.fin {W W0:World}{Y:Nat}{k:Int}{tx:aA}{ks:List aA}{l:List VT}{kv ov:Value} (h:CS W Y k tx ks l kv ov W0) {key:aA}{c:Value}{w':World} (h4:mF W W0 Y key ks kv 4 c w'): ∃kv',CS W Y k tx (ks++ [key]) l kv' ov w':=by
 obtain⟨c,w1,⟨h1,h2,h3,h5,h6⟩,rfl⟩:=h4;have hYl:Y<W0.heap.size:=aF h.box;have hset: ∀q,q≠Y->(w1.setCell ⟨Y,2,none⟩ c).heap[q]?=w1.heap[q]?:=λq hq=>dC w1 ⟨Y,2,none⟩ c q hq;have hoff:some Y≠c.ownBlock:=λe=>by
  rcases h6 Y e with e2 | e2
  ·exact h.off e2
  ·omega
 refine⟨c,?_,?_,hoff,?_,?_,h.new_⟩
 ·have hb:w1.heap[Y]?=some (.cells #[.int .i64 k, .string (bs tx),kv,ov] 26):=by
   rw[h5 Y hYl h.off];exact h.box
  exact gL hb 2 c
 ·exact h1.keepB (λq hq hk hlt=>hset q (λe=>hoff (by rw[<-e];exact hk)))
 ·obtain⟨es,g1,g2,g3⟩:=h.its;refine⟨es,g1,⟨g2.1,?_⟩,λe he=>(g3 e he).agree (λq ok lt=>⟨by rw[hset q (by have:=ok.1;omega),h5 q lt ok.2.2],ok.1,ok.2.1,λe2=>?_⟩)⟩
  ·rcases g2.2 with g4 | ⟨g,cap,cur,e1,e2,e3,e4⟩
   ·exact .inl g4
   ·subst e1;refine .inr ⟨g,cap,cur,rfl,e2,?_,e4⟩;rw[hset g (by omega),h5 g (aF e3) (λe=>(He h.keys h.its e) rfl)];exact e3
  ·rcases h6 q e2 with e3 | e3
   ·exact ok.2.2 e3
   ·omega
 ·exact(h.bel.trans h2).setCell (p:=⟨Y,2,none⟩) (by show W.heap.size<=Y;exact h.new_) c
end
section
open Go.RowKit Go.Maps Go.WideMaps
def pV:List (List UInt8)->DataW Unit
 | []=> .map []
 | k::l=>(pV l).put (.string k) (.lit (.bool true))
theorem Hf: ∀l,IsMap (pV l)
 | []=>isMap_empty
 | k::l=>(Hf l).put _ _
theorem Hg (k:List UInt8): ∀l,(pV l).atKey (.string k) (.lit (.bool false))= .lit (.bool (decide (k∈l)))
 | []=>rfl
 | x::l=>by
  unfold pV;by_cases h:k=x
  ·subst h;rw[atKey_put_same (Hf l) (show WideAt.IsKeyLit (.string k) from trivial),aN iB]
  ·rw[atKey_put_other (λe=>h (by injection e)),Hg k l];congr 2;rw[decide_eq_decide];exact⟨λh1=>List.mem_cons_of_mem _ h1,λh1=>(dN.1 h1).resolve_left h⟩
def HM (b:Nat) (had:List (List UInt8)) (w:World):Prop:=w.ownsMap Tryz.prog 9 (plainElem Tryz.prog 4) b had.length (pV had)
theorem xR:Keyed Tryz.prog 9:=string_keyed Tryz.underlying9
theorem Rs (w:World):(zeroValue 4).run Tryz.prog w= .ok (.bool false) w:=by kernel_rfl
theorem HM.look {b:Nat}{had:List (List UInt8)}{w:World} (h:HM b had w) (k:List UInt8) (hk:k.length<=1073741824):(Instr.lookup 110 (.map (some b)) (.string (bs k)) false).run Tryz.prog w= .ok (.bool (decide (k∈had))) w:=by
 have hkey:keyOf Tryz.prog 9 (.string (bs k))=some (.string k):=by
  have:=keyOf_string_mk (P:=Tryz.prog) Tryz.underlying9 (s:=bs k) (by rw[aR];unfold maxLen;omega);rw[aU] at this;exact this
 obtain⟨v,ps,hrun,hv⟩:=World.ownsMap.lookup h xR Tryz.underlying110 (Rs w) (plainElem_bool Tryz.underlying4 false) hkey;rw[Hg] at hv;have hvv:v= .bool (decide (k∈had)):=by
  unfold plainElem at hv;rw[show Tryz.prog.underlying 4=some .bool from Tryz.underlying4] at hv;cases v<;>simp at hv;rw[hv.1]
 rw[hrun,hvv]
theorem HM.lt {b:Nat}{had:List (List UInt8)}{w:World} (h:HM b had w):b<w.heap.size:=World.ownsMap.lt h
theorem HM.obj {b:Nat}{had:List (List UInt8)}{w:World} (h:HM b had w): ∃es c,w.heap[b]?=some (.map es c):=by
 obtain⟨es,c,h1,_⟩:=h;exact⟨es,c,h1⟩
theorem HM.same {b:Nat}{had:List (List UInt8)}{w w':World} (h:HM b had w) (hs:w'.heap[b]?=w.heap[b]?):HM b had w':=by
 obtain⟨es,c,h1,h2,h3,h4⟩:=h;exact⟨es,c,hs.trans h1,h2,h3,h4⟩
end
end Go.Proofs.YtaifnmjjpddikaaGreatDoor
