import Derived.Test.YtaifnmjjpddikaaGreatDoorRl1
import Derived.Orders
import Derived.RegionTactic
import Derived.Test.YtaifnmjjpddikaaGreatDoorRl4
import Derived.Deep.AppendLies
import Derived.Deep.Upon
import Derived.Maps.Own
import Derived.Maps.OwnOps
import Derived.Maps.Views
namespace Go.Proofs.YtaifnmjjpddikaaGreatDoor
set_option linter.unusedVariables false
set_option linter.unusedSimpArgs false
section
open Go.RowKit
section
variable {P:Program}{ops:Array Oper}{Q:Exit->Act->World->Prop}{md:Region.Mode}
theorem yG (L:Array Bool) (i:Nat) (h:L.getD i true=false):(L.setIfInBounds i true).toList.countP (λb=>!b)+1=L.toList.countP (λb=>!b):=by
 have a:i<L.toList.length:=by
  rw[Array.length_toList];by_cases a:i<L.size
  ·exact a
  ·rw[aO,Array.getElem?_eq_none (by omega)] at h;cases h
 have c:L.toList[i]=false:=by
  rw[aO,Array.getElem?_eq_getElem (by simpa using a)] at h;simpa using h
 rw[Array.toList_setIfInBounds,List.countP_set a,c];have:0<L.toList.countP (λb=>!b):=List.countP_pos_iff.2 ⟨false,by rw[<-c];exact List.getElem_mem a,rfl⟩;simp only[Bool.not_false,Bool.not_true,if_true,Bool.false_eq_true,if_false];omega
theorem So (Inv:Array Bool->Act->World->Prop)
  (hs: ∀(L:Array Bool) (a:Act) (w:World) (i:Nat) (o:Oper),L.size=ops.size->ops[i]?=some o->L.getD i true=false->(∀e∈o.after,Region.binds md e=true->L.getD e.on false=true)->Inv L a w->
   ∀K:Act->World->Prop,(∀a' w',Inv (L.setIfInBounds i true) a' w'->K a' w')->if Region.wanted o (yielded ops a.tmps)=true then o.wp P a w K Q else K (a.put o.dst undef) w)
  (hd: ∀(L:Array Bool) (a:Act) (w:World),L.size=ops.size->Inv L a w->Region.ready md ops L= []->Q .normal a w):
  ∀(fuel:Nat) (L:Array Bool) (a:Act) (w:World),L.size=ops.size->L.toList.countP (λb=>!b)<=fuel->Inv L a w->wpAny P md ops Q fuel L a w:=by
 intro fuel
 induction fuel with
 | zero=>
  intro L a w f p g;have j:Region.ready md ops L= []:=by
   rw[List.eq_nil_iff_forall_not_mem];intro i k;have:=yG L i (mem_ready.1 k).1;omega
  exact⟨j,hd L a w f g j⟩
 | succ fuel ih=>
  intro L a w f p g;refine⟨λj=>hd L a w f g j,λi k=>?_⟩;obtain⟨m,o,l,c⟩:=mem_ready.1 k;refine wpOp_step l λK n=>hs L a w i o f l m c g K λa' w' h=>n a' w' (ih _ _ _ (by simpa using f) ?_ h);have:=yG L i m;omega
theorem Ib {id:Nat}{a:Act}{w:World} (hm:P.follows .mixedOrders=true) (Inv:Array Bool->Act->World->Prop)
  (h0:Inv (Array.replicate ops.size false) a w.drew)
  (hs: ∀(L:Array Bool) (a:Act) (w:World) (i:Nat) (o:Oper),L.size=ops.size->ops[i]?=some o->L.getD i true=false->(∀e∈o.after,Region.binds .any e=true->L.getD e.on false=true)->Inv L a w->
   ∀K:Act->World->Prop,(∀a' w',Inv (L.setIfInBounds i true) a' w'->K a' w')->if Region.wanted o (yielded ops a.tmps)=true then o.wp P a w K Q else K (a.put o.dst undef) w)
  (hd: ∀(L:Array Bool) (a:Act) (w:World),L.size=ops.size->Inv L a w->Region.ready .any ops L= []->Q .normal a w):(Code.region id ops true).wp P Q a w:=by
 refine wp_region_any hm (So Inv hs hd ops.size _ a _ (by simp) ?_ h0);rw[Array.toList_replicate,List.countP_replicate];split<;>omega
end
def oU (ops:Array Oper):Bool:=(List.range ops.size).all λi=>match ops[i]? with
 | some o=>o.after.toList.all (λe=>!Region.binds .any e||decide (e.on<i))&&o.guard.isNone
 | none=>true
theorem yH {ops:Array Oper} (h:oU ops=true) {i:Nat}{o:Oper} (ho:ops[i]?=some o):(∀e∈o.after,Region.binds .any e=true->e.on<i)/\o.guard=none:=by
 have a:=(cJ.1 ho).1;have:=fH.1 h i (List.mem_range.2 a);rw[ho] at this;simp only[cT] at this;refine⟨λe c b=>?_,Option.isNone_iff_eq_none.1 this.2⟩;have:=fH.1 this.1 e (Array.mem_toList_iff.2 c);rw[b,Bool.not_true,Bool.false_or] at this;exact of_decide_eq_true this
theorem Ic {ops:Array Oper} (h:oU ops=true) {L:Array Bool} (hL:L.size=ops.size) (hr:Region.ready .any ops L= []): ∀i,i<ops.size->L.getD i false=true:=by
 intro i
 induction i using Nat.strongRecOn with
 | _ i ih=>
  intro g;obtain⟨o,a⟩: ∃o,ops[i]?=some o:=⟨_,Array.getElem?_eq_getElem g⟩;cases hc:L.getD i false with
  | true=>rfl
  | false=>
   have b:i∈Region.ready .any ops L:=mem_ready.2 ⟨by rw[aO,Array.getElem?_eq_getElem (by omega)] at hc ⊢;simpa using hc,o,a,λe c f=>ih _ ((yH h a).1 e c f) (by have:=(yH h a).1 e c f;omega)⟩;rw[hr] at b;cases b
def cC (t:Array Value) (v:Nat->Value):List Nat->Array Value
 | []=>t
 | k::ks=>(cC t v ks).setIfInBounds k (v k)
theorem vY (t:Array Value) (v:Nat->Value): ∀ks,(cC t v ks).size=t.size
 | []=>rfl
 | k::ks=>by rw[cC,Array.size_setIfInBounds,vY t v ks]
theorem yI (t:Array Value) (v:Nat->Value) (j:Nat) (hj:j<t.size): ∀ks,(cC t v ks)[j]?=if j∈ks then some (v j) else t[j]?
 | []=>by simp[cC]
 | k ::ks=>by
  rw[cC,uD];by_cases h:k=j
  ·subst h;rw[if_pos rfl,vY,if_pos hj,if_pos gS]
  ·rw[if_neg h,yI t v j hj ks];by_cases hm:j∈ks
   ·rw[if_pos hm,if_pos (List.mem_cons_of_mem _ hm)]
   ·rw[if_neg hm,if_neg (by
     rw[dC];rintro(h2 | h2)
     ·exact h h2.symm
     ·exact hm h2)]
def bF (d:Nat->Bool) (i:Nat):Nat->Bool:=λj=>if j=i then true else d j
def bP (v:Nat->Value) (t:Option Tmp) (x:Value):Nat->Value:=match t with
 | some t=>λk=>if k=t then x else v k
 | none=>v
theorem uE (a:Act) (t:Option Tmp) (x:Value) (ht: ∀k,t=some k->k<a.tmps.size):(λk=>(a.put t x).tmps.getD k undef)=bP (λk=>a.tmps.getD k undef) t x:=by
 funext k;cases t with
 | none=>rfl
 | some t=>
  show (a.tmps.setIfInBounds t x).getD k undef=if k=t then x else a.tmps.getD k undef;rw[aO,uD];by_cases h:t=k
  ·subst h;rw[if_pos rfl,if_pos (ht t rfl),if_pos rfl];rfl
  ·rw[if_neg h,if_neg (Ne.symm h),aO]
theorem Bf (L:Array Bool) (i:Nat) (hi:i<L.size):(λj=>(L.setIfInBounds i true).getD j false)=bF (λj=>L.getD j false) i:=by
 funext j;unfold bF;rw[aO,uD];by_cases h:i=j
 ·subst h;rw[if_pos rfl,if_pos hi,if_pos rfl];rfl
 ·rw[if_neg h,if_neg (Ne.symm h)];show _=L.getD j false;rw[aO]
def nR (ops:Array Oper) (K:List Nat) (n:Nat):Bool:=ops.toList.all λo=>match o.dst with
 | some t=>K.contains t&&decide (t<n)
 | none=>true
theorem qD {ops:Array Oper}{K:List Nat}{n:Nat} (h:nR ops K n=true) {i:Nat}{o:Oper} (ho:ops[i]?=some o): ∀t,o.dst=some t->t∈K/\t<n:=by
 intro t a;have:=fH.1 h o (Array.mem_toList_iff.2 (Array.mem_of_getElem? ho));rw[a] at this;simp only[cT,kQ] at this;exact⟨by simpa using this.1,this.2⟩
theorem uF {P:Program}{ops:Array Oper}{Q:Exit->Act->World->Prop}{id:Nat}{a0:Act}{w0:World} (hm:P.follows .mixedOrders=true) (K:List Nat) (n:Nat) (hn:a0.tmps.size=n) (hback:oU ops=true) (hdst:nR ops K n=true)
  (F:(Nat->Bool)->(Nat->Value)->World->Prop) (h0:F (λ_=>false) (λk=>a0.tmps.getD k undef) w0.drew)
  (hs: ∀(d:Nat->Bool) (a:Act) (w:World) (i:Nat) (o:Oper),ops[i]?=some o->d i=false->(∀e∈o.after,Region.binds .any e=true->d e.on=true)->(∀k,k ∉ K->a.tmps.getD k undef=a0.tmps.getD k undef)->F d (λk=>a.tmps.getD k undef) w->
   ∀R:Act->World->Prop,(∀x w',F (bF d i) (bP (λk=>a.tmps.getD k undef) o.dst x) w'->R (a.put o.dst x) w')->o.wp P a w R Q)
  (hd: ∀(v:Nat->Value) (w:World),F (λi=>decide (i<ops.size)) v w->Q .normal { a0 with tmps:=cC a0.tmps v K } w):(Code.region id ops true).wp P Q a0 w0:=by
 subst hn;refine Ib hm (λL a w=>(a.defers=a0.defers/\a.tmps.size=a0.tmps.size/\ ∀k,k ∉ K->a.tmps.getD k undef=a0.tmps.getD k undef)/\F (λi=>L.getD i false) (λk=>a.tmps.getD k undef) w) ⟨⟨rfl,rfl,λk _=>rfl⟩,?_⟩ ?_ ?_
 ·have:(λi=>(Array.replicate ops.size false).getD i false)=λ_=>false:=by
   funext i;rw[aO,Array.getElem?_replicate];split<;>rfl
  rw[this];exact h0
 ·intro L a w i o z f l b A R I;obtain⟨⟨s,g,r⟩,y⟩:=A;have q:i<L.size:=by rw[z];exact(cJ.1 f).1
  have D:Region.wanted o (yielded ops a.tmps)=true:=by simp[Region.wanted,(yH hback f).2]
  rw[if_pos D];refine hs (λi=>L.getD i false) a w i o f ?_ b r y R λx w' E=>I _ _ ⟨⟨?_,?_,λk u=>?_⟩,?_⟩
  ·rw[aO,Array.getElem?_eq_getElem q] at l ⊢;simpa using l
  ·unfold Act.put;cases o.dst<;>exact s
  ·unfold Act.put;cases o.dst
   ·exact g
   ·rw[Array.size_setIfInBounds];exact g
  ·rw[<-r k u];have G:=congrFun (uE a o.dst x (λt p=>by rw[g];exact(qD hdst f t p).2)) k;have e: ∀t,o.dst=t->bP (λk=>a.tmps.getD k undef) t x k=a.tmps.getD k undef:=λt p=>by
    cases t with
    | none=>rfl
    | some t=>exact if_neg (λh=>u (by rw[h];exact(qD hdst f t p).1))
   exact G.trans (e _ rfl)
  ·rw[Bf L i q,uE a o.dst x (λt p=>by rw[g];exact(qD hdst f t p).2)];exact E
 ·intro L a w z A H;obtain⟨⟨s,g,r⟩,y⟩:=A;have b:=Ic hback z H;have m:(λi=>L.getD i false)=λi=>decide (i<ops.size):=by
   funext i;by_cases l:i<ops.size
   ·rw[b i l,aM l]
   ·rw[aH l,aO,Array.getElem?_eq_none (by omega)];rfl
  rw[m] at y;have:=hd _ w y;have C:a= { a0 with tmps:=cC a0.tmps (λk=>a.tmps.getD k undef) K }:=by
   cases a with
   | mk tmps defers=>
    simp only at s g r ⊢;rw[s];congr 1;refine Array.ext_getElem? λj=>?_;by_cases hj:j<a0.tmps.size
    ·rw[yI _ _ j hj];have c:tmps[j]?=some (tmps.getD j undef):=by rw[aO,Array.getElem?_eq_getElem (by omega)];rfl
     split
     ·exact c
     ·rename_i u;rw[c,r j u,aO,Array.getElem?_eq_getElem hj];rfl
    ·rw[Array.getElem?_eq_none (by omega),Array.getElem?_eq_none (by rw[vY];omega)]
  rw[C];exact this
section
variable {dst dead:Nat->Nat}{own:Nat->Bool}{claim:Nat->Value->World->Prop}{B:Nat}{w0 w w':World}{d:Nat->Bool}{v:Nat->Value}
theorem mF {d:Nat->Bool}{i j:Nat} (h:j≠i):bF d i j=d j:=if_neg h
theorem vZ {d:Nat->Bool}{i:Nat}:bF d i i=true:=if_pos rfl
end
end
section
open Go.RowKit
open Go.Lib hiding intOf
def qE (ok:Nat->Prop) (w:World) (v:Value) (l:List aA):Prop:= ∃p c,v= .slice p l.length c/\l.length<=c/\(l= []\/ ∃g o,p=some ⟨g,o,none⟩/\ok g/\(∃cur,w.heap[g]?=some (.cells cur 9))/\ ∀(j:Nat) (x:aA),l[j]?=some x->w.cell? ⟨g,o+j,none⟩=some (.string (bs x)))
def dW (ok:Nat->Prop) (w:World):Nat->VT->Value->Value->Prop
 | 0,_,_,_=>False
 | n+1,t,kv,iv=>qE ok w kv t.keys/\ ∃p c,iv= .slice p t.items.length c/\t.items.length<=c/\(t.items= []\/ ∃g o,p=some ⟨g,o,none⟩/\ok g/\(∃cur,w.heap[g]?=some (.cells cur 26))/\ ∀(j:Nat) (x:VT),t.items[j]?=some x-> ∃kv' iv',w.cell? ⟨g,o+j*4,none⟩=some (.int .i64 x.kind)/\w.cell? ⟨g,o+j*4+1,none⟩=some (.string (bs x.text))/\w.cell? ⟨g,o+j*4+2,none⟩=some kv'/\w.cell? ⟨g,o+j*4+3,none⟩=some iv'/\dW ok w n x kv' iv')
theorem qE.toSV {ok:Nat->Prop}{w:World}{v:Value}{l:List aA} (h:qE ok w v l):SV w v l:=by
 obtain⟨p,c,b,e,a⟩:=h;refine⟨p,c,b,e,?_⟩;rcases a with a | ⟨g,o,e1,e2,⟨cur,e3⟩,e4⟩
 ·exact .inl a
 ·exact .inr ⟨g,o,e1,aF e3,e4⟩
theorem dW.toVD {ok:Nat->Prop}{w:World}: ∀ {n:Nat}{t:VT}{kv iv:Value},dW ok w n t kv iv->VD w n t kv iv
 | 0,_,_,_,h=>h
 | n+1,t,kv,iv,h=>by
  obtain⟨h1,p,c,h2,h3,h4⟩:=h;refine⟨h1.toSV,p,c,h2,h3,?_⟩;rcases h4 with h4 | ⟨g,o,e1,e2,⟨cur,e3⟩,e4⟩
  ·exact .inl h4
  ·refine .inr ⟨g,o,e1,aF e3,λj x a=>?_⟩;obtain⟨kv',iv',a0,a1,a2,a3,a4⟩:=e4 j x a;exact⟨kv',iv',a0,a1,a2,a3,dW.toVD a4⟩
theorem qE.agree {ok ok':Nat->Prop}{w w':World} (hk: ∀k,ok k->k<w.heap.size->w'.heap[k]?=w.heap[k]?/\ok' k) {v:Value}{l:List aA} (h:qE ok w v l):qE ok' w' v l:=by
 obtain⟨p,c,b,f,a⟩:=h;refine⟨p,c,b,f,?_⟩;rcases a with a | ⟨g,o,e1,e2,⟨cur,e3⟩,e4⟩
 ·exact .inl a
 ·obtain⟨a1,a2⟩:=hk g e2 (aF e3);exact .inr ⟨g,o,e1,a2,⟨cur,by rw[a1];exact e3⟩,λj x e=>by rw[eY a1];exact e4 j x e⟩
theorem dW.agree {ok ok':Nat->Prop}{w w':World} (hk: ∀k,ok k->k<w.heap.size->w'.heap[k]?=w.heap[k]?/\ok' k): ∀ {n:Nat}{t:VT}{kv iv:Value},dW ok w n t kv iv->dW ok' w' n t kv iv
 | 0,_,_,_,h=>h
 | n+1,t,kv,iv,h=>by
  obtain⟨h1,p,c,h2,h3,h4⟩:=h;refine⟨h1.agree hk,p,c,h2,h3,?_⟩;rcases h4 with h4 | ⟨g,o,e1,e2,⟨cur,e3⟩,e4⟩
  ·exact .inl h4
  ·obtain⟨a1,a2⟩:=hk g e2 (aF e3);refine .inr ⟨g,o,e1,a2,⟨cur,by rw[a1];exact e3⟩,λj x a=>?_⟩;obtain⟨kv',iv',b0,b1,b2,b3,b4⟩:=e4 j x a;exact⟨kv',iv',by rw[eY a1];exact b0,by rw[eY a1];exact b1,by rw[eY a1];exact b2,by rw[eY a1];exact b3,dW.agree hk b4⟩
theorem dW.keep {ok:Nat->Prop}{w w':World} (hb:Below w.heap.size w w') {n:Nat}{t:VT}{kv iv:Value} (h:dW ok w n t kv iv):dW ok w' n t kv iv:=h.agree (λk b a=>⟨hb.block k a,b⟩)
theorem dW.mono {ok ok':Nat->Prop}{w:World}{n:Nat}{t:VT}{kv iv:Value} (h:dW ok w n t kv iv) (hk: ∀k,ok k->k<w.heap.size->ok' k):dW ok' w n t kv iv:=h.agree (λk b a=>⟨rfl,hk k b a⟩)
theorem dW.more {ok:Nat->Prop}{w:World}: ∀ {n:Nat}{t:VT}{kv iv:Value},dW ok w n t kv iv-> ∀m,dW ok w (n+m) t kv iv
 | 0,_,_,_,h,_=>h.elim
 | n+1,t,kv,iv,h,m=>by
  obtain⟨h1,p,c,h2,h3,h4⟩:=h;rw[Nat.add_right_comm];refine⟨h1,p,c,h2,h3,?_⟩;rcases h4 with h4 | ⟨g,o,h4,e,f,a⟩
  ·exact .inl h4
  ·refine .inr ⟨g,o,h4,e,f,λj x b=>?_⟩;obtain⟨kv',iv',e0,e1,e2,e3,e4⟩:=a j x b;exact⟨kv',iv',e0,e1,e2,e3,dW.more e4 m⟩
theorem dW.form {ok:Nat->Prop}{w:World}{n:Nat}{t:VT}{kv iv:Value} (h:dW ok w n t kv iv): ∃pk ck p c,kv= .slice pk t.keys.length ck/\iv= .slice p t.items.length c:=h.toVD.form
abbrev eZ (B:Nat) (w:World) (n:Nat) (t:VT) (kv iv:Value):Prop:=dW (λk=>B<=k) w n t kv iv
theorem Tryz.infoString:(Tryz.prog.info? 9).map (λi=>(i.zero,i.size,i.bytes))=some (some (.string ⟨#[]⟩),1,16):=by kernel_rfl
theorem Tryz.infoValue:(Tryz.prog.info? 26).map (λi=>(i.zero,i.size,i.bytes))=some (some (.agg #[.int .i64 0, .string ⟨#[]⟩, .slice none 0 0, .slice none 0 0]),4,72):=by kernel_rfl
def iA (l:List aA):List Value:=l.map λx=>Value.string (bs x)
def bR (B:Nat) (l:List aA) (v:Value) (w:World):Prop:=w.ownsRow B 9 1 v l.length (iA l)
theorem Sq (l:List aA): ∀u∈iA l,u.oneCell'=true:=by
 intro u a;unfold iA at a;obtain⟨x,_,rfl⟩:=oQ.1 a;rfl
theorem oV (g o j:Nat):((⟨g,o,none⟩:Addr).add j)=⟨g,o+j,none⟩:=by unfold Addr.add;split<;>simp_all
theorem bR.toSVx {B:Nat}{l:List aA}{v:Value}{w:World} (h:bR B l v w):qE (λk=>B<=k/\some k=v.ownBlock) w v l:=by
 have i:=h;rcases h.2 with⟨e,b⟩ | ⟨g,cap,cur,rfl,c,f,m,_⟩
 ·exact⟨none,0,by rw[e,b],by omega, .inl (List.length_eq_zero_iff.1 b)⟩
 ·refine⟨_,cap,rfl,m, .inr ⟨g,0,rfl,⟨c,rfl⟩,⟨cur,f⟩,λj x n=>?_⟩⟩;have a:=World.ownsRow.cells i (g:=g) rfl j (.string (bs x)) (by unfold iA;rw[cW,n];rfl);rw[oV] at a;exact a
theorem bR.nil (B:Nat) (w:World):bR B [] (.slice none 0 0) w:=⟨rfl, .inl ⟨rfl,rfl⟩⟩
theorem Bg {P:Program}{o:Oper}{a:Act}{K:Act->World->Prop}{Q:Exit->Act->World->Prop} (s x:Operand) (t:TypeId)
  (ho:o.op= .call { callee:= .builtin .append,args:= #[s,x],argTypes:= #[t,t] })
  (B:Nat) (e:TypeId) (i:TypeInfo) (z:Value) (size bytes:Nat) (ht:P.underlying t=some (.slice e)) (hi:P.info? e=some i) (hz:i.zero=some z)
  (hsize:i.size=size) (hby:i.bytes=bytes) (hzs:z.cells.size=size) (hsz:0<size)
  (w:World) (v:Value) (n:Nat) (xs:List Value) (hs:a.eval s=v) (hown:w.ownsRow B e size v n xs)
  (p:Option Addr) (m c:Nat) (news:List Value) (hx:a.eval x= .slice p m c)
  (hl:(m=0/\news= [])\/ ∃ad,p=some ad/\0<m/\news.length=m*size/\(∀j u,news[j]?=some u->w.cell? (ad.add j)=some u)/\ ∀u∈news,u.oneCell'=true)
  (h63:n+m<=maxLen) (hbytes:(n+m)*bytes<=140737488355328) (hB:B<=w.heap.size)
  (h: ∀v' w',w'.ownsRow B e size v' (n+m) (xs++news)->Below B w w'->(∀k,k<w.heap.size->some k≠v.ownBlock->w'.heap[k]?=w.heap[k]?)->(v'.ownBlock=v.ownBlock\/v'.ownBlock=some w.heap.size)->K (a.put o.dst v') w'):o.wp P a w K Q:=by
 rcases hl with⟨rfl,rfl⟩ | ⟨ad,rfl,G,D,H,f⟩
 ·have I: ∃base cap,v= .slice base n cap/\n<=cap:=by
   rcases hown.2 with⟨f,r⟩ | ⟨g,cap,cur,f,_,_,r,_⟩
   ·exact⟨none,0,by rw[f,r],by omega⟩
   ·exact⟨_,_,f,r⟩
  obtain⟨base,cap,rfl,y⟩:=I;have q:Src P i.size t (.slice p 0 c) 0 [] w:=by
   cases p with
   | none=>exact Src.ofNil w ht c
   | some ad=>exact Src.ofSlice w ht ad 0 c [] (by simp) (λj u F=>by simp at F) (λu J=>by cases J)
  have l:=run_append_nothing (P:=P) w t t o.type e i ht hi base n cap y (.slice p 0 c) q;unfold Oper.wp;simp[execOp,ho,resolve,invoke,builtin,hs,hx,l,Result.andThen];refine h _ w (by simpa using hown) (aB _ _) (λk _ _=>rfl) (.inl rfl)
 ·refine wp_append_lies w s x t ho B e i z size bytes ht hi hz hsize hby hzs hsz v n xs hs hown ad m c news hx D H f G h63 hbytes hB w.heap.size rfl ?_;intro g cap w' r E b h5;refine h _ w' r ((aB B w).grown E hB (λk C=>(World.ownsRow.lt hown k C).1)) (λk C A=>E.block k C A) ?_;rcases b with b | b
  ·exact .inl b.symm
  ·exact .inr (by rw[b];rfl)
theorem Sr {o:Oper}{a:Act}{K:Act->World->Prop}{Q:Exit->Act->World->Prop} (s x:Operand)
  (ho:o.op= .call { callee:= .builtin .append,args:= #[s,x],argTypes:= #[23,23] })
  (B:Nat) (w:World) (v:Value) (acc l:List aA) (hs:a.eval s=v) (hown:bR B acc v w) (xv:Value) (hx:a.eval x=xv) (hp:SV w xv l)
  (hl:acc.length+l.length<=4294967296) (hB:B<=w.heap.size)
  (h: ∀v' w',bR B (acc++l) v' w'->Below B w w'->(∀k,k<w.heap.size->some k≠v.ownBlock->w'.heap[k]?=w.heap[k]?)->(v'.ownBlock=v.ownBlock\/v'.ownBlock=some w.heap.size)->K (a.put o.dst v') w'):o.wp Tryz.prog a w K Q:=by
 obtain⟨i0,b,m,n,i⟩:=info_parts Tryz.infoString;obtain⟨p,c,rfl,hc,hp⟩:=hp;refine Bg s x 23 ho B 9 i0 _ 1 16 Tryz.underlying23 b m n i rfl (by decide) w v acc.length (iA acc) hs hown p l.length c (iA l) hx ?_ (by unfold maxLen;omega) (by omega) hB (λv' w' C t r z=>h v' w' ?_ t r z)
 ·rcases hp with rfl | ⟨g,o,rfl,_,q⟩
  ·exact .inl ⟨rfl,rfl⟩
  ·cases l with
   | nil=>exact .inl ⟨rfl,rfl⟩
   | cons y l=>
    refine .inr ⟨_,rfl,by simp,by unfold iA;simp,λj u f=>?_,Sq _⟩;unfold iA at f;rw[cW] at f;obtain⟨k,A,rfl⟩:=rG.1 f;rw[oV,q j k A]
 ·unfold bR;have e:iA (acc++l)=iA acc++iA l:=by unfold iA;simp
  rw[e,aW];exact C
abbrev jK:=VT×Value×Value
def lI (l:List jK):List Value:=l.flatMap λx=> [.int .i64 x.1.kind, .string (bs x.1.text),x.2.1,x.2.2]
theorem Bh (x:jK) (l:List jK):lI (x::l)= .int .i64 x.1.kind:: .string (bs x.1.text)::x.2.1::x.2.2::lI l:=rfl
theorem yJ: ∀(l:List jK) (j:Nat) (x:jK),l[j]?=some x->(lI l)[j*4]?=some (.int .i64 x.1.kind)/\(lI l)[j*4+1]?=some (.string (bs x.1.text))/\(lI l)[j*4+2]?=some x.2.1/\(lI l)[j*4+3]?=some x.2.2
 | [],j,x,h=>by simp at h
 | y::l,0,x,h=>by
  obtain rfl:y=x:=by simpa using h
  rw[Bh];exact⟨rfl,rfl,rfl,rfl⟩
 | y::l,j+1,x,h=>by
  rw[cH] at h;have:=yJ l j x h;rw[Bh,show (j+1)*4=j*4+4 by omega];exact this
def fJ (B:Nat) (no:Option Nat) (l:List VT) (v:Value) (w:World):Prop:= ∃es:List jK,es.map (·.1)=l/\w.ownsRow B 26 4 v l.length (lI es)/\ ∀e∈es,dW (λk=>B<=k/\some k≠v.ownBlock/\some k≠no) w e.1.depth e.1 e.2.1 e.2.2
theorem fJ.nil (B:Nat) (no:Option Nat) (w:World):fJ B no [] (.slice none 0 0) w:=⟨[],rfl,⟨rfl, .inl ⟨rfl,rfl⟩⟩,λ_ h=>by cases h⟩
theorem fJ.slice {B:Nat}{no:Option Nat}{l:List VT}{v:Value}{w:World} (h:fJ B no l v w): ∃p c,v= .slice p l.length c:=by
 obtain⟨es,h1,e,h3⟩:=h;rcases e.2 with⟨a,b⟩ | ⟨g,cap,cur,rfl,_⟩
 ·exact⟨none,0,by rw[a,b]⟩
 ·exact⟨_,_,rfl⟩
theorem Id {l:List VT}{x:VT} (h:x∈l): ∃m,dN l=x.depth+m:=⟨dN l-x.depth,by have:=Hv h;omega⟩
theorem fJ.toVDx {B:Nat}{no:Option Nat}{k:Int}{s:aA}{ks:List aA}{l:List VT}{kv iv:Value}{w:World} (hk:qE (λk=>B<=k) w kv ks) (h:fJ B no l iv w):eZ B w (VT.mk k s ks l).depth (VT.mk k s ks l) kv iv:=by
 obtain⟨es,rfl,n,q⟩:=h;rw[VT.depth];refine⟨hk,?_⟩;have y:=n;rcases n.2 with⟨p,i⟩ | ⟨g,cap,cur,rfl,t,u,r,_⟩
 ·refine⟨none,0,by rw[p];exact congrArg (λx=>Value.slice none x 0) i.symm,by show (es.map (·.1)).length<=0;omega, .inl (List.length_eq_zero_iff.1 i)⟩
 ·refine⟨_,cap,rfl,r, .inr ⟨g,0,rfl,t,⟨cur,u⟩,λj x b=>?_⟩⟩;change (es.map (·.1))[j]?=some x at b;rw[cW] at b;obtain⟨e,o,rfl⟩:=rG.1 b;obtain⟨a0,a1,a2,a3⟩:=yJ es j e o;have a:=World.ownsRow.cells y (g:=g) rfl;have f:=aX o;obtain⟨m,c⟩:=Id (l:=es.map (·.1)) (oQ.2 ⟨e,f,rfl⟩);refine⟨e.2.1,e.2.2,?_,?_,?_,?_,?_⟩
  ·have:=a _ _ a0;rw[oV] at this;exact this
  ·have:=a _ _ a1;rw[oV] at this;exact this
  ·have:=a _ _ a2;rw[oV] at this;exact this
  ·have:=a _ _ a3;rw[oV] at this;exact this
  ·show dW _ w (dN (es.map (·.1))) e.1 e.2.1 e.2.2;rw[c];exact((q e f).mono (λk hk _=>hk.1)).more m
theorem dW.one {ok:Nat->Prop}{w:World}{n:Nat}{t:VT}{kv iv:Value} (h:dW ok w n t kv iv): ∀u∈([.int .i64 t.kind, .string (bs t.text),kv,iv]:List Value),u.oneCell'=true:=by
 obtain⟨pk,ck,p,c,rfl,rfl⟩:=h.form;intro u a;simp only[dC,List.not_mem_nil,or_false] at a;rcases a with rfl|rfl|rfl|rfl<;>rfl
theorem fJ.keepX {B:Nat}{no:Option Nat}{l:List VT}{v:Value}{w w':World} (h:fJ B no l v w) (hs:w.heap.size<=w'.heap.size) (hk: ∀k,B<=k->k<w.heap.size->w'.heap[k]?=w.heap[k]?):fJ B no l v w':=by
 obtain⟨es,f,a,c⟩:=h;refine⟨es,f,⟨a.1,?_⟩,λe i=>(c e i).agree (λk ok lt=>⟨hk k ok.1 lt,ok⟩)⟩;rcases a.2 with b | ⟨g,cap,cur,e1,e2,e3,e4⟩
 ·exact .inl b
 ·exact .inr ⟨g,cap,cur,e1,e2,by rw[hk g e2 (aF e3)];exact e3,e4⟩
theorem fJ.keep {B:Nat}{no:Option Nat}{l:List VT}{v:Value}{w w':World} (h:fJ B no l v w) (hb:Below w.heap.size w w'):fJ B no l v w':=h.keepX hb.size (λk _ lt=>hb.block k lt)
theorem bR.keepX {B:Nat}{l:List aA}{v:Value}{w w':World} (h:bR B l v w) (hk: ∀k,B<=k->k<w.heap.size->w'.heap[k]?=w.heap[k]?):bR B l v w':=by
 refine⟨h.1,?_⟩;rcases h.2 with a | ⟨g,cap,cur,e1,e2,e3,e4⟩
 ·exact .inl a
 ·exact .inr ⟨g,cap,cur,e1,e2,by rw[hk g e2 (aF e3)];exact e3,e4⟩
theorem bR.keep {B:Nat}{l:List aA}{v:Value}{w w':World} (h:bR B l v w) (hb:Below w.heap.size w w'):bR B l v w':=h.keepX (λk _ lt=>hb.block k lt)
theorem Ss {o:Oper}{a:Act}{K:Act->World->Prop}{Q:Exit->Act->World->Prop} (s x:Operand)
  (ho:o.op= .call { callee:= .builtin .append,args:= #[s,x],argTypes:= #[24,24] })
  (B:Nat) (no:Option Nat) (w:World) (v:Value) (acc:List VT) (t:VT) (kv iv:Value) (hs:a.eval s=v) (hown:fJ B no acc v w)
  (ht:dW (λk=>B<=k/\some k≠v.ownBlock/\some k≠no) w t.depth t kv iv) (X:Nat) (hX:X<w.heap.size) (hXv:some X≠v.ownBlock) (hXo:w.heap[X]?=some (.cells #[.int .i64 t.kind, .string (bs t.text),kv,iv] 26)) (hx:a.eval x= .slice (some ⟨X,0,none⟩) 1 1)
  (hl:acc.length+1<=4294967296) (hB:B<=w.heap.size)
  (h: ∀v' w',fJ B no (acc++ [t]) v' w'->Below B w w'->(∀k,k<w.heap.size->some k≠v.ownBlock->w'.heap[k]?=w.heap[k]?)->(v'.ownBlock=v.ownBlock\/v'.ownBlock=some w.heap.size)->K (a.put o.dst v') w'):o.wp Tryz.prog a w K Q:=by
 obtain⟨i0,f,m,p,i⟩:=info_parts Tryz.infoValue;obtain⟨es,y,C,r⟩:=hown;have z: ∀j u,([.int .i64 t.kind, .string (bs t.text),kv,iv]:List Value)[j]?=some u->w.cell? ((⟨X,0,none⟩:Addr).add j)=some u:=by
  intro j u g;rw[oV];have l:=(aR.1 g).1;have q:j=0\/j=1\/j=2\/j=3:=by simp at l;omega
  rcases q with rfl|rfl|rfl|rfl<;> · simp at g;subst g;simp[World.cell?,hXo]
 refine Bg s x 24 ho B 26 i0 _ 4 72 Tryz.underlying24 f m p i rfl (by decide) w v acc.length (lI es) hs C _ 1 1 _ hx (.inr ⟨_,rfl,by decide,rfl,z,ht.one⟩) (by unfold maxLen;omega) (by omega) hB (λv' w' g1 g2 g3 g4=>h v' w' ?_ g2 g3 g4);have c: ∀ {n:Nat}{t:VT}{kv iv:Value},dW (λk=>B<=k/\some k≠v.ownBlock/\some k≠no) w n t kv iv->dW (λk=>B<=k/\some k≠v'.ownBlock/\some k≠no) w' n t kv iv:=λA=>A.agree (λk ok lt=>⟨g3 k lt ok.2.1,ok.1,λe=>by
  rcases g4 with g4 | g4
  ·rw[g4] at e;exact ok.2.1 e
  ·rw[g4] at e;injection e with e;omega,ok.2.2⟩)
 refine⟨es++ [(t,kv,iv)],by simp[y],?_,λe b=>?_⟩
 ·have e1:lI (es++ [(t,kv,iv)])=lI es++ [.int .i64 t.kind, .string (bs t.text),kv,iv]:=by unfold lI;simp
  rw[e1,aW];exact g1
 ·rcases nN.1 b with b | b
  ·exact c (r e b)
  ·obtain rfl:e=(t,kv,iv):=(by simpa using b);exact c ht
end
section
open Go.RowKit
def nS (ops:Array Oper):Nat->Nat->Nat->Bool
 | 0,a,b=>a==b
 | f+1,a,b=>a==b||(match ops[a]? with
  | some o=>o.after.toList.any (λe=>Region.binds .any e&&nS ops f e.on b)
  | none=>false)
def nT (ops:Array Oper) (d:Nat->Bool):Prop:= ∀i o,ops[i]?=some o->d i=true-> ∀e∈o.after,Region.binds .any e=true->d e.on=true
theorem nT.reach {ops:Array Oper}{d:Nat->Bool} (h:nT ops d): ∀(f a b:Nat),nS ops f a b=true->d a=true->d b=true
 | 0,a,b,hr,hd=>by
  have e:a=b:=by simpa [nS] using hr
  rw[<-e];exact hd
 | f+1,a,b,hr,hd=>by
  rw[nS,Bool.or_eq_true] at hr;rcases hr with e | hr
  ·have e:a=b:=(by simpa using e);rw[<-e];exact hd
  ·split at hr
   ·rename_i o g;obtain⟨e,i,c⟩:=List.any_eq_true.1 hr;rw[cT] at c;exact h.reach f _ _ c.2 (h a o g hd e (Array.mem_toList_iff.1 i) c.1)
   ·cases hr
theorem oW {d:Nat->Bool}{i:Nat}:bF d i i=true:=by unfold bF;rw[if_pos rfl]
theorem aS {d:Nat->Bool}{i j:Nat} (h:j≠i):bF d i j=d j:=by unfold bF;rw[if_neg h]
theorem Ie {d:Nat->Bool}{i j:Nat} (h:d j=true):bF d i j=true:=by unfold bF;split<;>simp_all
theorem nT.step {ops:Array Oper}{d:Nat->Bool} (h:nT ops d) {i:Nat}{o:Oper} (ho:ops[i]?=some o) (hall: ∀e∈o.after,Region.binds .any e=true->d e.on=true):nT ops (bF d i):=by
 intro j o' a f e b c;by_cases hj:j=i
 ·subst hj;rw[ho] at a;injection a with a;subst a;exact Ie (hall e b c)
 ·rw[aS hj] at f;exact Ie (h j o' a f e b c)
def gF (sl:List Nat) (v:Nat->Value) (e:Nat):Value:=match sl[e]? with
 | some k=>v k
 | none=>undef
def oZ (eff sl:List Nat) (fr:Nat) (v:Nat->Value):Nat->Value
 | 0=>undef
 | k+1=>match eff[k]? with
  | some e=>match sl[e]? with
   | some _=>gF sl v e
   | none=>gF sl v fr
  | none=>undef
theorem wA (eff sl:List Nat) (fr:Nat) (v:Nat->Value) (k:Nat):oZ eff sl fr v (k+1)=match eff[k]? with
  | some e=>match sl[e]? with
   | some _=>gF sl v e
   | none=>gF sl v fr
  | none=>undef:=rfl
theorem If {l:List Nat} (h:l.Nodup) {i j a:Nat} (hi:l[i]?=some a) (hj:l[j]?=some a):i=j:=by
 obtain⟨m,n⟩:=aR.1 hi;obtain⟨k,f⟩:=aR.1 hj;have g:=List.pairwise_iff_getElem.1 h;rcases Nat.lt_trichotomy i j with b | e | c
 ·exact absurd (n.trans f.symm) (g i j m k b)
 ·exact e
 ·exact absurd (f.trans n.symm) (g j i k m c)
theorem Ig {l:List Nat} (h:l≠ []):l.getLastD 0∈l:=by
 rw[List.getLastD_eq_getLast?,List.getLast?_eq_some_getLast h];exact List.getLast_mem h
structure fX (ops:Array Oper) (sl eff:List Nat) (fr:Nat) (Fb:Value->World->Prop) (val:Nat->Value) (S:World->Prop) (Ph:Nat->Value->World->Prop) (d:Nat->Bool) (v:Nat->Value) (w':World):Prop where
 cl: ∀i,i<sl.length->i ∉ eff->i≠fr->d i=true->gF sl v i=val i
 clo:nT ops d
 st:d (eff.getLastD 0)=false->S w'
 fb:d (eff.getLastD 0)=false->d fr=true->Fb (gF sl v fr) w'
 ph: ∃k,k<=eff.length/\(∀j e,eff[j]?=some e->(d e=true↔j<k))/\Ph k (oZ eff sl fr v k) w'
section
variable {ops:Array Oper}{sl eff:List Nat}{fr:Nat}{Fb:Value->World->Prop}{val:Nat->Value}{S:World->Prop}{Ph:Nat->Value->World->Prop}{d:Nat->Bool}{v:Nat->Value}{w' w2:World}
theorem Bi {i k:Nat} (hk:sl[i]?=some k) (x:Value):gF sl (bP v (some k) x) i=x:=by
 unfold gF;rw[hk];exact if_pos rfl
theorem sM (hnd:sl.Nodup) {i k:Nat} (hk:sl[i]?=some k) (x:Value) {j:Nat} (hj:j≠i):gF sl (bP v (some k) x) j=gF sl v j:=by
 unfold gF;cases hs:sl[j]? with
 | none=>rfl
 | some q=>
  exact if_neg (λe=>hj (If hnd hs (by rw[e];exact hk)))
theorem St {v v2:Nat->Value} (h: ∀e∈eff,gF sl v2 e=gF sl v e) (hf:gF sl v2 fr=gF sl v fr): ∀k,oZ eff sl fr v2 k=oZ eff sl fr v k
 | 0=>rfl
 | k+1=>by
  rw[wA,wA];cases he:eff[k]? with
  | none=>rfl
  | some e=>
   simp only[];cases hs:sl[e]? with
   | none=>exact hf
   | some q=>exact h e (aX he)
theorem fX.pure (h:fX ops sl eff fr Fb val S Ph d v w') (hnd:sl.Nodup) {i k:Nat}{o:Oper} (ho:ops[i]?=some o) (hall: ∀e∈o.after,Region.binds .any e=true->d e.on=true) (hk:sl[i]?=some k) (hne:i ∉ eff) (hfr:i≠fr) (hel:eff≠ []) {x:Value} (hx:x=val i):fX ops sl eff fr Fb val S Ph (bF d i) (bP v (some k) x) w':=by
 have b: ∀e∈eff,gF sl (bP v (some k) x) e=gF sl v e:=λe c=>sM hnd hk x (λe2=>hne (e2 ▸ c));have n: ∀e∈eff,bF d i e=d e:=λe c=>aS (λe2=>hne (e2 ▸ c));have a:bF d i (eff.getLastD 0)=d (eff.getLastD 0):=n _ (Ig hel);refine⟨λj s l g f=>?_,h.clo.step ho hall,λm=>h.st (by rw[<-a];exact m),λm p=>?_,?_⟩
 ·by_cases hji:j=i
  ·subst hji;rw[Bi hk];exact hx
  ·rw[sM hnd hk x hji];rw[aS hji] at f;exact h.cl j s l g f
 ·rw[sM hnd hk x (Ne.symm hfr)];rw[aS (Ne.symm hfr)] at p;exact h.fb (by rw[<-a];exact m) p
 ·obtain⟨q,t,u,r⟩:=h.ph;refine⟨q,t,λj e c=>?_,?_⟩
  ·rw[n e (aX c)];exact u j e c
  ·rw[St b (sM hnd hk x (Ne.symm hfr))];exact r
theorem fX.free (h:fX ops sl eff fr Fb val S Ph d v w') (hnd:sl.Nodup) {i k:Nat}{o:Oper} (ho:ops[i]?=some o) (hall: ∀e∈o.after,Region.binds .any e=true->d e.on=true) (hk:sl[i]?=some k) (hne:i ∉ eff) (hfr:i=fr) (hel:eff≠ []) (hsl:eff.all (λe=>e==eff.getLastD 0||decide (e<sl.length))=true) (hnl:eff.Nodup) (hdl:d (eff.getLastD 0)=false) {x:Value} (hS:S w'->S w2) (hP: ∀k c,Ph k c w'->Ph k c w2) (hx:Fb x w2):fX ops sl eff fr Fb val S Ph (bF d i) (bP v (some k) x) w2:=by
 subst hfr;have g: ∀e∈eff,gF sl (bP v (some k) x) e=gF sl v e:=λe a=>sM hnd hk x (λe2=>hne (e2 ▸ a));have n: ∀e∈eff,bF d i e=d e:=λe a=>aS (λe2=>hne (e2 ▸ a));have hlast:bF d i (eff.getLastD 0)=d (eff.getLastD 0):=n _ (Ig hel);refine⟨λj s m f l=>?_,h.clo.step ho hall,λy=>hS (h.st hdl),λy hf=>by rw[Bi hk];exact hx,?_⟩
 ·rw[sM hnd hk x f];rw[aS f] at l;exact h.cl j s m f l
 ·obtain⟨q,t,p,r⟩:=h.ph;refine⟨q,t,λj e a=>?_,?_⟩
  ·rw[n e (aX a)];exact p j e a
  ·have u:oZ eff sl i (bP v (some k) x) q=oZ eff sl i v q:=by
    cases q with
    | zero=>rfl
    | succ q=>
     rw[wA,wA];cases a:eff[q]? with
     | none=>rfl
     | some e=>
      simp only[];cases hs:sl[e]? with
      | some z=>exact g e (aX a)
      | none=>
       have b:=fH.1 hsl e (aX a);rw[Bool.or_eq_true] at b;rcases b with b | b
       ·have b:e=eff.getLastD 0:=(by simpa using b);have:=(p q e a).2 (uG _);rw[b,hdl] at this;cases this
       ·have b:=of_decide_eq_true b;rw[Bj] at hs;omega
   rw[u];exact hP _ _ r
theorem fX.at_ (h:fX ops sl eff fr Fb val S Ph d v w') {j e:Nat} (he:eff[j]?=some e) (hi:d e=false) (hp: ∀j' e',j=j'+1->eff[j']?=some e'->d e'=true):Ph j (oZ eff sl fr v j) w':=by
 obtain⟨q,hq,b,c⟩:=h.ph;have h4: ¬j<q:=λa=>by rw[(b j e he).2 a] at hi;cases hi
 obtain rfl:j=q:=by
  cases j with
  | zero=>omega
  | succ j'=>
   have hj':=(aR.1 he).1;have h5:=(b j' _ (bE (by omega))).1 (hp j' _ rfl (bE (by omega)));omega
 exact c
theorem fX.eff_ (h:fX ops sl eff fr Fb val S Ph d v w') (hnd:sl.Nodup) (hne:eff.Nodup) {i j:Nat}{o:Oper} (ho:ops[i]?=some o) (hall: ∀e∈o.after,Region.binds .any e=true->d e.on=true) (he:eff[j]?=some i) (hi:d i=false) (hp: ∀j' e',j=j'+1->eff[j']?=some e'->d e'=true)
  {dst:Option Nat} (hk:sl[i]?=dst) (hfr:i≠fr) {x:Value} (hF:i≠eff.getLastD 0-> ∀x,Fb x w'->Fb x w2) (hS:i≠eff.getLastD 0->S w2) (hP:Ph (j+1) (match dst with | some _=>x | none=>gF sl v fr) w2):fX ops sl eff fr Fb val S Ph (bF d i) (bP v dst x) w2:=by
 obtain⟨q,hq,u,h3⟩:=h.ph;have r:=(aR.1 he).1;obtain rfl:j=q:=by
  have h4: ¬j<q:=λs=>by rw[(u j i he).2 s] at hi;cases hi
  cases j with
  | zero=>omega
  | succ j'=>
   have h5:=(u j' _ (bE (by omega))).1 (hp j' _ rfl (bE (by omega)));omega
 have c: ∀m,m≠i->gF sl (bP v dst x) m=gF sl v m:=λm a=>by
  cases dst with
  | none=>rfl
  | some k=>exact sM hnd hk x a
 have f: ∀(b:bF d i (eff.getLastD 0)=false),i≠eff.getLastD 0/\d (eff.getLastD 0)=false:=λb=>by
  have hne:i≠eff.getLastD 0:=λe=>by rw[<-e,oW] at b;cases b
  exact⟨hne,by rw[aS (Ne.symm hne)] at b;exact b⟩
 refine⟨λm a l t g=>?_,h.clo.step ho hall,λb=>?_,λb y=>?_,j+1,r,λm e a=>?_,?_⟩
 ·have n:m≠i:=λe=>l (e ▸ aX he);rw[c m n];rw[aS n] at g;exact h.cl m a l t g
 ·exact hS (f b).1
 ·rw[c fr (Ne.symm hfr)];rw[aS (Ne.symm hfr)] at y;exact hF (f b).1 _ (h.fb (f b).2 y)
 ·by_cases hmj:m=j
  ·subst hmj;rw[he] at a;injection a with a;subst a;rw[oW];exact⟨λ_=>uG _,λ_=>rfl⟩
  ·have p:e≠i:=λe2=>hmj (If hne (by rw[<-e2];exact a) he);rw[aS p,u m e a];omega
 ·rw[wA,he];simp only[hk];cases dst with
  | none=>exact hP
  | some k=>
   simp only[];rw[Bi hk];exact hP
theorem fX.fin (h:fX ops sl eff fr Fb val S Ph d v w') (hd: ∀e∈eff,d e=true):Ph eff.length (oZ eff sl fr v eff.length) w':=by
 obtain⟨q,hq,a,b⟩:=h.ph;by_cases hlt:q<eff.length
 ·have:=(a q _ (bE hlt)).1 (hd _ (List.getElem_mem hlt));omega
 ·obtain rfl:q=eff.length:=by omega
  exact b
theorem fX.early (h:fX ops sl eff fr Fb val S Ph d v w') {f i:Nat} (hr:nS ops f (eff.getLastD 0) i=true) (hi:d i=false):S w':=by
 refine h.st ?_;cases hc:d (eff.getLastD 0) with
 | false=>rfl
 | true=>rw[h.clo.reach f _ _ hr hc] at hi;cases hi
end
section
variable {ops:Array Oper}{sl eff:List Nat}{fr:Nat}{Fb:Value->World->Prop}{val:Nat->Value}{S:World->Prop}{Ph:Nat->Value->World->Prop}{d:Nat->Bool}{v:Nat->Value}{w' w2:World}
theorem Ih {j:Nat} (hp:j=0\/ ∃e',eff[j-1]?=some e'/\d e'=true): ∀j' e',j=j'+1->eff[j']?=some e'->d e'=true:=by
 rintro j' e' rfl b;rcases hp with h | ⟨e2,a,c⟩
 ·omega
 ·rw[Nat.add_sub_cancel,b] at a;injection a with a;rw[a];exact c
theorem fX.at2 (h:fX ops sl eff fr Fb val S Ph d v w') {j e:Nat} (he:eff[j]?=some e) (hi:d e=false) (hp:j=0\/ ∃e',eff[j-1]?=some e'/\d e'=true):Ph j (oZ eff sl fr v j) w':=h.at_ he hi (Ih hp)
theorem fX.eff2 (h:fX ops sl eff fr Fb val S Ph d v w') (hnd:sl.Nodup) (hne:eff.Nodup) {i:Nat} (j:Nat) {o:Oper} (ho:ops[i]?=some o) (hall: ∀e∈o.after,Region.binds .any e=true->d e.on=true) (he:eff[j]?=some i) (hi:d i=false) (hp:j=0\/ ∃e',eff[j-1]?=some e'/\d e'=true)
  {dst:Option Nat} (hk:sl[i]?=dst) (hfr:i≠fr) {x:Value} (hF:i≠eff.getLastD 0-> ∀x,Fb x w'->Fb x w2) (hS:i≠eff.getLastD 0->S w2) (hP:Ph (j+1) (match dst with | some _=>x | none=>gF sl v fr) w2):fX ops sl eff fr Fb val S Ph (bF d i) (bP v dst x) w2:=h.eff_ hnd hne ho hall he hi (Ih hp) hk hfr hF hS hP
end
theorem fX.lastNot {ops:Array Oper}{sl eff:List Nat}{fr:Nat}{Fb:Value->World->Prop}{val:Nat->Value}{S:World->Prop}{Ph:Nat->Value->World->Prop}{d:Nat->Bool}{v:Nat->Value}{w':World} (h:fX ops sl eff fr Fb val S Ph d v w') {f i:Nat} (hr:nS ops f (eff.getLastD 0) i=true) (hi:d i=false):d (eff.getLastD 0)=false:=by
 cases hc:d (eff.getLastD 0) with
 | false=>rfl
 | true=>rw[h.clo.reach f _ _ hr hc] at hi;cases hi
theorem Bk {P:Program}{ops:Array Oper}{Q:Exit->Act->World->Prop}{id:Nat}{a0:Act}{w0:World} (hm:P.follows .mixedOrders=true) (sl eff:List Nat) (fr:Nat) (Fb:Value->World->Prop) (n:Nat) (hn:a0.tmps.size=n) (hback:oU ops=true) (hdst:nR ops sl n=true) (heff:eff.all (λe=>decide (e<ops.size))=true)
  (val:Nat->Value) (S:World->Prop) (Ph:Nat->Value->World->Prop) (h0:S w0.drew) (hP:Ph 0 undef w0.drew)
  (hs: ∀(d:Nat->Bool) (a:Act) (w:World) (i:Nat) (o:Oper),ops[i]?=some o->d i=false->(∀e∈o.after,Region.binds .any e=true->d e.on=true)->(∀k,k ∉ sl->a.tmps.getD k undef=a0.tmps.getD k undef)->fX ops sl eff fr Fb val S Ph d (λk=>a.tmps.getD k undef) w->
   ∀R:Act->World->Prop,(∀x w',fX ops sl eff fr Fb val S Ph (bF d i) (bP (λk=>a.tmps.getD k undef) o.dst x) w'->R (a.put o.dst x) w')->o.wp P a w R Q)
  (hd: ∀(v:Nat->Value) (w:World),(∀i,i<sl.length->i<ops.size->i ∉ eff->i≠fr->gF sl v i=val i)->Ph eff.length (oZ eff sl fr v eff.length) w->Q .normal { a0 with tmps:=cC a0.tmps v sl } w):(Code.region id ops true).wp P Q a0 w0:=by
 refine uF hm sl n hn hback hdst (λd v w'=>fX ops sl eff fr Fb val S Ph d v w') ?_ hs (λv w h=>hd v w (λi f g c b=>h.cl i f c b (aM g)) (h.fin (λe l=>?_)))
 ·exact⟨λ_ _ _ _ h=>Bool.noConfusion h,λ_ _ _ h=>Bool.noConfusion h,λ_=>h0,λ_ h=>Bool.noConfusion h,0,bM _,λj e _=>⟨λh=>Bool.noConfusion h,λh=>absurd h (pA _)⟩,hP⟩
 ·exact fH.1 heff e l
end
section
open Go.RowKit
open Go.Lib hiding intOf
theorem bH {w w':World}{a:Addr}{u:Value} (h:w.cell? a=some u) (hb:Below w.heap.size w w'):w'.cell? a=some u:=by
 rw[hb.cell (World.block_lt_of_cell? w a h)];exact h
theorem fJ.mono {B B':Nat}{no:Option Nat}{l:List VT}{v:Value}{w:World} (h:fJ B no l v w) (hB:B'<=B):fJ B' no l v w:=by
 obtain⟨es,i,b,f⟩:=h;refine⟨es,i,⟨b.1,?_⟩,λe j=>(f e j).mono (λk a _=>⟨aY hB a.1,a.2⟩)⟩;rcases b.2 with c | ⟨g,cap,cur,e1,e2,e3⟩
 ·exact .inl c
 ·exact .inr ⟨g,cap,cur,e1,aY hB e2,e3⟩
structure CS (W:World) (Y:Nat) (k:Int) (s:aA) (ks:List aA) (l:List VT) (kv ov:Value) (w:World):Prop where
 box:w.heap[Y]?=some (.cells #[.int .i64 k, .string (bs s),kv,ov] 26)
 keys:bR W.heap.size ks kv w
 off:some Y≠kv.ownBlock
 its:fJ (Y+1) kv.ownBlock l ov w
 bel:Below W.heap.size W w
 new_:W.heap.size<=Y
theorem bR.ownLt {B:Nat}{l:List aA}{v:Value}{w:World} (h:bR B l v w) {k:Nat} (hk:some k=v.ownBlock):k<w.heap.size:=by
 rcases h.2 with⟨rfl,_⟩ | ⟨g,cap,cur,rfl,_,a,_⟩
 ·cases hk
 ·injection hk with hk;subst hk;exact aF a
theorem CS.cells {W w:World}{Y:Nat}{k:Int}{s:aA}{ks:List aA}{l:List VT}{kv ov:Value} (h:CS W Y k s ks l kv ov w):w.cell? ⟨Y,0,none⟩=some (.int .i64 k)/\w.cell? ⟨Y,1,none⟩=some (.string (bs s))/\w.cell? ⟨Y,2,none⟩=some kv/\w.cell? ⟨Y,3,none⟩=some ov/\
  w.frozen? ⟨Y,0,none⟩=false/\w.frozen? ⟨Y,1,none⟩=false/\w.frozen? ⟨Y,2,none⟩=false/\w.frozen? ⟨Y,3,none⟩=false:=by
 have a:=h.box;refine⟨?_,?_,?_,?_,?_,?_,?_,?_⟩<;>simp[World.cell?,World.frozen?,a]
theorem bR.keepB {B:Nat}{l:List aA}{v:Value}{w w':World} (h:bR B l v w) (hk: ∀k,B<=k->some k=v.ownBlock->k<w.heap.size->w'.heap[k]?=w.heap[k]?):bR B l v w':=by
 refine⟨h.1,?_⟩;rcases h.2 with a | ⟨g,cap,cur,e1,e2,e3,e4⟩
 ·exact .inl a
 ·subst e1;exact .inr ⟨g,cap,cur,rfl,e2,by rw[hk g e2 rfl (aF e3)];exact e3,e4⟩
theorem bR.slice {B:Nat}{l:List aA}{v:Value}{w:World} (h:bR B l v w): ∃p c,v= .slice p l.length c:=by
 rcases h.2 with⟨a,b⟩ | ⟨g,cap,cur,rfl,_⟩
 ·exact⟨none,0,by rw[a,b]⟩
 ·exact⟨_,_,rfl⟩
theorem bR.mono {B B':Nat}{l:List aA}{v:Value}{w:World} (h:bR B l v w) (hB:B'<=B):bR B' l v w:=⟨h.1,by
 rcases h.2 with a | ⟨g,cap,cur,e1,e2,e3⟩
 ·exact .inl a
 ·exact .inr ⟨g,cap,cur,e1,aY hB e2,e3⟩⟩
theorem Ii {B B':Nat}{no:Option Nat}{l:List VT}{ks:List aA}{kv ov:Value}{w:World} (h:bR B ks kv w) (h2:fJ B' no l ov w) {k:Nat} (hk:some k=kv.ownBlock):some k≠ov.ownBlock:=by
 intro e;obtain⟨es,_,b,_⟩:=h2;rcases h.2 with⟨rfl,_⟩ | ⟨g,cap,cur,rfl,_,c,_⟩
 ·cases hk
 ·rcases b.2 with⟨rfl,_⟩ | ⟨g2,cap2,cur2,rfl,_,a,_⟩
  ·cases e
  ·injection hk with hk;injection e with e;subst hk e;rw[c] at a;injection a with a;injection a with _ a;exact absurd a (by decide)
theorem CS.keep {W w w':World}{Y:Nat}{k:Int}{s:aA}{ks:List aA}{l:List VT}{kv ov:Value} (h:CS W Y k s ks l kv ov w) (hb:Below w.heap.size w w'):CS W Y k s ks l kv ov w':=
 ⟨(hb.block Y (aF h.box)).trans h.box,h.keys.keep hb,h.off,h.its.keep hb,aC h.bel hb,h.new_⟩
theorem CS.start {W w:World} (hb:Below W.heap.size W w) (k:Int) (s:aA):CS W w.heap.size k s [] [] (.slice none 0 0) (.slice none 0 0) (w.alloc (.cells #[.int .i64 k, .string (bs s), .slice none 0 0, .slice none 0 0] 26)):=
 ⟨heap_alloc_new w _,bR.nil _ _,(λe=>by cases e),fJ.nil _ _ _,aC hb (aI _ _),hb.size⟩
theorem CS.tree {W w:World}{Y:Nat}{k:Int}{s:aA}{ks:List aA}{l:List VT}{kv ov:Value} (h:CS W Y k s ks l kv ov w):eZ W.heap.size w (VT.mk k s ks l).depth (VT.mk k s ks l) kv ov:=by
 have hn:=h.new_;exact fJ.toVDx (k:=k) (s:=s) (h.keys.toSVx.agree (ok':=λk=>W.heap.size<=k) (λk a _=>⟨rfl,a.1⟩)) (h.its.mono (by omega))
def iK (W0:World) (Y:Nat) (no:Option Nat) (x:VT) (l:List VT) (ov:Value):Nat->Value->World->Prop
 | 0,_,w'=>Below W0.heap.size W0 w'
 | 1,c,w'=> ∃kv iv,c=vv x kv iv/\eZ W0.heap.size w' x.depth x kv iv/\Below W0.heap.size W0 w'
 | 2,c,w'=> ∃w1 kv iv,eZ W0.heap.size w1 x.depth x kv iv/\Below W0.heap.size W0 w1/\c= .slice (some ⟨w1.heap.size,0,none⟩) 1 1/\w'=w1.alloc (.cells #[.int .i64 x.kind, .string (bs x.text),kv,iv] 26)
 | 3,c,w'=>fJ (Y+1) no (l++ [x]) c w'/\Below (Y+1) W0 w'/\W0.heap.size<=w'.heap.size/\ ∀k,k<W0.heap.size->some k≠ov.ownBlock->w'.heap[k]?=W0.heap[k]?
 | _,_,w'=> ∃c w1,(fJ (Y+1) no (l++ [x]) c w1/\Below (Y+1) W0 w1/\W0.heap.size<=w1.heap.size/\ ∀k,k<W0.heap.size->some k≠ov.ownBlock->w1.heap[k]?=W0.heap[k]?)/\w'=w1.setCell ⟨Y,3,none⟩ c
theorem fJ.ownLt {B:Nat}{no:Option Nat}{l:List VT}{v:Value}{w:World} (h:fJ B no l v w) {k:Nat} (hk:some k=v.ownBlock):B<=k/\k<w.heap.size:=by
 obtain⟨es,_,c,_⟩:=h;rcases c.2 with⟨rfl,_⟩ | ⟨g,cap,cur,rfl,a,b,_⟩
 ·cases hk
 ·injection hk with hk;subst hk;exact⟨a,aF b⟩
theorem iK.app {o:Oper}{a:Act}{R:Act->World->Prop}{Q:Exit->Act->World->Prop} (s x:Operand)
  (ho:o.op= .call { callee:= .builtin .append,args:= #[s,x],argTypes:= #[24,24] })
  {W W0:World}{Y:Nat}{k:Int}{tx:aA}{ks:List aA}{l:List VT}{kv ov:Value} (h:CS W Y k tx ks l kv ov W0) {t:VT}{c:Value}{w':World} (h2:iK W0 Y kv.ownBlock t l ov 2 c w') (hs:a.eval s=ov) (hx:a.eval x=c) (hl:l.length<=4294967295)
  (hR: ∀v' w2,iK W0 Y kv.ownBlock t l ov 3 v' w2->R (a.put o.dst v') w2):o.wp Tryz.prog a w' R Q:=by
 obtain⟨w1,kv1,iv1,i,r,rfl,rfl⟩:=h2;have hYl:Y<W0.heap.size:=aF h.box;have b:Below W0.heap.size W0 (w1.alloc (.cells #[.int .i64 t.kind, .string (bs t.text),kv1,iv1] 26)):=aC r (aI _ _);have g: ∀k,some k=ov.ownBlock->k<W0.heap.size:=λk m=>(h.its.ownLt m).2;have f: ∀k,some k=kv.ownBlock->k<W0.heap.size:=λk m=>h.keys.ownLt m;refine Ss s x ho (Y+1) kv.ownBlock _ ov l t kv1 iv1 hs (h.its.keep b) ?_ w1.heap.size (by simp) (λe=>?_) (heap_alloc_new w1 _) hx (by omega) (by have:=b.size;omega) (λv' w2 y p z h6=>hR v' w2 ⟨y,?_,?_,λq n j=>?_⟩)
 ·have u:=(i.keep (aI w1 (.cells #[.int .i64 t.kind, .string (bs t.text),kv1,iv1] 26)));exact u.mono (λq n _=>⟨by omega,(λe=>by have:=g q e;omega),λe=>by have:=f q e;omega⟩)
 ·have:=g _ e;have:=r.size;omega
 ·exact(b.mono (by omega)).trans p
 ·exact aY b.size p.size
 ·rw[z q (fV n b.size) j,b.block q n]
theorem fO {w:World}{g:Nat}{t:TypeId}{cs:Array Value} (h:w.heap[g]?=some (.cells cs t (0,0))) (i:Nat) (u:Value):(w.setCell ⟨g,i,none⟩ u).heap[g]?=some (.cells (cs.setIfInBounds i u) t (0,0)):=by
 simp[World.setCell,Array.getElem?_modify,h]
theorem iK.fin {W W0:World}{Y:Nat}{k:Int}{tx:aA}{ks:List aA}{l:List VT}{kv ov:Value} (h:CS W Y k tx ks l kv ov W0) {t:VT}{c:Value}{w':World} (h4:iK W0 Y kv.ownBlock t l ov 4 c w'): ∃ov',CS W Y k tx ks (l++ [t]) kv ov' w':=by
 obtain⟨c,w1,⟨m,j,h3,o⟩,rfl⟩:=h4;have hYl:Y<W0.heap.size:=aF h.box;have a: ∀q,q≠Y->(w1.setCell ⟨Y,3,none⟩ c).heap[q]?=w1.heap[q]?:=λq b=>cP w1 ⟨Y,3,none⟩ c q b;have g:(w1.setCell ⟨Y,3,none⟩ c).heap.size=w1.heap.size:=by simp[World.setCell]
 refine⟨c,?_,?_,h.off,?_,?_,h.new_⟩
 ·have r:w1.heap[Y]?=some (.cells #[.int .i64 k, .string (bs tx),kv,ov] 26):=by
   rw[j.block Y (by omega)];exact h.box
  exact fO r 3 c
 ·refine h.keys.keepB (λq b i f=>?_);rw[a q (λe=>h.off (by rw[<-e];exact i)),o q f (Ii h.keys h.its i)]
 ·exact m.keepX (by rw[g];exact aE _) (λq b _=>a q (by omega))
 ·have n:=h.new_;have s:Below W.heap.size W0 w1:=j.mono (by omega);exact(h.bel.trans s).setCell (p:=⟨Y,3,none⟩) (by show W.heap.size<=Y;exact n) c
def mW (W W0:World) (Y:Nat) (key:aA) (ks:List aA) (kv:Value):Nat->Value->World->Prop
 | 0,_,w'=>Below W0.heap.size W0 w'
 | 1,c,w'=>c= .string (bs key)/\Below W0.heap.size W0 w'
 | 2,c,w'=> ∃w1,Below W0.heap.size W0 w1/\c= .slice (some ⟨w1.heap.size,0,none⟩) 1 1/\w'=w1.alloc (.cells #[.string (bs key)] 9)
 | 3,c,w'=>bR W.heap.size (ks++ [key]) c w'/\Below W.heap.size W0 w'/\W0.heap.size<=w'.heap.size/\(∀k,k<W0.heap.size->some k≠kv.ownBlock->w'.heap[k]?=W0.heap[k]?)/\ ∀k,some k=c.ownBlock->some k=kv.ownBlock\/W0.heap.size<=k
 | _,_,w'=> ∃c w1,(bR W.heap.size (ks++ [key]) c w1/\Below W.heap.size W0 w1/\W0.heap.size<=w1.heap.size/\(∀k,k<W0.heap.size->some k≠kv.ownBlock->w1.heap[k]?=W0.heap[k]?)/\ ∀k,some k=c.ownBlock->some k=kv.ownBlock\/W0.heap.size<=k)/\w'=w1.setCell ⟨Y,2,none⟩ c
theorem mW.app {o:Oper}{a:Act}{R:Act->World->Prop}{Q:Exit->Act->World->Prop} (s x:Operand)
  (ho:o.op= .call { callee:= .builtin .append,args:= #[s,x],argTypes:= #[23,23] })
  {W W0:World}{Y:Nat}{k:Int}{tx:aA}{ks:List aA}{l:List VT}{kv ov:Value} (h:CS W Y k tx ks l kv ov W0) {key:aA}{c:Value}{w':World} (h2:mW W W0 Y key ks kv 2 c w') (hs:a.eval s=kv) (hx:a.eval x=c) (hl:ks.length<=4294967295)
  (hR: ∀v' w2,mW W W0 Y key ks kv 3 v' w2->R (a.put o.dst v') w2):o.wp Tryz.prog a w' R Q:=by
 obtain⟨w1,u,rfl,rfl⟩:=h2;have b:Below W0.heap.size W0 (w1.alloc (.cells #[.string (bs key)] 9)):=aC u (aI _ _);have i:SV (w1.alloc (.cells #[.string (bs key)] 9)) (.slice (some ⟨w1.heap.size,0,none⟩) 1 1) [key]:=⟨_,1,rfl,aE _, .inr ⟨w1.heap.size,0,rfl,by simp,λj y g=>by have p:=(aR.1 g).1;simp at p;subst p;simp at g;subst g;rw[Nat.zero_add,World.cell?_alloc_new];rfl⟩⟩;refine Sr s x ho W.heap.size _ kv ks [key] hs (h.keys.keep b) _ hx i (by simp;omega) (aY h.bel.size b.size) (λv' w2 r n t f=>hR v' w2 ⟨r,(b.mono h.bel.size).trans n,aY b.size n.size,λq e m=>?_,λq e=>?_⟩)
 ·rw[t q (fV e b.size) m,b.block q e]
 ·rcases f with f | f
  ·exact .inl (by rw[e,f])
  ·rw[f] at e;injection e with e;subst e;exact .inr b.size
theorem mW.fin {W W0:World}{Y:Nat}{k:Int}{tx:aA}{ks:List aA}{l:List VT}{kv ov:Value} (h:CS W Y k tx ks l kv ov W0) {key:aA}{c:Value}{w':World} (h4:mW W W0 Y key ks kv 4 c w'): ∃kv',CS W Y k tx (ks++ [key]) l kv' ov w':=by
 obtain⟨c,w1,⟨r,o,h3,f,j⟩,rfl⟩:=h4;have i:Y<W0.heap.size:=aF h.box;have a: ∀q,q≠Y->(w1.setCell ⟨Y,2,none⟩ c).heap[q]?=w1.heap[q]?:=λq m=>cP w1 ⟨Y,2,none⟩ c q m;have b:some Y≠c.ownBlock:=λe=>by
  rcases j Y e with e2 | e2
  ·exact h.off e2
  ·omega
 refine⟨c,?_,?_,b,?_,?_,h.new_⟩
 ·have n:w1.heap[Y]?=some (.cells #[.int .i64 k, .string (bs tx),kv,ov] 26):=by
   rw[f Y i h.off];exact h.box
  exact fO n 2 c
 ·exact r.keepB (λq m s hlt=>a q (λe=>b (by rw[<-e];exact s)))
 ·obtain⟨es,g1,g2,g3⟩:=h.its;refine⟨es,g1,⟨g2.1,?_⟩,λe t=>(g3 e t).agree (λq ok lt=>⟨by rw[a q (by have:=ok.1;omega),f q lt ok.2.2],ok.1,ok.2.1,λe2=>?_⟩)⟩
  ·rcases g2.2 with g4 | ⟨g,cap,cur,e1,e2,e3,e4⟩
   ·exact .inl g4
   ·subst e1;refine .inr ⟨g,cap,cur,rfl,e2,?_,e4⟩;rw[a g (by omega),f g (aF e3) (λe=>(Ii h.keys h.its e) rfl)];exact e3
  ·rcases j q e2 with e3 | e3
   ·exact ok.2.2 e3
   ·omega
 ·exact(h.bel.trans o).setCell (p:=⟨Y,2,none⟩) (by show W.heap.size<=Y;exact h.new_) c
end
section
open Go.RowKit Go.Maps Go.WideMaps
def qF:List (List UInt8)->DataW Unit
 | []=> .map []
 | k::l=>(qF l).put (.string k) (.lit (.bool true))
theorem Ij: ∀l,IsMap (qF l)
 | []=>isMap_empty
 | k::l=>(Ij l).put _ _
theorem Ik (k:List UInt8): ∀l,(qF l).atKey (.string k) (.lit (.bool false))= .lit (.bool (decide (k∈l)))
 | []=>rfl
 | x::l=>by
  unfold qF;by_cases h:k=x
  ·subst h;rw[atKey_put_same (Ij l) (show WideAt.IsKeyLit (.string k) from trivial),aM gS]
  ·rw[atKey_put_other (λe=>h (by injection e)),Ik k l];congr 2;rw[decide_eq_decide];exact⟨λh1=>List.mem_cons_of_mem _ h1,λh1=>(dC.1 h1).resolve_left h⟩
def HM (b:Nat) (had:List (List UInt8)) (w:World):Prop:=w.ownsMap Tryz.prog 9 (plainElem Tryz.prog 4) b had.length (qF had)
theorem yK:Keyed Tryz.prog 9:=string_keyed Tryz.underlying9
theorem Su (w:World):(zeroValue 4).run Tryz.prog w= .ok (.bool false) w:=by kernel_rfl
theorem HM.look {b:Nat}{had:List (List UInt8)}{w:World} (h:HM b had w) (k:List UInt8) (hk:k.length<=1073741824):(Instr.lookup 110 (.map (some b)) (.string (bs k)) false).run Tryz.prog w= .ok (.bool (decide (k∈had))) w:=by
 have c:keyOf Tryz.prog 9 (.string (bs k))=some (.string k):=by
  have:=keyOf_string_mk (P:=Tryz.prog) Tryz.underlying9 (s:=bs k) (by rw[aT];unfold maxLen;omega);rw[aZ] at this;exact this
 obtain⟨v,ps,a,e⟩:=World.ownsMap.lookup h yK Tryz.underlying110 (Su w) (plainElem_bool Tryz.underlying4 false) c;rw[Ik] at e;have f:v= .bool (decide (k∈had)):=by
  unfold plainElem at e;rw[show Tryz.prog.underlying 4=some .bool from Tryz.underlying4] at e;cases v<;>simp at e;rw[e.1]
 rw[a,f]
theorem HM.lt {b:Nat}{had:List (List UInt8)}{w:World} (h:HM b had w):b<w.heap.size:=World.ownsMap.lt h
theorem HM.obj {b:Nat}{had:List (List UInt8)}{w:World} (h:HM b had w): ∃es c,w.heap[b]?=some (.map es c):=by
 obtain⟨es,c,a,_⟩:=h;exact⟨es,c,a⟩
theorem HM.same {b:Nat}{had:List (List UInt8)}{w w':World} (h:HM b had w) (hs:w'.heap[b]?=w.heap[b]?):HM b had w':=by
 obtain⟨es,c,e,f,g,a⟩:=h;exact⟨es,c,hs.trans e,f,g,a⟩
end
end Go.Proofs.YtaifnmjjpddikaaGreatDoor
