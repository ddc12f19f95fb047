import Derived.Test.YtfhjncbdgjlcoaaGreatDoorYn29
set_option linter.unusedVariables false
set_option linter.unusedSimpArgs false
set_option maxRecDepth 100000
set_option maxHeartbeats 8000000
namespace Go.Proofs.YtfhjncbdgjlcoaaGreatDoor
open Tryz
open Go.RowKit
open Go.Lib hiding intOf
theorem bW.appG {e:TypeId}{B n gl cl:Nat}{xs:List Value}{el:Array Value}{X i:Nat}{W0 w':World}{P:Program}{o:Oper}{a:Act}{K:Act->World->Prop}{Q:Exit->Act->World->Prop} (hgd:o.guard=none) (s x:Operand) (t:TypeId)
  (ho:o.op= .call { callee:= .builtin .append,args:= #[s,x],argTypes:= #[t,t] }) {i0:TypeInfo}{zv:Value}{bytes:Nat} (hu:P.underlying t=some (.slice e)) (hi:P.info? e=some i0) (hz:i0.zero=some zv) {size:Nat}
  (hsize:i0.size=size) (hby:i0.bytes=bytes) (hzs:zv.cells.size=size) (hsz:0<size) (hel:el.size=size)
  (hown:W0.ownsRow B e size (.slice (some ⟨gl,0,none⟩) n cl) n xs) (hn:n+1<=4294967296) (hbt:bytes<=256) (hB:B<=W0.heap.size) {c:Value} (h:bW e B (.slice (some ⟨gl,0,none⟩) n cl) n xs el X i W0 1 c w') (hs:a.eval s= .slice (some ⟨gl,0,none⟩) n n) (hx:a.eval x=c)
  (hK: ∀v' w2,bW e B (.slice (some ⟨gl,0,none⟩) n cl) n xs el X i W0 2 v' w2->K (a.put o.dst v') w2):o.wp P a w' K Q:=by
 obtain⟨w1,g,rfl,rfl⟩:=h;have hmul:(n+1)*bytes<=4294967296*256:=Nat.mul_le_mul hn hbt;have b:=(iP hown g).alloc (.cells el e);subst hsize hby;have f:=b.1;have l:el.toList.length=1*i0.size:=by simp[hel]
 have d:(xs++el.toList).length=(n+1)*i0.size:=by rw[aZ,f,l,Nat.add_mul]
 have j:=grownCap_ge (w1.alloc (.cells el e)) (n+1) n e;have m:=grownCap_le_maxLen (w1.alloc (.cells el e)) (n+1) n e r_;have q:=run_append_grow (P:=P) (w1.alloc (.cells el e)) t o.type e i0 zv hu hi hz ⟨gl,0,none⟩ n n xs f (World.ownsRow.cells b rfl) ⟨w1.heap.size,0,none⟩ 1 1 el.toList l (tD w1 el _) a_ a_ (growslice_fits a_ a_);unfold Oper.wp execOp;simp only[ho,resolve,invoke,builtin,Sem.run_bind,Sem.run_pure,Result.andThen_ok,List.map_toArray,pN,List.map_nil,hs,hx,q];refine hK _ _ ⟨w1,g,⟨by rw[hel];exact d, .inr ⟨(w1.alloc (.cells el e)).heap.size,_,_,rfl,by have:=g.size;simp;omega,heap_alloc_new (w1.alloc (.cells el e)).drew _,j,m,?_,?_⟩⟩,⟨rfl,rfl,rfl,by simp;omega,λk p _=>?_⟩, .inr ?_,_,_,rfl⟩
 .simp only[Array.size_append,List.size_toArray,size_zeroCells,hzs,f,l,<-Nat.add_mul];congr 1<;>omega
 .simp only[Array.toList_append,nX];rw[<-nX,hel,<-d];exact List.take_left
 .exact((aL (w1.alloc (.cells el e)).drew _).block k h_).trans ((aL w1 _).block k p)
 .simp[Value.ownBlock]
theorem aBE {x:aV}{lv:Nat}{a b er:Int}{st:YS} (h:gC x lv a st= .bad b er) (y:aV):gC y lv a st= .bad b er:=by
 unfold gC at h ⊢;split at h
 .rename_i c;rw[if_pos c];exact h
 .rename_i c;rw[if_neg c];split at h
  .rename_i d;rw[if_pos d];exact h
  .cases h
theorem sG.c1 {T:TypeId}{Pr:aO}{P:Nat}{txt:aB}{sv lv nv:Value}{tot:Nat}{a er:Int}{w:World} (h:sG T Pr P txt sv lv nv tot a er w):w.cell? (P,1)=some sv:=by
 have b:=h.box;simp[World.cell?,b]
theorem aBF {w:World}{B g n cap:Nat}{sp:List (Nat×Nat)} (hr:w.ownsRow B 42 2 (.slice (some ⟨g,0,none⟩) n cap) n (kX sp)) (hn:n=sp.length) {k:Nat}{r:Nat×Nat} (hx:sp[k]?=some r):w.cell? (g,k*2)=some (.int .i64 (r.1:Int))/\w.cell? (g,k*2+1)=some (.int .i64 (r.2:Int)):=by
 subst hn;have hl:=(aW.1 hx).1;have a:=qT (λp:Nat×Nat=>([p.1,p.2]:List Value)) 2 wM sp k r hx;have e0:=a 0 a_;rw[Nat.add_zero] at e0;exact⟨(World.ownsRow.cellAt hr _ a_).trans e0,(World.ownsRow.cellAt hr _ a_).trans (a 1 a_)⟩
theorem YK.sprA {T:TypeId}{Pr:aO}{w0 w' W0:World}{P:Nat}{txt:aB}{sp:List (Nat×Nat)}{lines:List aS}{z:List YN}{tot:Nat}{a er:Int}{sv lv nv:Value} (h:YK T Pr w0 P txt sp lines z tot a er sv lv nv W0) {n:Nat}{xs:List Value}{el:Array Value}{X i k:Nat}{c:Value} (hk:k<3) (hp:bW 68 w0.heap.size lv n xs el X i W0 k c w'):w'.ownsRow w0.heap.size 42 2 sv sp.length (kX sp):=by
 match k,hp with
 | 0,hp=>exact(h.keep (show aA W0 w' from hp)).spr
 | 1,⟨w1,hb,_,hw⟩=>
  rw[hw];exact((h.keep hb).keep (aL w1 _)).spr
 | 2,⟨w1,hb,_,hg,_⟩=>
  have b:=h.keep hb;exact b.spr.kept hg (gW b.spr b.lnr b_)
 | k+3,_=>omega
def Ck (t1 t2 t3:Bool):Bool:=t1||(t2&&t3)
theorem aBG {s:aB}{ind fz:Int}{first i tl til nb:Nat}{r:List (Nat×Nat)}{t1 t2 t3:Bool} (hf:fz=if first=0 then -1 else(first:Int)) (hg:(if(nb:Int)<=ind\/nb<first then tl else jL s ind r i i (if first=0 then nb else first))=til) (ht:decide ((nb:Int)<=ind)=t1/\decide ((0:Int)<=fz)=t2/\decide ((nb:Int)<fz)=t3) (he:Ck t1 t2 t3=true):tl=til:=by
 obtain⟨rfl,rfl,rfl⟩:=ht;unfold Ck at he;simp only[Bool.or_eq_true,fQ,kB] at he;rw[if_pos (by split at hf<;>omega)] at hg;exact hg
theorem aBH {s:aB}{ind fz:Int}{first i tl til nb:Nat}{r:List (Nat×Nat)}{t1 t2 t3:Bool} (hf:fz=if first=0 then -1 else(first:Int)) (hg:(if(nb:Int)<=ind\/nb<first then tl else jL s ind r i i (if first=0 then nb else first))=til) (ht:decide ((nb:Int)<=ind)=t1/\decide ((0:Int)<=fz)=t2/\decide ((nb:Int)<fz)=t3) (he:Ck t1 t2 t3=false):jL s ind r i i (if t2 then first else nb)=til:=by
 obtain⟨rfl,rfl,rfl⟩:=ht;unfold Ck at he;simp only[Bool.or_eq_false_iff,Bool.and_eq_false_iff,decide_eq_false_iff_not] at he;rw[if_neg (by split at hf<;>omega)] at hg;rw[<-hg];by_cases h0:first=0
 .rw[if_pos h0,if_neg (by rw[if_pos h0] at hf;simp;omega)]
 .rw[if_neg h0,if_pos (by rw[if_neg h0] at hf;simp;omega)]
theorem aBI {ind fz:Int}{first nb:Nat}{t1 t2 t3:Bool} (hf:fz=if first=0 then -1 else(first:Int)) (ht:decide ((nb:Int)<=ind)=t1/\decide ((0:Int)<=fz)=t2/\decide ((nb:Int)<fz)=t3) (h1:t1=false) (hi:0<=ind):(if t2 then fz else(nb:Int))=if(if t2 then first else nb)=0 then -1 else((if t2 then first else nb:Nat):Int):=by
 obtain⟨rfl,rfl,rfl⟩:=ht;have:=of_decide_eq_false h1;by_cases h2:(0:Int)<=fz
 .simp only[h2,decide_true,if_true];exact hf
 .simp only[h2,decide_false,Bool.false_eq_true,if_false];rw[if_neg a_]
theorem aBJ {Pr:aO}{w0:World}{P:Nat}{txt:aB}{sp:List (Nat×Nat)}{st:YS} (k:Nat) (kf kt:Int) (lv:Nat) (lev:Int) (w:World) (h:YJ YQ Pr w0 P txt sp st 0 0 w) (hk:k+1=st.lines.length) (hw:dR txt sp st) (hl:Hid (lev=33-(lv:Int))) (hlv:lv<=32) (hsp:dV txt sp) (hs:txt.length<=65536) (hn:sp.length<=131072):
    Calls prog 70 #[some P,k,lev, .agg #[kf,kt]] w (fG YQ Pr w0 P txt sp (lK txt sp lv k kf kt st)):=by
  have Q3:=trivial;exact PH
def qZ (f:Nat) (w0:World) (P:Nat) (txt:aB) (sp:List (Nat×Nat)) (B:YB) (lv:Nat):Prop:= ∀(Pr:aO) (k:Nat) (kf kt:Int) (st:YS) (lev:Int) (w:World),YJ YP Pr w0 P txt sp st 0 0 w->k+1=st.lines.length->dR txt sp st->Hid (lev=33-(lv:Int))->
 Calls prog f #[some P,k,lev, .agg #[kf,kt]] w (fG YP Pr w0 P txt sp (B k kf kt st))
theorem tY {t l:aB} (h:t=l):((bs t).toList==l)=true:=by rw[Lib.toList_data,aY,h];simp
theorem sK {t l:aB} (h:t≠l):((bs t).toList==l)=false:=by rw[Lib.toList_data,aY];simpa using h
theorem aBK (w0:World) (P:Nat) (txt:aB) (sp:List (Nat×Nat)) (hsp0:dV txt sp) (hs:txt.length<=65536) (hn:sp.length<=131072) (hV:bV w0) (lv:Nat) (hlv:lv<=32) (B:YB) (hBG:gS txt sp B) (IH:qZ 44 w0 P txt sp B lv):qZ 106 w0 P txt sp (mY txt sp B lv) lv:=by
 have QU:=trivial;exact PE
end Go.Proofs.YtfhjncbdgjlcoaaGreatDoor
