import Derived.Test.YtfhjncbdgjlcoaaGreatDoorYa32
set_option maxRecDepth 100000
set_option maxHeartbeats 8000000
set_option linter.unusedVariables false
set_option linter.unusedSimpArgs false
namespace Go.Proofs.YtfhjncbdgjlcoaaGreatDoor
open Go.RowKit Go.Maps Go.WideMaps
open Go.Lib hiding intOf
theorem YK.puts {T:TypeId}{Pr Pr':aJ}{w0 w w':World}{P:Nat}{txt:aA}{sp:List (Nat×Nat)}{lines:List aP}{z:List YN}{tot:Nat}{a er:Int}{sv lv nv:Value} (h:YK T Pr w0 P txt sp lines z tot a er sv lv nv w) (hb:Below w.heap.size w w') (hp: ∀k o,Pr' k=some o->Pr k=some o\/(w.heap.size<=k/\w'.heap[k]?=some o)):YK T Pr' w0 P txt sp lines z tot a er sv lv nv w':=uq
theorem YJ.puts {T:TypeId}{Pr Pr':aJ}{w0 w w':World}{P:Nat}{txt:aA}{sp:List (Nat×Nat)}{st:YS}{a er:Int} (h:YJ T Pr w0 P txt sp st a er w) (hb:Below w.heap.size w w') (hp: ∀k o,Pr' k=some o->Pr k=some o\/(w.heap.size<=k/\w'.heap[k]?=some o)):YJ T Pr' w0 P txt sp st a er w':=by
 obtain⟨z,sv,lv,nv,c,b⟩:=h;exact⟨z,sv,lv,nv,c,b.puts hb hp⟩
def Bq (W0:World) (AV:Value) (O:World->Prop):Nat->Value->World->Prop
 | 0,_,w'=>Below W0.heap.size W0 w'
 | _,c,w'=>c=AV/\O w'
theorem aBc (P b:Nat) (w:World):Calls Tryz.prog 76 #[some P, .map (some b)] w λe w'=>e= .returned (.func (.func 110) #[] #[some w.heap.size,some (w.heap.size+1)])/\w'=(w.alloc (.cells #[some P] 64)).alloc (.cells #[.map (some b)] 124):=by
 have hsz:(w.alloc (.cells #[some P] 64)).heap.size=w.heap.size+1:=e_
 go_enter Tryz.func76,Tryz.ntmps76;exact aa
def HT (_:List aA) (_:World):Prop:=True
def yG (w0:World) (P:Nat) (txt:aA) (sp:List (Nat×Nat)) (V:YB) (map:Bool) (Pr:aJ) (H:List aA->World->Prop) (FV:Value) (n:Nat) (ind lev1:Int):Prop:= ∀(k:Nat) (st:YS) (had:List aA) (w':World),YJ YP Pr w0 P txt sp st 0 0 w'->H had w'->k+1=st.lines.length->eS txt sp st->(∃x,st.nodes[n]?=some x/\x.ind=ind/\x.kids.length+n<st.nodes.length)->had.length<=131072->
 Calls Tryz.prog 78 #[some P,n,k,lev1,FV] w' (yF Pr w0 P txt sp H (iM txt sp V map n ind had k st))
theorem aBd {w0:World}{P:Nat}{txt:aA}{sp:List (Nat×Nat)} (hsp:eR txt sp) (hs:txt.length<=65536) (hns:sp.length<=131072) (hV:bU w0) {V:YB} (hVG:iV txt sp V) {m:Nat} (IH:qB 106 w0 P txt sp V m) (Pr:aJ) (n:Nat) (ind lev1:Int) (hl:Hid (lev1=33-(m:Int))):
  yG w0 P txt sp V false Pr HT (.func (.func 74) #[some P] #[]) n ind lev1:=by
 intro k st b w' d _ c a ⟨x,hx,hxi,hxk⟩ hh;have ht:=a.tot;refine aBa w0 P txt sp hsp hs hns hV V hVG HT n k ind lev1 b w' c a hx hxi (Mr hVG a c hx a_) d.lt ?_;exact(aAV w0 P txt sp V m IH k lev1 w' d c a hl).mono (λe w2 f=>eT.toX f)
theorem aBe {w0:World}{P:Nat}{txt:aA}{sp:List (Nat×Nat)} (hsp:eR txt sp) (hs:txt.length<=65536) (hns:sp.length<=131072) (hV:bU w0) {V:YB} (hVG:iV txt sp V) {m:Nat} (IH:qB 106 w0 P txt sp V m) (Pr:aJ) (n:Nat) (ind lev1:Int) (hl:Hid (lev1=33-(m:Int))) {b CX CY:Nat} (hB:w0.heap.size<=b) (hpb:Pr b=none)
  (hX:Pr CX=some (.cells #[some P] 64)) (hY:Pr CY=some (.cells #[.map (some b)] 124)):
  yG w0 P txt sp V true Pr (HM b) (.func (.func 110) #[] #[some CX,some CY]) n ind lev1:=by
 intro k st a w' f g d c ⟨x,hx,hxi,hxk⟩ hh;have ht:=c.tot;refine aBb w0 P txt sp hsp hs hns hV V hVG (HM b) n k ind lev1 a CX CY w' d c hx hxi (Mr hVG c d hx a_) f.lt ?_;exact(aAX w0 P txt sp hs hV V m IH k lev1 b CX CY a w' f d c hl g hB hpb hh hX hY).mono (λe w2 h=>Bo.toX hpb h)
def Br (w0:World) (P:Nat) (txt:aA) (sp:List (Nat×Nat)) (V:YB) (map:Bool) (Pr:aJ) (H:List aA->World->Prop) (n:Nat) (ind kind:Int) (R:YR) (b:Bool) (k:Nat) (wr:World):Prop:=match b with
 | true=> ∃f had st,nG txt sp V map n ind kind f had k st=R/\YJ YP Pr w0 P txt sp st 0 0 wr/\H had wr/\eS txt sp st/\(k<sp.length->k+1=st.lines.length)/\k<=sp.length/\sp.length<=k+f/\(∃x,st.nodes[n]?=some x/\x.ind=ind/\x.kids.length+n<st.nodes.length)/\had.length<=k
 | false=> ∃a e,R= .bad a e/\fS YP Pr w0 P txt sp a e wr
def Fz (n:Nat) (s1 s14:Value):Nat:=match s14 with
 | .bool true=>1+(n+1-(RowKit.intOf s1).toNat)
 | _=>0
theorem aBf {w:World}{X:Nat}{a0 a1 a2 a3 a4 a5 a6 a7 a8 b0:Value}{t:TypeId} (h:w.heap[X]?=some (.cells #[a0,a1,a2,a3,a4,a5,a6,a7,a8] t)):(w.setCell ⟨X,0,none⟩ b0).heap[X]?=some (.cells #[b0,a1,a2,a3,a4,a5,a6,a7,a8] t):=ai
theorem aBg (w0:World) (P:Nat) (txt:aA) (sp:List (Nat×Nat)) (hsp0:eR txt sp) (hs:txt.length<=65536) (hn:sp.length<=131072) (hV:bU w0) (lv:Nat) (hlv:lv<=32) (V:YB) (hVG:lv≠0->iV txt sp V) (IH: ∀m,lv=m+1->qB 106 w0 P txt sp V m) (Pr:aJ) (k:Nat) (kf kt:Int) (st:YS) (lev:Int) (w:World) (h:YJ YP Pr w0 P txt sp st 0 0 w) (hk1l:k+1=st.lines.length) (hw:eS txt sp st) (hl:Hid (lev=33-(lv:Int))):
 Calls Tryz.prog 44 #[some P,k,lev, .agg #[kf,kt]] w (eT YP Pr w0 P txt sp (oE txt sp V lv k kf kt st)):=by
 have wj:=trivial;exact p7
theorem Oc (w0:World) (P:Nat) (txt:aA) (sp:List (Nat×Nat)) (hsp0:eR txt sp) (hs:txt.length<=65536) (hn:sp.length<=131072) (hV:bU w0) (lv:Nat) (hlv:lv<=32) (V:YB) (hVG:lv≠0->iV txt sp V) (IH: ∀m,lv=m+1->qB 106 w0 P txt sp V m):qB 44 w0 P txt sp (oE txt sp V lv) lv:=by
 intro Pr k kf kt st a w h c d b;exact aBg w0 P txt sp hsp0 hs hn hV lv hlv V hVG IH Pr k kf kt st a w h c d b
theorem Od (w0:World) (P:Nat) (txt:aA) (sp:List (Nat×Nat)) (hsp0:eR txt sp) (hs:txt.length<=65536) (hn:sp.length<=131072) (hV:bU w0): ∀(lv:Nat),lv<=32->qB 44 w0 P txt sp (tA txt sp lv) lv
 | 0,hl=>Oc w0 P txt sp hsp0 hs hn hV 0 hl _ (λh=>absurd rfl h) (λm h=>by omega)
 | lv+1,hl=>Oc w0 P txt sp hsp0 hs hn hV (lv+1) hl _ (λ_=>Ew hsp0 (tB hsp0 lv) lv) (λm h=>by obtain rfl:m=lv:=a_;exact aAR w0 P txt sp hsp0 hs hn hV m a_ _ (tB hsp0 m) (Od w0 P txt sp hsp0 hs hn hV m a_))
end Go.Proofs.YtfhjncbdgjlcoaaGreatDoor
