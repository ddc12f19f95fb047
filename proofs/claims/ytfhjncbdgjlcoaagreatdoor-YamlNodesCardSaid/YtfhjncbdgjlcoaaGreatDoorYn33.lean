import Derived.Test.YtfhjncbdgjlcoaaGreatDoorYn32
set_option linter.unusedVariables false
set_option linter.unusedSimpArgs false
set_option maxRecDepth 100000
set_option maxHeartbeats 8000000
namespace Go.Proofs.YtfhjncbdgjlcoaaGreatDoor
open Tryz
open Go.RowKit Go.Maps Go.WideMaps
open Go.Lib hiding intOf
theorem YK.puts {T:TypeId}{Pr Pr':aO}{w0 w w':World}{P:Nat}{txt:aB}{sp:List (Nat×Nat)}{lines:List aS}{z:List YN}{tot:Nat}{a er:Int}{sv lv nv:Value} (h:YK T Pr w0 P txt sp lines z tot a er sv lv nv w) (hb:aA w w') (hp: ∀k o,Pr' k=some o->Pr k=some o\/(w.heap.size<=k/\w'.heap[k]?=some o)):YK T Pr' w0 P txt sp lines z tot a er sv lv nv w':=QD
theorem YJ.puts {T:TypeId}{Pr Pr':aO}{w0 w w':World}{P:Nat}{txt:aB}{sp:List (Nat×Nat)}{st:YS}{a er:Int} (h:YJ T Pr w0 P txt sp st a er w) (hb:aA w w') (hp: ∀k o,Pr' k=some o->Pr k=some o\/(w.heap.size<=k/\w'.heap[k]?=some o)):YJ T Pr' w0 P txt sp st a er w':=by
 obtain⟨z,sv,lv,nv,b,c⟩:=h;exact⟨z,sv,lv,nv,b,c.puts hb hp⟩
def Co (W0:World) (AV:Value) (O:World->Prop):Nat->Value->World->Prop
 | 0,_,w'=>Below W0.heap.size W0 w'
 | _,c,w'=>c=AV/\O w'
theorem aBV (P b:Nat) (w:World):Calls prog 76 #[some P, .map (some b)] w λe w'=>e= .returned (.func (.func 110) #[] #[some w.heap.size,some (w.heap.size+1)])/\w'=(w.alloc (.cells #[some P] 64)).alloc (.cells #[.map (some b)] 124):=by
 have hsz:(w.alloc (.cells #[some P] 64)).heap.size=w.heap.size+1:=e_
 exact bj
def HT (_:List aB) (_:World):Prop:=True
def yW (w0:World) (P:Nat) (txt:aB) (sp:List (Nat×Nat)) (V:YB) (map:Bool) (Pr:aO) (H:List aB->World->Prop) (FV:Value) (n:Nat) (ind lev1:Int):Prop:= ∀(k:Nat) (st:YS) (had:List aB) (w':World),YJ YP Pr w0 P txt sp st 0 0 w'->H had w'->k+1=st.lines.length->dR txt sp st->(∃x,st.nodes[n]?=some x/\x.ind=ind/\x.kids.length+n<st.nodes.length)->had.length<=131072->
 Calls prog 78 #[some P,n,k,lev1,FV] w' (yV Pr w0 P txt sp H (fW txt sp V map n ind had k st))
theorem aBW {w0:World}{P:Nat}{txt:aB}{sp:List (Nat×Nat)} (hsp:dV txt sp) (hs:txt.length<=65536) (hns:sp.length<=131072) (hV:bV w0) {V:YB} (hVG:gS txt sp V) {m:Nat} (IH:qZ 106 w0 P txt sp V m) (Pr:aO) (n:Nat) (ind lev1:Int) (hl:Hid (lev1=33-(m:Int))):
  yW w0 P txt sp V false Pr HT (.func (.func 74) #[some P] #[]) n ind lev1:=by
 intro k st c w' d _ b a ⟨x,hx,hxi,hxk⟩ hh;have ht:=a.tot;refine aBT w0 P txt sp hsp hs hns hV V hVG HT n k ind lev1 c w' b a hx hxi (Nr hVG a b hx a_) d.lt ?_;exact(aBO w0 P txt sp V m IH k lev1 w' d b a hl).mono (λe w2 f=>fG.toX f)
theorem aBX {w0:World}{P:Nat}{txt:aB}{sp:List (Nat×Nat)} (hsp:dV txt sp) (hs:txt.length<=65536) (hns:sp.length<=131072) (hV:bV w0) {V:YB} (hVG:gS txt sp V) {m:Nat} (IH:qZ 106 w0 P txt sp V m) (Pr:aO) (n:Nat) (ind lev1:Int) (hl:Hid (lev1=33-(m:Int))) {b CX CY:Nat} (hB:w0.heap.size<=b) (hpb:Pr b=none)
  (hX:Pr CX=some (.cells #[some P] 64)) (hY:Pr CY=some (.cells #[.map (some b)] 124)):
  yW w0 P txt sp V true Pr (HM b) (.func (.func 110) #[] #[some CX,some CY]) n ind lev1:=by
 intro k st a w' f g d c ⟨x,hx,hxi,hxk⟩ hh;have ht:=c.tot;refine aBU w0 P txt sp hsp hs hns hV V hVG (HM b) n k ind lev1 a CX CY w' d c hx hxi (Nr hVG c d hx a_) f.lt ?_;exact(aBQ w0 P txt sp hs hV V m IH k lev1 b CX CY a w' f d c hl g hB hpb hh hX hY).mono (λe w2 h=>Cm.toX hpb h)
def Cp (w0:World) (P:Nat) (txt:aB) (sp:List (Nat×Nat)) (V:YB) (map:Bool) (Pr:aO) (H:List aB->World->Prop) (n:Nat) (ind kind:Int) (R:YR) (b:Bool) (k:Nat) (wr:World):Prop:=match b with
 | true=> ∃f had st,jM txt sp V map n ind kind f had k st=R/\YJ YP Pr w0 P txt sp st 0 0 wr/\H had wr/\dR txt sp st/\(k<sp.length->k+1=st.lines.length)/\k<=sp.length/\sp.length<=k+f/\(∃x,st.nodes[n]?=some x/\x.ind=ind/\x.kids.length+n<st.nodes.length)/\had.length<=k
 | false=> ∃a e,R= .bad a e/\gH YP Pr w0 P txt sp a e wr
def Gu (n:Nat) (s1 s14:Value):Nat:=match s14 with
 | .bool true=>1+(n+1-(RowKit.intOf s1).toNat)
 | _=>0
theorem aBY {w:World}{X:Nat}{a0 a1 a2 a3 a4 a5 a6 a7 a8 b0:Value}{t:TypeId} (h:w.heap[X]?=some (.cells #[a0,a1,a2,a3,a4,a5,a6,a7,a8] t)):(w.setCell ⟨X,0,none⟩ b0).heap[X]?=some (.cells #[b0,a1,a2,a3,a4,a5,a6,a7,a8] t):=aj
theorem aBZ (w0:World) (P:Nat) (txt:aB) (sp:List (Nat×Nat)) (hsp0:dV txt sp) (hs:txt.length<=65536) (hn:sp.length<=131072) (hV:bV w0) (lv:Nat) (hlv:lv<=32) (V:YB) (hVG:lv≠0->gS txt sp V) (IH: ∀m,lv=m+1->qZ 106 w0 P txt sp V m) (Pr:aO) (k:Nat) (kf kt:Int) (st:YS) (lev:Int) (w:World) (h:YJ YP Pr w0 P txt sp st 0 0 w) (hk1l:k+1=st.lines.length) (hw:dR txt sp st) (hl:Hid (lev=33-(lv:Int))):
 Calls prog 44 #[some P,k,lev, .agg #[kf,kt]] w (fG YP Pr w0 P txt sp (kZ txt sp V lv k kf kt st)):=by
 have QW:=trivial;exact PE
theorem Pc (w0:World) (P:Nat) (txt:aB) (sp:List (Nat×Nat)) (hsp0:dV txt sp) (hs:txt.length<=65536) (hn:sp.length<=131072) (hV:bV w0) (lv:Nat) (hlv:lv<=32) (V:YB) (hVG:lv≠0->gS txt sp V) (IH: ∀m,lv=m+1->qZ 106 w0 P txt sp V m):qZ 44 w0 P txt sp (kZ txt sp V lv) lv:=by
 intro Pr k kf kt st a w h c b d;exact aBZ w0 P txt sp hsp0 hs hn hV lv hlv V hVG IH Pr k kf kt st a w h c b d
theorem Pd (w0:World) (P:Nat) (txt:aB) (sp:List (Nat×Nat)) (hsp0:dV txt sp) (hs:txt.length<=65536) (hn:sp.length<=131072) (hV:bV w0): ∀(lv:Nat),lv<=32->qZ 44 w0 P txt sp (oI txt sp lv) lv
 | 0,hl=>Pc w0 P txt sp hsp0 hs hn hV 0 hl _ (λh=>absurd rfl h) (λm h=>by omega)
 | lv+1,hl=>Pc w0 P txt sp hsp0 hs hn hV (lv+1) hl _ (λ_=>yK hsp0 (pG hsp0 lv) lv) (λm h=>by obtain rfl:m=lv:=a_;exact aBK w0 P txt sp hsp0 hs hn hV m a_ _ (pG hsp0 m) (Pd w0 P txt sp hsp0 hs hn hV m a_))
end Go.Proofs.YtfhjncbdgjlcoaaGreatDoor
