import Derived.Test.YtfhjncbdgjlcoaaGreatDoorYa24
set_option maxRecDepth 100000
set_option maxHeartbeats 4000000
set_option linter.unusedVariables false
set_option linter.unusedSimpArgs false
namespace Go.Proofs.YtfhjncbdgjlcoaaGreatDoor
open Go.RowKit
open Go.Lib hiding intOf
def uR (W0:World) (P t2:Nat):Nat->Value->World->Prop
 | 0,_,w'=>Below W0.heap.size W0 w'
 | _,_,w'=> ∃w1,Below W0.heap.size W0 w1/\w'=w1.setCell ⟨P,4,none⟩ (.int .i64 (t2:Int))
theorem uR.keep {W0 w' w2:World}{P t2:Nat}{c:Value} (h:uR W0 P t2 0 c w') (hb:Below w'.heap.size w' w2):uR W0 P t2 0 c w2:=aC (show Below W0.heap.size W0 w' from h) hb
theorem tD (s:aA) (a b:Int):(eQ s a b).length<=s.length:=by
 unfold eQ;rw[bT,aU];omega
theorem Bk {Pr:aJ}{w0:World}{P:Nat}{txt:aA}{sp:List (Nat×Nat)}{st:YS} (k:Nat) (kf kt:Int) (lv:Nat) (lev:Int) (w:World) (h:YJ YP Pr w0 P txt sp st 0 0 w) (hkl:k<st.lines.length) (hw:eS txt sp st) (hl:Hid (lev=33-(lv:Int))) (hlv:lv<=32) (hsp:eR txt sp) (hs:txt.length<=65536) (hn:sp.length<=131072) (hV:bU w0):
  Calls Tryz.prog 75 #[some P,k,lev, .agg #[kf,kt]] w (eT YP Pr w0 P txt sp (jW txt lv k kf kt st)):=by
 have vy:=trivial;exact p9
end Go.Proofs.YtfhjncbdgjlcoaaGreatDoor
