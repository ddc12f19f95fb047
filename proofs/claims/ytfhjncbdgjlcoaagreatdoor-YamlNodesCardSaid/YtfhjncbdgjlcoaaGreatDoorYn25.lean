import Derived.Test.YtfhjncbdgjlcoaaGreatDoorYn24
set_option linter.unusedVariables false
set_option linter.unusedSimpArgs false
set_option maxRecDepth 100000
set_option maxHeartbeats 4000000
namespace Go.Proofs.YtfhjncbdgjlcoaaGreatDoor
open Tryz
open Go.RowKit
open Go.Lib hiding intOf
def vH (W0:World) (P t2:Nat):Nat->Value->World->Prop
 | 0,_,w'=>Below W0.heap.size W0 w'
 | _,_,w'=> ∃w1,Below W0.heap.size W0 w1/\w'=w1.setCell ⟨P,4,none⟩ (.int .i64 (t2:Int))
theorem vH.keep {W0 w' w2:World}{P t2:Nat}{c:Value} (h:vH W0 P t2 0 c w') (hb:aA w' w2):vH W0 P t2 0 c w2:=aE (show aA W0 w' from h) hb
theorem tW (s:aB) (a b:Int):(dQ s a b).length<=s.length:=by
 unfold dQ;rw[bR,bC];omega
theorem Ch {Pr:aO}{w0:World}{P:Nat}{txt:aB}{sp:List (Nat×Nat)}{st:YS} (k:Nat) (kf kt:Int) (lv:Nat) (lev:Int) (w:World) (h:YJ YP Pr w0 P txt sp st 0 0 w) (hkl:k<st.lines.length) (hw:dR txt sp st) (hl:Hid (lev=33-(lv:Int))) (hlv:lv<=32) (hsp:dV txt sp) (hs:txt.length<=65536) (hn:sp.length<=131072) (hV:bV w0):
  Calls prog 75 #[some P,k,lev, .agg #[kf,kt]] w (fG YP Pr w0 P txt sp (iB txt lv k kf kt st)):=by
 have QQ:=trivial;exact PH
end Go.Proofs.YtfhjncbdgjlcoaaGreatDoor
