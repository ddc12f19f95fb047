import Derived.Test.YtdegjfmjjabnnaaGreatDoorMkG
import Derived.BigQuiet
import Derived.Deep.QuietTactic
/-! The walks of scarfref25.Same (at the same parts), scarflaw25.few. -/
namespace Go.Proofs.YtdegjfmjjabnnaaGreatDoor
set_option linter.unusedSimpArgs false
set_option linter.unusedVariables false
open Go.RowKit
open Go.Lib hiding intOf
attribute [local go_sem] eqSides

set_option maxRecDepth 100000 in
set_option maxHeartbeats 4000000 in
theorem rSame_yes (v1 v2 : Value) (l : List Part) (w : World) (h1 : PV w v1 l) (h2 : PV w v2 l) (hl : l.length ≤ 1073741825) :
    Calls Tryz.prog 7 #[v1, v2] w fun e w' => e = .returned (.bool true) ∧ Below w.heap.size w w' := by
  obtain ⟨p, c, rfl, hp⟩ := h1
  obtain ⟨q, d, rfl, hq⟩ := h2
  have HP : Hid (PLies w p l) := Lib.hid hp
  have HQ : Hid (PLies w q l) := Lib.hid hq
  clear hp hq
  go_enter Tryz.func7, Tryz.ntmps7
  go_wp2_with fail
  go_loopw [5] (fun s5 wr => ∃ (j : Nat), s5 = .int .i64 j ∧ j ≤ l.length ∧ Hid (Below w.heap.size w wr)) (fun s5 _ => l.length - (RowKit.intOf s5).toNat)
  case atStart => exact ⟨0, rfl, by omega, Below.refl _ _⟩
  case round =>
    obtain ⟨j, rfl, hj, HB⟩ := hrel
    by_cases hlt : j < l.length
    · obtain ⟨x, hx⟩ : ∃ x, l[j]? = some x := ⟨_, List.getElem?_eq_getElem hlt⟩
      obtain ⟨g, o, rfl, hg, _, c0, c1, c2, c3, c4⟩ := (HP.out.keep HB.out).at_ hx
      obtain ⟨g2, o2, rfl, hg2, _, d0, d1, d2, d3, d4⟩ := (HQ.out.keep HB.out).at_ hx
      have hlz : (j : Int) < (l.length : Int) := by omega
      clear hx
      go_wp2_with fail
      go_quiet (fail)
      go_wp2_with fail
      go_roundw
      case rel => exact ⟨j + 1, by go_num, by omega, below_drewN HB.out _⟩
      case measure => simp [RowKit.intOf]; omega
    · go_wp2_with fail
      go_ret
      exact ⟨rfl, HB.out⟩
def Few (l : List Part) : Prop := l.length ≤ 60 ∧ ∀ x ∈ l, x.text.length + x.s0.length + x.s1.length + x.s2.length ≤ 1024
def FewE (l : List Part) (w : World) (e : Ending) (w' : World) : Prop := ∃ b, e = .returned (.bool b) ∧ (b = true → Few l) ∧ Below w.heap.size w w'
end Go.Proofs.YtdegjfmjjabnnaaGreatDoor
