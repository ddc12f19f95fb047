import Derived.Test.YtnnlpkbopeiefaaGreatDoorQuoE
import Derived.Test.YtnnlpkbopeiefaaGreatDoorRnB
import Derived.Test.YtnnlpkbopeiefaaGreatDoorEncD
import Derived.Lib.MapLaws
import Derived.Lib.TrimAscii
/-! The walks of scarfref03: hex, utf. -/
namespace Go.Proofs.YtnnlpkbopeiefaaGreatDoor
set_option linter.unusedSimpArgs false
set_option linter.unusedVariables false
open Go.RowKit
open Go.Lib hiding intOf
end Go.Proofs.YtnnlpkbopeiefaaGreatDoor
/-! The walk of scarfref03.escape. -/
namespace Go.Proofs.YtnnlpkbopeiefaaGreatDoor
set_option linter.unusedSimpArgs false
set_option linter.unusedVariables false
open Go.RowKit
open Go.Lib hiding intOf
theorem below_drew1 {B : Nat} {a w : World} (h : RowKit.Below B a w) : RowKit.Below B a w.drew := ⟨h.os, h.tape, h.output, h.size, h.block⟩
end Go.Proofs.YtnnlpkbopeiefaaGreatDoor
/-! The walk of scarfref03.Read. -/
namespace Go.Proofs.YtnnlpkbopeiefaaGreatDoor
set_option linter.unusedSimpArgs false
set_option linter.unusedVariables false
open Go.RowKit
open Go.Lib hiding intOf
end Go.Proofs.YtnnlpkbopeiefaaGreatDoor
/-! The walks of scarfref03: Unquote, End; quote.letter. -/
namespace Go.Proofs.YtnnlpkbopeiefaaGreatDoor
set_option linter.unusedSimpArgs false
set_option linter.unusedVariables false
open Go.RowKit
open Go.Lib hiding intOf
end Go.Proofs.YtnnlpkbopeiefaaGreatDoor
/-! The walks of scarfref03.Unquote, quote.letter. -/
namespace Go.Proofs.YtnnlpkbopeiefaaGreatDoor
set_option linter.unusedSimpArgs false
set_option linter.unusedVariables false
open Go.RowKit
open Go.Lib hiding intOf
def letterI (n : Int) : Int := if n = 34 then 34 else if n = 92 then 92 else if n = 8 then 98 else if n = 12 then 102 else if n = 10 then 110 else if n = 13 then 114 else if n = 9 then 116 else 0
set_option maxHeartbeats 1000000 in
theorem letter_any (n : Int) (w : World) :
    Calls Tryz.prog 171 #[.int .i32 n] w fun e w' => e = .returned (.int .u8 (letterI n)) ∧ w = w' := by
  obtain ⟨R, hR⟩ : ∃ R, letterI n = R := ⟨_, rfl⟩
  rw [hR]
  unfold letterI at hR
  by_cases c0 : n = 34
  · rw [if_pos c0] at hR; subst hR c0
    go_enter Tryz.func171, Tryz.ntmps171
    go_wp2_with fail
    go_ret
    exact ⟨rfl, rfl⟩
  rw [if_neg c0] at hR
  have d0 : (n == 34) = false := beq_eq_false_iff_ne.2 c0
  by_cases c1 : n = 92
  · rw [if_pos c1] at hR; subst hR c1
    go_enter Tryz.func171, Tryz.ntmps171
    go_wp2_with fail
    go_ret
    exact ⟨rfl, rfl⟩
  rw [if_neg c1] at hR
  have d1 : (n == 92) = false := beq_eq_false_iff_ne.2 c1
  by_cases c2 : n = 8
  · rw [if_pos c2] at hR; subst hR c2
    go_enter Tryz.func171, Tryz.ntmps171
    go_wp2_with fail
    go_ret
    exact ⟨rfl, rfl⟩
  rw [if_neg c2] at hR
  have d2 : (n == 8) = false := beq_eq_false_iff_ne.2 c2
  by_cases c3 : n = 12
  · rw [if_pos c3] at hR; subst hR c3
    go_enter Tryz.func171, Tryz.ntmps171
    go_wp2_with fail
    go_ret
    exact ⟨rfl, rfl⟩
  rw [if_neg c3] at hR
  have d3 : (n == 12) = false := beq_eq_false_iff_ne.2 c3
  by_cases c4 : n = 10
  · rw [if_pos c4] at hR; subst hR c4
    go_enter Tryz.func171, Tryz.ntmps171
    go_wp2_with fail
    go_ret
    exact ⟨rfl, rfl⟩
  rw [if_neg c4] at hR
  have d4 : (n == 10) = false := beq_eq_false_iff_ne.2 c4
  by_cases c5 : n = 13
  · rw [if_pos c5] at hR; subst hR c5
    go_enter Tryz.func171, Tryz.ntmps171
    go_wp2_with fail
    go_ret
    exact ⟨rfl, rfl⟩
  rw [if_neg c5] at hR
  have d5 : (n == 13) = false := beq_eq_false_iff_ne.2 c5
  by_cases c6 : n = 9
  · rw [if_pos c6] at hR; subst hR c6
    go_enter Tryz.func171, Tryz.ntmps171
    go_wp2_with fail
    go_ret
    exact ⟨rfl, rfl⟩
  rw [if_neg c6] at hR
  have d6 : (n == 9) = false := beq_eq_false_iff_ne.2 c6
  subst hR
  go_enter Tryz.func171, Tryz.ntmps171
  go_wp2_with fail
  go_ret
  exact ⟨rfl, rfl⟩
end Go.Proofs.YtnnlpkbopeiefaaGreatDoor
