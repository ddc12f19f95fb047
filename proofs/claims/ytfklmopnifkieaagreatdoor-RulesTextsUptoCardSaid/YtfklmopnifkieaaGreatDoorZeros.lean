import Derived.Test.YtfklmopnifkieaaGreatDoorSm
/-! strings.Repeat of "0". -/
namespace Go.Proofs.YtfklmopnifkieaaGreatDoor
set_option linter.unusedSimpArgs false
set_option linter.unusedVariables false
open Go.RowKit
open Go.Lib hiding intOf

theorem zeros_any (e : Nat) (w : World) (he : e ≤ 1000000) :
    Calls Tryz.prog 68 #[.string ⟨#[48]⟩, .int .i64 e] w fun en w' => en = .returned (.string (bs (List.replicate e 48))) ∧ Below w.heap.size w w' := by
  have h := Tryz.strings_Repeat ⟨#[48]⟩ e w (by omega) (by show 1 * e ≤ _; omega)
  have hr : Lib.repeatL (⟨#[48]⟩ : ByteArray).data.toList e = List.replicate e 48 := by
    show Lib.repeatL [48] e = _
    clear h he
    induction e with
    | zero => rfl
    | succ k ih => rw [show Lib.repeatL [48] (k + 1) = [48] ++ Lib.repeatL [48] k from rfl, ih, List.replicate_succ]; rfl
  rw [hr] at h
  exact h
end Go.Proofs.YtfklmopnifkieaaGreatDoor
