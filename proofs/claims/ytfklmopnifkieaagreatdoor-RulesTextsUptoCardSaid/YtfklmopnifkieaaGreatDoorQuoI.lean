import Derived.Test.YtfklmopnifkieaaGreatDoorQuoH
/-! The walks of scarfref03: Unquote, End; quote.letter. -/
namespace Go.Proofs.YtfklmopnifkieaaGreatDoor
set_option linter.unusedSimpArgs false
set_option linter.unusedVariables false
open Go.RowKit
open Go.Lib hiding intOf

theorem refEnd_any (l : List UInt8) (a : Int) (w : World) (hs : l.length ≤ 1073741824) :
    Calls Tryz.prog 47 #[.string (bs l), .int .i64 a] w fun e w' => e = .returned (.tuple #[.int .i64 (endL l a).1, .int .i64 (endL l a).2]) ∧ Below w.heap.size w w' := by
  have sl := bs_size l
  unfold endL
  by_cases h : a < 0 ∨ (l.length : Int) < a
  · rw [if_pos h]
    rcases h with h | h
    all_goals
      go_enter Tryz.func47, Tryz.ntmps47
      go_wp2_with fail
      go_ret2
      exact ⟨rfl, Below.refl _ _⟩
  · rw [if_neg h]
    have h1 : 0 ≤ a := by omega
    have h2 : a ≤ l.length := by omega
    have C := refRead_any l a.toNat w hs (by omega)
    rw [show ((a.toNat : Nat) : Int) = a by omega] at C
    obtain ⟨R, hR⟩ : ∃ R, readL l a = R := ⟨_, rfl⟩
    obtain ⟨s, k, er⟩ := R
    rw [hR] at C ⊢
    have HC := Lib.hid C
    clear C hR h
    go_enter Tryz.func47, Tryz.ntmps47
    go_wp2_with fail
    refine HC.out.mono ?_
    unfold ReadE
    rintro e w1 ⟨rfl, hb1⟩
    go_wp2_with fail
    go_ret2
    exact ⟨rfl, hb1⟩
end Go.Proofs.YtfklmopnifkieaaGreatDoor
