import Derived.Test.YtmghlaajocgoaaaGreatDoorQuoF
/-! The walks of scarfref03: Unquote, End; quote.letter. -/
namespace Go.Proofs.YtmghlaajocgoaaaGreatDoor
set_option linter.unusedSimpArgs false
set_option linter.unusedVariables false
open Go.RowKit
open Go.Lib hiding intOf
theorem refEnd_any (l : List UInt8) (a : Int) (w : World) (hs : l.length ≤ 1073741824) :
    Calls Tryz.prog 41 #[.string (bs l), .int .i64 a] w fun e w' => e = .returned (.tuple #[.int .i64 (endL l a).1, .int .i64 (endL l a).2]) ∧ Below w.heap.size w w' := by
  have sl := bs_size l
  unfold endL
  by_cases h : a < 0 ∨ (l.length : Int) < a
  · rw [if_pos h]
    rcases h with h | h
    all_goals
      go_enter Tryz.func41, Tryz.ntmps41
      go_wp2_with fail
      go_ret2
      exact ⟨rfl, Below.refl _ _⟩
  · rw [if_neg h]
    have h1 : 0 ≤ a := by omega
    have h2 : a ≤ l.length := by omega
    have C := refRead_any l a.toNat w hs (by omega)
    rw [show ((a.toNat : Nat) : Int) = a by omega] at C
    obtain ⟨R, hR⟩ : ∃ R, readL l a = R := ⟨_, rfl⟩
    obtain ⟨s, k, er⟩ := R
    rw [hR] at C ⊢
    have HC := Lib.hid C
    clear C hR h
    go_enter Tryz.func41, Tryz.ntmps41
    go_wp2_with fail
    refine HC.out.mono ?_
    unfold ReadE
    rintro e w1 ⟨rfl, hb1⟩
    go_wp2_with fail
    go_ret2
    exact ⟨rfl, hb1⟩
end Go.Proofs.YtmghlaajocgoaaaGreatDoor
/-! The walk of scarfref03.Unquote (its part of XQuoI2, where the dump has no quote.letter). -/
namespace Go.Proofs.YtmghlaajocgoaaaGreatDoor
set_option linter.unusedSimpArgs false
set_option linter.unusedVariables false
open Go.RowKit
open Go.Lib hiding intOf
theorem refUnquote_any (l : List UInt8) (w : World) (hs : l.length ≤ 1073741824) :
    Calls Tryz.prog 50 #[.string (bs l)] w fun e w' => e = ReadE (unqL l) ∧ Below w.heap.size w w' := by
  have sl := bs_size l
  have C := refRead_any l 0 w hs (by omega)
  have hq : unqL l = if (readL l 0).2.2 = 0 ∧ (readL l 0).2.1 < l.length then ([], (readL l 0).2.1, 2) else readL l 0 := rfl
  obtain ⟨R, hR⟩ : ∃ R, readL l 0 = R := ⟨_, rfl⟩
  obtain ⟨s, k, er⟩ := R
  rw [show ((0 : Nat) : Int) = 0 from rfl, hR] at C
  rw [hR] at hq
  simp only [] at hq
  have HC := Lib.hid C
  clear C hR
  by_cases h1 : er = 0
  · subst h1
    by_cases h2 : k < l.length
    · rw [hq, if_pos ⟨rfl, h2⟩]
      clear hq
      go_enter Tryz.func50, Tryz.ntmps50
      go_wp2_with fail
      refine HC.out.mono ?_
      unfold ReadE
      rintro e w1 ⟨rfl, hb1⟩
      go_wp2_with fail
      go_ret3
      exact ⟨rfl, hb1⟩
    · rw [hq, if_neg (fun h => h2 h.2)]
      clear hq
      go_enter Tryz.func50, Tryz.ntmps50
      go_wp2_with fail
      refine HC.out.mono ?_
      unfold ReadE
      rintro e w1 ⟨rfl, hb1⟩
      go_wp2_with fail
      go_ret3
      exact ⟨rfl, hb1⟩
  · rw [hq, if_neg (fun h => h1 h.1)]
    have t1 : (er == 0) = false := beq_eq_false_iff_ne.2 h1
    clear hq h1
    go_enter Tryz.func50, Tryz.ntmps50
    go_wp2_with fail
    refine HC.out.mono ?_
    unfold ReadE
    rintro e w1 ⟨rfl, hb1⟩
    go_wp2_with fail
    go_ret3
    exact ⟨rfl, hb1⟩
def letterI (n : Int) : Int := if n = 34 then 34 else if n = 92 then 92 else if n = 8 then 98 else if n = 12 then 102 else if n = 10 then 110 else if n = 13 then 114 else if n = 9 then 116 else 0
end Go.Proofs.YtmghlaajocgoaaaGreatDoor
