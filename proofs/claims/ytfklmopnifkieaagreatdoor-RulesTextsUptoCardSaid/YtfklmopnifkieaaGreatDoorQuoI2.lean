import Derived.Test.YtfklmopnifkieaaGreatDoorQuoI
import Derived.Test.YtfklmopnifkieaaGreatDoorQuoE2
/-! The walks of scarfref03.Unquote, quote.letter. -/
namespace Go.Proofs.YtfklmopnifkieaaGreatDoor
set_option linter.unusedSimpArgs false
set_option linter.unusedVariables false
open Go.RowKit
open Go.Lib hiding intOf

theorem refUnquote_any (l : List UInt8) (w : World) (hs : l.length ≤ 1073741824) :
    Calls Tryz.prog 48 #[.string (bs l)] w fun e w' => e = ReadE (unqL l) ∧ Below w.heap.size w w' := by
  have sl := bs_size l
  have C := refRead_any l 0 w hs (by omega)
  have hq : unqL l = if (readL l 0).2.2 = 0 ∧ (readL l 0).2.1 < l.length then ([], (readL l 0).2.1, 2) else readL l 0 := rfl
  obtain ⟨R, hR⟩ : ∃ R, readL l 0 = R := ⟨_, rfl⟩
  obtain ⟨s, k, er⟩ := R
  rw [show ((0 : Nat) : Int) = 0 from rfl, hR] at C
  rw [hR] at hq
  simp only [] at hq
  have HC := Lib.hid C
  clear C hR
  by_cases h1 : er = 0
  · subst h1
    by_cases h2 : k < l.length
    · rw [hq, if_pos ⟨rfl, h2⟩]
      clear hq
      go_enter Tryz.func48, Tryz.ntmps48
      go_wp2_with fail
      refine HC.out.mono ?_
      unfold ReadE
      rintro e w1 ⟨rfl, hb1⟩
      go_wp2_with fail
      go_ret3
      exact ⟨rfl, hb1⟩
    · rw [hq, if_neg (fun h => h2 h.2)]
      clear hq
      go_enter Tryz.func48, Tryz.ntmps48
      go_wp2_with fail
      refine HC.out.mono ?_
      unfold ReadE
      rintro e w1 ⟨rfl, hb1⟩
      go_wp2_with fail
      go_ret3
      exact ⟨rfl, hb1⟩
  · rw [hq, if_neg (fun h => h1 h.1)]
    have t1 : (er == 0) = false := beq_eq_false_iff_ne.2 h1
    clear hq h1
    go_enter Tryz.func48, Tryz.ntmps48
    go_wp2_with fail
    refine HC.out.mono ?_
    unfold ReadE
    rintro e w1 ⟨rfl, hb1⟩
    go_wp2_with fail
    go_ret3
    exact ⟨rfl, hb1⟩
def letterI (n : Int) : Int := if n = 34 then 34 else if n = 92 then 92 else if n = 8 then 98 else if n = 12 then 102 else if n = 10 then 110 else if n = 13 then 114 else if n = 9 then 116 else 0
set_option maxHeartbeats 1000000 in
theorem letter_any (n : Int) (w : World) :
    Calls Tryz.prog 65 #[.int .i32 n] w fun e w' => e = .returned (.int .u8 (letterI n)) ∧ w = w' := by
  obtain ⟨R, hR⟩ : ∃ R, letterI n = R := ⟨_, rfl⟩
  rw [hR]
  unfold letterI at hR
  by_cases c0 : n = 34
  · rw [if_pos c0] at hR; subst hR c0
    go_enter Tryz.func65, Tryz.ntmps65
    go_wp2_with fail
    go_ret
    exact ⟨rfl, rfl⟩
  rw [if_neg c0] at hR
  have d0 : (n == 34) = false := beq_eq_false_iff_ne.2 c0
  by_cases c1 : n = 92
  · rw [if_pos c1] at hR; subst hR c1
    go_enter Tryz.func65, Tryz.ntmps65
    go_wp2_with fail
    go_ret
    exact ⟨rfl, rfl⟩
  rw [if_neg c1] at hR
  have d1 : (n == 92) = false := beq_eq_false_iff_ne.2 c1
  by_cases c2 : n = 8
  · rw [if_pos c2] at hR; subst hR c2
    go_enter Tryz.func65, Tryz.ntmps65
    go_wp2_with fail
    go_ret
    exact ⟨rfl, rfl⟩
  rw [if_neg c2] at hR
  have d2 : (n == 8) = false := beq_eq_false_iff_ne.2 c2
  by_cases c3 : n = 12
  · rw [if_pos c3] at hR; subst hR c3
    go_enter Tryz.func65, Tryz.ntmps65
    go_wp2_with fail
    go_ret
    exact ⟨rfl, rfl⟩
  rw [if_neg c3] at hR
  have d3 : (n == 12) = false := beq_eq_false_iff_ne.2 c3
  by_cases c4 : n = 10
  · rw [if_pos c4] at hR; subst hR c4
    go_enter Tryz.func65, Tryz.ntmps65
    go_wp2_with fail
    go_ret
    exact ⟨rfl, rfl⟩
  rw [if_neg c4] at hR
  have d4 : (n == 10) = false := beq_eq_false_iff_ne.2 c4
  by_cases c5 : n = 13
  · rw [if_pos c5] at hR; subst hR c5
    go_enter Tryz.func65, Tryz.ntmps65
    go_wp2_with fail
    go_ret
    exact ⟨rfl, rfl⟩
  rw [if_neg c5] at hR
  have d5 : (n == 13) = false := beq_eq_false_iff_ne.2 c5
  by_cases c6 : n = 9
  · rw [if_pos c6] at hR; subst hR c6
    go_enter Tryz.func65, Tryz.ntmps65
    go_wp2_with fail
    go_ret
    exact ⟨rfl, rfl⟩
  rw [if_neg c6] at hR
  have d6 : (n == 9) = false := beq_eq_false_iff_ne.2 c6
  subst hR
  go_enter Tryz.func65, Tryz.ntmps65
  go_wp2_with fail
  go_ret
  exact ⟨rfl, rfl⟩
end Go.Proofs.YtfklmopnifkieaaGreatDoor
