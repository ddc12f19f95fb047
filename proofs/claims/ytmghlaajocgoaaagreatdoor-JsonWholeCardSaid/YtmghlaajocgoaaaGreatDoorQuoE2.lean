import Derived.Test.YtmghlaajocgoaaaGreatDoorQuoE
/-! The walk of quote.Unquote. -/
namespace Go.Proofs.YtmghlaajocgoaaaGreatDoor
set_option linter.unusedSimpArgs false
set_option linter.unusedVariables false
open Go.RowKit
open Go.Lib hiding intOf

theorem unquote_any (l : List UInt8) (w : World) (hs : l.length ≤ 1073741824) (hV : SVar w) (hT : Tabs w) :
    Calls Tryz.prog 47 #[.string (bs l)] w fun e w' => e = ReadE (unqL l) ∧ Below w.heap.size w w' := by
  have sl := bs_size l
  have C := qread_any l 0 w hs (by omega) hV hT
  have hq : unqL l = if (readL l 0).2.2 = 0 ∧ (readL l 0).2.1 < l.length then ([], (readL l 0).2.1, 2) else readL l 0 := rfl
  obtain ⟨R, hR⟩ : ∃ R, readL l 0 = R := ⟨_, rfl⟩
  obtain ⟨s, k, er⟩ := R
  rw [show ((0 : Nat) : Int) = 0 from rfl, hR] at C
  rw [hR] at hq
  simp only [] at hq
  have HC := Lib.hid C
  clear C hR hV hT
  by_cases h1 : er = 0
  · subst h1
    by_cases h2 : k < l.length
    · rw [hq, if_pos ⟨rfl, h2⟩]
      clear hq
      go_enter Tryz.func47, Tryz.ntmps47
      go_wp2_with fail
      refine HC.out.mono ?_
      unfold ReadE
      rintro e w1 ⟨rfl, hb1⟩
      go_wp2_with fail
      go_ret3
      exact ⟨rfl, hb1⟩
    · rw [hq, if_neg (fun h => h2 h.2)]
      clear hq
      go_enter Tryz.func47, Tryz.ntmps47
      go_wp2_with fail
      refine HC.out.mono ?_
      unfold ReadE
      rintro e w1 ⟨rfl, hb1⟩
      go_wp2_with fail
      go_ret3
      exact ⟨rfl, hb1⟩
  · rw [hq, if_neg (fun h => h1 h.1)]
    have t1 : (er == 0) = false := beq_eq_false_iff_ne.2 h1
    clear hq h1
    go_enter Tryz.func47, Tryz.ntmps47
    go_wp2_with fail
    refine HC.out.mono ?_
    unfold ReadE
    rintro e w1 ⟨rfl, hb1⟩
    go_wp2_with fail
    go_ret3
    exact ⟨rfl, hb1⟩
end Go.Proofs.YtmghlaajocgoaaaGreatDoor
