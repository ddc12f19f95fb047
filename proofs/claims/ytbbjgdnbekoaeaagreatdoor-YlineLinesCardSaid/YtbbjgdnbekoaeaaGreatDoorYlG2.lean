import Derived.Test.YtbbjgdnbekoaeaaGreatDoorYlG
import Derived.Test.YtbbjgdnbekoaeaaGreatDoorYlF2
/-! The walk of scarfref10.head. -/
namespace Go.Proofs.YtbbjgdnbekoaeaaGreatDoor
set_option linter.unusedSimpArgs false
set_option linter.unusedVariables false
open Go.RowKit
open Go.Lib hiding intOf

def HeadR (h : Nat × Nat) : Ending := .returned (.tuple #[.int .i64 h.2, .int .i64 h.1])
theorem colon_at (l : List UInt8) (k : Nat) (ki : Int) (B : Bool) (hki : (k : Int) = ki) (hB : signL l k 58 = B) (hs : l.length ≤ 1073741824) (hk : k ≤ 1073741824) (w : World) :
    Calls Tryz.prog 65 #[.string (bs l), .int .i64 ki] w fun e w' => e = .returned (.bool B) ∧ w = w' := by
  subst hki hB
  exact colon_any l k w hs hk
theorem sign_first (l : List UInt8) (h0 : 0 < l.length) : (signL l 0 45 = true → l.head? = some 45 ∧ (l.length = 1 ∨ l[1]? = some 32)) ∧ (signL l 0 45 = false → l.head? ≠ some 45 ∨ (l.head? = some 45 ∧ l.length ≠ 1 ∧ l[1]? ≠ some 32)) := by
  unfold signL
  rw [List.head?_eq_getElem?]
  have hn : l[0 + 1]? = none ↔ l.length ≤ 1 := List.getElem?_eq_none_iff
  constructor
  · intro h
    simp only [Bool.and_eq_true, Bool.or_eq_true, beq_iff_eq] at h
    refine ⟨h.1, ?_⟩
    rcases h.2 with h | h
    · left; have := hn.1 h; omega
    · right; exact h
  · intro h
    by_cases h1 : l[0]? = some 45
    · right
      simp only [Bool.and_eq_false_iff, Bool.or_eq_false_iff, beq_eq_false_iff_ne] at h
      rcases h with h | h
      · exact absurd h1 h
      · refine ⟨h1, fun e => h.1 (hn.2 (by omega)), h.2⟩
    · left; exact h1
/-- What the walk asks of a text's first sign. -/
theorem first_tests (l : List UInt8) (h0 : 0 < (bs l).size) (x : Int) (hx : (((bs l)[0]'h0).toNat : Int) = x) :
    (signL l 0 45 = true → (x == 45) = true ∧ ((((l.length : Int) == 1) = true) ∨ ((((l.length : Int) == 1) = false) ∧ ∃ h1 : 1 < (bs l).size, ((((bs l)[1]'h1).toNat : Int) == 32) = true))) ∧
    (signL l 0 45 = false → (x == 45) = false ∨ ((x == 45) = true ∧ ((l.length : Int) == 1) = false ∧ ∃ h1 : 1 < (bs l).size, ((((bs l)[1]'h1).toNat : Int) == 32) = false)) := by
  have sl := bs_size l
  have T := head_is l 45 45 rfl h0
  rw [hx] at T
  obtain ⟨a, b⟩ := sign_first l (by omega)
  constructor
  · intro h
    obtain ⟨h1, h2⟩ := a h
    refine ⟨by rw [T, h1]; rfl, ?_⟩
    by_cases hl : l.length = 1
    · left; exact beq_iff_eq.2 (by omega)
    · right
      have h1' : 1 < (bs l).size := by omega
      refine ⟨beq_eq_false_iff_ne.2 (by omega), h1', ?_⟩
      rcases h2 with h2 | h2
      · exact absurd h2 hl
      · rw [at_bs l 1 h1'] at h2
        rw [byte_eq _ 32 32 rfl]
        simpa using h2
  · intro h
    rcases b h with h1 | ⟨h1, h2, h3⟩
    · left; rw [T]; exact beq_eq_false_iff_ne.2 h1
    · right
      have h1' : 1 < (bs l).size := by omega
      refine ⟨by rw [T, h1]; rfl, beq_eq_false_iff_ne.2 (by omega), h1', ?_⟩
      rw [at_bs l 1 h1'] at h3
      rw [byte_eq _ 32 32 rfl]
      simpa using h3
set_option maxRecDepth 100000 in
set_option maxHeartbeats 4000000 in
theorem refHead_any (l : List UInt8) (w : World) (hne : l ≠ []) (hs : l.length ≤ 1073741824) :
    Calls Tryz.prog 35 #[.string (bs l)] w fun e w' => e = HeadR (headL l) ∧ Below w.heap.size w w' := by
  have sl := bs_size l
  obtain ⟨R, hR⟩ : ∃ R, headL l = R := ⟨_, rfl⟩
  rw [hR]
  unfold headL at hR
  have h0 : 0 < (bs l).size := by rw [bs_size]; exact List.length_pos_iff.2 hne
  have hl0 : 0 < l.length := by omega
  have T34 := head_is l 34 34 rfl h0
  have T39 := head_is l 39 39 rfl h0
  have T91 := head_is l 91 91 rfl h0
  have T123 := head_is l 123 123 rfl h0
  obtain ⟨x, hx⟩ : ∃ x : Int, (((bs l)[0]'h0).toNat : Int) = x := ⟨_, rfl⟩
  obtain ⟨F1, F2⟩ := first_tests l h0 x hx
  rw [hx] at T34 T39 T91 T123
  cases hb0 : signL l 0 45 with
  | true =>
    rw [if_pos hb0] at hR
    subst hR
    obtain ⟨t45, hr⟩ := F1 hb0
    clear hb0 T34 T39 T91 T123 F1 F2
    rcases hr with t1 | ⟨t1, h1, ty⟩
    all_goals
      go_enter Tryz.func35, Tryz.ntmps35
      go_wp2_with fail
      go_ret2
      exact ⟨rfl, Below.refl _ _⟩
  | false =>
    rw [if_neg (by rw [hb0]; simp)] at hR
    have hr := F2 hb0
    clear hb0 F1 F2
    by_cases hq : l.head? = some 34 ∨ l.head? = some 39
    · rw [if_pos hq] at hR
      have CQ := Lib.hid (fun w => refEnds_any l w hs)
      obtain ⟨q, hqd⟩ : ∃ q, qdL l = q := ⟨_, rfl⟩
      have hql := qdL_le l
      rw [hqd] at CQ hR hql
      clear T91 T123
      have TQ : ((x == 34) || (x == 39)) = true := by
        rw [T34, T39]
        rcases hq with h | h <;> rw [h] <;> rfl
      have HQ : x = 34 ∨ ((x == 34) = false ∧ x = 39) := by
        by_cases h : x = 34
        · exact .inl h
        · right
          have t34 : (x == 34) = false := beq_eq_false_iff_ne.2 h
          rw [t34] at TQ
          exact ⟨t34, by simpa using TQ⟩
      have t45 : (x == 45) = false := by rcases HQ with h | ⟨_, h⟩ <;> rw [h] <;> rfl
      clear T34 T39 hq TQ hr
      cases hb1 : signL l q 58 with
      | true =>
        have CS2 := Lib.hid (fun w => colon_at l q q true rfl hb1 hs (by omega) w)
        rw [if_pos hb1] at hR
        subst hR
        clear hb1 hqd
        rcases HQ with rfl | ⟨t34, rfl⟩
        all_goals
          go_enter Tryz.func35, Tryz.ntmps35
          go_wp2_with fail
          with_reducible refine (CQ.out _).mono ?_
          rintro e w1 ⟨rfl, hb1⟩
          have HB1 := Lib.hid hb1; clear hb1
          go_wp2_with (go_at_call 65; refine (CS2.out _).mono ?_; rintro e w' ⟨rfl, rfl⟩)
          go_ret2
          exact ⟨rfl, HB1.out⟩
      | false =>
        have CS2 := Lib.hid (fun w => colon_at l q q false rfl hb1 hs (by omega) w)
        rw [if_neg (by rw [hb1]; simp)] at hR
        subst hR
        clear hb1 hqd
        rcases HQ with rfl | ⟨t34, rfl⟩
        all_goals
          go_enter Tryz.func35, Tryz.ntmps35
          go_wp2_with fail
          with_reducible refine (CQ.out _).mono ?_
          rintro e w1 ⟨rfl, hb1⟩
          have HB1 := Lib.hid hb1; clear hb1
          go_wp2_with (go_at_call 65; refine (CS2.out _).mono ?_; rintro e w' ⟨rfl, rfl⟩)
          go_ret2
          exact ⟨rfl, HB1.out⟩
    · rw [if_neg hq] at hR
      rw [show (l.head? == some 34) = false from beq_eq_false_iff_ne.2 (fun h => hq (.inl h))] at T34
      rw [show (l.head? == some 39) = false from beq_eq_false_iff_ne.2 (fun h => hq (.inr h))] at T39
      have CN := Lib.hid (fun w => comment_any l 0 w hs (by omega))
      obtain ⟨N, hN⟩ : ∃ N, noteL l 0 = N := ⟨_, rfl⟩
      have hNl := (noteL_spec l 0).1
      rw [hN] at CN hR hNl
      by_cases hbr : l.head? = some 91 ∨ l.head? = some 123
      · rw [if_pos hbr] at hR
        subst hR
        have HQ : x = 91 ∨ ((x == 91) = false ∧ x = 123) := by
          by_cases h : x = 91
          · exact .inl h
          · right
            have t91 : (x == 91) = false := beq_eq_false_iff_ne.2 h
            refine ⟨t91, ?_⟩
            rcases hbr with h | h
            · rw [t91, h] at T91; cases T91
            · rw [h] at T123; exact beq_iff_eq.1 (by rw [T123]; rfl)
        have t45 : (x == 45) = false := by rcases HQ with h | ⟨_, h⟩ <;> rw [h] <;> rfl
        have tn91 : x = 123 → (x != 91) = true := by rintro rfl; rfl
        by_cases h1N : 1 < N
        · have dN : decide (1 < N) = true := decide_eq_true h1N
          clear T34 T39 T91 T123 hq hbr hr hN tn91
          rcases HQ with rfl | ⟨t91, rfl⟩
          all_goals
            go_enter Tryz.func35, Tryz.ntmps35
            go_wp2_with (go_at_call 36; refine (CN.out _).mono ?_; rintro e w' ⟨rfl, rfl⟩)
            refine wp_loop_rounds 1 ?_
            rw [rounds_succ]
            go_wp2_with fail
            go_ret2
            exact ⟨rfl, Below.refl _ _⟩
        · have dN : decide (1 < N) = false := decide_eq_false h1N
          clear T34 T39 T91 T123 hq hbr hr hN tn91
          rcases HQ with rfl | ⟨t91, rfl⟩
          all_goals
            go_enter Tryz.func35, Tryz.ntmps35
            go_wp2_with (go_at_call 36; refine (CN.out _).mono ?_; rintro e w' ⟨rfl, rfl⟩)
            refine wp_loop_rounds 1 ?_
            rw [rounds_succ]
            go_wp2_with fail
            go_ret2
            exact ⟨rfl, Below.refl _ _⟩
      · rw [if_neg hbr] at hR
        rw [show (l.head? == some 91) = false from beq_eq_false_iff_ne.2 (fun h => hbr (.inl h))] at T91
        rw [show (l.head? == some 123) = false from beq_eq_false_iff_ne.2 (fun h => hbr (.inr h))] at T123
        have n91 : (x != 91) = true := by rw [bne, T91]; rfl
        have n123 : (x != 123) = true := by rw [bne, T123]; rfl
        have HR := Lib.hid hR
        clear hq hbr hR hN
        rcases hr with t45 | ⟨t45, t1, h1, ty⟩
        all_goals
          go_enter Tryz.func35, Tryz.ntmps35
          go_wp2_with (go_at_call 36; refine (CN.out _).mono ?_; rintro e w' ⟨rfl, rfl⟩)
          go_loop [6] (fun s6 => ∃ k f : Nat, s6 = .int .i64 k ∧ 1 ≤ k ∧ k ≤ l.length + 1 ∧ l.length < k + f ∧ Hid (colGo l N f k = R)) (fun s6 => l.length + 1 - (RowKit.intOf s6).toNat)
          case atStart => exact ⟨1, l.length, rfl, by omega, by omega, by omega, HR.out⟩
          case round =>
            obtain ⟨k, f, rfl, hk1, hk2, hf, HG⟩ := hrel
            by_cases hkN : N ≤ k
            · have HF : Hid (R = (5, 0)) := by
                have h1 := HG.out
                cases f with
                | zero => exact Lib.hid h1.symm
                | succ f => rw [colGo_cons, if_pos hkN] at h1; exact Lib.hid h1.symm
              have dk : decide (k < N) = false := decide_eq_false (by omega)
              go_wp2_with fail
              go_ret2
              exact ⟨by rw [HF.out]; rfl, Below.refl _ _⟩
            · have dk : decide (k < N) = true := decide_eq_true (by omega)
              obtain ⟨g, rfl⟩ : ∃ g, f = g + 1 := ⟨f - 1, by omega⟩
              have h1 := HG.out
              rw [colGo_cons, if_neg hkN] at h1
              cases hb1 : signL l k 58 with
              | true =>
                have CS2 := Lib.hid (fun w => colon_at l k k true rfl hb1 hs (by omega) w)
                rw [if_pos hb1] at h1
                have HF := Lib.hid h1
                clear h1 hb1 HG
                go_wp2_with (go_at_call 65; (with_reducible refine (CS2.out _).mono ?_); rintro e w' ⟨rfl, rfl⟩)
                go_ret2
                exact ⟨by rw [← HF.out]; rfl, Below.refl _ _⟩
              | false =>
                have CS2 := Lib.hid (fun w => colon_at l k k false rfl hb1 hs (by omega) w)
                rw [if_neg (by rw [hb1]; simp)] at h1
                have HG2 := Lib.hid h1
                clear h1 hb1 HG
                go_wp2_with (go_at_call 65; (with_reducible refine (CS2.out _).mono ?_); rintro e w' ⟨rfl, rfl⟩)
                go_round
                case rel => exact ⟨k + 1, g, by go_num, by omega, by omega, by omega, HG2.out⟩
                case measure => simp [RowKit.intOf]; omega
end Go.Proofs.YtbbjgdnbekoaeaaGreatDoor
