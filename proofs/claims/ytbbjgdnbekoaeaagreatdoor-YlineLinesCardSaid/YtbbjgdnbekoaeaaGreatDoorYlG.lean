import Derived.Test.YtbbjgdnbekoaeaaGreatDoorYlF
/-! The walks of yline: head, whole. -/
namespace Go.Proofs.YtbbjgdnbekoaeaaGreatDoor
set_option linter.unusedSimpArgs false
set_option linter.unusedVariables false
open Go.RowKit
open Go.Lib hiding intOf

def HeadE (h : Nat × Nat) : Ending := .returned (.tuple #[.int .i64 h.1, .int .i64 h.2])
theorem HeadE.of {h : Nat × Nat} {a b : Int} (h1 : (h.1 : Int) = a) (h2 : (h.2 : Int) = b) : Ending.returned (.tuple #[.int .i64 a, .int .i64 b]) = HeadE h := by unfold HeadE; rw [h1, h2]
theorem sign_at (l : List UInt8) (k : Nat) (c : UInt8) (ki ci : Int) (B : Bool) (hki : (k : Int) = ki) (hci : (c.toNat : Int) = ci) (hB : signL l k c = B) (hs : l.length ≤ 1073741824) (hk : k ≤ 1073741824) (w : World) :
    Calls Tryz.prog 62 #[.string (bs l), .int .i64 ki, .int .u8 ci] w fun e w' => e = .returned (.bool B) ∧ w = w' := by
  subst hki hci hB
  exact sign_any l k c w hs hk
theorem colGo_cons (t : List UInt8) (c f k : Nat) : colGo t c (f + 1) k = if c ≤ k then (5, 0) else if signL t k 58 then (4, k) else colGo t c f (k + 1) := rfl
set_option maxRecDepth 100000 in
set_option maxHeartbeats 2000000 in
theorem head_any (l : List UInt8) (w : World) (hne : l ≠ []) (hs : l.length ≤ 1073741824) (hV : SVar w) (hT : Tabs w) (hM : MVar w) :
    Calls Tryz.prog 31 #[.string (bs l)] w fun e w' => e = HeadE (headL l) ∧ Below w.heap.size w w' := by
  have sl := bs_size l
  obtain ⟨R, hR⟩ : ∃ R, headL l = R := ⟨_, rfl⟩
  rw [hR]
  unfold headL at hR
  have h0 : 0 < (bs l).size := by rw [bs_size]; exact List.length_pos_iff.2 hne
  have hl0 : 0 < l.length := by omega
  have T34 := head_is l 34 34 rfl h0
  have T39 := head_is l 39 39 rfl h0
  have T91 := head_is l 91 91 rfl h0
  have T123 := head_is l 123 123 rfl h0
  obtain ⟨x, hx⟩ : ∃ x : Int, (((bs l)[0]'h0).toNat : Int) = x := ⟨_, rfl⟩
  rw [hx] at T34 T39 T91 T123
  have HV := Lib.hid hV; have HT := Lib.hid hT; have HM := Lib.hid hM; clear hV hT hM hne
  cases hb0 : signL l 0 45 with
  | true =>
    have CS := Lib.hid (fun w => sign_at l 0 45 0 45 true rfl rfl hb0 hs (by omega) w)
    rw [if_pos hb0] at hR
    subst hR
    clear hb0 T34 T39 T91 T123
    go_enter Tryz.func31, Tryz.ntmps31
    go_wp2_with (go_at_call 62; refine (CS.out _).mono ?_; rintro e w' ⟨rfl, rfl⟩)
    go_ret2
    exact ⟨rfl, Below.refl _ _⟩
  | false =>
    have CS := Lib.hid (fun w => sign_at l 0 45 0 45 false rfl rfl hb0 hs (by omega) w)
    rw [if_neg (by rw [hb0]; simp)] at hR
    clear hb0
    by_cases hq : l.head? = some 34 ∨ l.head? = some 39
    · rw [if_pos hq] at hR
      have CQ := Lib.hid (fun w hV hT => qd_any l w hs hV hT)
      obtain ⟨q, hqd⟩ : ∃ q, qdL l = q := ⟨_, rfl⟩
      have hql := qdL_le l
      rw [hqd] at CQ hR hql
      clear T91 T123
      have TQ : ((x == 34) || (x == 39)) = true := by
        rw [T34, T39]
        rcases hq with h | h <;> rw [h] <;> rfl
      cases hb1 : signL l q 58 with
      | true =>
        have CS2 := Lib.hid (fun w => sign_at l q 58 q 58 true rfl rfl hb1 hs (by omega) w)
        rw [if_pos hb1] at hR
        subst hR
        clear hb1 hqd
        by_cases hx34 : x = 34
        · subst hx34
          clear T34 T39 hq TQ
          go_enter Tryz.func31, Tryz.ntmps31
          go_wp2_with (go_at_call 62; refine (CS.out _).mono ?_; rintro e w' ⟨rfl, rfl⟩)
          with_reducible refine (CQ.out _ HV.out HT.out).mono ?_
          rintro e w1 ⟨rfl, hb1⟩
          have HB1 := Lib.hid hb1; clear hb1
          go_wp2_with (go_at_call 62; refine (CS2.out _).mono ?_; rintro e w' ⟨rfl, rfl⟩)
          go_ret2
          exact ⟨rfl, HB1.out⟩
        · have t34 : (x == 34) = false := beq_eq_false_iff_ne.2 hx34
          have t39 : (x == 39) = true := by rw [t34] at TQ; simpa using TQ
          clear T34 T39 hq TQ hx34
          go_enter Tryz.func31, Tryz.ntmps31
          go_wp2_with (go_at_call 62; refine (CS.out _).mono ?_; rintro e w' ⟨rfl, rfl⟩)
          with_reducible refine (CQ.out _ HV.out HT.out).mono ?_
          rintro e w1 ⟨rfl, hb1⟩
          have HB1 := Lib.hid hb1; clear hb1
          go_wp2_with (go_at_call 62; refine (CS2.out _).mono ?_; rintro e w' ⟨rfl, rfl⟩)
          go_ret2
          exact ⟨rfl, HB1.out⟩
      | false =>
        have CS2 := Lib.hid (fun w => sign_at l q 58 q 58 false rfl rfl hb1 hs (by omega) w)
        rw [if_neg (by rw [hb1]; simp)] at hR
        subst hR
        clear hb1 hqd
        by_cases hx34 : x = 34
        · subst hx34
          clear T34 T39 hq TQ
          go_enter Tryz.func31, Tryz.ntmps31
          go_wp2_with (go_at_call 62; refine (CS.out _).mono ?_; rintro e w' ⟨rfl, rfl⟩)
          with_reducible refine (CQ.out _ HV.out HT.out).mono ?_
          rintro e w1 ⟨rfl, hb1⟩
          have HB1 := Lib.hid hb1; clear hb1
          go_wp2_with (go_at_call 62; refine (CS2.out _).mono ?_; rintro e w' ⟨rfl, rfl⟩)
          go_ret2
          exact ⟨rfl, HB1.out⟩
        · have t34 : (x == 34) = false := beq_eq_false_iff_ne.2 hx34
          have t39 : (x == 39) = true := by rw [t34] at TQ; simpa using TQ
          clear T34 T39 hq TQ hx34
          go_enter Tryz.func31, Tryz.ntmps31
          go_wp2_with (go_at_call 62; refine (CS.out _).mono ?_; rintro e w' ⟨rfl, rfl⟩)
          with_reducible refine (CQ.out _ HV.out HT.out).mono ?_
          rintro e w1 ⟨rfl, hb1⟩
          have HB1 := Lib.hid hb1; clear hb1
          go_wp2_with (go_at_call 62; refine (CS2.out _).mono ?_; rintro e w' ⟨rfl, rfl⟩)
          go_ret2
          exact ⟨rfl, HB1.out⟩
    · rw [if_neg hq] at hR
      rw [show (l.head? == some 34) = false from beq_eq_false_iff_ne.2 (fun h => hq (.inl h))] at T34
      rw [show (l.head? == some 39) = false from beq_eq_false_iff_ne.2 (fun h => hq (.inr h))] at T39
      by_cases hbr : l.head? = some 91 ∨ l.head? = some 123
      · rw [if_pos hbr] at hR
        subst hR
        by_cases hx91 : x = 91
        · subst hx91
          clear T34 T39 T91 T123 hq hbr
          go_enter Tryz.func31, Tryz.ntmps31
          go_wp2_with (go_at_call 62; refine (CS.out _).mono ?_; rintro e w' ⟨rfl, rfl⟩)
          go_ret2
          exact ⟨rfl, Below.refl _ _⟩
        · have t91 : (x == 91) = false := beq_eq_false_iff_ne.2 hx91
          have t123 : (x == 123) = true := by
            rw [T123]
            rcases hbr with h | h
            · rw [t91, h] at T91; cases T91
            · rw [h]; rfl
          clear T91 T123 hq hbr hx91
          go_enter Tryz.func31, Tryz.ntmps31
          go_wp2_with (go_at_call 62; refine (CS.out _).mono ?_; rintro e w' ⟨rfl, rfl⟩)
          go_ret2
          exact ⟨rfl, Below.refl _ _⟩
      · rw [if_neg hbr] at hR
        rw [show (l.head? == some 91) = false from beq_eq_false_iff_ne.2 (fun h => hbr (.inl h))] at T91
        rw [show (l.head? == some 123) = false from beq_eq_false_iff_ne.2 (fun h => hbr (.inr h))] at T123
        have CN := Lib.hid (fun w hM => note_any l 0 w hs (by omega) hM)
        obtain ⟨N, hN⟩ : ∃ N, noteL l 0 = N := ⟨_, rfl⟩
        have hNl := (noteL_spec l 0).1
        rw [hN] at CN hR hNl
        have HR := Lib.hid hR
        clear hq hbr hR hN
        go_enter Tryz.func31, Tryz.ntmps31
        go_wp2_with (go_at_call 62; refine (CS.out _).mono ?_; rintro e w' ⟨rfl, rfl⟩)
        go_loop [6] (fun s6 => ∃ k f : Nat, s6 = .int .i64 k ∧ 1 ≤ k ∧ k ≤ l.length + 1 ∧ l.length < k + f ∧ Hid (colGo l N f k = R)) (fun s6 => l.length + 1 - (RowKit.intOf s6).toNat)
        case atStart => exact ⟨1, l.length, rfl, by omega, by omega, by omega, HR.out⟩
        case round =>
          obtain ⟨k, f, rfl, hk1, hk2, hf, HG⟩ := hrel
          by_cases hkN : N ≤ k
          · have HF : Hid (R = (5, 0)) := by
              have h1 := HG.out
              cases f with
              | zero => exact Lib.hid h1.symm
              | succ f => rw [colGo_cons, if_pos hkN] at h1; exact Lib.hid h1.symm
            have dk : decide (k < N) = false := decide_eq_false (by omega)
            go_wp2_with (go_at_call 63; refine (CN.out _ HM.out).mono ?_; rintro e w' ⟨rfl, rfl⟩)
            go_ret2
            exact ⟨by rw [HF.out]; rfl, Below.refl _ _⟩
          · have dk : decide (k < N) = true := decide_eq_true (by omega)
            obtain ⟨g, rfl⟩ : ∃ g, f = g + 1 := ⟨f - 1, by omega⟩
            have h1 := HG.out
            rw [colGo_cons, if_neg hkN] at h1
            cases hb1 : signL l k 58 with
            | true =>
              have CS2 := Lib.hid (fun w => sign_at l k 58 k 58 true rfl rfl hb1 hs (by omega) w)
              rw [if_pos hb1] at h1
              have HF := Lib.hid h1
              clear h1 hb1 HG
              go_wp2_with (first | (go_at_call 63; refine (CN.out _ HM.out).mono ?_; rintro e w' ⟨rfl, rfl⟩) | (go_at_call 62; (with_reducible refine (CS2.out _).mono ?_); rintro e w' ⟨rfl, rfl⟩))
              go_ret2
              exact ⟨by rw [← HF.out]; rfl, Below.refl _ _⟩
            | false =>
              have CS2 := Lib.hid (fun w => sign_at l k 58 k 58 false rfl rfl hb1 hs (by omega) w)
              rw [if_neg (by rw [hb1]; simp)] at h1
              have HG2 := Lib.hid h1
              clear h1 hb1 HG
              go_wp2_with (first | (go_at_call 63; refine (CN.out _ HM.out).mono ?_; rintro e w' ⟨rfl, rfl⟩) | (go_at_call 62; (with_reducible refine (CS2.out _).mono ?_); rintro e w' ⟨rfl, rfl⟩))
              go_round
              case rel => exact ⟨k + 1, g, by go_num, by omega, by omega, by omega, HG2.out⟩
              case measure => simp [RowKit.intOf]; omega
end Go.Proofs.YtbbjgdnbekoaeaaGreatDoor
