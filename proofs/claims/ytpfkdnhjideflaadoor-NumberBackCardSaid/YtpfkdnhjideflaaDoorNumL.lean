import Derived.Test.YtpfkdnhjideflaaDoorNumK
/-! The walks of scarfref02: Right. -/
namespace Go.Proofs.YtpfkdnhjideflaaDoor
set_option linter.unusedSimpArgs false
set_option linter.unusedVariables false
open Go.RowKit
open Go.Lib hiding intOf

theorem refDigits_is (s : ByteArray) (w : World) (R : Bool) (hs : s.size ≤ 4294967296) (h : allDig s.data.toList = R) :
    Calls Tryd.prog 61 #[.string s] w fun e w' => e = .returned (.bool R) ∧ Below w.heap.size w w' := by
  rw [← h]; exact refDigits_any s w hs
theorem rightB_of {n : Num} : rightB n = (decide (n = nought) || decide (rightP n)) := by
  unfold rightB; by_cases h1 : n = nought <;> by_cases h2 : rightP n <;> simp [h1, h2]
set_option maxHeartbeats 2000000 in
theorem refRight_any (neg : Bool) (d : ByteArray) (e : Int) (w : World) (hd : d.size ≤ 4294967296) :
    Calls Tryd.prog 33 #[.agg #[.bool neg, .string d, .int .i64 e]] w fun en w' => en = .returned (.bool (rightB ⟨neg, d.data.toList, e⟩)) ∧ Below w.heap.size w w' := by
  have hl : d.data.toList.length = d.size := rfl
  obtain ⟨N, hN⟩ : ∃ N, decide ((⟨neg, d.data.toList, e⟩ : Num) = nought) = N := ⟨_, rfl⟩
  have CN := Lib.hid (show ∀ w, Calls Tryd.prog 60 #[.agg #[.bool neg, .string d, .int .i64 e]] w fun en w' => en = .returned (.bool N) ∧ Below w.heap.size w w' from fun w => hN ▸ refNought_any neg d e w)
  have hB := rightB_of (n := ⟨neg, d.data.toList, e⟩)
  rw [hN] at hB
  clear hN
  generalize rightB ⟨neg, d.data.toList, e⟩ = R at *
  cases N with
  | true =>
    rw [Bool.true_or] at hB
    subst hB
    go_enter Tryd.func33, Tryd.ntmps33
    go_wp2_with fail
    refine (CN.out _).mono ?_
    rintro en w1 ⟨rfl, hb1⟩
    go_wp2_with fail
    all_goals go_ret
    all_goals exact ⟨rfl, ((Below.refl _ _).alloc (Nat.le_refl _) _).trans (hb1.mono (by simp))⟩
  | false =>
    rw [Bool.false_or] at hB
    cases hD : allDig d.data.toList with
    | false =>
      obtain rfl : R = false := hB.trans (decide_eq_false (fun h => by have := h.1; simp only [] at this; rw [hD] at this; cases this))
      have HC := Lib.hid (fun w => refDigits_is d w false hd hD)
      clear hD hB
      go_enter Tryd.func33, Tryd.ntmps33
      go_wp2_with fail
      refine (CN.out _).mono ?_
      rintro en w1 ⟨rfl, hb1⟩
      obtain ⟨hc1, hf1⟩ := bcell hb1
      go_wp2_with fail
      refine (HC.out _).mono ?_
      rintro en w2 ⟨rfl, hb2⟩
      have HB := Lib.hid ((((Below.refl _ _).alloc (Nat.le_refl _) _).trans (hb1.mono (by simp))).trans (hb2.mono (by have := hb1.size; simp at this; omega)))
      have hz1 : w.heap.size < w1.heap.size := by have := hb1.size; simp at this; omega
      obtain ⟨hc2, hf2⟩ := bcell hb2
      clear hb1 hb2
      go_wp2_with fail
      all_goals go_ret
      all_goals exact ⟨rfl, HB.out⟩
    | true =>
      have h0 : 0 < d.size := by
        have := (allDig_ne hD).1
        rcases Nat.eq_zero_or_pos d.size with h | h
        · exact absurd (List.eq_nil_of_length_eq_zero (by omega)) this
        · exact h
      have HC := Lib.hid (fun w => refDigits_is d w true hd hD)
      have hlast : d.size - 1 < d.size := by omega
      have e1 := head_at d h0
      have e2 := last_at d hlast
      have b1 := is48 (d[0]'h0)
      have b2 := is48 (d[d.size - 1]'hlast)
      have RP : rightP ⟨neg, d.data.toList, e⟩ ↔ d.size ≤ 1000 ∧ ¬ (d[0]'h0) = 48 ∧ ¬ (d[d.size - 1]'hlast) = 48 ∧ -1000000 ≤ e ∧ e ≤ 1000000 := by
        unfold rightP
        simp only [hD, hl, e1, e2, true_and, ne_eq, Option.some.injEq]
      have n1 : (((d[0]'h0).toNat : Int) != 48) = !(((d[0]'h0).toNat : Int) == 48) := rfl
      have n2 : (((d[d.size - 1]'hlast).toNat : Int) != 48) = !(((d[d.size - 1]'hlast).toNat : Int) == 48) := rfl
      have hB2 : R = (decide (d.size ≤ 1000) && (!decide ((d[0]'h0) = 48) && (!decide ((d[d.size - 1]'hlast) = 48) && (decide (-1000000 ≤ e) && decide (e ≤ 1000000))))) := by
        rw [hB]
        refine Bool.eq_iff_iff.2 ?_
        simp only [Bool.and_eq_true, decide_eq_true_eq, Bool.not_eq_true', decide_eq_false_iff_not]
        exact RP
      clear hD e1 e2 RP hB
      rw [b1] at n1
      rw [b2] at n2
      generalize decide ((d[0]'h0) = 48) = X1 at *
      generalize decide ((d[d.size - 1]'hlast) = 48) = X2 at *
      have HR := Lib.hid hB2; clear hB2
      have hc : 1000 < d.size ∨ (d.size ≤ 1000 ∧ X1 = true) ∨ (d.size ≤ 1000 ∧ X1 = false ∧ X2 = true) ∨ (d.size ≤ 1000 ∧ X1 = false ∧ X2 = false) := by
        rcases Nat.lt_or_ge 1000 d.size with h | h
        · exact .inl h
        · cases X1 <;> cases X2 <;> simp [h]
      rcases hc with c1 | ⟨c1, rfl⟩ | ⟨c1, rfl, rfl⟩ | ⟨c1, rfl, rfl⟩
      all_goals
        go_enter Tryd.func33, Tryd.ntmps33
        go_wp2_with fail
        refine (CN.out _).mono ?_
        rintro en w1 ⟨rfl, hb1⟩
        obtain ⟨hc1, hf1⟩ := bcell hb1
        go_wp2_with fail
        refine (HC.out _).mono ?_
        rintro en w2 ⟨rfl, hb2⟩
        have HB := Lib.hid ((((Below.refl _ _).alloc (Nat.le_refl _) _).trans (hb1.mono (by simp))).trans (hb2.mono (by have := hb1.size; simp at this; omega)))
        have hz1 : w.heap.size < w1.heap.size := by have := hb1.size; simp at this; omega
        obtain ⟨hc2, hf2⟩ := bcell hb2
        clear hb1 hb2
        go_wp2_with fail
        all_goals go_ret
        all_goals refine ⟨ret_bool ?_, HB.out⟩
        all_goals rw [HR.out]
        all_goals first
          | (simp; omega)
          | (simp [c1]; done)
          | (simp [c1]; omega)
          | (rename_i h; simp [c1, h]; done)
          | (rename_i h; simp [c1, h]; omega)
end Go.Proofs.YtpfkdnhjideflaaDoor
