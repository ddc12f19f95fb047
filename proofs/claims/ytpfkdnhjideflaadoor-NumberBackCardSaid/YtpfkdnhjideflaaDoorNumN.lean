import Derived.Test.YtpfkdnhjideflaaDoorNumM
import Derived.Deep.RegionHeld3
/-! The walks of number: Compare. -/
namespace Go.Proofs.YtpfkdnhjideflaaDoor
set_option linter.unusedSimpArgs false
set_option linter.unusedVariables false
open Go.RowKit
open Go.Lib hiding intOf

def numA (n : Num) : Value := .agg #[.bool n.neg, .string (bs n.dig), .int .i64 n.exp]
theorem right_num (n : Num) (w : World) (hd : n.dig.length ≤ 4294967296) (R : Bool) (h : rightB n = R) :
    Calls Tryd.prog 20 #[.agg #[.bool n.neg, .string (bs n.dig), .int .i64 n.exp]] w fun en w' => en = .returned (.bool R) ∧ Below w.heap.size w w' := by
  have := right_any n.neg (bs n.dig) n.exp w (by rw [bs_size]; omega)
  rw [bs_data, h] at this; exact this
theorem sign_num (n : Num) (w : World) (R : Int) (h : sgn n = R) :
    Calls Tryd.prog 42 #[.agg #[.bool n.neg, .string (bs n.dig), .int .i64 n.exp]] w fun en w' => en = .returned (.int .i64 R) ∧ Below w.heap.size w w' := by
  have := sign_any n.neg (bs n.dig) n.exp w
  rw [bs_data, h] at this; exact this
theorem rightB_bd {n : Num} (h : rightB n = true) : n.dig.length ≤ 1000 ∧ -1000000 ≤ n.exp ∧ n.exp ≤ 1000000 := by
  rcases of_decide_eq_true h with h | h
  · subst h; simp [nought]
  · exact ⟨h.2.1, h.2.2.2.2.1, h.2.2.2.2.2⟩
theorem far_num (a b : Num) (w : World) (h1 : rightB a = true) (h2 : rightB b = true) :
    Calls Tryd.prog 43 #[.agg #[.bool a.neg, .string (bs a.dig), .int .i64 a.exp], .agg #[.bool b.neg, .string (bs b.dig), .int .i64 b.exp]] w fun en w' => en = .returned (.int .i64 (farL a b)) ∧ Below w.heap.size w w' := by
  obtain ⟨g1, g2⟩ := rightB_bd h1
  obtain ⟨g3, g4⟩ := rightB_bd h2
  have := far_any a.neg b.neg (bs a.dig) (bs b.dig) a.exp b.exp w (by rw [bs_size]; exact g1) (by rw [bs_size]; exact g3) g2 g4
  rw [bs_data, bs_data] at this; exact this

/-- What holds of the two boxes all through: their cells, their blocks, and that nothing older has changed. -/
abbrev Two (B : Nat) (a b : Num) (w0 w' : World) : Prop :=
  (w'.cell? ⟨B, 0, none⟩ = some (.bool a.neg) ∧ w'.cell? ⟨B, 1, none⟩ = some (.string (bs a.dig)) ∧ w'.cell? ⟨B, 2, none⟩ = some (.int .i64 a.exp) ∧
  w'.cell? ⟨B + 1, 0, none⟩ = some (.bool b.neg) ∧ w'.cell? ⟨B + 1, 1, none⟩ = some (.string (bs b.dig)) ∧ w'.cell? ⟨B + 1, 2, none⟩ = some (.int .i64 b.exp)) ∧
  Hid (B + 1 < w'.heap.size ∧ Below B w0 w')
theorem Two.start (a b : Num) (w : World) (t : TypeId) : Two w.heap.size a b w ((w.alloc (.cells #[.bool a.neg, .string (bs a.dig), .int .i64 a.exp] t)).alloc (.cells #[.bool b.neg, .string (bs b.dig), .int .i64 b.exp] t)).drew := by
  have h0 : (((w.alloc (.cells #[.bool a.neg, .string (bs a.dig), .int .i64 a.exp] t)).alloc (.cells #[.bool b.neg, .string (bs b.dig), .int .i64 b.exp] t)).drew).heap[w.heap.size]? = some (.cells #[.bool a.neg, .string (bs a.dig), .int .i64 a.exp] t (0, 0)) :=
    (Below.heap_alloc _ _ _ (by simp)).trans (heap_alloc_new w _)
  have h1 : (((w.alloc (.cells #[.bool a.neg, .string (bs a.dig), .int .i64 a.exp] t)).alloc (.cells #[.bool b.neg, .string (bs b.dig), .int .i64 b.exp] t)).drew).heap[w.heap.size + 1]? = some (.cells #[.bool b.neg, .string (bs b.dig), .int .i64 b.exp] t (0, 0)) := by
    have := heap_alloc_new (w.alloc (.cells #[.bool a.neg, .string (bs a.dig), .int .i64 a.exp] t)) (.cells #[.bool b.neg, .string (bs b.dig), .int .i64 b.exp] t)
    simp only [World.size_alloc] at this
    exact this
  obtain ⟨r0, r1, r2, _⟩ := box3 h0
  obtain ⟨q0, q1, q2, _⟩ := box3 h1
  exact ⟨⟨r0, r1, r2, q0, q1, q2⟩, by simp, (((Below.refl _ _).alloc (Nat.le_refl _) _).alloc (by simp) _).drew⟩
theorem Two.step {B : Nat} {a b : Num} {w0 w1 w2 : World} (h : Two B a b w0 w1) (hb : Below w1.heap.size w1 w2) : Two B a b w0 w2 := by
  obtain ⟨⟨r0, r1, r2, q0, q1, q2⟩, h1, h2⟩ := h
  obtain ⟨hc, _⟩ := bcell hb
  exact ⟨⟨(hc _ _ (by omega)).trans r0, (hc _ _ (by omega)).trans r1, (hc _ _ (by omega)).trans r2, (hc _ _ h1).trans q0, (hc _ _ h1).trans q1, (hc _ _ h1).trans q2⟩, Nat.lt_of_lt_of_le h1 hb.size, h2.trans (hb.mono (by omega))⟩
theorem Two.drew {B : Nat} {a b : Num} {w0 w1 : World} (h : Two B a b w0 w1) : Two B a b w0 w1.drew := ⟨h.1, h.2.1, h.2.2.drew⟩
set_option maxHeartbeats 2000000 in
theorem compare_any (a b : Num) (w : World) (ha : a.dig.length ≤ 4294967296) (hb : b.dig.length ≤ 4294967296) :
    Calls Tryd.prog 18 #[.agg #[.bool a.neg, .string (bs a.dig), .int .i64 a.exp], .agg #[.bool b.neg, .string (bs b.dig), .int .i64 b.exp]] w fun en w' => en = .returned (.int .i64 (cmpL a b)) ∧ Below w.heap.size w w' := by
  obtain ⟨A1, hA⟩ : ∃ A1, rightB a = A1 := ⟨_, rfl⟩
  obtain ⟨B1, hB⟩ : ∃ B1, rightB b = B1 := ⟨_, rfl⟩
  have CA := Lib.hid (fun w => right_num a w ha A1 hA)
  have CB := Lib.hid (fun w => right_num b w hb B1 hB)
  obtain ⟨R, hR⟩ : ∃ R, cmpL a b = R := ⟨_, rfl⟩
  rw [hR]
  unfold cmpL at hR
  rw [hA, hB] at hR
  have HR := Lib.hid hR; clear hR
  go_enter Tryd.func18, Tryd.ntmps18
  go_wp2_with fail
  go_region_held3 (fun w' => Two w.heap.size a b w w') ((first | exact Two.start a b w _ | exact Two.step (by assumption) (by assumption)))
    (first
    | (go_at_call 20; (with_reducible refine (CA.out _).mono ?_); rintro e w1 ⟨rfl, hb1⟩)
    | (go_at_call 20; (with_reducible refine (CB.out _).mono ?_); rintro e w2 ⟨rfl, hb2⟩))
  rename_i hH
  clear hb1 hb2
  cases A1 <;> cases B1
  · go_wp2_with fail
    go_ret
    exact ⟨ret_int HR.out, hH.2.out.2⟩
  · go_wp2_with fail
    go_ret
    exact ⟨ret_int HR.out, hH.2.out.2⟩
  · go_wp2_with fail
    go_ret
    exact ⟨ret_int HR.out, hH.2.out.2⟩
  have hR := HR.out
  simp only [Bool.true_eq_false, false_and, if_false] at hR
  obtain ⟨S1, hS1⟩ : ∃ S1, sgn a = S1 := ⟨_, rfl⟩
  obtain ⟨S2, hS2⟩ : ∃ S2, sgn b = S2 := ⟨_, rfl⟩
  obtain ⟨C, hC⟩ : ∃ C, Lib.compareInt S1 S2 = C := ⟨_, rfl⟩
  have r1 := sgn_range a
  have CS1 := Lib.hid (fun w => sign_num a w S1 hS1)
  have CS2 := Lib.hid (fun w => sign_num b w S2 hS2)
  have CC : Hid (∀ w, Calls Tryd.prog 41 #[.int .i64 S1, .int .i64 S2] w fun e w' => e = .returned (.int .i64 C) ∧ w' = w) := Lib.hid (fun w => by rw [← hC]; exact Tryd.cmp_Compare_int S1 S2 w)
  obtain ⟨F, hF⟩ : ∃ F, farL a b = F := ⟨_, rfl⟩
  have CF := Lib.hid (fun w => far_num a b w hA hB)
  have hFr := farL_range a b
  rw [hF] at CF hR hFr
  rw [hS1, hS2] at hR
  rw [hS1] at r1
  have hCR : (C = -1 ∧ R = -1) ∨ (C = 1 ∧ R = 1) ∨ (C = 0 ∧ S1 = 0 ∧ R = 0) ∨ (C = 0 ∧ (S1 == 0) = false ∧ R = S1 * F) := by
    rw [← hC]
    unfold Lib.compareInt
    by_cases g1 : S1 < S2
    · simp [g1] at hR ⊢; omega
    · by_cases g2 : S2 < S1
      · simp [g1, g2] at hR ⊢; omega
      · by_cases g3 : S1 = 0
        · simp [g1, g2, g3] at hR ⊢; omega
        · simp [g1, g2, g3] at hR ⊢; omega
  clear hS1 hS2 hC hF hA hB hR HR CA CB
  go_wp2_with fail
  go_region_held3 (fun w' => Two w.heap.size a b w w') ((first | exact Two.drew (by assumption) | exact Two.step (by assumption) (by assumption) | assumption))
    (first
    | (go_at_call 42; (with_reducible refine (CS1.out _).mono ?_); rintro e w1 ⟨rfl, hb1⟩)
    | (go_at_call 42; (with_reducible refine (CS2.out _).mono ?_); rintro e w2 ⟨rfl, hb2⟩)
    | (go_at_call 41; (with_reducible refine (CC.out _).mono ?_); rintro e w2 ⟨rfl, rfl⟩))
  rename_i hH2
  clear hb1 hb2 hH
  rcases hCR with ⟨rfl, rfl⟩ | ⟨rfl, rfl⟩ | ⟨rfl, rfl, rfl⟩ | ⟨rfl, hS, hR⟩
  · go_wp2_with fail
    go_ret
    exact ⟨rfl, hH2.2.out.2⟩
  · go_wp2_with fail
    go_ret
    exact ⟨rfl, hH2.2.out.2⟩
  · go_wp2_with (go_at_call 42; go_must (refine (CS1.out _).mono ?_); rintro e w1 ⟨rfl, hb1⟩)
    go_ret
    exact ⟨rfl, (Two.step hH2 hb1).2.out.2⟩
  · have HR := Lib.hid hR; clear hR
    have hP : -1 ≤ S1 * F ∧ S1 * F ≤ 1 := by
      rcases r1 with rfl | rfl | rfl <;> rcases hFr with rfl | rfl | rfl <;> simp
    have hmul : IntKind.i64.wrap (S1 * F) = S1 * F := IntWalk.i64_in _ (by omega)
    go_wp2_with (go_at_call 42; go_must (refine (CS1.out _).mono ?_); rintro e w1 ⟨rfl, hb1⟩)
    have hH3 := Two.step hH2 hb1
    clear hH2 hb1
    go_region_held3 (fun w' => Two w.heap.size a b w w') ((first | exact Two.drew (by assumption) | exact Two.step (by assumption) (by assumption) | assumption))
      (first
      | (go_at_call 42; (with_reducible refine (CS1.out _).mono ?_); rintro e w1 ⟨rfl, hb1⟩)
      | (go_at_call 43; (with_reducible refine (CF.out _).mono ?_); rintro e w2 ⟨rfl, hb2⟩))
    all_goals rename_i hH4
    all_goals go_wp2_with fail
    all_goals go_ret
    all_goals exact ⟨ret_int HR.out.symm, hH4.2.out.2⟩
end Go.Proofs.YtpfkdnhjideflaaDoor
