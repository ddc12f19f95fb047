import Derived.Test.YtpfkdnhjideflaaDoorNumR
import Derived.Test.YtpfkdnhjideflaaDoorNumT
/-! The walks of NumberCompares, NumberOrders. -/
namespace Go.Proofs.YtpfkdnhjideflaaDoor
set_option linter.unusedSimpArgs false
set_option linter.unusedVariables false
open Go.RowKit
open Go.Lib hiding intOf

theorem few_any (neg : Bool) (d : ByteArray) (e : Int) (w : World) (hd : d.size ≤ 9223372036854775807) :
    Calls Tryd.prog 17 #[.agg #[.bool neg, .string d, .int .i64 e]] w fun en w' => en = .returned (.bool (decide (d.size ≤ 2048))) ∧ Below w.heap.size w w' := by
  by_cases h : d.size ≤ 2048
  · rw [decide_eq_true h]
    go_enter Tryd.func17, Tryd.ntmps17
    go_wp2_with fail
    go_ret
    exact ⟨ret_bool (decide_eq_true (by omega)), below_alloc1 _ _⟩
  · rw [decide_eq_false h]
    go_enter Tryd.func17, Tryd.ntmps17
    go_wp2_with fail
    go_ret
    exact ⟨ret_bool (decide_eq_false (by omega)), below_alloc1 _ _⟩
theorem few_is (neg : Bool) (d : ByteArray) (e : Int) (w : World) (hd : d.size ≤ 9223372036854775807) (R : Bool) (h : decide (d.size ≤ 2048) = R) :
    Calls Tryd.prog 17 #[.agg #[.bool neg, .string d, .int .i64 e]] w fun en w' => en = .returned (.bool R) ∧ Below w.heap.size w w' := by
  rw [← h]; exact few_any neg d e w hd
theorem small_keep {w w1 : World} (hT : PTab w) (hb : Below w.heap.size w w1) :
    Calls Tryd.prog 14 #[] w1 fun e w' => e = .returned (.bool true) ∧ Below w1.heap.size w1 w' := small_any w1 (hT.keep hb)
set_option maxHeartbeats 1000000 in
theorem numberCompares_walk (ga : Bool) (a : ByteArray) (ea : Int) (gb : Bool) (b : ByteArray) (eb : Int) (w : World) (za : a.size ≤ 9223372036854775807) (zb : b.size ≤ 9223372036854775807) (hT : PTab w) :
    Calls Tryd.prog 4 #[.agg #[.bool ga, .string a, .int .i64 ea], .agg #[.bool gb, .string b, .int .i64 eb]] w fun e w' => e = .returned (.bool true) ∧ Below w.heap.size w w' := by
  obtain ⟨A, rfl⟩ : ∃ l, a = bs l := ⟨_, (bs_of a).symm⟩
  obtain ⟨B, rfl⟩ : ∃ l, b = bs l := ⟨_, (bs_of b).symm⟩
  obtain ⟨F1, hF1⟩ : ∃ F, decide ((bs A).size ≤ 2048) = F := ⟨_, rfl⟩
  obtain ⟨F2, hF2⟩ : ∃ F, decide ((bs B).size ≤ 2048) = F := ⟨_, rfl⟩
  have CF1 := Lib.hid (fun w => few_is ga (bs A) ea w za F1 hF1)
  have CF2 := Lib.hid (fun w => few_is gb (bs B) eb w zb F2 hF2)
  obtain ⟨C, hC⟩ : ∃ C, cmpL ⟨ga, A, ea⟩ ⟨gb, B, eb⟩ = C := ⟨_, rfl⟩
  have sA := bs_size A
  have sB := bs_size B
  have D1 : Hid (F1 = true → F2 = true → ∀ w, Calls Tryd.prog 18 #[.agg #[.bool ga, .string (bs A), .int .i64 ea], .agg #[.bool gb, .string (bs B), .int .i64 eb]] w fun en w' => en = .returned (.int .i64 C) ∧ Below w.heap.size w w') :=
    Lib.hid (fun h1 h2 w => by rw [← hC]; exact compare_any ⟨ga, A, ea⟩ ⟨gb, B, eb⟩ w (by have := of_decide_eq_true (hF1.trans h1); simp only []; omega) (by have := of_decide_eq_true (hF2.trans h2); simp only []; omega))
  have D2 : Hid (F1 = true → F2 = true → ∀ w, Calls Tryd.prog 19 #[.agg #[.bool ga, .string (bs A), .int .i64 ea], .agg #[.bool gb, .string (bs B), .int .i64 eb]] w fun en w' => en = .returned (.int .i64 C) ∧ Below w.heap.size w w') :=
    Lib.hid (fun h1 h2 w => by rw [← hC]; exact refCompare_any ⟨ga, A, ea⟩ ⟨gb, B, eb⟩ w (by have := of_decide_eq_true (hF1.trans h1); simp only []; omega) (by have := of_decide_eq_true (hF2.trans h2); simp only []; omega))
  have HT := Lib.hid hT
  have hst := Lib.hid (Two.start0 ⟨ga, A, ea⟩ ⟨gb, B, eb⟩ w 24)
  clear hT hC hF1 hF2
  go_enter Tryd.func4, Tryd.ntmps4
  go_wp2_with fail
  refine (small_keep HT.out hst.out.2.out.2).mono ?_
  rintro e w1 ⟨rfl, hb1⟩
  have H1 := Lib.hid (Two.step hst.out hb1)
  clear hb1 hst
  obtain ⟨⟨r0, r1, r2, q0, q1, q2⟩, HB⟩ := H1.out
  simp only [] at r0 r1 r2 q0 q1 q2
  go_wp2_with fail
  refine (CF1.out _).mono ?_
  rintro e w2 ⟨rfl, hb2⟩
  have H2 := Lib.hid (Two.step H1.out hb2)
  clear hb2 H1 r0 r1 r2 q0 q1 q2 HB
  obtain ⟨⟨r0, r1, r2, q0, q1, q2⟩, HB⟩ := H2.out
  simp only [] at r0 r1 r2 q0 q1 q2
  go_wp2_with fail
  refine (CF2.out _).mono ?_
  rintro e w3 ⟨rfl, hb3⟩
  have H3 := Lib.hid (Two.step H2.out hb3)
  clear hb3 H2 r0 r1 r2 q0 q1 q2 HB
  by_cases hf : F1 = true ∧ F2 = true
  · obtain ⟨rfl, rfl⟩ := hf
    have E1 := Lib.hid (D1.out rfl rfl)
    have E2 := Lib.hid (D2.out rfl rfl)
    clear D1 D2 CF1 CF2
    go_wp2_with fail
    go_region_held3 (fun w' => Two w.heap.size ⟨ga, A, ea⟩ ⟨gb, B, eb⟩ w w') ((first | exact Two.drew (H3.out) | exact Two.step (by assumption) (by assumption)))
      (first
      | (go_at_call 18; (with_reducible refine (E1.out _).mono ?_); rintro e w1 ⟨rfl, hb1⟩)
      | (go_at_call 19; (with_reducible refine (E2.out _).mono ?_); rintro e w2 ⟨rfl, hb2⟩))
    all_goals rename_i hH
    all_goals go_wp2_with fail
    all_goals go_ret
    all_goals exact ⟨rfl, hH.2.out.2⟩
  · clear D1 D2 CF1 CF2
    obtain ⟨⟨r0, r1, r2, q0, q1, q2⟩, HB⟩ := H3.out
    simp only [] at r0 r1 r2 q0 q1 q2
    have hf2 : F1 = false ∨ (F1 = true ∧ F2 = false) := by cases F1 <;> cases F2 <;> simp_all
    clear hf
    rcases hf2 with rfl | ⟨rfl, rfl⟩
    · go_wp2_with fail
      go_region
      all_goals go_wp2_with fail
      all_goals go_ret
      all_goals exact ⟨rfl, HB.out.2.drew⟩
    · go_wp2_with fail
      go_region
      all_goals go_wp2_with fail
      all_goals go_ret
      all_goals exact ⟨rfl, HB.out.2.drew⟩
end Go.Proofs.YtpfkdnhjideflaaDoor
