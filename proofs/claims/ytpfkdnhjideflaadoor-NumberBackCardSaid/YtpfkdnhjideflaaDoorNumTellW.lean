import Derived.Test.YtpfkdnhjideflaaDoorNumRefInt
import Derived.Test.YtpfkdnhjideflaaDoorNumCmpW
/-! The walks of NumberTells, NumberBack. -/
namespace Go.Proofs.YtpfkdnhjideflaaDoor
set_option linter.unusedSimpArgs false
set_option linter.unusedVariables false
open Go.RowKit
open Go.Lib hiding intOf

theorem One.new (n : Num) (w : World) : One w.heap.size n w (w.alloc (.cells #[.bool n.neg, .string (bs n.dig), .int .i64 n.exp] 24)) := One.of (NumBox.new w n) (below_alloc1 w _)
set_option maxRecDepth 100000 in
set_option maxHeartbeats 4000000 in
theorem numberTells_walk (ga : Bool) (a : ByteArray) (ea : Int) (i : Int) (w : World) (za : a.size ≤ 9223372036854775807) (hi : -9223372036854775808 ≤ i ∧ i ≤ 9223372036854775807) (hT : PTab w) (hV : RVar w) :
    Calls Tryd.prog 12 #[.agg #[.bool ga, .string a, .int .i64 ea], .int .i64 i] w fun e w' => e = .returned (.bool true) ∧ Below w.heap.size w w' := by
  obtain ⟨A, rfl⟩ : ∃ l, a = bs l := ⟨_, (bs_of a).symm⟩
  obtain ⟨F, hF⟩ : ∃ F, decide ((bs A).size ≤ 2048) = F := ⟨_, rfl⟩
  have CF := Lib.hid (fun w => few_is ga (bs A) ea w za F hF)
  have sA := bs_size A
  have hl : F = true → A.length ≤ 4294967296 := fun h => by have := of_decide_eq_true (hF.trans h); omega
  have HO := Lib.hid (One.new ⟨ga, A, ea⟩ w)
  have HT := Lib.hid hT; have HV := Lib.hid hV; have HL := Lib.hid hl
  clear hT hV hF hl
  go_enter Tryd.func12, Tryd.ntmps12
  go_wp2_with fail
  refine (small_keep HT.out HO.out.2.out.2).mono ?_
  rintro e w1 ⟨rfl, hb1⟩
  have H1 := Lib.hid (HO.out.step hb1); clear hb1 HO
  obtain ⟨⟨c0, c1, c2⟩, _⟩ := H1.out
  simp only [] at c0 c1 c2
  go_wp2_with fail
  refine (CF.out _).mono ?_
  rintro e w2 ⟨rfl, hb2⟩
  have H2 := Lib.hid (H1.out.step hb2); clear hb2 H1 c0 c1 c2
  have HB2 := Lib.hid H2.out.2.out.2
  cases F with
  | false =>
    go_wp2_with fail
    go_ret
    exact ⟨rfl, HB2.out⟩
  | true =>
  have hl : A.length ≤ 4294967296 := by simpa using HL.out
  obtain ⟨IV, hIV⟩ : ∃ IV, intV ⟨ga, A, ea⟩ = IV := ⟨_, rfl⟩
  obtain ⟨v, is, rfl⟩ : ∃ v is, IV = .returned (.tuple #[.int .i64 v, .bool is]) := ⟨_, _, hIV.symm⟩
  have I1 : Hid (∀ w, RVar w → Calls Tryd.prog 31 #[.agg #[.bool ga, .string (bs A), .int .i64 ea]] w fun e w' => e = .returned (.tuple #[.int .i64 v, .bool is]) ∧ Below w.heap.size w w') := Lib.hid (fun w h => by rw [← hIV]; exact int_any ⟨ga, A, ea⟩ w hl h)
  have I2 : Hid (∀ w, Calls Tryd.prog 32 #[.agg #[.bool ga, .string (bs A), .int .i64 ea]] w fun e w' => e = .returned (.tuple #[.int .i64 v, .bool is]) ∧ Below w.heap.size w w') := Lib.hid (fun w => by rw [← hIV]; exact refInt_any ⟨ga, A, ea⟩ w hl)
  obtain ⟨R, hR⟩ : ∃ R, rightB ⟨ga, A, ea⟩ = R := ⟨_, rfl⟩
  obtain ⟨T, hT⟩ : ∃ T, textL ⟨ga, A, ea⟩ = T := ⟨_, rfl⟩
  have R1 := Lib.hid (fun w => right_num ⟨ga, A, ea⟩ w hl R hR)
  have R2 := Lib.hid (fun w => refRight_num ⟨ga, A, ea⟩ w hl R hR)
  have T1 : Hid (∀ w, PTab w → Calls Tryd.prog 34 #[.agg #[.bool ga, .string (bs A), .int .i64 ea]] w fun e w' => e = .returned (.string (bs T)) ∧ Below w.heap.size w w') := Lib.hid (fun w h => by rw [← hT]; exact text_any ⟨ga, A, ea⟩ w hl h)
  have T2 : Hid (∀ w, Calls Tryd.prog 35 #[.agg #[.bool ga, .string (bs A), .int .i64 ea]] w fun e w' => e = .returned (.string (bs T)) ∧ Below w.heap.size w w') := Lib.hid (fun w => by rw [← hT]; exact refText_any ⟨ga, A, ea⟩ w hl)
  obtain ⟨N, hN⟩ : ∃ N, ofInt i = N := ⟨_, rfl⟩
  have O1 : Hid (∀ w, PTab w → Calls Tryd.prog 21 #[.int .i64 i] w fun e w' => e = .returned (.agg #[.bool N.neg, .string (bs N.dig), .int .i64 N.exp]) ∧ Below w.heap.size w w') := Lib.hid (fun w h => by rw [← hN]; exact of_any i w hi h)
  have O2 : Hid (∀ w, Calls Tryd.prog 36 #[.int .i64 i] w fun e w' => e = .returned (.agg #[.bool N.neg, .string (bs N.dig), .int .i64 N.exp]) ∧ Below w.heap.size w w') := Lib.hid (fun w => by rw [← hN]; exact refOf_any i w hi)
  clear hIV hR hT hN HL
  simp only [] at R1 R2
  obtain ⟨⟨c0, c1, c2⟩, _⟩ := H2.out
  simp only [] at c0 c1 c2
  go_wp2_with fail
  refine (I1.out _ (HV.out.keep HB2.out)).mono ?_
  rintro e w3 ⟨rfl, hb3⟩
  have H3 := Lib.hid (H2.out.step hb3); clear hb3 H2 c0 c1 c2 HB2
  obtain ⟨⟨c0, c1, c2⟩, _⟩ := H3.out
  simp only [] at c0 c1 c2
  go_wp2_with fail
  refine (I2.out _).mono ?_
  rintro e w4 ⟨rfl, hb4⟩
  have H4 := Lib.hid (H3.out.step hb4); clear hb4 H3 c0 c1 c2
  go_wp2_with fail
  have P1 : Hid (∀ w', One w.heap.size ⟨ga, A, ea⟩ w w' → PTab w') := Lib.hid (fun w' h => HT.out.keep h.2.out.2)
  go_region_held3 (fun w' => One w.heap.size ⟨ga, A, ea⟩ w w') ((first | exact One.drew H4.out | exact One.step (by assumption) (by assumption)))
    (first
    | (go_at_call 20; (with_reducible refine (R1.out _).mono ?_); rintro e w1 ⟨rfl, hb1⟩)
    | (go_at_call 33; (with_reducible refine (R2.out _).mono ?_); rintro e w1 ⟨rfl, hb1⟩)
    | (go_at_call 34; (with_reducible refine (T1.out _ (P1.out _ (by assumption))).mono ?_); rintro e w1 ⟨rfl, hb1⟩)
    | (go_at_call 35; (with_reducible refine (T2.out _).mono ?_); rintro e w1 ⟨rfl, hb1⟩)
    | (go_at_call 21; (with_reducible refine (O1.out _ (P1.out _ (by assumption))).mono ?_); rintro e w1 ⟨rfl, hb1⟩)
    | (go_at_call 36; (with_reducible refine (O2.out _).mono ?_); rintro e w1 ⟨rfl, hb1⟩))
  all_goals rename_i hH
  all_goals go_wp2_with fail
  all_goals go_ret
  all_goals exact ⟨rfl, hH.2.out.2⟩
end Go.Proofs.YtpfkdnhjideflaaDoor
