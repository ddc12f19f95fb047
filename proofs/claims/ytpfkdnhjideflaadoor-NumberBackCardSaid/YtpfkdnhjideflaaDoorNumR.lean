import Derived.Test.YtpfkdnhjideflaaDoorNumQ
/-! The walk of the laws' own small case. -/
namespace Go.Proofs.YtpfkdnhjideflaaDoor
set_option linter.unusedSimpArgs false
set_option linter.unusedVariables false
open Go.RowKit
open Go.Lib hiding intOf

/-- Block b holds the number n. -/
def NumBox (w : World) (b : Nat) (n : Num) : Prop := w.heap[b]? = some (.cells #[.bool n.neg, .string (bs n.dig), .int .i64 n.exp] 24 (0, 0))
theorem NumBox.keep {w w' : World} {b : Nat} {n : Num} (h : NumBox w b n) (hb : Below w.heap.size w w') : NumBox w' b n := (hb.block b (cell_it h)).trans h
theorem NumBox.cells {w : World} {b : Nat} {n : Num} (h : NumBox w b n) : w.cell? ⟨b, 0, none⟩ = some (.bool n.neg) ∧ w.cell? ⟨b, 1, none⟩ = some (.string (bs n.dig)) ∧ w.cell? ⟨b, 2, none⟩ = some (.int .i64 n.exp) :=
  ⟨box_cell h 0, box_cell h 1, box_cell h 2⟩
theorem NumBox.new (w : World) (n : Num) : NumBox (w.alloc (.cells #[.bool n.neg, .string (bs n.dig), .int .i64 n.exp] 24)) w.heap.size n := heap_alloc_new w _
theorem NumBox.drew {w : World} {b : Nat} {n : Num} (h : NumBox w b n) : NumBox w.drew b n := h
theorem parse_at (l : List UInt8) (n : Num) (er : Int) (w : World) (hs : l.length ≤ 4294967296) (h : parseL l = (n, er)) :
    Calls Tryd.prog 15 #[.string (bs l)] w fun e w' => e = .returned (.tuple #[.agg #[.bool n.neg, .string (bs n.dig), .int .i64 n.exp], .int .i64 er]) ∧ Below w.heap.size w w' := by
  have := parse_any l w hs
  rw [h] at this; exact this
theorem text_at (n : Num) (l : List UInt8) (w : World) (hd : n.dig.length ≤ 4294967296) (hT : PTab w) (h : textL n = l) :
    Calls Tryd.prog 34 #[.agg #[.bool n.neg, .string (bs n.dig), .int .i64 n.exp]] w fun e w' => e = .returned (.string (bs l)) ∧ Below w.heap.size w w' := by
  rw [← h]; exact text_any n w hd hT
theorem pl1 : parseL [49, 50, 46, 53, 48, 101, 49] = (⟨false, [49, 50, 53], 0⟩, 0) := by decide +kernel
theorem pl2 : parseL [45, 48, 46, 48] = (nought, 0) := by decide +kernel
theorem pl3 : parseL [48, 49] = (nought, 2) := by decide +kernel
theorem pl4 : parseL [49, 101, 57, 57, 57, 57, 57, 57, 57, 57, 57, 57] = (nought, 4) := by decide +kernel
theorem pl5 : parseL [49, 101, 50] = (⟨false, [49], 2⟩, 0) := by decide +kernel
theorem tl1 : textL ⟨false, [49, 50, 53], 0⟩ = [49, 50, 53] := by decide +kernel
theorem tl2 : textL nought = [48] := by decide +kernel
theorem tl5 : textL ⟨false, [49], 2⟩ = [49, 101, 50] := by decide +kernel
theorem of99 : ofInt 99 = ⟨false, [57, 57], 0⟩ := by decide +kernel
theorem cm5 : cmpL ⟨false, [49], 2⟩ ⟨false, [57, 57], 0⟩ = 1 := by decide +kernel
def SmH (b1 b2 b5 : Nat) (w w' : World) : Prop := NumBox w' b1 ⟨false, [49, 50, 53], 0⟩ ∧ NumBox w' b2 nought ∧ NumBox w' b5 ⟨false, [49], 2⟩ ∧ Below w.heap.size w w'
abbrev Sm (b1 b2 b5 : Nat) (w w' : World) : Prop :=
  (w'.cell? ⟨b1, 0, none⟩ = some (.bool false) ∧ w'.cell? ⟨b1, 1, none⟩ = some (.string ⟨#[49, 50, 53]⟩) ∧ w'.cell? ⟨b1, 2, none⟩ = some (.int .i64 0)) ∧
  (w'.cell? ⟨b2, 0, none⟩ = some (.bool false) ∧ w'.cell? ⟨b2, 1, none⟩ = some (.string ⟨#[]⟩) ∧ w'.cell? ⟨b2, 2, none⟩ = some (.int .i64 0)) ∧
  (w'.cell? ⟨b5, 0, none⟩ = some (.bool false) ∧ w'.cell? ⟨b5, 1, none⟩ = some (.string ⟨#[49]⟩) ∧ w'.cell? ⟨b5, 2, none⟩ = some (.int .i64 2)) ∧ SmH b1 b2 b5 w w'
theorem Sm.of {b1 b2 b5 : Nat} {w w' : World} (h : SmH b1 b2 b5 w w') : Sm b1 b2 b5 w w' := ⟨h.1.cells, h.2.1.cells, h.2.2.1.cells, h⟩
theorem Sm.step {b1 b2 b5 : Nat} {w w1 w2 : World} (h : Sm b1 b2 b5 w w1) (hb : Below w1.heap.size w1 w2) : Sm b1 b2 b5 w w2 :=
  let ⟨a, b, c, d⟩ := h.2.2.2
  Sm.of ⟨a.keep hb, b.keep hb, c.keep hb, d.trans (hb.mono d.size)⟩
theorem Sm.drew {b1 b2 b5 : Nat} {w w1 : World} (h : SmH b1 b2 b5 w w1) : Sm b1 b2 b5 w w1.drew :=
  let ⟨a, b, c, d⟩ := h
  Sm.of ⟨a, b, c, d.drew⟩
set_option maxRecDepth 100000 in
set_option maxHeartbeats 4000000 in
theorem small_any (w : World) (hT : PTab w) :
    Calls Tryd.prog 14 #[] w fun e w' => e = .returned (.bool true) ∧ Below w.heap.size w w' := by
  have P1 := Lib.hid (fun w => parse_at _ _ _ w (by decide) pl1)
  have P2 := Lib.hid (fun w => parse_at _ _ _ w (by decide) pl2)
  have P3 := Lib.hid (fun w => parse_at _ _ _ w (by decide) pl3)
  have P4 := Lib.hid (fun w => parse_at _ _ _ w (by decide) pl4)
  have P5 := Lib.hid (fun w => parse_at _ _ _ w (by decide) pl5)
  have HT := Lib.hid hT; clear hT
  go_enter Tryd.func14, Tryd.ntmps14
  go_upto_region 1 with fail
  go_cut [1, 2] (fun s1 s2 wx => ∃ b1 : Nat, s1 = .pointer (some ⟨b1, 0, none⟩) ∧ s2 = .int .i64 0 ∧ Hid (NumBox wx b1 ⟨false, [49, 50, 53], 0⟩ ∧ Below w.heap.size w wx))
  case first =>
    go_wp2_with fail
    refine (P1.out _).mono ?_
    rintro e w1 ⟨rfl, hb1⟩
    go_wp2_with fail
    go_meet
    exact ⟨_, rfl, rfl, NumBox.new w1 ⟨false, [49, 50, 53], 0⟩, hb1.trans ((below_alloc1 w1 _).mono hb1.size)⟩
  obtain ⟨b1, rfl, rfl, H1⟩ := hcut
  go_upto_region 2 with fail
  go_cut [3, 4] (fun s3 s4 wx => ∃ b2 : Nat, s3 = .pointer (some ⟨b2, 0, none⟩) ∧ s4 = .int .i64 0 ∧ Hid (NumBox wx b2 nought ∧ NumBox wx b1 ⟨false, [49, 50, 53], 0⟩ ∧ Below w.heap.size w wx))
  case first =>
    go_wp2_with fail
    refine (P2.out _).mono ?_
    rintro e w1 ⟨rfl, hb1⟩
    go_wp2_with fail
    go_meet
    exact ⟨_, rfl, rfl, NumBox.new w1 nought, (H1.out.1.keep hb1).keep (below_alloc1 w1 _), (H1.out.2.trans (hb1.mono H1.out.2.size)).trans ((below_alloc1 w1 _).mono (Nat.le_trans H1.out.2.size hb1.size))⟩
  obtain ⟨b2, rfl, rfl, H2⟩ := hcut
  go_upto_region 3 with fail
  go_cut [5, 6] (fun s5 s6 wx => ∃ b3 : Nat, s5 = .pointer (some ⟨b3, 0, none⟩) ∧ s6 = .int .i64 2 ∧ Hid (NumBox wx b3 nought ∧ NumBox wx b2 nought ∧ NumBox wx b1 ⟨false, [49, 50, 53], 0⟩ ∧ Below w.heap.size w wx))
  case first =>
    go_wp2_with fail
    refine (P3.out _).mono ?_
    rintro e w1 ⟨rfl, hb1⟩
    go_wp2_with fail
    go_meet
    exact ⟨_, rfl, rfl, NumBox.new w1 nought, (H2.out.1.keep hb1).keep (below_alloc1 w1 _), (H2.out.2.1.keep hb1).keep (below_alloc1 w1 _), (H2.out.2.2.trans (hb1.mono H2.out.2.2.size)).trans ((below_alloc1 w1 _).mono (Nat.le_trans H2.out.2.2.size hb1.size))⟩
  obtain ⟨b3, rfl, rfl, H3⟩ := hcut
  go_upto_region 4 with fail
  go_cut [7, 8] (fun s7 s8 wx => ∃ b4 : Nat, s7 = .pointer (some ⟨b4, 0, none⟩) ∧ s8 = .int .i64 4 ∧ Hid (NumBox wx b4 nought ∧ NumBox wx b3 nought ∧ NumBox wx b2 nought ∧ NumBox wx b1 ⟨false, [49, 50, 53], 0⟩ ∧ Below w.heap.size w wx))
  case first =>
    go_wp2_with fail
    refine (P4.out _).mono ?_
    rintro e w1 ⟨rfl, hb1⟩
    go_wp2_with fail
    go_meet
    exact ⟨_, rfl, rfl, NumBox.new w1 nought, (H3.out.1.keep hb1).keep (below_alloc1 w1 _), (H3.out.2.1.keep hb1).keep (below_alloc1 w1 _), (H3.out.2.2.1.keep hb1).keep (below_alloc1 w1 _), (H3.out.2.2.2.trans (hb1.mono H3.out.2.2.2.size)).trans ((below_alloc1 w1 _).mono (Nat.le_trans H3.out.2.2.2.size hb1.size))⟩
  obtain ⟨b4, rfl, rfl, H4⟩ := hcut
  go_upto_region 5 with fail
  go_cut [9, 10] (fun s9 s10 wx => ∃ b5 : Nat, s9 = .pointer (some ⟨b5, 0, none⟩) ∧ s10 = .int .i64 0 ∧ Hid (NumBox wx b5 ⟨false, [49], 2⟩ ∧ NumBox wx b4 nought ∧ NumBox wx b3 nought ∧ NumBox wx b2 nought ∧ NumBox wx b1 ⟨false, [49, 50, 53], 0⟩ ∧ Below w.heap.size w wx))
  case first =>
    go_wp2_with fail
    refine (P5.out _).mono ?_
    rintro e w1 ⟨rfl, hb1⟩
    go_wp2_with fail
    go_meet
    exact ⟨_, rfl, rfl, NumBox.new w1 ⟨false, [49], 2⟩, (H4.out.1.keep hb1).keep (below_alloc1 w1 _), (H4.out.2.1.keep hb1).keep (below_alloc1 w1 _), (H4.out.2.2.1.keep hb1).keep (below_alloc1 w1 _), (H4.out.2.2.2.1.keep hb1).keep (below_alloc1 w1 _), (H4.out.2.2.2.2.trans (hb1.mono H4.out.2.2.2.2.size)).trans ((below_alloc1 w1 _).mono (Nat.le_trans H4.out.2.2.2.2.size hb1.size))⟩
  obtain ⟨b5, rfl, rfl, H5⟩ := hcut
  have T1 : Hid (∀ w', Sm b1 b2 b5 w w' → Calls Tryd.prog 34 #[.agg #[.bool false, .string ⟨#[49, 50, 53]⟩, .int .i64 0]] w' fun e w'' => e = .returned (.string ⟨#[49, 50, 53]⟩) ∧ Below w'.heap.size w' w'') :=
    Lib.hid (fun w' h => text_at ⟨false, [49, 50, 53], 0⟩ _ w' (by decide) (HT.out.keep h.2.2.2.2.2.2) tl1)
  have T2 : Hid (∀ w', Sm b1 b2 b5 w w' → Calls Tryd.prog 34 #[.agg #[.bool false, .string ⟨#[]⟩, .int .i64 0]] w' fun e w'' => e = .returned (.string ⟨#[48]⟩) ∧ Below w'.heap.size w' w'') :=
    Lib.hid (fun w' h => text_at nought _ w' (by decide) (HT.out.keep h.2.2.2.2.2.2) tl2)
  have T5 : Hid (∀ w', Sm b1 b2 b5 w w' → Calls Tryd.prog 34 #[.agg #[.bool false, .string ⟨#[49]⟩, .int .i64 2]] w' fun e w'' => e = .returned (.string ⟨#[49, 101, 50]⟩) ∧ Below w'.heap.size w' w'') :=
    Lib.hid (fun w' h => text_at ⟨false, [49], 2⟩ _ w' (by decide) (HT.out.keep h.2.2.2.2.2.2) tl5)
  have T6 : Hid (∀ w', Sm b1 b2 b5 w w' → Calls Tryd.prog 21 #[.int .i64 99] w' fun e w'' => e = .returned (.agg #[.bool false, .string ⟨#[57, 57]⟩, .int .i64 0]) ∧ Below w'.heap.size w' w'') :=
    Lib.hid (fun w' h => by have := of_any 99 w' (by decide) (HT.out.keep h.2.2.2.2.2.2); rw [of99] at this; exact this)
  have T7 : Hid (∀ w', Sm b1 b2 b5 w w' → Calls Tryd.prog 18 #[.agg #[.bool false, .string ⟨#[49]⟩, .int .i64 2], .agg #[.bool false, .string ⟨#[57, 57]⟩, .int .i64 0]] w' fun e w'' => e = .returned (.int .i64 1) ∧ Below w'.heap.size w' w'') :=
    Lib.hid (fun w' h => by have := compare_any ⟨false, [49], 2⟩ ⟨false, [57, 57], 0⟩ w' (by decide) (by decide); rw [cm5] at this; exact this)
  have H6 : SmH b1 b2 b5 w _ := ⟨H5.out.2.2.2.2.1, H5.out.2.2.2.1, H5.out.1, H5.out.2.2.2.2.2⟩
  go_wp2_with fail
  go_region_held3 (fun w' => Sm b1 b2 b5 w w') ((first | exact Sm.drew (by assumption) | exact Sm.step (by assumption) (by assumption)))
    (first
    | (go_at_call 34; (with_reducible refine (T1.out _ (by assumption)).mono ?_); rintro e w1 ⟨rfl, hb1⟩)
    | (go_at_call 34; (with_reducible refine (T2.out _ (by assumption)).mono ?_); rintro e w1 ⟨rfl, hb1⟩)
    | (go_at_call 34; (with_reducible refine (T5.out _ (by assumption)).mono ?_); rintro e w1 ⟨rfl, hb1⟩)
    | (go_at_call 21; (with_reducible refine (T6.out _ (by assumption)).mono ?_); rintro e w1 ⟨rfl, hb1⟩)
    | (go_at_call 18; (with_reducible refine (T7.out _ (by assumption)).mono ?_); rintro e w1 ⟨rfl, hb1⟩))
  all_goals rename_i hH
  all_goals go_wp2_with fail
  all_goals go_ret
  all_goals exact ⟨rfl, hH.2.2.2.2.2.2⟩
end Go.Proofs.YtpfkdnhjideflaaDoor
