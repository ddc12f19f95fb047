import Derived.Test.YtbbjgdnbekoaeaaGreatDoorYlJ
/-! The walk of yline.Line, whole: it returns lineL. -/
namespace Go.Proofs.YtbbjgdnbekoaeaaGreatDoor
set_option linter.unusedSimpArgs false
set_option linter.unusedVariables false
open Go.RowKit
open Go.Lib hiding intOf

set_option maxRecDepth 100000 in
set_option maxHeartbeats 4000000 in
theorem line_no (l : List UInt8) (a b : Int) (w : World) (hs : l.length ≤ 1073741824) (h : wholeB l a b = false) :
    Calls Tryz.prog 17 #[.string (bs l), .agg #[.int .i64 a, .int .i64 b]] w fun e w' => e = LineE (noLine, 0, 1) ∧ Below w.heap.size w w' := by
  have sl := bs_size l
  have CW := Lib.hid (fun w => whole_any l a b w hs)
  rw [h] at CW
  clear h
  go_enter Tryz.func17, Tryz.ntmps17
  go_wp2_with fail
  have HL0 := Lib.hid (LSt.start w a b)
  with_reducible refine (CW.out _).mono ?_
  rintro e w1 ⟨rfl, hb1⟩
  have HL1 := Lib.hid (HL0.out.keep hb1); clear hb1
  obtain ⟨s0, s1⟩ := HL1.out.s.cells
  obtain ⟨b0, b1, b2, b3, b4, b5, b6, b7, b8, b9, h0, h1, h2, h3, h4, h5, h6, h7, h8, h9⟩ := HL1.out.l.cells
  go_wp2_with fail
  have HF2 := Lib.hid (LSt.put (r2 := noLine) HL1.out)
  obtain ⟨W, hW⟩ : ∃ W, putR w1 (w.heap.size + 1) noLine = W := ⟨_, rfl⟩
  rw [hW] at HF2
  dsimp only [putR, noLine] at hW
  rw [hW]
  clear hW s0 s1 b0 b1 b2 b3 b4 b5 b6 b7 b8 b9 h0 h1 h2 h3 h4 h5 h6 h7 h8 h9
  obtain ⟨c0, c1, c2, c3, c4, c5, c6, c7, c8, c9, _⟩ := HF2.out.l.cells
  refine bodyPost_ret (v := .tuple #[lineV noLine, .int .i64 0, .int .i64 1]) ?_ rfl ⟨rfl, HF2.out.b⟩
  simp [results, Tryz.results17, go_sem, lineV, noLine, c0, c1, c2, c3, c4, c5, c6, c7, c8, c9]
set_option maxRecDepth 100000 in
set_option maxHeartbeats 4000000 in
theorem line_wrong (l : List UInt8) (x y : Nat) (w : World) (hs : l.length ≤ 1073741824) (hxy : x ≤ y) (hyl : y ≤ l.length) (T : List UInt8) (hTd : (l.drop x).take (y - x) = T) (h10 : T.contains 10 = false) (hT : Tabs w) (k : Nat) (hw : wrL true T = k) (hk : k < T.length) :
    Calls Tryz.prog 17 #[.string (bs l), .agg #[.int .i64 x, .int .i64 y]] w fun e w' => e = LineE (noLine, (x : Int) + k, 2) ∧ Below w.heap.size w w' := by
  have sl := bs_size l
  have hTl : T.length = y - x := by rw [← hTd, List.length_take, List.length_drop]; omega
  have CW : Hid (∀ w, Calls Tryz.prog 27 #[.string (bs l), .agg #[.int .i64 x, .int .i64 y]] w fun e w' => e = .returned (.bool true) ∧ Below w.heap.size w w') := Lib.hid (fun w => by
    have := whole_any l x y w hs
    have e : wholeB l x y = true := by
      unfold wholeB
      rw [if_neg (by omega), Int.toNat_natCast, show ((y : Int) - (x : Int)).toNat = y - x by omega, hTd, h10]; rfl
    rw [e] at this
    exact this)
  have hex : (bs l).extract x y = bs T := by rw [bs_extract, bs_data, hTd]
  have CG : Hid (∀ w, Tabs w → Calls Tryz.prog 28 #[.string (bs T)] w fun e w' => e = .returned (.tuple #[.int .i64 k, .bool true]) ∧ Below w.heap.size w w') := Lib.hid (fun w hT => by
    have := wrong_any T w (by omega) hT
    rw [wrP_yes hw hk] at this
    exact this)
  have sT := bs_size T
  have HT := Lib.hid hT
  have hxk : IntKind.i64.wrap ((x : Int) + (k : Int)) = (x : Int) + (k : Int) := by rw [IntKind.wrap_i64]; omega
  have hkb : (x : Int) + (k : Int) ≤ 1073741824 := by omega
  clear hT hw hTl
  have hxyi : (x : Int) ≤ (y : Int) := by omega
  have hyli : (y : Int) ≤ (l.length : Int) := by omega
  go_enter Tryz.func17, Tryz.ntmps17
  go_wp2_with fail
  have HL0 := Lib.hid (LSt.start w x y)
  with_reducible refine (CW.out _).mono ?_
  rintro e w1 ⟨rfl, hb1⟩
  have HL1 := Lib.hid (HL0.out.keep hb1); clear hb1
  obtain ⟨s0, s1⟩ := HL1.out.s.cells
  go_wp2_with fail
  have HT1 := Lib.hid (HT.out.keep HL1.out.b)
  with_reducible refine (CG.out _ HT1.out).mono ?_
  rintro e w2 ⟨rfl, hb2⟩
  have HL2 := Lib.hid (HL1.out.keep hb2); clear hb2 s0 s1
  obtain ⟨s0, s1⟩ := HL2.out.s.cells
  obtain ⟨b0, b1, b2, b3, b4, b5, b6, b7, b8, b9, h0, h1, h2, h3, h4, h5, h6, h7, h8, h9⟩ := HL2.out.l.cells
  go_wp2_with fail
  go_region
  obtain ⟨W, hW⟩ : ∃ W, (putR w2 (w.heap.size + 1) noLine).drew = W := ⟨_, rfl⟩
  have HF := (LSt.put (r2 := noLine) HL2.out).drew
  rw [hW] at HF
  have HF2 := Lib.hid HF; clear HF
  dsimp only [putR, noLine] at hW
  rw [hW]
  clear hW s0 s1 b0 b1 b2 b3 b4 b5 b6 b7 b8 b9 h0 h1 h2 h3 h4 h5 h6 h7 h8 h9
  obtain ⟨c0, c1, c2, c3, c4, c5, c6, c7, c8, c9, _⟩ := HF2.out.l.cells
  go_wp2_with fail
  refine bodyPost_ret (v := .tuple #[lineV noLine, .int .i64 ((x : Int) + k), .int .i64 2]) ?_ rfl ⟨rfl, HF2.out.b⟩
  simp [results, Tryz.results17, go_sem, lineV, noLine, c0, c1, c2, c3, c4, c5, c6, c7, c8, c9]
theorem line_any (l : List UInt8) (a b : Int) (w : World) (hs : l.length ≤ 1073741824) (hV : SVar w) (hT : Tabs w) (hM : MVar w) :
    Calls Tryz.prog 17 #[.string (bs l), .agg #[.int .i64 a, .int .i64 b]] w fun e w' => e = LineE (lineL l a b) ∧ Below w.heap.size w w' := by
  obtain ⟨R, hR⟩ : ∃ R, lineL l a b = R := ⟨_, rfl⟩
  rw [hR]
  unfold lineL at hR
  by_cases hout : a < 0 ∨ b < a ∨ (l.length : Int) < b
  · rw [if_pos hout] at hR
    subst hR
    exact line_no l a b w hs (by unfold wholeB; rw [if_pos hout])
  rw [if_neg hout] at hR
  obtain ⟨x, rfl⟩ : ∃ x : Nat, a = x := ⟨a.toNat, by omega⟩
  obtain ⟨y, rfl⟩ : ∃ y : Nat, b = y := ⟨b.toNat, by omega⟩
  simp only [Int.toNat_natCast, show ((y : Int) - (x : Int)).toNat = y - x by omega] at hR
  obtain ⟨T, hTd⟩ : ∃ T, (l.drop x).take (y - x) = T := ⟨_, rfl⟩
  rw [hTd] at hR
  cases h10 : T.contains 10 with
  | true =>
    rw [h10, if_pos rfl] at hR
    subst hR
    exact line_no l x y w hs (by unfold wholeB; rw [if_neg hout, Int.toNat_natCast, show ((y : Int) - (x : Int)).toNat = y - x by omega, hTd, h10]; rfl)
  | false =>
    rw [h10, if_neg (by simp)] at hR
    by_cases hk : wrL true T < T.length
    · rw [if_pos hk] at hR
      subst hR
      exact line_wrong l x y w hs (by omega) (by omega) T hTd h10 hT _ rfl hk
    · rw [if_neg hk] at hR
      have hw : wrL true T = T.length := by
        have := (wrGo_bd true T.length T 0).2
        unfold wrL at hk ⊢; omega
      have := line_gen l x y w hs (by omega) (by omega) T hTd h10 hV hT hM hw
      have e : lineG x y (spL T) (coreL (T.drop (spL T))) = R := by rw [← hR]; rfl
      rw [e] at this
      exact this
end Go.Proofs.YtbbjgdnbekoaeaaGreatDoor
