import Derived.Test.YtbbjgdnbekoaeaaGreatDoorYlH
/-! The walk of yline.rest. -/
namespace Go.Proofs.YtbbjgdnbekoaeaaGreatDoor
set_option linter.unusedSimpArgs false
set_option linter.unusedVariables false
open Go.RowKit
open Go.Lib hiding intOf

/-- What rest sets. -/
def restAt (t : List UInt8) (f2 tw : Nat) (r : LineR) : LineR :=
  ⟨r.kind, r.sf, r.st, r.ind, r.kf, r.kt, r.sf + f2, r.sf + (f2 + trL ((t.take tw).drop f2)), if tw < t.length then r.sf + tw else r.nf, if tw < t.length then r.st else r.nt⟩
def restR (t : List UInt8) (f : Nat) (r : LineR) : LineR := restAt t (behindL t f) (noteL t (behindL t f + qdL (t.drop (behindL t f)))) r
theorem LineBox.note {w : World} {X : Nat} {r : LineR} (h : LineBox w X r) (a b : Int) : LineBox ((w.setCell ⟨X, 8, none⟩ (.int .i64 a)).setCell ⟨X, 9, none⟩ (.int .i64 b)) X { r with nf := a, nt := b } := blk_set (blk_set h 8 _) 9 _
theorem LineBox.rest {w : World} {X : Nat} {r : LineR} (h : LineBox w X r) (a b : Int) : LineBox ((w.setCell ⟨X, 6, none⟩ (.int .i64 a)).setCell ⟨X, 7, none⟩ (.int .i64 b)) X { r with rf := a, rt := b } := blk_set (blk_set h 6 _) 7 _
/-- What the walk reads of the line, and what it hides. -/
def LineH (X : Nat) (r : LineR) (w w' : World) : Prop := LineBox w' X r ∧ Only X w w'
abbrev LineS (X : Nat) (r : LineR) (w w' : World) : Prop := LineCells w' X r ∧ LineH X r w w'
theorem LineS.of {X : Nat} {r : LineR} {w w' : World} (h : LineH X r w w') : LineS X r w w' := ⟨h.1.cells, h⟩
theorem LineS.drew {X : Nat} {r : LineR} {w w' : World} (h : LineH X r w w') : LineS X r w w'.drew := LineS.of ⟨h.1.drew, h.2.drew⟩
set_option maxRecDepth 100000 in
set_option maxHeartbeats 2000000 in
theorem rest_any (t : List UInt8) (f X : Nat) (r : LineR) (w : World) (hs : t.length ≤ 1073741824) (hf : f ≤ t.length) (hX : LineBox w X r) (h0 : 0 ≤ r.sf) (h1 : r.sf ≤ 1073741824) (hV : SVar w) (hT : Tabs w) (hM : MVar w) :
    Calls Tryz.prog 32 #[.pointer (some ⟨X, 0, none⟩), .string (bs t), .int .i64 f] w fun e w' => (∃ v, e = .returned v) ∧ LineBox w' X (restR t f r) ∧ Only X w w' := by
  have sl := bs_size t
  obtain ⟨b1, b2, _, _⟩ := behindL_spec t f hf
  have hbe : behindL t f = f + spL (t.drop f) := rfl
  obtain ⟨R, hR⟩ : ∃ R, restR t f r = R := ⟨_, rfl⟩
  rw [hR]
  unfold restR at hR
  obtain ⟨f2, hf2⟩ : ∃ f2, behindL t f = f2 := ⟨_, rfl⟩
  rw [hf2] at hR b1 b2 hbe
  have CL : Hid (∀ w, Calls Tryz.prog 29 #[.string ((bs t).extract f t.length), .string ⟨#[32]⟩] w fun e w' => e = .returned (.string (bs (t.drop f2))) ∧ w = w') := Lib.hid (fun w => by
    have := trimLeft_any (t.drop f) w
    rw [List.drop_drop, ← hbe] at this
    rw [bs_from _ _ _ rfl]
    exact this)
  have CQ : Hid (∀ w, SVar w → Tabs w → Calls Tryz.prog 30 #[.string ((bs t).extract f2 t.length)] w fun e w' => e = .returned (.int .i64 (qdL (t.drop f2))) ∧ Below w.heap.size w w') := Lib.hid (fun w hV hT => by
    have := qd_any (t.drop f2) w (by rw [List.length_drop]; omega) hV hT
    rw [bs_from _ _ _ rfl]
    exact this)
  have hqd := qdL_le (t.drop f2)
  rw [List.length_drop] at hqd
  obtain ⟨q, hq⟩ : ∃ q, qdL (t.drop f2) = q := ⟨_, rfl⟩
  rw [hq] at CQ hR hqd
  have CN := Lib.hid (fun w hM => note_any t (f2 + q) w hs (by omega) hM)
  have hns := noteL_spec t (f2 + q)
  obtain ⟨tw, htw⟩ : ∃ tw, noteL t (f2 + q) = tw := ⟨_, rfl⟩
  rw [htw] at CN hR hns
  unfold restAt at hR
  obtain ⟨n1, n2, _⟩ := hns
  have hft : f2 ≤ tw := by
    by_cases hl : tw < t.length
    · have := (n2 hl).1; omega
    · omega
  have CR : Hid (∀ w, Calls Tryz.prog 64 #[.string ((bs t).extract f2 tw), .string ⟨#[32]⟩] w fun e w' => e = .returned (.string (bs (((t.take tw).drop f2).take (trL ((t.take tw).drop f2))))) ∧ w = w') := Lib.hid (fun w => by
    have := trimRight_any ((t.take tw).drop f2) w (by rw [List.length_drop, List.length_take]; omega)
    rw [bs_extract, bs_data, ← List.drop_take]
    exact this)
  have hcast : ((f2 + q : Nat) : Int) = (f2 : Int) + (q : Int) := by omega
  rw [hcast] at CN
  obtain ⟨Y, hY⟩ : ∃ Y, ((t.take tw).drop f2).take (trL ((t.take tw).drop f2)) = Y := ⟨_, rfl⟩
  have hYl : Y.length = trL ((t.take tw).drop f2) := by rw [← hY, List.length_take, Nat.min_eq_left (trL_le _)]
  have htr := trL_le ((t.take tw).drop f2)
  rw [List.length_drop, List.length_take, Nat.min_eq_left n1] at htr
  obtain ⟨z, hz⟩ : ∃ z, trL ((t.take tw).drop f2) = z := ⟨_, rfl⟩
  rw [hY] at CR
  rw [hz] at hR hYl htr
  have sY := bs_size Y
  rw [hYl] at sY
  have sD := bs_size (t.drop f2)
  rw [List.length_drop] at sD
  have hsub : (t.length : Int) - ((t.length - f2 : Nat) : Int) = (f2 : Int) := by omega
  have HX := Lib.hid hX; have HV := Lib.hid hV; have HT := Lib.hid hT; have HM := Lib.hid hM
  have HR := Lib.hid hR
  have hfi : (f : Int) ≤ (t.length : Int) := by omega
  have hf2i : (f2 : Int) ≤ (t.length : Int) := by omega
  have htwi : (tw : Int) ≤ (t.length : Int) := by omega
  have hfti : (f2 : Int) ≤ (tw : Int) := by omega
  clear hX hV hT hM hR hf2 hq htw n1 n2 hY hYl hz hcast hbe
  go_enter Tryz.func32, Tryz.ntmps32
  go_wp2_with (go_at_call 29; refine (CL.out _).mono ?_; rintro e w' ⟨rfl, rfl⟩)
  with_reducible refine (CQ.out _ HV.out HT.out).mono ?_
  rintro e w1 ⟨rfl, hb1⟩
  have HX1 := Lib.hid (HX.out.keep hb1); have HM1 := Lib.hid (HM.out.keep hb1); have HO1 := Lib.hid (Only.of_below (X := X) hb1)
  clear hb1
  go_upto_if 27 with (go_at_call 63; (with_reducible refine (CN.out _ HM1.out).mono ?_); rintro e w' ⟨rfl, rfl⟩)
  obtain ⟨r2, hr2⟩ : ∃ r2 : LineR, r2 = { r with nf := if tw < t.length then r.sf + tw else r.nf, nt := if tw < t.length then r.st else r.nt } := ⟨_, rfl⟩
  have HR2 := Lib.hid hr2
  go_cut [] (fun wx => Hid (LineH X r2 w wx))
  case first =>
    have hH : LineH X r w w1 := ⟨HX1.out, HO1.out⟩
    by_cases hl : tw < t.length
    · have dl : decide (tw < t.length) = true := decide_eq_true hl
      clear hr2
      go_wp2_with fail
      obtain ⟨a0, a1, a2, a3, a4, a5, a6, a7, a8, a9, g0, g1, g2, g3, g4, g5, g6, g7, g8, g9⟩ := hH.1.cells
      have hw1 : IntKind.i64.wrap (r.sf + (tw : Int)) = r.sf + (tw : Int) := by rw [IntKind.wrap_i64]; omega
      have HE : Hid (r2 = { r with nf := r.sf + tw, nt := r.st }) := by rw [HR2.out, if_pos hl, if_pos hl]; exact Lib.hid rfl
      clear hl
      go_region
      all_goals go_wp2_with fail
      all_goals go_meet
      all_goals (rw [HE.out]; exact ⟨(LineBox.note hH.1 _ _).drew, ((hH.2.set 8 _).set 9 _).drew⟩)
    · have dl : decide (tw < t.length) = false := decide_eq_false hl
      have : r2 = r := by rw [hr2, if_neg hl, if_neg hl]
      subst this
      clear hr2
      go_wp2_with fail
      go_meet
      exact hH
  have H2 := hcut
  clear hr2
  have h20 : r2.sf = r.sf := by rw [HR2.out]
  have HE : Hid (R = { r2 with rf := r.sf + f2, rt := r.sf + (f2 + z) }) := by rw [← HR.out, HR2.out]; exact Lib.hid rfl
  rw [← h20] at h0 h1
  have HH20 := Lib.hid h20; clear h20
  go_upto_if 47 with fail
  go_cut [7] (fun s7 wx => s7 = .int .i64 (((f2 + z : Nat)) : Int) ∧ Hid (LineH X r2 w wx))
  case first =>
    by_cases hgt : f2 < tw
    · have dg : decide (f2 < tw) = true := decide_eq_true hgt
      go_wp2_with (go_at_call 64; refine (CR.out _).mono ?_; rintro e w' ⟨rfl, rfl⟩)
      go_meet
      exact ⟨by go_num, H2.out⟩
    · have dg : decide (f2 < tw) = false := decide_eq_false hgt
      obtain rfl : z = 0 := by omega
      go_wp2_with fail
      go_meet
      exact ⟨by go_num, H2.out⟩
  obtain ⟨rfl, H3⟩ := hcut
  obtain ⟨a0, a1, a2, a3, a4, a5, a6, a7, a8, a9, g0, g1, g2, g3, g4, g5, g6, g7, g8, g9⟩ := H3.out.1.cells
  have hw1 : IntKind.i64.wrap (r2.sf + (f2 : Int)) = r2.sf + (f2 : Int) := by rw [IntKind.wrap_i64]; omega
  have hw2 : IntKind.i64.wrap (r2.sf + ((f2 : Int) + (z : Int))) = r2.sf + ((f2 : Int) + (z : Int)) := by rw [IntKind.wrap_i64]; omega
  go_wp2_with fail
  go_region
  all_goals go_end0
  all_goals (refine ⟨⟨_, rfl⟩, ?_, (((H3.out.2).set 6 _).set 7 _).drew⟩)
  all_goals (rw [HE.out, ← HH20.out]; exact (LineBox.rest H3.out.1 _ _).drew)
end Go.Proofs.YtbbjgdnbekoaeaaGreatDoor
