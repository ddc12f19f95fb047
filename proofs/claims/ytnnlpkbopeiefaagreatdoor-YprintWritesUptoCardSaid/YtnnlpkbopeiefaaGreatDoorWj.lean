import Derived.Test.YtnnlpkbopeiefaaGreatDoorWg
/-! yprint: fits, Lines, Block, Member, Item, Print: plain, and their walks. -/
namespace Go.Proofs.YtnnlpkbopeiefaaGreatDoor
set_option linter.unusedSimpArgs false
set_option linter.unusedVariables false
open Go.RowKit
open Go.Lib hiding intOf
def fitsB (t : VT) (ind : Int) : Bool := RightB t && decide (0 ≤ ind) && decide (ind ≤ 256)
def linesB (t : VT) : Bool := RightB t && decide (0 < t.items.length)
def blockP (t : VT) (ind : Int) : Stp × Int := if fitsB t ind && linesB t then (blockL t ind.toNat, 0) else ([], 1)
def memberP (key : Stp) (t : VT) (ind : Int) : Stp × Int := if fitsB t ind && decide ((keyY key).2 = 0) then (List.replicate ind.toNat 32 ++ ((keyY key).1 ++ [58]) ++ ybehL t ind.toNat, 0) else ([], 1)
def itemP (t : VT) (ind : Int) : Stp × Int := if fitsB t ind then (List.replicate ind.toNat 32 ++ [45] ++ ybehL t ind.toNat, 0) else ([], 1)
def printP (t : VT) : Stp × Int := if linesB t then blockP t 0 else if (writeY t).2 = 0 then ((writeY t).1 ++ [10], 0) else ([], (writeY t).2)
theorem right_depth {t : VT} (h : RightB t = true) : t.depth ≤ 32 := by
  unfold RightB at h
  simp only [Bool.and_eq_true, decide_eq_true_eq] at h
  exact h.1.2
theorem yfits_any (n : Nat) (t : VT) (kv iv : Value) (ind : Int) (w : World) (h : VD w n t kv iv) (hbk : t.bulk ≤ 1073741824) (hV : YVar w) :
    Calls Tryz.prog 53 #[vv t kv iv, .int .i64 ind] w fun e w' => e = .returned (.bool (fitsB t ind)) ∧ Below w.heap.size w w' := by
  obtain ⟨pk, ck, p, c, rfl, rfl⟩ := h.form
  obtain ⟨X, hX⟩ : ∃ X, w.heap.size = X := ⟨_, rfl⟩
  obtain ⟨W1, hW1⟩ : ∃ W, w.alloc (.cells #[.int .i64 t.kind, .string (bs t.text), .slice pk t.keys.length ck, .slice p t.items.length c] 25) = W := ⟨_, rfl⟩
  have HB1 : Hid (Below w.heap.size w W1) := Lib.hid (by rw [← hW1]; exact below_alloc1 _ _)
  have HXB : Hid (VBox W1 X t (.slice pk t.keys.length ck) (.slice p t.items.length c)) := Lib.hid (by rw [← hW1, ← hX]; exact VBox.new w t _ _)
  have HC1 := Lib.hid (vright_any n t _ _ W1 (h.keep HB1.out) hbk (hV.keep HB1.out).1)
  unfold vv at HC1 ⊢
  unfold fitsB
  obtain ⟨y, hy⟩ : ∃ y, RightB t = y := ⟨_, rfl⟩
  obtain ⟨y1, hy1⟩ : ∃ y, decide (0 ≤ ind) = y := ⟨_, rfl⟩
  obtain ⟨y2, hy2⟩ : ∃ y, decide (ind ≤ 256) = y := ⟨_, rfl⟩
  rw [hy] at HC1
  rw [hy, hy1, hy2]
  clear h hV hy
  cases y <;> cases y1 <;> cases y2
  all_goals
    go_enter Tryz.func53, Tryz.ntmps53
    go_upto_region 1 with fail
    clear hW1
    obtain ⟨b0, b1, b2, b3⟩ := HXB.out.cells
    go_wp2_with fail
    refine HC1.out.mono ?_
    rintro e w2 ⟨rfl, hb2⟩
    have HB2 := Lib.hid (below_of_new HB1.out hb2)
    clear hb2 b0 b1 b2 b3
    go_wp2_with fail
    go_ret
    exact ⟨rfl, by first | exact HB2.out | (rw [← hX]; exact HB2.out)⟩
theorem ylines_any (n : Nat) (t : VT) (kv iv : Value) (w : World) (h : VD w n t kv iv) (hbk : t.bulk ≤ 1073741824) (hV : YVar w) :
    Calls Tryz.prog 16 #[vv t kv iv] w fun e w' => e = .returned (.bool (linesB t)) ∧ Below w.heap.size w w' := by
  obtain ⟨pk, ck, p, c, rfl, rfl⟩ := h.form
  obtain ⟨X, hX⟩ : ∃ X, w.heap.size = X := ⟨_, rfl⟩
  obtain ⟨W1, hW1⟩ : ∃ W, w.alloc (.cells #[.int .i64 t.kind, .string (bs t.text), .slice pk t.keys.length ck, .slice p t.items.length c] 25) = W := ⟨_, rfl⟩
  have HB1 : Hid (Below w.heap.size w W1) := Lib.hid (by rw [← hW1]; exact below_alloc1 _ _)
  have HXB : Hid (VBox W1 X t (.slice pk t.keys.length ck) (.slice p t.items.length c)) := Lib.hid (by rw [← hW1, ← hX]; exact VBox.new w t _ _)
  have HC1 := Lib.hid (vright_any n t _ _ W1 (h.keep HB1.out) hbk (hV.keep HB1.out).1)
  unfold vv at HC1 ⊢
  unfold linesB
  obtain ⟨y, hy⟩ : ∃ y, RightB t = y := ⟨_, rfl⟩
  obtain ⟨y1, hy1⟩ : ∃ y, decide (0 < t.items.length) = y := ⟨_, rfl⟩
  have hy1z : decide ((0 : Int) < (t.items.length : Int)) = y1 := by rw [← hy1, decide_eq_decide]; omega
  rw [hy] at HC1
  rw [hy, hy1]
  clear h hV hy
  cases y <;> cases y1
  all_goals
    go_enter Tryz.func16, Tryz.ntmps16
    go_upto_region 1 with fail
    clear hW1
    obtain ⟨b0, b1, b2, b3⟩ := HXB.out.cells
    go_wp2_with fail
    refine HC1.out.mono ?_
    rintro e w2 ⟨rfl, hb2⟩
    have HB2 := Lib.hid (below_of_new HB1.out hb2)
    obtain ⟨b0', b1', b2', b3'⟩ := (HXB.out.keep hb2).cells
    clear hb2 b0 b1 b2 b3
    go_wp2_with fail
    go_ret
    exact ⟨rfl, by first | exact HB2.out | (rw [← hX]; exact HB2.out)⟩
theorem ymem_ne {l : List VT} {ks : List Stp} {ind : Nat} (h : 0 < l.length) : ymemL l ks ind ≠ [] := by
  cases l with
  | nil => simp at h
  | cons x l => rw [ymemL]; simp
theorem yitem_ne {l : List VT} {ind : Nat} (h : 0 < l.length) : yitemL l ind ≠ [] := by
  cases l with
  | nil => simp at h
  | cons x l => rw [yitemL]; simp
theorem blockL_ne {t : VT} {ind : Nat} (h : 0 < t.items.length) : blockL t ind ≠ [] := by
  unfold blockL
  split
  · exact ymem_ne h
  · exact yitem_ne h
set_option maxRecDepth 100000 in
set_option maxHeartbeats 1000000 in
theorem yBlock_any (n : Nat) (t : VT) (kv iv : Value) (ind : Int) (w : World) (hn : VD w n t kv iv) (hbk : t.bulk ≤ 2000000) (hV : YVar w) :
    Calls Tryz.prog 15 #[vv t kv iv, .int .i64 ind] w fun e w' => e = QuotedE (blockP t ind) ∧ Below w.heap.size w w' := by
  have h := hn.tight
  clear hn
  obtain ⟨pk, ck, p, c, rfl, rfl⟩ := h.form
  obtain ⟨X, hX⟩ : ∃ X, w.heap.size = X := ⟨_, rfl⟩
  obtain ⟨W1, hW1⟩ : ∃ W, w.alloc (.cells #[.int .i64 t.kind, .string (bs t.text), .slice pk t.keys.length ck, .slice p t.items.length c] 25) = W := ⟨_, rfl⟩
  have HB1 : Hid (Below w.heap.size w W1) := Lib.hid (by rw [← hW1]; exact below_alloc1 _ _)
  have HXB : Hid (VBox W1 X t (.slice pk t.keys.length ck) (.slice p t.items.length c)) := Lib.hid (by rw [← hW1, ← hX]; exact VBox.new w t _ _)
  have HVD := Lib.hid (h.keep HB1.out)
  have HV := Lib.hid (hV.keep HB1.out)
  have HC1 := Lib.hid (yfits_any t.depth t _ _ ind W1 HVD.out (by omega) HV.out)
  have HC2 : Hid (∀ w', Below W1.heap.size W1 w' → Calls Tryz.prog 16 #[vv t (.slice pk t.keys.length ck) (.slice p t.items.length c)] w' fun e w2 => e = .returned (.bool (linesB t)) ∧ Below w'.heap.size w' w2) := Lib.hid (fun w' hb => ylines_any t.depth t _ _ w' (HVD.out.keep hb) (by omega) (HV.out.keep hb))
  unfold vv at HC1 HC2 ⊢
  unfold blockP
  obtain ⟨y1, hy1⟩ : ∃ y, fitsB t ind = y := ⟨_, rfl⟩
  obtain ⟨y2, hy2⟩ : ∃ y, linesB t = y := ⟨_, rfl⟩
  rw [hy1] at HC1
  rw [hy2] at HC2
  rw [hy1, hy2]
  have HY1 := Lib.hid hy1
  have HY2 := Lib.hid hy2
  clear h hV hy1 hy2
  cases y1 with
  | false =>
    rw [Bool.false_and, if_neg (by simp)]
    clear HC2
    go_enter Tryz.func15, Tryz.ntmps15
    go_upto_region 1 with fail
    clear hW1
    obtain ⟨b0, b1, b2, b3⟩ := HXB.out.cells
    go_wp2_with fail
    refine HC1.out.mono ?_
    rintro e w2 ⟨rfl, hb2⟩
    have HB2 := Lib.hid (below_of_new HB1.out hb2)
    clear hb2 b0 b1 b2 b3
    go_wp2_with fail
    go_ret2
    exact ⟨rfl, by first | exact HB2.out | (rw [← hX]; exact HB2.out)⟩
  | true =>
    cases y2 with
    | false =>
      rw [Bool.and_false, if_neg (by simp)]
      go_enter Tryz.func15, Tryz.ntmps15
      go_upto_region 1 with fail
      clear hW1
      obtain ⟨b0, b1, b2, b3⟩ := HXB.out.cells
      go_wp2_with fail
      refine HC1.out.mono ?_
      rintro e w2 ⟨rfl, hb2⟩
      have HB2 := Lib.hid hb2
      clear hb2 b0 b1 b2 b3
      obtain ⟨b0, b1, b2, b3⟩ := (HXB.out.keep HB2.out).cells
      go_wp2_with fail
      refine (HC2.out _ HB2.out).mono ?_
      rintro e w3 ⟨rfl, hb3⟩
      have HB3 := Lib.hid (below_of_new HB1.out (below_of_new HB2.out hb3))
      clear hb3 b0 b1 b2 b3
      go_wp2_with fail
      go_ret2
      exact ⟨rfl, by first | exact HB3.out | (rw [← hX]; exact HB3.out)⟩
    | true =>
      rw [Bool.and_true, if_pos rfl]
      have hf := HY1.out
      have hln := HY2.out
      unfold fitsB at hf
      unfold linesB at hln
      simp only [Bool.and_eq_true, decide_eq_true_eq] at hf hln
      obtain ⟨⟨hrt, hi0⟩, hi1⟩ := hf
      have hdp := right_depth hrt
      have HEV := Lib.hid (right_every hrt)
      have HNE := Lib.hid (blockL_ne (t := t) (ind := ind.toNat) hln.2)
      obtain ⟨i, rfl⟩ : ∃ i : Nat, ind = i := ⟨ind.toNat, by omega⟩
      rw [Int.toNat_natCast] at HNE ⊢
      obtain ⟨C, hC⟩ : ∃ C, blockL t i = C := ⟨_, rfl⟩
      rw [hC] at HNE
      rw [hC]
      have HCe := Lib.hid hC
      clear hC hrt hln
      go_enter Tryz.func15, Tryz.ntmps15
      go_upto_region 1 with fail
      clear hW1
      obtain ⟨b0, b1, b2, b3⟩ := HXB.out.cells
      go_wp2_with fail
      refine HC1.out.mono ?_
      rintro e w2 ⟨rfl, hb2⟩
      have HB2 := Lib.hid hb2
      clear hb2 b0 b1 b2 b3
      obtain ⟨b0, b1, b2, b3⟩ := (HXB.out.keep HB2.out).cells
      go_wp2_with fail
      refine (HC2.out _ HB2.out).mono ?_
      rintro e w3 ⟨rfl, hb3⟩
      have HB3 := Lib.hid (below_of_new HB2.out hb3)
      clear hb3 b0 b1 b2 b3
      have hP := EbN.new w3 65 []
      have hb3 := below_alloc1 w3 (.cells #[.pointer none, .slice none 0 0] 65)
      obtain ⟨b, hb⟩ : ∃ b, w3.heap.size = b := ⟨_, rfl⟩
      obtain ⟨W3, hW3⟩ : ∃ W, w3.alloc (.cells #[.pointer none, .slice none 0 0] 65) = W := ⟨_, rfl⟩
      have hP : YN w3.heap.size w3.heap.size [] W3 := by rw [← hW3]; exact hP
      rw [hW3] at hb3
      rw [show YN w3.heap.size w3.heap.size [] W3 = YN w3.heap.size b [] W3 from by rw [hb]] at hP
      have hXB3 := (HXB.out.keep HB3.out).keep hb3
      have HB4 := Lib.hid hb3
      have HC4 := Lib.hid (yblock_any w3 (HV.out.keep HB3.out) t.depth b t _ _ W3 [] i (HVD.out.keep HB3.out) HEV.out hP hb3 (by simp only [List.length_nil]; omega) (by omega))
      unfold vv at HC4
      rw [List.nil_append, HCe.out] at HC4
      obtain ⟨b0, b1, b2, b3⟩ := hXB3.cells
      clear hP hb3 hXB3
      go_wp2_with fail
      refine HC4.out.mono ?_
      rintro e w4 ⟨rfl, h2, h3⟩
      have HC5 := Lib.hid (ebString_any _ b C w4 h2 HNE.out)
      have HB5 := Lib.hid (HB4.out.trans h3.1)
      clear h2 h3 b0 b1 b2 b3 hW3
      go_wp2_with fail
      refine HC5.out.mono ?_
      rintro e w5 ⟨rfl, hb5⟩
      have HB6 := Lib.hid (below_of_new HB1.out (below_of_new HB3.out (HB5.out.trans hb5)))
      clear hb5
      go_wp2_with fail
      go_ret2
      exact ⟨rfl, by first | exact HB6.out | (rw [← hX]; exact HB6.out)⟩
end Go.Proofs.YtnnlpkbopeiefaaGreatDoor
/-! yprint: Print, Item, Member: their walks. Printed by mkwk.py. -/
namespace Go.Proofs.YtnnlpkbopeiefaaGreatDoor
set_option linter.unusedSimpArgs false
set_option linter.unusedVariables false
open Go.RowKit
open Go.Lib hiding intOf
set_option maxRecDepth 100000 in
set_option maxHeartbeats 1000000 in
theorem yPrint_any (n : Nat) (t : VT) (kv iv : Value) (w : World) (h : VD w n t kv iv) (hbk : t.bulk ≤ 2000000) (hV : YVar w) :
    Calls Tryz.prog 19 #[vv t kv iv] w fun e w' => e = QuotedE (printP t) ∧ Below w.heap.size w w' := by
  obtain ⟨pk, ck, p, c, rfl, rfl⟩ := h.form
  obtain ⟨X, hX⟩ : ∃ X, w.heap.size = X := ⟨_, rfl⟩
  obtain ⟨W1, hW1⟩ : ∃ W, w.alloc (.cells #[.int .i64 t.kind, .string (bs t.text), .slice pk t.keys.length ck, .slice p t.items.length c] 25) = W := ⟨_, rfl⟩
  have HB1 : Hid (Below w.heap.size w W1) := Lib.hid (by rw [← hW1]; exact below_alloc1 _ _)
  have HXB : Hid (VBox W1 X t (.slice pk t.keys.length ck) (.slice p t.items.length c)) := Lib.hid (by rw [← hW1, ← hX]; exact VBox.new w t _ _)
  have HVD := Lib.hid (h.keep HB1.out)
  have HV := Lib.hid (hV.keep HB1.out)
  have HC1 := Lib.hid (ylines_any n t _ _ W1 HVD.out (by omega) HV.out)
  have HC2 : Hid (∀ w', Below W1.heap.size W1 w' → Calls Tryz.prog 15 #[vv t (.slice pk t.keys.length ck) (.slice p t.items.length c), .int .i64 0] w' fun e w2 => e = QuotedE (blockP t 0) ∧ Below w'.heap.size w' w2) := Lib.hid (fun w' hb => yBlock_any n t _ _ 0 w' (HVD.out.keep hb) hbk (HV.out.keep hb))
  have HC3 : Hid (∀ w', Below W1.heap.size W1 w' → Calls Tryz.prog 31 #[vv t (.slice pk t.keys.length ck) (.slice p t.items.length c)] w' fun e w2 => e = QuotedE (writeY t) ∧ Below w'.heap.size w' w2) := Lib.hid (fun w' hb => ywrite_any n t _ _ w' (HVD.out.keep hb) (by omega) (HV.out.keep hb))
  have hwl := writeY_len t
  unfold vv at HC1 HC2 HC3 ⊢
  unfold printP
  obtain ⟨y, hy⟩ : ∃ y, linesB t = y := ⟨_, rfl⟩
  obtain ⟨Q1, hQ1⟩ : ∃ Q, blockP t 0 = Q := ⟨_, rfl⟩
  obtain ⟨Q2, hQ2⟩ : ∃ Q, writeY t = Q := ⟨_, rfl⟩
  rw [hy] at HC1
  rw [hQ1] at HC2
  rw [hQ2] at HC3 hwl
  rw [hy, hQ1, hQ2]
  obtain ⟨q1, e1⟩ := Q1
  obtain ⟨q2, e2⟩ := Q2
  simp only [] at hwl ⊢
  have hz2 := bs_size q2
  unfold QuotedE at HC2 HC3
  simp only [] at HC2 HC3
  clear h hV hy hQ1 hQ2
  cases y with
  | true =>
    rw [if_pos rfl]
    go_enter Tryz.func19, Tryz.ntmps19
    go_upto_region 1 with fail
    clear hW1
    obtain ⟨b0, b1, b2, b3⟩ := HXB.out.cells
    go_wp2_with fail
    refine HC1.out.mono ?_
    rintro e w2 ⟨rfl, hb2⟩
    have HB2 := Lib.hid hb2
    clear hb2 b0 b1 b2 b3
    obtain ⟨b0, b1, b2, b3⟩ := (HXB.out.keep HB2.out).cells
    go_wp2_with fail
    refine (HC2.out _ HB2.out).mono ?_
    rintro e w3 ⟨rfl, hb3⟩
    have HB3 := Lib.hid (below_of_new HB1.out (below_of_new HB2.out hb3))
    clear hb3 b0 b1 b2 b3
    go_wp2_with fail
    go_ret2
    exact ⟨rfl, by first | exact HB3.out | (rw [← hX]; exact HB3.out)⟩
  | false =>
    rw [if_neg (by simp)]
    have hcat : bs q2 ++ (⟨#[10]⟩ : ByteArray) = bs (q2 ++ [10]) := by
      have h2 : (⟨#[10]⟩ : ByteArray) = bs [10] := rfl
      rw [h2, bs_append]
    have HCat := Lib.hid hcat
    clear hcat
    by_cases he : e2 = 0
    · rw [if_pos he]
      have de : (e2 != 0) = false := by simp [he]
      clear he
      go_enter Tryz.func19, Tryz.ntmps19
      go_upto_region 1 with fail
      clear hW1
      obtain ⟨b0, b1, b2, b3⟩ := HXB.out.cells
      go_wp2_with fail
      refine HC1.out.mono ?_
      rintro e w2 ⟨rfl, hb2⟩
      have HB2 := Lib.hid hb2
      clear hb2 b0 b1 b2 b3
      obtain ⟨b0, b1, b2, b3⟩ := (HXB.out.keep HB2.out).cells
      go_wp2_with fail
      refine (HC3.out _ HB2.out).mono ?_
      rintro e w3 ⟨rfl, hb3⟩
      have HB3 := Lib.hid (below_of_new HB1.out (below_of_new HB2.out hb3))
      clear hb3 b0 b1 b2 b3
      go_wp2_with fail
      go_ret2
      exact ⟨by unfold QuotedE; rw [← HCat.out]; rfl, by first | exact HB3.out | (rw [← hX]; exact HB3.out)⟩
    · rw [if_neg he]
      have de : (e2 != 0) = true := by simp [he]
      clear he
      go_enter Tryz.func19, Tryz.ntmps19
      go_upto_region 1 with fail
      clear hW1
      obtain ⟨b0, b1, b2, b3⟩ := HXB.out.cells
      go_wp2_with fail
      refine HC1.out.mono ?_
      rintro e w2 ⟨rfl, hb2⟩
      have HB2 := Lib.hid hb2
      clear hb2 b0 b1 b2 b3
      obtain ⟨b0, b1, b2, b3⟩ := (HXB.out.keep HB2.out).cells
      go_wp2_with fail
      refine (HC3.out _ HB2.out).mono ?_
      rintro e w3 ⟨rfl, hb3⟩
      have HB3 := Lib.hid (below_of_new HB1.out (below_of_new HB2.out hb3))
      clear hb3 b0 b1 b2 b3
      go_wp2_with fail
      go_ret2
      exact ⟨rfl, by first | exact HB3.out | (rw [← hX]; exact HB3.out)⟩
set_option maxRecDepth 100000 in
set_option maxHeartbeats 1000000 in
theorem yItem_any (n : Nat) (t : VT) (kv iv : Value) (ind : Int) (w : World) (hn : VD w n t kv iv) (hbk : t.bulk ≤ 2000000) (hV : YVar w) :
    Calls Tryz.prog 21 #[vv t kv iv, .int .i64 ind] w fun e w' => e = QuotedE (itemP t ind) ∧ Below w.heap.size w w' := by
  have h := hn.tight
  clear hn
  obtain ⟨pk, ck, p, c, rfl, rfl⟩ := h.form
  obtain ⟨X, hX⟩ : ∃ X, w.heap.size = X := ⟨_, rfl⟩
  obtain ⟨W1, hW1⟩ : ∃ W, w.alloc (.cells #[.int .i64 t.kind, .string (bs t.text), .slice pk t.keys.length ck, .slice p t.items.length c] 25) = W := ⟨_, rfl⟩
  have HB1 : Hid (Below w.heap.size w W1) := Lib.hid (by rw [← hW1]; exact below_alloc1 _ _)
  have HXB : Hid (VBox W1 X t (.slice pk t.keys.length ck) (.slice p t.items.length c)) := Lib.hid (by rw [← hW1, ← hX]; exact VBox.new w t _ _)
  have HVD := Lib.hid (h.keep HB1.out)
  have HV := Lib.hid (hV.keep HB1.out)
  have HC1 := Lib.hid (yfits_any t.depth t _ _ ind W1 HVD.out (by omega) HV.out)
  unfold vv at HC1 ⊢
  unfold itemP
  obtain ⟨y1, hy1⟩ : ∃ y, fitsB t ind = y := ⟨_, rfl⟩
  rw [hy1] at HC1
  rw [hy1]
  have HY1 := Lib.hid hy1
  clear h hV hy1
  cases y1 with
  | false =>
    rw [if_neg (by simp)]
    go_enter Tryz.func21, Tryz.ntmps21
    go_upto_region 1 with fail
    clear hW1
    obtain ⟨b0, b1, b2, b3⟩ := HXB.out.cells
    go_wp2_with fail
    refine HC1.out.mono ?_
    rintro e w2 ⟨rfl, hb2⟩
    have HB2 := Lib.hid (below_of_new HB1.out hb2)
    clear hb2 b0 b1 b2 b3
    go_wp2_with fail
    go_ret2
    exact ⟨rfl, by first | exact HB2.out | (rw [← hX]; exact HB2.out)⟩
  | true =>
    rw [if_pos rfl]
    have hf := HY1.out
    unfold fitsB at hf
    simp only [Bool.and_eq_true, decide_eq_true_eq] at hf
    obtain ⟨⟨hrt, hi0⟩, hi1⟩ := hf
    have hdp := right_depth hrt
    have HEV := Lib.hid (right_every hrt)
    obtain ⟨i, rfl⟩ : ∃ i : Nat, ind = i := ⟨ind.toNat, by omega⟩
    rw [Int.toNat_natCast]
    have hAl : (List.replicate i (32 : UInt8) ++ [45]).length ≤ 300 := by simp only [List.length_append, List.length_replicate, List.length_singleton]; omega
    obtain ⟨C, hC⟩ : ∃ C, List.replicate i 32 ++ [45] ++ ybehL t i = C := ⟨_, rfl⟩
    have HNE : Hid (C ≠ []) := Lib.hid (by rw [← hC]; simp)
    rw [hC]
    have HCe := Lib.hid hC
    clear hC hrt
    go_enter Tryz.func21, Tryz.ntmps21
    go_upto_region 1 with fail
    clear hW1
    obtain ⟨b0, b1, b2, b3⟩ := HXB.out.cells
    go_wp2_with fail
    refine HC1.out.mono ?_
    rintro e w3 ⟨rfl, hb2⟩
    have HBW := Lib.hid hb2
    clear hb2 b0 b1 b2 b3
    have hP := EbN.new w3 65 []
    have hb3 := below_alloc1 w3 (.cells #[.pointer none, .slice none 0 0] 65)
    obtain ⟨b, hb⟩ : ∃ b, w3.heap.size = b := ⟨_, rfl⟩
    obtain ⟨W3, hW3⟩ : ∃ W, w3.alloc (.cells #[.pointer none, .slice none 0 0] 65) = W := ⟨_, rfl⟩
    have hP : YN w3.heap.size w3.heap.size [] W3 := by rw [← hW3]; exact hP
    rw [hW3] at hb3
    rw [show YN w3.heap.size w3.heap.size [] W3 = YN w3.heap.size b [] W3 from by rw [hb]] at hP
    have hXB3 := (HXB.out.keep HBW.out).keep hb3
    have hBb := EbN.le hP
    have hXb : X ≠ b := Nat.ne_of_lt (Nat.lt_of_lt_of_le (cell_it (show _ = _ from (HXB.out.keep HBW.out))) hBb)
    have HB4 := Lib.hid hb3
    have HVW := Lib.hid (HVD.out.keep HBW.out)
    have HYW := Lib.hid (HV.out.keep HBW.out)
    have HH : Hid (Calls Tryz.prog 56 #[.pointer (some ⟨b, 0, none⟩), .int .i64 (i : Int), .string ⟨#[45]⟩] W3 fun e w2 => e = .returned (.tuple #[]) ∧ YN w3.heap.size b ([] ++ (List.replicate i 32 ++ [45])) w2 ∧ Kp w3.heap.size b W3 w2) := Lib.hid (yhead_any w3 b [] [45] i W3 hP hb3 (by simp only [List.length_nil]; omega) (by omega) (by decide))
    rw [List.nil_append] at HH
    have HXB3 := Lib.hid hXB3
    clear hP hb3 hXB3
    go_wp2_with fail
    refine HH.out.mono ?_
    rintro e w4 ⟨rfl, h2, h3⟩
    have HP4 := Lib.hid h2
    have HK4 := Lib.hid h3
    have HB5 := Lib.hid (HB4.out.trans h3.1)
    clear h2 h3 hW3
    obtain ⟨b0, b1, b2, b3⟩ := (HXB3.out.kp HK4.out hXb).cells
    have HC4 := Lib.hid (ybehind_any w3 HYW.out t.depth b t _ _ w4 (List.replicate i 32 ++ [45]) i HVW.out HEV.out HP4.out HB5.out (by omega) (by omega))
    unfold vv at HC4
    rw [HCe.out] at HC4
    go_wp2_with fail
    refine HC4.out.mono ?_
    rintro e w5 ⟨rfl, h2, h3⟩
    have HC5 := Lib.hid (ebString_any _ b C w5 h2 HNE.out)
    have HB6 := Lib.hid (HB5.out.trans h3.1)
    clear h2 h3 b0 b1 b2 b3
    go_wp2_with fail
    refine HC5.out.mono ?_
    rintro e w6 ⟨rfl, hb5⟩
    have HB7 := Lib.hid (below_of_new HB1.out (below_of_new HBW.out (HB6.out.trans hb5)))
    clear hb5
    go_wp2_with fail
    go_ret2
    exact ⟨rfl, by first | exact HB7.out | (rw [← hX]; exact HB7.out)⟩
end Go.Proofs.YtnnlpkbopeiefaaGreatDoor
