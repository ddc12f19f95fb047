import Derived.Test.YtnnlpkbopeiefaaGreatDoorYpA
import Derived.Test.YtnnlpkbopeiefaaGreatDoorWl
/-! The walk of YprintLines. -/
namespace Go.Proofs.YtnnlpkbopeiefaaGreatDoor
set_option linter.unusedSimpArgs false
set_option linter.unusedVariables false
open Go.RowKit
open Go.Lib hiding intOf
theorem block_len {t : VT} {i : Nat} (h : i + 2 * t.depth ≤ 1024) : (blockL t i).length ≤ 2500 * t.bulk := by
  have h1 : t.bulk = t.text.length + (totS t.keys + t.keys.length) + bulks t.items + 1 := by cases t; rw [VT.bulk]; rfl
  have h2 : t.depth = depths t.items + 1 := by cases t; rw [VT.depth]; rfl
  unfold blockL
  split
  · have := ymem_len t.items t.keys i (by omega)
    omega
  · have := yitem_len t.items i (by omega)
    omega
set_option maxRecDepth 100000 in
set_option maxHeartbeats 1000000 in
theorem yprintLines_any (t : VT) (kv iv : Value) (ind : Int) (w : World) (h : VD w t.depth t kv iv) (hbk : t.bulk ≤ 1048576) (hV : YVar w) :
    Calls Tryz.prog 3 #[vv t kv iv, .int .i64 ind] w fun e w' => e = .returned (.bool true) ∧ Below w.heap.size w w' := by
  obtain ⟨pk, ck, p, c, rfl, rfl⟩ := h.form
  obtain ⟨X, hX⟩ : ∃ X, w.heap.size = X := ⟨_, rfl⟩
  obtain ⟨W1, hW1⟩ : ∃ W, w.alloc (.cells #[.int .i64 t.kind, .string (bs t.text), .slice pk t.keys.length ck, .slice p t.items.length c] 25) = W := ⟨_, rfl⟩
  have HB1 : Hid (Below w.heap.size w W1) := Lib.hid (by rw [← hW1]; exact below_alloc1 _ _)
  have HXB : Hid (VBox W1 X t (.slice pk t.keys.length ck) (.slice p t.items.length c)) := Lib.hid (by rw [← hW1, ← hX]; exact VBox.new w t _ _)
  have HVD := Lib.hid (h.keep HB1.out)
  have HV := Lib.hid (hV.keep HB1.out)
  have C0 := Lib.hid (small14_any W1 HV.out)
  have CF : Hid (∀ w', Below W1.heap.size W1 w' → Calls Tryz.prog 14 #[vv t (.slice pk t.keys.length ck) (.slice p t.items.length c), .int .i64 200] w' fun e w2 => e = .returned (.bool (FewB t 200)) ∧ Below w'.heap.size w' w2) := Lib.hid (fun w' hb => vFew_any t.depth t _ _ w' 200 (HVD.out.keep hb) (by omega) (by omega) (by omega))
  have CB : Hid (∀ w', Below W1.heap.size W1 w' → Calls Tryz.prog 15 #[vv t (.slice pk t.keys.length ck) (.slice p t.items.length c), .int .i64 ind] w' fun e w2 => e = QuotedE (blockP t ind) ∧ Below w'.heap.size w' w2) := Lib.hid (fun w' hb => yBlock_any t.depth t _ _ ind w' (HVD.out.keep hb) (by omega) (HV.out.keep hb))
  have CL : Hid (∀ w', Below W1.heap.size W1 w' → Calls Tryz.prog 16 #[vv t (.slice pk t.keys.length ck) (.slice p t.items.length c)] w' fun e w2 => e = .returned (.bool (linesB t)) ∧ Below w'.heap.size w' w2) := Lib.hid (fun w' hb => ylines_any t.depth t _ _ w' (HVD.out.keep hb) (by omega) (HV.out.keep hb))
  have CS : Hid (∀ w', Below W1.heap.size W1 w' → Calls Tryz.prog 17 #[vv t (.slice pk t.keys.length ck) (.slice p t.items.length c)] w' fun e w2 => e = .returned (.int .i64 (t.size : Int)) ∧ Below w'.heap.size w' w2) := Lib.hid (fun w' hb => vsize_any t.depth t _ _ w' (HVD.out.keep hb) (by omega))
  unfold vv at CF CB CL CS ⊢
  unfold blockP QuotedE at CB
  clear h hV
  obtain ⟨y1, hy1⟩ : ∃ y, FewB t 200 = y := ⟨_, rfl⟩
  obtain ⟨y2, hy2⟩ : ∃ y, linesB t = y := ⟨_, rfl⟩
  obtain ⟨y3, hy3⟩ : ∃ y, fitsB t ind = y := ⟨_, rfl⟩
  rw [hy1] at CF
  rw [hy2] at CL
  rw [hy2, hy3] at CB
  have HY2 := Lib.hid hy2
  have HY3 := Lib.hid hy3
  clear hy1 hy2 hy3
  cases y1 with
  | false =>
    go_enter Tryz.func3, Tryz.ntmps3
    go_upto_region 1 with fail
    clear hW1
    go_wp2_with fail
    refine C0.out.mono ?_
    rintro e w2 ⟨rfl, hb2⟩
    have HB2 := Lib.hid hb2
    clear hb2
    obtain ⟨b0, b1, b2, b3⟩ := (HXB.out.keep HB2.out).cells
    go_wp2_with fail
    refine (CF.out _ HB2.out).mono ?_
    rintro e w3 ⟨rfl, hb3⟩
    have HB3 := Lib.hid (below_of_new HB1.out (below_of_new HB2.out hb3))
    clear hb3 b0 b1 b2 b3
    go_wp2_with fail
    go_ret
    exact ⟨rfl, by first | exact HB3.out | (rw [← hX]; exact HB3.out)⟩
  | true =>
  go_enter Tryz.func3, Tryz.ntmps3
  go_upto_region 1 with fail
  clear hW1
  go_wp2_with fail
  refine C0.out.mono ?_
  rintro e w2 ⟨rfl, hb2⟩
  have HB2 := Lib.hid hb2
  clear hb2
  obtain ⟨b0, b1, b2, b3⟩ := (HXB.out.keep HB2.out).cells
  go_wp2_with fail
  refine (CF.out _ HB2.out).mono ?_
  rintro e w3 ⟨rfl, hb3⟩
  have HB3 := Lib.hid (below_of_new HB2.out hb3)
  clear hb3 b0 b1 b2 b3
  obtain ⟨b0, b1, b2, b3⟩ := (HXB.out.keep HB3.out).cells
  go_wp2_with fail
  refine (CB.out _ HB3.out).mono ?_
  rintro e w4 ⟨rfl, hb4⟩
  have HB4 := Lib.hid (below_of_new HB3.out hb4)
  clear hb4 b0 b1 b2 b3
  by_cases hok : (y3 && y2) = true
  · rw [Bool.and_eq_true] at hok
    obtain ⟨rfl, rfl⟩ := hok
    rw [Bool.and_true, if_pos rfl]
    have hf := HY3.out
    have hln := HY2.out
    unfold fitsB at hf
    unfold linesB at hln
    simp only [Bool.and_eq_true, decide_eq_true_eq] at hf hln
    obtain ⟨⟨hrt, hi0⟩, hi1⟩ := hf
    have hdp := right_depth hrt
    obtain ⟨R, rfl⟩ : ∃ i : Nat, ind = i := ⟨ind.toNat, by omega⟩
    rw [Int.toNat_natCast]
    have hTl := block_len (t := t) (i := R) (by omega)
    have hsc := block_scan (i := R) hrt hln.2
    have hla := block_last (t := t) (i := R) hln.2
    obtain ⟨T, hT⟩ : ∃ T, blockL t R = T := ⟨_, rfl⟩
    rw [hT] at hTl hsc hla ⊢
    have sl := bs_size T
    have hTp : 0 < T.length := by cases T with | nil => simp at hla | cons a b => simp
    obtain ⟨K, hK⟩ : ∃ K, T.length = K + 1 := ⟨T.length - 1, by omega⟩
    have hl1 : K < (bs T).size := by omega
    have hlast : (bs T)[K]'hl1 = 10 := by
      have h1 : T[K]? = some ((bs T)[K]'hl1) := at_bs T _ hl1
      rw [List.getLast?_eq_getElem?, hK, Nat.add_sub_cancel] at hla
      rw [hla] at h1
      exact (Option.some.inj h1).symm
    have hlast2 : (((bs T)[K]'hl1).toNat : Int) = 10 := by rw [hlast]; rfl
    have sz : ((bs T).size : Int) = (K : Int) + 1 := by omega
    have hz : ((K : Int) + 1 == 0) = false := beq_eq_false_iff_ne.2 (by omega)
    have hsb : (K : Int) + 1 - 1 = (K : Int) := by omega
    have HSC := Lib.hid hsc
    have hsz := size_le_bulk t
    clear hT hla hsc hlast HY2 HY3 CB
    clear sl hTp
    go_wp2_with fail
    go_loopw [9, 10, 11, 12, 13] (fun s9 s10 s11 s12 s13 wr => ∃ (i n m : Nat) (f ld : Bool), s9 = .int .i64 (n : Int) ∧ s10 = .bool f ∧ s11 = .bool ld ∧ s12 = .int .i64 (m : Int) ∧ s13 = .int .i64 (i : Int) ∧ i ≤ K + 1 ∧ n ≤ i ∧ m ≤ i ∧ Hid (scanGo R n f ld m (T.drop i) = some (t.size - 1)) ∧ Hid (Below W1.heap.size W1 wr)) (fun _ _ _ _ s13 _ => K + 1 - (RowKit.intOf s13).toNat)
    case atStart => exact ⟨0, 0, 0, true, true, rfl, rfl, rfl, rfl, rfl, Nat.zero_le _, Nat.zero_le _, Nat.zero_le _, HSC, HB4⟩
    case round =>
      obtain ⟨i, n, m, f, ld, rfl, rfl, rfl, rfl, rfl, hi, hni, hmi, HS, HBr⟩ := hrel
      by_cases hlt : i < K + 1
      · have hlt' : i < (bs T).size := by omega
        have hiz : (i : Int) < (K : Int) + 1 := by omega
        have dk : decide ((i : Int) < (K : Int) + 1) = true := decide_eq_true hiz
        have hbi := at_bs T i hlt'
        obtain ⟨b, hb⟩ : ∃ b, (bs T)[i]'hlt' = b := ⟨_, rfl⟩
        rw [hb] at hbi
        have hsc := HS.out
        have hdr : T.drop i = b :: T.drop (i + 1) := by
          have hl := (List.getElem?_eq_some_iff.1 hbi)
          rw [List.drop_eq_getElem_cons hl.1, hl.2]
        rw [hdr, scanGo] at hsc
        obtain ⟨x, hx⟩ : ∃ x : Int, (b.toNat : Int) = x := ⟨_, rfl⟩
        have hge3 : (((bs T)[i]'hlt').toNat : Int) = x := by rw [hb, hx]
        by_cases h10 : x = 10
        · have t10 : (x == 10) = true := beq_iff_eq.2 h10
          have hb10 : b = 10 := UInt8.toNat_inj.1 (by show b.toNat = 10; omega)
          rw [if_pos hb10] at hsc
          split at hsc
          · cases hsc
          rename_i hno
          simp only [Bool.or_eq_true, Bool.and_eq_true, decide_eq_true_eq, not_or, not_and, Classical.not_not, Bool.not_eq_true] at hno
          obtain ⟨⟨rfl, hnR⟩, hfR⟩ := hno
          have dn : decide ((n : Int) < (R : Int)) = false := decide_eq_false (by omega)
          have HS2 := Lib.hid hsc
          clear hsc hdr hbi hb hb10 HS
          subst h10
          cases f with
          | true =>
            have hnR2 : n = R := hfR rfl
            have dn2 : ((n : Int) == (R : Int)) = true := beq_iff_eq.2 (by omega)
            clear hfR hnR2
            go_wp2_with fail
            go_roundw
            case rel => exact ⟨i + 1, 0, m + 1, false, true, by go_num, rfl, rfl, by go_num, by go_num, by omega, by omega, by omega, HS2, by first | exact HBr | exact Lib.hid (below_drewN HBr.out _)⟩
            case measure => simp [RowKit.intOf]; omega
          | false =>
            clear hfR
            go_wp2_with fail
            go_roundw
            case rel => exact ⟨i + 1, 0, m + 1, false, true, by go_num, rfl, rfl, by go_num, by go_num, by omega, by omega, by omega, HS2, by first | exact HBr | exact Lib.hid (below_drewN HBr.out _)⟩
            case measure => simp [RowKit.intOf]; omega
        · have t10 : (x == 10) = false := beq_eq_false_iff_ne.2 h10
          have hb10 : ¬ b = 10 := fun e => h10 (by rw [← hx, e]; rfl)
          rw [if_neg hb10] at hsc
          by_cases h32 : x = 32
          · have t32 : (x == 32) = true := beq_iff_eq.2 h32
            have hb32 : b = 32 := UInt8.toNat_inj.1 (by show b.toNat = 32; omega)
            cases ld with
            | true =>
              rw [if_pos ⟨hb32, rfl⟩] at hsc
              have HS2 := Lib.hid hsc
              clear hsc hdr hbi hb hb10 HS hb32 h10
              subst h32
              go_wp2_with fail
              go_roundw
              case rel => exact ⟨i + 1, n + 1, m, f, true, by go_num, rfl, rfl, rfl, by go_num, by omega, by omega, by omega, HS2, by first | exact HBr | exact Lib.hid (below_drewN HBr.out _)⟩
              case measure => simp [RowKit.intOf]; omega
            | false =>
              rw [if_neg (by simp)] at hsc
              have HS2 := Lib.hid hsc
              clear hsc hdr hbi hb hb10 HS hb32 h10
              subst h32
              go_wp2_with fail
              go_roundw
              case rel => exact ⟨i + 1, n, m, f, false, by go_num, rfl, rfl, rfl, by go_num, by omega, by omega, by omega, HS2, by first | exact HBr | exact Lib.hid (below_drewN HBr.out _)⟩
              case measure => simp [RowKit.intOf]; omega
          · have t32 : (x == 32) = false := beq_eq_false_iff_ne.2 h32
            have hb32 : ¬ b = 32 := fun e => h32 (by rw [← hx, e]; rfl)
            rw [if_neg (by simp [hb32])] at hsc
            have HS2 := Lib.hid hsc
            clear hsc hdr hbi hb hb10 HS hb32 h10 h32
            go_wp2_with fail
            go_roundw
            case rel => exact ⟨i + 1, n, m, f, false, by go_num, rfl, rfl, rfl, by go_num, by omega, by omega, by omega, HS2, by first | exact HBr | exact Lib.hid (below_drewN HBr.out _)⟩
            case measure => simp [RowKit.intOf]; omega
      · have hiz : ¬ ((i : Int) < (K : Int) + 1) := by omega
        have dk : decide ((i : Int) < (K : Int) + 1) = false := decide_eq_false hiz
        have hme : m = t.size - 1 := by
          have hsc := HS.out
          rw [List.drop_of_length_le (by omega), scanGo] at hsc
          exact Option.some.inj hsc
        have dz : decide ((m : Int) ≤ (t.size : Int)) = true := decide_eq_true (by omega)
        obtain ⟨b0, b1, b2, b3⟩ := (HXB.out.keep HBr.out).cells
        go_wp2_with fail
        refine (CS.out _ HBr.out).mono ?_
        rintro e w5 ⟨rfl, hb5⟩
        have HB5 := Lib.hid (below_of_new HB1.out (below_of_new HBr.out hb5))
        clear hb5 b0 b1 b2 b3
        go_wp2_with fail
        go_ret
        exact ⟨rfl, by first | exact HB5.out | (rw [← hX]; exact HB5.out)⟩
  · have hy : (y3 && y2) = false := by simpa using hok
    rw [hy, if_neg (by simp)]
    clear CB
    cases y2 with
    | false =>
      obtain ⟨b0, b1, b2, b3⟩ := (HXB.out.keep HB4.out).cells
      go_wp2_with fail
      refine (CL.out _ HB4.out).mono ?_
      rintro e w5 ⟨rfl, hb5⟩
      have HB5 := Lib.hid (below_of_new HB1.out (below_of_new HB4.out hb5))
      clear hb5 b0 b1 b2 b3
      go_wp2_with fail
      go_ret
      exact ⟨rfl, by first | exact HB5.out | (rw [← hX]; exact HB5.out)⟩
    | true =>
      obtain rfl : y3 = false := by simpa using hy
      have hf := HY3.out
      have hln := HY2.out
      unfold fitsB at hf
      unfold linesB at hln
      rw [Bool.and_eq_true] at hln
      rw [hln.1, Bool.true_and] at hf
      obtain ⟨b0, b1, b2, b3⟩ := (HXB.out.keep HB4.out).cells
      by_cases h0 : ind < 0
      · have d0 : decide (ind < 0) = true := decide_eq_true h0
        clear hf hln HY2 HY3 hok
        go_wp2_with fail
        refine (CL.out _ HB4.out).mono ?_
        rintro e w5 ⟨rfl, hb5⟩
        have HB5 := Lib.hid (below_of_new HB1.out (below_of_new HB4.out hb5))
        clear hb5 b0 b1 b2 b3
        go_wp2_with fail
        go_ret
        exact ⟨rfl, by first | exact HB5.out | (rw [← hX]; exact HB5.out)⟩
      · have d0 : decide (ind < 0) = false := decide_eq_false h0
        have h1 : 256 < ind := by
          simp only [Bool.and_eq_false_iff, decide_eq_false_iff_not] at hf
          omega
        have d1 : decide (256 < ind) = true := decide_eq_true h1
        clear hf hln HY2 HY3 hok
        go_wp2_with fail
        refine (CL.out _ HB4.out).mono ?_
        rintro e w5 ⟨rfl, hb5⟩
        have HB5 := Lib.hid (below_of_new HB1.out (below_of_new HB4.out hb5))
        clear hb5 b0 b1 b2 b3
        go_wp2_with fail
        go_ret
        exact ⟨rfl, by first | exact HB5.out | (rw [← hX]; exact HB5.out)⟩
end Go.Proofs.YtnnlpkbopeiefaaGreatDoor
