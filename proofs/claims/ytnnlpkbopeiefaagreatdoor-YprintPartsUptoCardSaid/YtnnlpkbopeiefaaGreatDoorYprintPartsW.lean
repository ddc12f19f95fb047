import Derived.Test.YtnnlpkbopeiefaaGreatDoorYpM
import Derived.Test.YtnnlpkbopeiefaaGreatDoorWl
/-! The walk of YprintParts. -/
namespace Go.Proofs.YtnnlpkbopeiefaaGreatDoor
set_option linter.unusedSimpArgs false
set_option linter.unusedVariables false
open Go.RowKit
open Go.Lib hiding intOf
def ypartL (t : VT) (R i : Nat) : Stp := if t.kind = 6 then ymemL (t.items.take i) t.keys R else yitemL (t.items.take i) R
theorem ypartL_len {t : VT} {R : Nat} (h : R + 2 * t.depth ≤ 1024) (i : Nat) : (ypartL t R i).length ≤ 2500 * t.bulk := by
  have h1 : t.bulk = t.text.length + (totS t.keys + t.keys.length) + bulks t.items + 1 := by cases t; rw [VT.bulk]; rfl
  have h2 : t.depth = depths t.items + 1 := by cases t; rw [VT.depth]; rfl
  have h3 : bulks t.items = bulks (t.items.take i) + bulks (t.items.drop i) := by rw [← bulks_app, List.take_append_drop]
  have h4 : depths t.items = max (depths (t.items.take i)) (depths (t.items.drop i)) := by rw [← depths_app, List.take_append_drop]
  unfold ypartL
  split
  · have := ymem_len (t.items.take i) t.keys R (by omega)
    omega
  · have := yitem_len (t.items.take i) R (by omega)
    omega
theorem ypartL_zero (t : VT) (R : Nat) : ypartL t R 0 = [] := by
  unfold ypartL
  rw [List.take_zero]
  split
  · rw [ymemL]
  · rw [yitemL]
theorem ypartL_all {t : VT} {R : Nat} (h : t.kind = 6 → t.keys.length = t.items.length) : ypartL t R t.items.length = blockL t R := by
  unfold ypartL blockL
  rw [List.take_length]
theorem ypartL_six {t : VT} {R i : Nat} {x : VT} {k : Stp} (h6 : t.kind = 6) (hx : t.items[i]? = some x) (hk : t.keys[i]? = some k) : ypartL t R (i + 1) = ypartL t R i ++ (List.replicate R 32 ++ ((keyY k).1 ++ [58]) ++ ybehL x R) := by
  unfold ypartL
  rw [if_pos h6, if_pos h6]
  exact ymem_take _ _ _ _ _ _ hx hk
theorem ypartL_not {t : VT} {R i : Nat} {x : VT} (h6 : ¬ t.kind = 6) (hx : t.items[i]? = some x) : ypartL t R (i + 1) = ypartL t R i ++ (List.replicate R 32 ++ [45] ++ ybehL x R) := by
  unfold ypartL
  rw [if_neg h6, if_neg h6]
  exact yitem_take _ _ _ _ hx
set_option maxRecDepth 100000 in
set_option maxHeartbeats 1000000 in
theorem yprintParts_any (t : VT) (kv iv : Value) (ind : Int) (w : World) (h : VD w t.depth t kv iv) (hbk : t.bulk ≤ 1048576) (hV : YVar w) :
    Calls Tryz.prog 5 #[vv t kv iv, .int .i64 ind] w fun e w' => e = .returned (.bool true) ∧ Below w.heap.size w w' := by
  obtain ⟨pk, ck, p, c, rfl, rfl⟩ := h.form
  obtain ⟨X, hX⟩ : ∃ X, w.heap.size = X := ⟨_, rfl⟩
  obtain ⟨W1, hW1⟩ : ∃ W, w.alloc (.cells #[.int .i64 t.kind, .string (bs t.text), .slice pk t.keys.length ck, .slice p t.items.length c] 25) = W := ⟨_, rfl⟩
  have HB1 : Hid (Below w.heap.size w W1) := Lib.hid (by rw [← hW1]; exact below_alloc1 _ _)
  have HXB : Hid (VBox W1 X t (.slice pk t.keys.length ck) (.slice p t.items.length c)) := Lib.hid (by rw [← hW1, ← hX]; exact VBox.new w t _ _)
  have HVD := Lib.hid (h.keep HB1.out)
  have HV := Lib.hid (hV.keep HB1.out)
  have C0 := Lib.hid (small14_any W1 HV.out)
  have CF : Hid (∀ w', Below W1.heap.size W1 w' → Calls Tryz.prog 14 #[vv t (.slice pk t.keys.length ck) (.slice p t.items.length c), .int .i64 200] w' fun e w2 => e = .returned (.bool (FewB t 200)) ∧ Below w'.heap.size w' w2) := Lib.hid (fun w' hb => vFew_any t.depth t _ _ w' 200 (HVD.out.keep hb) (by omega) (by omega) (by omega))
  have CB : Hid (∀ w', Below W1.heap.size W1 w' → Calls Tryz.prog 15 #[vv t (.slice pk t.keys.length ck) (.slice p t.items.length c), .int .i64 ind] w' fun e w2 => e = QuotedE (blockP t ind) ∧ Below w'.heap.size w' w2) := Lib.hid (fun w' hb => yBlock_any t.depth t _ _ ind w' (HVD.out.keep hb) (by omega) (HV.out.keep hb))
  have HIT : Hid (∃ m, Items W1 m p t.items) := Lib.hid (by
    obtain ⟨m, hm, _, p2, c2, he, _, hit⟩ := HVD.out.parts
    injection he with e1 e2 e3
    subst e1
    exact ⟨m, hit⟩)
  have HSL : Hid (SLies W1 pk t.keys) := Lib.hid (by
    obtain ⟨m, hm, ⟨p2, c2, he, _, hl⟩, _⟩ := HVD.out.parts
    injection he with e1 e2 e3
    subst e1
    exact hl)
  unfold vv at CF CB ⊢
  unfold blockP QuotedE at CB
  clear h hV
  obtain ⟨y1, hy1⟩ : ∃ y, FewB t 200 = y := ⟨_, rfl⟩
  obtain ⟨y2, hy2⟩ : ∃ y, linesB t = y := ⟨_, rfl⟩
  obtain ⟨y3, hy3⟩ : ∃ y, fitsB t ind = y := ⟨_, rfl⟩
  rw [hy1] at CF
  rw [hy2, hy3] at CB
  have HY2 := Lib.hid hy2
  have HY3 := Lib.hid hy3
  clear hy1 hy2 hy3
  go_enter Tryz.func5, Tryz.ntmps5
  go_upto_region 1 with fail
  clear hW1
  go_wp2_with fail
  refine C0.out.mono ?_
  rintro e w2 ⟨rfl, hb2⟩
  have HB2 := Lib.hid hb2
  clear hb2
  obtain ⟨b0, b1, b2, b3⟩ := (HXB.out.keep HB2.out).cells
  go_wp2_with fail
  refine (CF.out _ HB2.out).mono ?_
  rintro e w3 ⟨rfl, hb3⟩
  have HB3 := Lib.hid (below_of_new HB2.out hb3)
  clear hb3 b0 b1 b2 b3
  obtain ⟨b0, b1, b2, b3⟩ := (HXB.out.keep HB3.out).cells
  go_wp2_with fail
  refine (CB.out _ HB3.out).mono ?_
  rintro e w4 ⟨rfl, hb4⟩
  have HB4 := Lib.hid (below_of_new HB3.out hb4)
  clear hb4 b0 b1 b2 b3
  by_cases hok : (y1 && (y3 && y2)) = true
  rotate_left
  · cases y1 with
    | false =>
      have HB5 := Lib.hid (below_of_new HB1.out HB4.out)
      by_cases hq : (y3 && y2) = true
      · rw [if_pos hq]
        go_wp2_with fail
        go_ret
        exact ⟨rfl, by first | exact HB5.out | (rw [← hX]; exact HB5.out)⟩
      · rw [if_neg hq]
        go_wp2_with fail
        go_ret
        exact ⟨rfl, by first | exact HB5.out | (rw [← hX]; exact HB5.out)⟩
    | true =>
      rw [Bool.true_and] at hok
      rw [if_neg hok]
      have HB5 := Lib.hid (below_of_new HB1.out HB4.out)
      go_wp2_with fail
      go_ret
      exact ⟨rfl, by first | exact HB5.out | (rw [← hX]; exact HB5.out)⟩
  rw [Bool.and_eq_true, Bool.and_eq_true] at hok
  obtain ⟨rfl, rfl, rfl⟩ := hok
  rw [Bool.and_true, if_pos rfl]
  have hf0 := HY3.out
  have hf := HY3.out
  have hln := HY2.out
  unfold fitsB at hf
  unfold linesB at hln
  simp only [Bool.and_eq_true, decide_eq_true_eq] at hf hln
  obtain ⟨⟨hrt, hi0⟩, hi1⟩ := hf
  obtain ⟨R, rfl⟩ : ∃ i : Nat, ind = i := ⟨ind.toNat, by omega⟩
  rw [Int.toNat_natCast]
  have HF : Hid (∀ x ∈ t.items, fitsB x (R : Int) = true) := Lib.hid (fun x hx => fits_item hf0 hx)
  have HK := Lib.hid (fun h6 : t.kind = 6 => right_keys hrt h6)
  have HTE := Lib.hid (ypartL_all (t := t) (R := R) (fun h6 => (right_keys hrt h6).1))
  have hlen := len_le_bulks t.items
  have hdp := right_depth hrt
  have HPL := Lib.hid (ypartL_len (t := t) (R := R) (by omega))
  have hbe : t.bulk = t.text.length + (totS t.keys + t.keys.length) + bulks t.items + 1 := by cases t; rw [VT.bulk]; rfl
  obtain ⟨T, hT⟩ : ∃ T, blockL t R = T := ⟨_, rfl⟩
  rw [hT] at HTE ⊢
  clear hT hf0 hrt hln CB HY2 HY3
  obtain ⟨b0, b1, b2, b3⟩ := (HXB.out.keep HB4.out).cells
  go_wp2_with fail
  clear b0 b1 b2 b3
  go_loopw [9, 10, 11, 12] (fun s9 s10 s11 s12 wr => ∃ (i : Nat) (A : Stp), s9 = .string (bs A) ∧ s10 = .int .i64 (i : Int) ∧ i ≤ t.items.length ∧ Hid (A = ypartL t R i) ∧ Hid (Below W1.heap.size W1 wr)) (fun _ s10 _ _ _ => t.items.length - (RowKit.intOf s10).toNat)
  case atStart => exact ⟨0, [], rfl, rfl, Nat.zero_le _, Lib.hid (ypartL_zero t R).symm, HB4⟩
  case round =>
    obtain ⟨i, A, rfl, rfl, hi, HA, HBr⟩ := hrel
    obtain ⟨b0, b1, b2, b3⟩ := (HXB.out.keep HBr.out).cells
    by_cases hil : i < t.items.length
    · obtain ⟨x, hx⟩ : ∃ x, t.items[i]? = some x := ⟨_, List.getElem?_eq_getElem hil⟩
      have hi1 : (i : Int) < (t.items.length : Int) := by omega
      have dk : decide ((i : Int) < (t.items.length : Int)) = true := decide_eq_true hi1
      have hxm := List.mem_of_getElem? hx
      have hxb := bulk_mem hxm
      have hfx := HF.out x hxm
      obtain ⟨m, hit⟩ := HIT.out
      obtain ⟨g, o, kv', iv', rfl, hg, n0, n1, n2, n3, hvd⟩ := hit i x hx
      obtain ⟨pk2, ck2, px, cx, rfl, rfl⟩ := hvd.form
      have m0 : wr.cell? ⟨g, o + i * 4, none⟩ = some (.int .i64 x.kind) := by rw [HBr.out.cell (p := ⟨g, _, none⟩) hg]; exact n0
      have m1 : wr.cell? ⟨g, o + i * 4 + 1, none⟩ = some (.string (bs x.text)) := by rw [HBr.out.cell (p := ⟨g, _, none⟩) hg]; exact n1
      have m2 : wr.cell? ⟨g, o + i * 4 + 2, none⟩ = some (.slice pk2 x.keys.length ck2) := by rw [HBr.out.cell (p := ⟨g, _, none⟩) hg]; exact n2
      have m3 : wr.cell? ⟨g, o + i * 4 + 3, none⟩ = some (.slice px x.items.length cx) := by rw [HBr.out.cell (p := ⟨g, _, none⟩) hg]; exact n3
      have HG := Lib.hid hg
      have HN := Lib.hid (And.intro n0 (And.intro n1 (And.intro n2 n3)))
      have HC := Lib.hid (yItem_any m x _ _ (R : Int) wr (hvd.keep HBr.out) (by omega) (HV.out.keep HBr.out))
      have HM : Hid (∀ (k : Stp) (w' : World), k.length + x.bulk ≤ 1048576 → Below W1.heap.size W1 w' → Calls Tryz.prog 20 #[.string (bs k), vv x (.slice pk2 x.keys.length ck2) (.slice px x.items.length cx), .int .i64 (R : Int)] w' fun e w2 => e = QuotedE (memberP k x R) ∧ Below w'.heap.size w' w2) := Lib.hid (fun k w' hk hb => yMember_any k m x _ _ (R : Int) w' (hvd.keep hb) (by omega) (by omega) (by omega) (HV.out.keep hb))
      unfold vv at HC HM
      unfold itemP at HC
      rw [if_pos hfx] at HC
      unfold QuotedE at HC
      simp only [Int.toNat_natCast] at HC
      have HX := Lib.hid hx
      have HFX := Lib.hid hfx
      clear hit hvd n0 n1 n2 n3 hx hxm hfx hg
      by_cases k6 : t.kind = 6
      · have d6 : (t.kind == 6) = true := by rw [k6]; rfl
        obtain ⟨hkl, hkv⟩ := HK.out k6
        obtain ⟨k, hk⟩ : ∃ k, t.keys[i]? = some k := ⟨_, List.getElem?_eq_getElem (by omega)⟩
        have hkm := totS_mem (List.mem_of_getElem? hk)
        have hk0 := hkv k (List.mem_of_getElem? hk)
        have hki : (i : Int) < (t.keys.length : Int) := by omega
        clear hkl
        obtain ⟨gk, ok, rfl, hck0⟩ := HSL.out.at_ hk
        have HCK : Hid (∀ w', Below W1.heap.size W1 w' → w'.cell? ⟨gk, ok + i, none⟩ = some (.string (bs k))) := Lib.hid (fun w' hb => by
          rw [hb.cell (p := ⟨gk, ok + i, none⟩) (cell_lt hck0)]; exact hck0)
        obtain ⟨P, hP⟩ : ∃ P, List.replicate R 32 ++ ((keyY k).1 ++ [58]) ++ ybehL x R = P := ⟨_, rfl⟩
        have HM1 : Hid (∀ (w' : World), Below W1.heap.size W1 w' → Calls Tryz.prog 20 #[.string (bs k), .agg #[.int .i64 x.kind, .string (bs x.text), .slice pk2 x.keys.length ck2, .slice px x.items.length cx], .int .i64 (R : Int)] w' fun e w2 => e = .returned (.tuple #[.string (bs P), .int .i64 0]) ∧ Below w'.heap.size w' w2) := Lib.hid (fun w' hb => by
          have h1 := HM.out k w' (by omega) hb
          unfold memberP QuotedE at h1
          rw [HFX.out, hk0, if_pos (by simp)] at h1
          simp only [Int.toNat_natCast] at h1
          rw [hP] at h1
          exact h1)
        have HP : Hid (A ++ P = ypartL t R (i + 1)) := Lib.hid (by rw [HA.out, ← hP]; exact (ypartL_six k6 HX.out hk).symm)
        have hpl := HPL.out (i + 1)
        rw [← HP.out, List.length_append] at hpl
        have slA := bs_size A
        have slP := bs_size P
        clear HM hkv hk hck0 hP hk0 k6
        go_wp2_with fail
        refine HC.out.mono ?_
        rintro e w5 ⟨rfl, hb5⟩
        have HB5 := Lib.hid (below_of_new HBr.out hb5)
        clear hb5 b0 b1 b2 b3 m0 m1 m2 m3 HC
        obtain ⟨b0, b1, b2, b3⟩ := (HXB.out.keep HB5.out).cells
        have m0 : w5.cell? ⟨g, o + i * 4, none⟩ = some (.int .i64 x.kind) := by rw [HB5.out.cell (p := ⟨g, _, none⟩) HG.out]; exact HN.out.1
        have m1 : w5.cell? ⟨g, o + i * 4 + 1, none⟩ = some (.string (bs x.text)) := by rw [HB5.out.cell (p := ⟨g, _, none⟩) HG.out]; exact HN.out.2.1
        have m2 : w5.cell? ⟨g, o + i * 4 + 2, none⟩ = some (.slice pk2 x.keys.length ck2) := by rw [HB5.out.cell (p := ⟨g, _, none⟩) HG.out]; exact HN.out.2.2.1
        have m3 : w5.cell? ⟨g, o + i * 4 + 3, none⟩ = some (.slice px x.items.length cx) := by rw [HB5.out.cell (p := ⟨g, _, none⟩) HG.out]; exact HN.out.2.2.2
        have mk := HCK.out w5 HB5.out
        have HM2 := Lib.hid (HM1.out w5.drew HB5.out.drew)
        clear HM1 HN HG HCK
        go_upto_region 12 with fail
        go_cut [11, 12, 50, 51, 52, 53, 54, 55, 56, 57, 58, 59, 60, 61, 49, 62, 63] (fun s11 s12 s50 s51 s52 s53 s54 s55 s56 s57 s58 s59 s60 s61 s49 s62 s63 wx => s11 = .string (bs P) ∧ s12 = .int .i64 0 ∧ Hid (Below W1.heap.size W1 wx))
        case first =>
          go_region_with (go_at_call 20; (refine HM2.out.mono ?_); rintro e w6 ⟨rfl, hb6⟩)
          all_goals
            have HB6 := Lib.hid (below_of_new HB5.out (below_of_new (Below.refl _ _).drew hb6))
            clear hb6
            go_wp2_with fail
            go_meet
            exact ⟨rfl, rfl, HB6⟩
        case rest =>
          obtain ⟨rfl, rfl, HB6⟩ := hcut
          clear b0 b1 b2 b3 m0 m1 m2 m3 mk HM2
          go_wp2_with fail
          go_roundw
          case rel => exact ⟨i + 1, A ++ P, by rw [bs_append], by go_num, by omega, HP, by first | exact HB6 | exact Lib.hid (below_drewN HB6.out _)⟩
          case measure => simp [RowKit.intOf]; omega
      · have d6 : (t.kind == 6) = false := beq_eq_false_iff_ne.2 k6
        obtain ⟨P, hP⟩ : ∃ P, List.replicate R 32 ++ [45] ++ ybehL x R = P := ⟨_, rfl⟩
        have HP : Hid (A ++ P = ypartL t R (i + 1)) := Lib.hid (by rw [HA.out, ← hP]; exact (ypartL_not k6 HX.out).symm)
        have hpl := HPL.out (i + 1)
        rw [← HP.out, List.length_append] at hpl
        have slA := bs_size A
        have slP := bs_size P
        rw [hP] at HC
        clear HM hP k6 HN HG
        go_wp2_with fail
        refine HC.out.mono ?_
        rintro e w5 ⟨rfl, hb5⟩
        have HB5 := Lib.hid (below_of_new HBr.out hb5)
        clear hb5 b0 b1 b2 b3 m0 m1 m2 m3 HC
        obtain ⟨b0, b1, b2, b3⟩ := (HXB.out.keep HB5.out).cells
        go_wp2_with fail
        go_roundw
        case rel => exact ⟨i + 1, A ++ P, by rw [bs_append], by go_num, by omega, HP, by first | exact HB5 | exact Lib.hid (below_drewN HB5.out _)⟩
        case measure => simp [RowKit.intOf]; omega
    · have dk : decide ((i : Int) < (t.items.length : Int)) = false := decide_eq_false (by omega)
      obtain rfl : i = t.items.length := by omega
      obtain rfl : A = T := by rw [HA.out]; exact HTE.out
      have HB6 := Lib.hid (below_of_new HB1.out HBr.out)
      go_wp2_with fail
      go_ret
      exact ⟨rfl, by first | exact HB6.out | (rw [← hX]; exact HB6.out)⟩
end Go.Proofs.YtnnlpkbopeiefaaGreatDoor
