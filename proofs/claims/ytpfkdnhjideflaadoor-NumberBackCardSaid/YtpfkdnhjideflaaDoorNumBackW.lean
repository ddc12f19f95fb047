import Derived.Test.YtpfkdnhjideflaaDoorNumTellW
import Derived.Test.YtpfkdnhjideflaaDoorNumParsesW
/-! The walk of NumberBack. -/
namespace Go.Proofs.YtpfkdnhjideflaaDoor
set_option linter.unusedSimpArgs false
set_option linter.unusedVariables false
open Go.RowKit
open Go.Lib hiding intOf

theorem intL_ofInt (i : Int) (h : -9223372036854775808 ≤ i ∧ i ≤ 9223372036854775807) : intL (ofInt i) = (i, true) := by
  by_cases h0 : i = 0
  · subst h0; rw [ofInt_zero]; decide +kernel
  · obtain ⟨hr, he, hn, hm, _⟩ := ofInt_right i (by omega) h0
    have hb := mag_bd (ofInt i) hr he
    have htop : topOf (ofInt i) ≤ 19 := by
      rw [hm] at hb
      apply Int.not_lt.1
      intro h19
      have hle : (10 : Int) ^ 19 ≤ 10 ^ ((topOf (ofInt i)).toNat - 1) := by
        exact_mod_cast Nat.pow_le_pow_right (n := 10) (by decide) (by omega)
      omega
    unfold intL
    rw [ofInt_rightB i (by omega), hn, hm, if_neg (by rintro (h | h | h); cases h; omega; omega)]
    by_cases hi : i < 0
    · rw [decide_eq_true hi]
      simp only [if_true]
      rw [if_pos (by omega)]
      congr 1; omega
    · rw [decide_eq_false hi]
      simp only [Bool.false_eq_true, if_false]
      rw [if_pos (by omega)]
      congr 1; omega
theorem textL_len (n : Num) (h : n.dig.length ≤ 1000) (he : -1000000 ≤ n.exp ∧ n.exp ≤ 1000000) : (textL n).length ≤ 1100 := by
  have hi := itoa_len n.exp (by omega)
  unfold textL
  split
  · simp
  · split
    · simp
    · split <;> split <;> simp <;> omega
set_option maxRecDepth 100000 in
set_option maxHeartbeats 4000000 in
theorem numberBack_walk (ga : Bool) (a : ByteArray) (ea : Int) (s : ByteArray) (i : Int) (w : World) (za : a.size ≤ 9223372036854775807) (zs : s.size ≤ 140737488351232) (hi : -9223372036854775808 ≤ i ∧ i ≤ 9223372036854775807) (hT : PTab w) (hV : RVar w) :
    Calls Tryd.prog 13 #[.agg #[.bool ga, .string a, .int .i64 ea], .string s, .int .i64 i] w fun e w' => e = .returned (.bool true) ∧ Below w.heap.size w w' := by
  obtain ⟨A, rfl⟩ : ∃ l, a = bs l := ⟨_, (bs_of a).symm⟩
  obtain ⟨F, hF⟩ : ∃ F, decide ((bs A).size ≤ 2048) = F := ⟨_, rfl⟩
  have CF := Lib.hid (fun w => few_is ga (bs A) ea w za F hF)
  have sA := bs_size A
  have hl : F = true → A.length ≤ 4294967296 := fun h => by have := of_decide_eq_true (hF.trans h); omega
  have HO := Lib.hid (One.new ⟨ga, A, ea⟩ w)
  have HT := Lib.hid hT; have HV := Lib.hid hV; have HL := Lib.hid hl
  clear hT hV hF hl
  go_enter Tryd.func13, Tryd.ntmps13
  go_wp2_with fail
  refine (small_keep HT.out HO.out.2.out.2).mono ?_
  rintro e w1 ⟨rfl, hb1⟩
  have H1 := Lib.hid (HO.out.step hb1); clear hb1 HO
  obtain ⟨⟨c0, c1, c2⟩, _⟩ := H1.out
  simp only [] at c0 c1 c2
  go_wp2_with fail
  refine (CF.out _).mono ?_
  rintro e w2 ⟨rfl, hb2⟩
  have H2 := Lib.hid (H1.out.step hb2); clear hb2 H1 c0 c1 c2
  have HB2 := Lib.hid H2.out.2.out.2
  cases F with
  | false =>
    go_wp2_with fail
    go_ret
    exact ⟨rfl, HB2.out⟩
  | true =>
  have hl : A.length ≤ 4294967296 := by simpa using HL.out
  by_cases hs : 4096 < s.size
  · go_wp2_with fail
    go_ret
    exact ⟨rfl, HB2.out⟩
  obtain ⟨R, hR⟩ : ∃ R, rightB ⟨ga, A, ea⟩ = R := ⟨_, rfl⟩
  have R1 := Lib.hid (fun w => right_num ⟨ga, A, ea⟩ w hl R hR)
  simp only [] at R1
  obtain ⟨T, hT⟩ : ∃ T, textL ⟨ga, A, ea⟩ = T := ⟨_, rfl⟩
  have T1 : Hid (∀ w, PTab w → Calls Tryd.prog 34 #[.agg #[.bool ga, .string (bs A), .int .i64 ea]] w fun e w' => e = .returned (.string (bs T)) ∧ Below w.heap.size w w') := Lib.hid (fun w h => by rw [← hT]; exact text_any ⟨ga, A, ea⟩ w hl h)
  have P1 : Hid (R = true → ∀ w, Calls Tryd.prog 15 #[.string (bs T)] w fun e w' => e = .returned (.tuple #[.agg #[.bool ga, .string (bs A), .int .i64 ea], .int .i64 0]) ∧ Below w.heap.size w w') := Lib.hid (fun h w => by
    have hr := hR.trans h
    have hb := rightB_bd hr
    exact parse_at T ⟨ga, A, ea⟩ 0 w (by rw [← hT]; have := textL_len ⟨ga, A, ea⟩ hb.1 hb.2; omega) (by rw [← hT]; exact parse_text _ hr))
  obtain ⟨PR, hPR⟩ : ∃ PR, parseL s.data.toList = PR := ⟨_, rfl⟩
  obtain ⟨M, er⟩ := PR
  have P2 := Lib.hid (fun w => parse_bs s M er w (by omega) hPR)
  have hMr : er = 0 → rightB M = true := fun h => parseL_right (l := s.data.toList) (h ▸ hPR)
  have hMt : er = 0 → textL M ≠ [] := fun h => textL_ne (hMr h)
  obtain ⟨ND, hND⟩ : ∃ ND, ofInt i = ND := ⟨_, rfl⟩
  have O1 : Hid (∀ w, PTab w → Calls Tryd.prog 21 #[.int .i64 i] w fun e w' => e = .returned (.agg #[.bool ND.neg, .string (bs ND.dig), .int .i64 ND.exp]) ∧ Below w.heap.size w w') := Lib.hid (fun w h => by rw [← hND]; exact of_any i w hi h)
  have hNr : rightB ND = true := hND ▸ ofInt_rightB i (by omega)
  have hNb := rightB_bd hNr
  have O2 : Hid (∀ w, RVar w → Calls Tryd.prog 31 #[.agg #[.bool ND.neg, .string (bs ND.dig), .int .i64 ND.exp]] w fun e w' => e = .returned (.tuple #[.int .i64 i, .bool true]) ∧ Below w.heap.size w w') := Lib.hid (fun w h => by
    have := int_any ND w (by omega) h
    unfold intV at this
    rw [← hND, intL_ofInt i hi] at this
    rw [← hND]; exact this)
  have O3 := Lib.hid (fun w => right_num ND w (by omega) true hNr)
  have HMr := Lib.hid hMr; have HMt := Lib.hid hMt; have HR := Lib.hid hR
  clear hR hT hPR hMr hMt hND hNr hNb HL
  have M1 := Lib.hid (fun (h : er = 0) w => right_num M w (by have := rightB_bd (HMr.out h); omega) true (HMr.out h))
  have M2 := Lib.hid (fun (h : er = 0) w hT => text_any M w (by have := rightB_bd (HMr.out h); omega) hT)
  have M3 : Hid (er = 0 → (textL M).length ≤ 1100) := Lib.hid (fun h => by have hb := rightB_bd (HMr.out h); exact textL_len M hb.1 hb.2)
  obtain ⟨⟨c0, c1, c2⟩, _⟩ := H2.out
  simp only [] at c0 c1 c2
  go_wp2_with fail
  refine (R1.out _).mono ?_
  rintro e w3 ⟨rfl, hb3⟩
  have H3 := Lib.hid (H2.out.step hb3); clear hb3 H2 c0 c1 c2 HB2
  obtain ⟨⟨c0, c1, c2⟩, _⟩ := H3.out
  simp only [] at c0 c1 c2
  go_upto_if 27 with fail
  go_cut [9, 10] (fun _ _ wx => Hid (One w.heap.size ⟨ga, A, ea⟩ w wx))
  case first =>
    cases R with
    | false =>
      go_wp2_with fail
      go_meet
      exact H3.out
    | true =>
      have P := Lib.hid (P1.out rfl)
      go_wp2_with fail
      refine (T1.out _ (HT.out.keep H3.out.2.out.2)).mono ?_
      rintro e w4 ⟨rfl, hb4⟩
      have H4 := Lib.hid (H3.out.step hb4); clear hb4
      go_wp2_with fail
      refine (P.out _).mono ?_
      rintro e w5 ⟨rfl, hb5⟩
      have H5 := Lib.hid (H4.out.step hb5); clear hb5
      have H6 := Lib.hid (H5.out.step (below_alloc1 w5 (.cells #[.bool ga, .string (bs A), .int .i64 ea] 24)))
      clear c0 c1 c2
      obtain ⟨⟨c0, c1, c2⟩, _⟩ := H6.out
      simp only [] at c0 c1 c2
      go_wp2_with fail
      go_meet
      exact H6.out
  have H7 := Lib.hid (hcut.out.2.out.2)
  clear hcut c0 c1 c2 H3 R1 T1 P1
  go_upto_region 9 with fail
  go_cut [11, 12] (fun s11 s12 wx => ∃ b : Nat, s11 = .pointer (some ⟨b, 0, none⟩) ∧ s12 = .int .i64 er ∧ Hid (NumBox wx b M ∧ Below w.heap.size w wx))
  case first =>
    go_wp2_with fail
    refine (P2.out _).mono ?_
    rintro e w4 ⟨rfl, hb4⟩
    have hB := H7.out.trans (hb4.mono H7.out.size)
    clear hb4
    go_wp2_with fail
    go_meet
    exact ⟨_, rfl, rfl, NumBox.new w4 M, hB.trans ((below_alloc1 w4 _).mono hB.size)⟩
  obtain ⟨b, rfl, rfl, H8⟩ := hcut
  obtain ⟨c0, c1, c2⟩ := H8.out.1.cells
  go_upto_region 10 with fail
  go_cut [57] (fun s57 wx => s57 = .bool false ∧ Hid (Below w.heap.size w wx))
  case first =>
    by_cases h0 : er = 0
    · have Q1 := Lib.hid (M1.out h0)
      have Q2 := Lib.hid (M2.out h0)
      have q3 := M3.out h0
      have hne := HMt.out h0
      obtain ⟨U, hU⟩ : ∃ U, textL M = U := ⟨_, rfl⟩
      rw [hU] at Q2 q3 hne
      have t1 : ((bs U).toList == []) = false := by rw [Lib.toList_data, bs_data]; exact beq_eq_false_iff_ne.2 hne
      have t2 : (bs U).toList.isEmpty = false := by rw [Lib.toList_data, bs_data]; cases U with | nil => exact absurd rfl hne | cons _ _ => rfl
      have t3 : ¬ (bs U).toList = [] := by rw [Lib.toList_data, bs_data]; exact hne
      clear hne hU M1 M2 M3
      subst h0
      go_wp2_with fail
      refine (Q1.out _).mono ?_
      rintro e w4 ⟨rfl, hb4⟩
      have HM4 := Lib.hid (H8.out.1.keep hb4)
      have HB4 := Lib.hid (H8.out.2.trans (hb4.mono H8.out.2.size))
      clear hb4 c0 c1 c2
      obtain ⟨c0, c1, c2⟩ := HM4.out.cells
      go_wp2_with fail
      refine (Q2.out _ (HT.out.keep HB4.out)).mono ?_
      rintro e w5 ⟨rfl, hb5⟩
      have HB5 := Lib.hid (HB4.out.trans (hb5.mono HB4.out.size))
      clear hb5
      go_wp2_with fail
      go_meet
      exact ⟨rfl, HB5.out⟩
    · have t1 : (er == 0) = false := beq_eq_false_iff_ne.2 h0
      clear h0
      go_wp2_with fail
      go_meet
      exact ⟨rfl, H8.out.2⟩
  obtain ⟨rfl, H9⟩ := hcut
  clear c0 c1 c2 H8 M1 M2 M3
  go_wp2_with fail
  refine (O1.out _ (HT.out.keep H9.out)).mono ?_
  rintro e w4 ⟨rfl, hb4⟩
  have HB4 := Lib.hid (H9.out.trans (hb4.mono H9.out.size)); clear hb4
  go_wp2_with fail
  refine (O2.out _ (HV.out.keep HB4.out)).mono ?_
  rintro e w5 ⟨rfl, hb5⟩
  have HB5 := Lib.hid (HB4.out.trans (hb5.mono HB4.out.size)); clear hb5
  go_wp2_with fail
  refine (O1.out _ (HT.out.keep HB5.out)).mono ?_
  rintro e w6 ⟨rfl, hb6⟩
  have HB6 := Lib.hid (HB5.out.trans (hb6.mono HB5.out.size)); clear hb6
  go_wp2_with fail
  refine (O3.out _).mono ?_
  rintro e w7 ⟨rfl, hb7⟩
  have HB7 := Lib.hid (HB6.out.trans (hb7.mono HB6.out.size)); clear hb7
  go_wp2_with fail
  go_ret
  exact ⟨rfl, HB7.out⟩
end Go.Proofs.YtpfkdnhjideflaaDoor
