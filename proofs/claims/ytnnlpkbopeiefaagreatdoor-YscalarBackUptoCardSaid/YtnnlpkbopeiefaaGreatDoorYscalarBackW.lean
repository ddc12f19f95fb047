import Derived.Test.YtnnlpkbopeiefaaGreatDoorYsS
import Derived.Test.YtnnlpkbopeiefaaGreatDoorYsF
/-! The walk of YscalarBack. -/
namespace Go.Proofs.YtnnlpkbopeiefaaGreatDoor
set_option linter.unusedSimpArgs false
set_option linter.unusedVariables false
open Go.RowKit
open Go.Lib hiding intOf
theorem str_same (x : Stp) : ((bs x).toList == (bs x).toList) = true := by simp
theorem int_eqB (e : Int) (b : Bool) (h : b = true ↔ e = 0) : (e == 0) = b := by
  by_cases h0 : e = 0
  · rw [h.2 h0, h0]; rfl
  · have : b = false := by
      cases b with
      | false => rfl
      | true => exact absurd (h.1 rfl) h0
    rw [this, beq_eq_false_iff_ne.2 h0]
set_option maxRecDepth 100000 in
set_option maxHeartbeats 4000000 in
theorem yscalarBack_any (t : VT) (kv iv : Value) (s : ByteArray) (w : World) (h : VD w t.depth t kv iv) (hbk : t.bulk ≤ 1048576) (hV : AVar w) :
    Calls Tryz.prog 9 #[vv t kv iv, .string s] w fun e w' => e = .returned (.bool true) ∧ Below w.heap.size w w' := by
  obtain ⟨key, rfl⟩ : ∃ l, s = bs l := ⟨s.data.toList, (bs_of s).symm⟩
  have sl := bs_size key
  obtain ⟨pk, ck, p, c, rfl, rfl⟩ := h.form
  obtain ⟨X, hX⟩ : ∃ X, w.heap.size = X := ⟨_, rfl⟩
  obtain ⟨W1, hW1⟩ : ∃ W, w.alloc (.cells #[.int .i64 t.kind, .string (bs t.text), .slice pk t.keys.length ck, .slice p t.items.length c] 25) = W := ⟨_, rfl⟩
  have HB1 : Hid (Below w.heap.size w W1) := Lib.hid (by rw [← hW1]; exact below_alloc1 _ _)
  have HXB : Hid (VBox W1 X t (.slice pk t.keys.length ck) (.slice p t.items.length c)) := Lib.hid (by rw [← hW1, ← hX]; exact VBox.new w t _ _)
  have HVD := Lib.hid (h.keep HB1.out)
  have HV := Lib.hid (hV.keep HB1.out)
  have C0 := Lib.hid (small11_any W1 HV.out)
  have CF : Hid (∀ w', Below W1.heap.size W1 w' → Calls Tryz.prog 14 #[vv t (.slice pk t.keys.length ck) (.slice p t.items.length c), .int .i64 300] w' fun e w2 => e = .returned (.bool (FewB t 300)) ∧ Below w'.heap.size w' w2) := Lib.hid (fun w' hb => vFew_any t.depth t _ _ w' 300 (HVD.out.keep hb) (by omega) (by omega) (by omega))
  clear h hV
  obtain ⟨y1, hy1⟩ : ∃ y, FewB t 300 = y := ⟨_, rfl⟩
  rw [hy1] at CF
  clear hy1
  by_cases hsm : y1 = true ∧ ¬ 2048 < key.length
  rotate_left
  · unfold vv at CF ⊢
    go_enter Tryz.func9, Tryz.ntmps9
    go_upto_region 1 with fail
    clear hW1
    go_wp2_with fail
    refine C0.out.mono ?_
    rintro e w2 ⟨rfl, hb2⟩
    have HB2 := Lib.hid hb2
    clear hb2
    obtain ⟨b0, b1, b2, b3⟩ := (HXB.out.keep HB2.out).cells
    go_wp2_with fail
    refine (CF.out _ HB2.out).mono ?_
    rintro e w3 ⟨rfl, hb3⟩
    have HB3 := Lib.hid (below_of_new HB2.out hb3)
    clear hb3 b0 b1 b2 b3
    have HB5 := Lib.hid (below_of_new HB1.out HB3.out)
    cases y1 with
    | false =>
      go_wp2_with fail
      go_ret
      exact ⟨rfl, by first | exact HB5.out | (rw [← hX]; exact HB5.out)⟩
    | true =>
      have hk : 2048 < key.length := by
        by_cases hk : 2048 < key.length
        · exact hk
        · exact absurd ⟨rfl, hk⟩ hsm
      have dk : decide ((2048 : Int) < (key.length : Int)) = true := decide_eq_true (by omega)
      go_wp2_with fail
      go_ret
      exact ⟨rfl, by first | exact HB5.out | (rw [← hX]; exact HB5.out)⟩
  obtain ⟨rfl, hkl⟩ := hsm
  have dk : decide ((2048 : Int) < (key.length : Int)) = false := decide_eq_false (by omega)
  have CW : Hid (∀ w', Below W1.heap.size W1 w' → Calls Tryz.prog 31 #[vv t (.slice pk t.keys.length ck) (.slice p t.items.length c)] w' fun e w2 => e = QuotedE (writeY t) ∧ Below w'.heap.size w' w2) := Lib.hid (fun w' hb => ywrite_any t.depth t _ _ w' (HVD.out.keep hb) (by omega) (HV.out.keep hb).1)
  have CRt : Hid (∀ w', Below W1.heap.size W1 w' → Calls Tryz.prog 44 #[vv t (.slice pk t.keys.length ck) (.slice p t.items.length c)] w' fun e w2 => e = .returned (.bool (RightB t)) ∧ Below w'.heap.size w' w2) := Lib.hid (fun w' hb => vright_any t.depth t _ _ w' (HVD.out.keep hb) (by omega) (HV.out.keep hb).1.1)
  have CK : Hid (∀ w', Below W1.heap.size W1 w' → Calls Tryz.prog 33 #[.string (bs key)] w' fun e w2 => e = QuotedE (keyY key) ∧ Below w'.heap.size w' w2) := Lib.hid (fun w' hb => ywritekey_any key w' (by omega) (HV.out.keep hb).1)
  have CVa : Hid (∀ w', Below W1.heap.size W1 w' → Calls Tryz.prog 45 #[.string (bs key)] w' fun e w2 => e = .returned (.tuple #[.int .i64 (validRes (bs key)).1, .bool (validD key)]) ∧ Below w'.heap.size w' w2) := Lib.hid (fun w' hb => by
    have C1 := valid_any (bs key) w' (by rw [bs_size]; omega) (HV.out.keep hb).1.1.1
    rw [validRes_snd, bs_data] at C1
    exact C1)
  have hRd : Hid (RightB t = true → (writeY t).1.length ≤ 65536 → ∀ w', Below W1.heap.size W1 w' → Calls Tryz.prog 35 #[.string (bs (writeY t).1)] w' (NewE2 t 0 w')) := Lib.hid (fun hr hl w' hb => by
    have := yread_any (writeY t).1 w' (by omega) (HV.out.keep hb)
    rw [write_read t hr hl] at this
    exact this)
  have hEq : RightB t = true ↔ (writeY t).2 = 0 := ⟨fun h => write_ok2 h, fun h => by
    by_cases hr : RightB t = true
    · exact hr
    · rw [write_no hr] at h; cases h⟩
  have hKb : Hid (validD key = true → (keyY key).2 = 0 ∧ ∀ w', Below W1.heap.size W1 w' → Calls Tryz.prog 38 #[.string (bs (keyY key).1)] w' fun e w2 => e = .returned (.tuple #[.string (bs key), .int .i64 0]) ∧ Below w'.heap.size w' w2) := Lib.hid (fun hv => by
    obtain ⟨h1, h2⟩ := key_back key hv
    refine ⟨h1, fun w' hb => ?_⟩
    have hl := keyY_len2 key
    have := ykey_any (keyY key).1 w' (by omega) (HV.out.keep hb)
    rw [h2] at this
    exact this)
  have hKn : Hid (¬ validD key = true → (keyY key).2 = 2) := Lib.hid (fun h => by rw [key_no h])
  have hEB := int_eqB _ _ hEq
  clear hEq
  obtain ⟨⟨A1, E1⟩, hA1⟩ : ∃ Q, writeY t = Q := ⟨_, rfl⟩
  obtain ⟨⟨A2, E2⟩, hA2⟩ : ∃ Q, keyY key = Q := ⟨_, rfl⟩
  obtain ⟨y2, hy2⟩ : ∃ y, RightB t = y := ⟨_, rfl⟩
  obtain ⟨y3, hy3⟩ : ∃ y, validD key = y := ⟨_, rfl⟩
  obtain ⟨N3, hN3⟩ : ∃ N, (validRes (bs key)).1 = N := ⟨_, rfl⟩
  rw [hA1] at CW hRd hEB
  rw [hA2] at CK hKb hKn
  rw [hy2] at CRt hRd hEB
  rw [hy3] at CVa hKb hKn
  rw [hN3] at CVa
  clear hA1 hA2 hy2 hy3 hN3
  unfold QuotedE at CW CK
  simp only [] at CW CK hRd hKb hEB hKn
  have s1 := str_same key
  have sA := bs_size A1
  have HCE : Hid (∀ w' kv2 iv2, Below W1.heap.size W1 w' → VD w' t.depth t kv2 iv2 → Calls Tryz.prog 27 #[vv t (.slice pk t.keys.length ck) (.slice p t.items.length c), vv t kv2 iv2] w' fun e w2 => e = .returned (.bool true) ∧ Below w'.heap.size w' w2) := Lib.hid (fun w' kv2 iv2 hb h2 => requal_any t.depth t _ _ _ _ w' (HVD.out.keep hb) h2 (by omega))
  unfold vv at CF CW CRt HCE ⊢
  go_enter Tryz.func9, Tryz.ntmps9
  go_upto_region 1 with fail
  clear hW1
  go_wp2_with fail
  refine C0.out.mono ?_
  rintro e w2 ⟨rfl, hb2⟩
  have HB2 := Lib.hid hb2
  clear hb2
  obtain ⟨b0, b1, b2, b3⟩ := (HXB.out.keep HB2.out).cells
  go_wp2_with fail
  refine (CF.out _ HB2.out).mono ?_
  rintro e w3 ⟨rfl, hb3⟩
  have HB3 := Lib.hid (below_of_new HB2.out hb3)
  clear hb3 b0 b1 b2 b3
  obtain ⟨b0, b1, b2, b3⟩ := (HXB.out.keep HB3.out).cells
  go_wp2_with fail
  refine (CW.out _ HB3.out).mono ?_
  rintro e w4 ⟨rfl, hb4⟩
  have HB4 := Lib.hid (below_of_new HB3.out hb4)
  clear hb4 b0 b1 b2 b3
  obtain ⟨b0, b1, b2, b3⟩ := (HXB.out.keep HB4.out).cells
  go_wp2_with fail
  refine (CRt.out _ HB4.out).mono ?_
  rintro e w5 ⟨rfl, hb5⟩
  have HB5 := Lib.hid (below_of_new HB4.out hb5)
  clear hb5 b0 b1 b2 b3
  have hne : (y2 != y2) = false := by cases y2 <;> rfl
  obtain ⟨D, hD⟩ : ∃ D, (y2 && decide ((A1.length : Int) ≤ 65536)) = D := ⟨_, rfl⟩
  have HD := Lib.hid hD
  clear hD
  go_upto_region 8 with fail
  go_cut [38, 39, 40, 41, 42, 43, 44] (fun s38 s39 s40 s41 s42 s43 s44 wx => s44 = .bool D ∧ Hid (Below W1.heap.size W1 wx))
  case first =>
    cases y2 with
    | false =>
      go_wp2_with fail
      go_meet
      exact ⟨by rw [← HD.out]; rfl, HB5⟩
    | true =>
      go_wp2_with fail
      go_meet
      exact ⟨by rw [← HD.out]; rfl, HB5⟩
  case rest =>
  obtain ⟨rfl, HB5'⟩ := hcut
  clear HB5
  have HB5 := HB5'
  clear HB5'
  go_upto_if 44 with fail
  go_cut [9, 10, 45, 46, 47, 48, 49, 50, 51, 52, 53, 54, 55, 56, 57] (fun s9 s10 s45 s46 s47 s48 s49 s50 s51 s52 s53 s54 s55 s56 s57 wx => Hid (Below W1.heap.size W1 wx))
  case first =>
    cases D with
    | false =>
      go_wp2_with fail
      go_meet
      exact HB5
    | true =>
      have hc := HD.out
      simp only [Bool.and_eq_true, decide_eq_true_eq] at hc
      obtain ⟨rfl, hl⟩ := hc
      have HRd := Lib.hid (hRd.out rfl (by omega))
      clear hl
      go_wp2_with fail
      refine (HRd.out _ HB5.out).mono ?_
      rintro e w6 ⟨⟨kv2, iv2, rfl, hv6⟩, hb6⟩
      obtain ⟨pk2, ck2, p2, c2, rfl, rfl⟩ := hv6.form
      have HB6 := Lib.hid (below_of_new HB5.out hb6)
      have HZ0 := VBox.new w6 t (.slice pk2 t.keys.length ck2) (.slice p2 t.items.length c2)
      have hb60 := below_alloc1 w6 (.cells #[.int .i64 t.kind, .string (bs t.text), .slice pk2 t.keys.length ck2, .slice p2 t.items.length c2] 25)
      have HVC := Lib.hid (hv6.toVD.keep hb60)
      obtain ⟨Z, hZ⟩ : ∃ Z, w6.heap.size = Z := ⟨_, rfl⟩
      rw [hZ] at HZ0
      have HZB := Lib.hid HZ0
      have HB7 := Lib.hid (below_of_new HB6.out hb60)
      clear hb6 hv6 HZ0 hb60
      obtain ⟨b0, b1, b2, b3⟩ := (HXB.out.keep HB6.out).cells
      have hXl : X < w6.heap.size := cell_it (HXB.out.keep HB6.out)
      have hXZ : X < Z := by rw [← hZ]; exact hXl
      have hXZ2 : X ≠ Z := by omega
      have hXZ3 : ¬ Z = X := by omega
      unfold vv
      go_wp2_with fail
      refine (HCE.out _ _ _ HB7.out HVC.out).mono ?_
      rintro e w8 ⟨rfl, hb8⟩
      have HB8 := Lib.hid (below_of_new HB7.out hb8)
      clear hb8 b0 b1 b2 b3
      go_wp2_with fail
      go_meet
      exact HB8
  case rest =>
    have HBc := hcut
    clear hcut HB5
    go_wp2_with fail
    refine (CK.out _ HBc.out).mono ?_
    rintro e w6 ⟨rfl, hb6⟩
    have HB6 := Lib.hid (below_of_new HBc.out hb6)
    clear hb6
    go_wp2_with fail
    refine (CVa.out _ HB6.out).mono ?_
    rintro e w7 ⟨rfl, hb7⟩
    have HB7 := Lib.hid (below_of_new HB6.out hb7)
    clear hb7
    cases y3 with
    | false =>
      obtain rfl : E2 = 2 := hKn.out (by simp)
      have HBF := Lib.hid (below_of_new HB1.out HB7.out)
      go_wp2_with fail
      go_ret
      exact ⟨rfl, by first | exact HBF.out | (rw [← hX]; exact HBF.out)⟩
    | true =>
      obtain ⟨hE2, hKK⟩ := hKb.out rfl
      subst hE2
      have HKK := Lib.hid hKK
      clear hKK
      go_wp2_with fail
      refine (HKK.out _ HB7.out).mono ?_
      rintro e w8 ⟨rfl, hb8⟩
      have HBF := Lib.hid (below_of_new HB1.out (below_of_new HB7.out hb8))
      clear hb8
      go_wp2_with fail
      go_ret
      exact ⟨by first | rfl | simp, by first | exact HBF.out | (rw [← hX]; exact HBF.out)⟩
end Go.Proofs.YtnnlpkbopeiefaaGreatDoor
