import Derived.Test.YtnnlpkbopeiefaaGreatDoorYsS
import Derived.Test.YtnnlpkbopeiefaaGreatDoorTd
/-! The walk of YscalarWrites. Printed by mkysw.py. -/
namespace Go.Proofs.YtnnlpkbopeiefaaGreatDoor
set_option linter.unusedSimpArgs false
set_option linter.unusedVariables false
open Go.RowKit
open Go.Lib hiding intOf
theorem str_same (x : Stp) : ((bs x).toList == (bs x).toList) = true := by simp
set_option maxRecDepth 100000 in
set_option maxHeartbeats 4000000 in
theorem yscalarWrites_any (t : VT) (kv iv : Value) (s : ByteArray) (w : World) (h : VD w t.depth t kv iv) (hbk : t.bulk ≤ 1048576) (hV : AVar w) :
    Calls Tryz.prog 7 #[vv t kv iv, .string s] w fun e w' => e = .returned (.bool true) ∧ Below w.heap.size w w' := by
  obtain ⟨key, rfl⟩ : ∃ l, s = bs l := ⟨s.data.toList, (bs_of s).symm⟩
  have sl := bs_size key
  obtain ⟨pk, ck, p, c, rfl, rfl⟩ := h.form
  obtain ⟨X, hX⟩ : ∃ X, w.heap.size = X := ⟨_, rfl⟩
  obtain ⟨W1, hW1⟩ : ∃ W, w.alloc (.cells #[.int .i64 t.kind, .string (bs t.text), .slice pk t.keys.length ck, .slice p t.items.length c] 25) = W := ⟨_, rfl⟩
  have HB1 : Hid (Below w.heap.size w W1) := Lib.hid (by rw [← hW1]; exact below_alloc1 _ _)
  have HXB : Hid (VBox W1 X t (.slice pk t.keys.length ck) (.slice p t.items.length c)) := Lib.hid (by rw [← hW1, ← hX]; exact VBox.new w t _ _)
  have HVD := Lib.hid (h.keep HB1.out)
  have HV := Lib.hid (hV.keep HB1.out)
  have C0 := Lib.hid (small11_any W1 HV.out)
  have CF : Hid (∀ w', Below W1.heap.size W1 w' → Calls Tryz.prog 14 #[vv t (.slice pk t.keys.length ck) (.slice p t.items.length c), .int .i64 300] w' fun e w2 => e = .returned (.bool (FewB t 300)) ∧ Below w'.heap.size w' w2) := Lib.hid (fun w' hb => vFew_any t.depth t _ _ w' 300 (HVD.out.keep hb) (by omega) (by omega) (by omega))
  have CC : Hid (∀ w', Below W1.heap.size W1 w' → Calls Tryz.prog 18 #[vv t (.slice pk t.keys.length ck) (.slice p t.items.length c)] w' (NewE t w')) := Lib.hid (fun w' hb => rclone_any t.depth t _ _ w' (HVD.out.keep hb) (by omega))
  clear h hV
  obtain ⟨y1, hy1⟩ : ∃ y, FewB t 300 = y := ⟨_, rfl⟩
  rw [hy1] at CF
  clear hy1
  by_cases hsm : y1 = true ∧ ¬ 2048 < key.length
  rotate_left
  · unfold vv at CF ⊢
    go_enter Tryz.func7, Tryz.ntmps7
    go_upto_region 1 with fail
    clear hW1
    go_wp2_with fail
    refine C0.out.mono ?_
    rintro e w2 ⟨rfl, hb2⟩
    have HB2 := Lib.hid hb2
    clear hb2
    obtain ⟨b0, b1, b2, b3⟩ := (HXB.out.keep HB2.out).cells
    go_wp2_with fail
    refine (CF.out _ HB2.out).mono ?_
    rintro e w3 ⟨rfl, hb3⟩
    have HB3 := Lib.hid (below_of_new HB2.out hb3)
    clear hb3 b0 b1 b2 b3
    have HB5 := Lib.hid (below_of_new HB1.out HB3.out)
    cases y1 with
    | false =>
      go_wp2_with fail
      go_ret
      exact ⟨rfl, by first | exact HB5.out | (rw [← hX]; exact HB5.out)⟩
    | true =>
      have hk : 2048 < key.length := by
        by_cases hk : 2048 < key.length
        · exact hk
        · exact absurd ⟨rfl, hk⟩ hsm
      have dk : decide ((2048 : Int) < (key.length : Int)) = true := decide_eq_true (by omega)
      go_wp2_with fail
      go_ret
      exact ⟨rfl, by first | exact HB5.out | (rw [← hX]; exact HB5.out)⟩
  obtain ⟨rfl, hkl⟩ := hsm
  have dk : decide ((2048 : Int) < (key.length : Int)) = false := decide_eq_false (by omega)
  have CW : Hid (∀ w', Below W1.heap.size W1 w' → Calls Tryz.prog 31 #[vv t (.slice pk t.keys.length ck) (.slice p t.items.length c)] w' fun e w2 => e = QuotedE (writeY t) ∧ Below w'.heap.size w' w2) := Lib.hid (fun w' hb => ywrite_any t.depth t _ _ w' (HVD.out.keep hb) (by omega) (HV.out.keep hb).1)
  have CRW : Hid (∀ w', Below W1.heap.size W1 w' → Calls Tryz.prog 32 #[vv t (.slice pk t.keys.length ck) (.slice p t.items.length c)] w' fun e w2 => e = QuotedE (writeY t) ∧ Below w'.heap.size w' w2) := Lib.hid (fun w' hb => rwrite_any t.depth t _ _ w' (HVD.out.keep hb) (by omega) (HV.out.keep hb).1)
  have CK : Hid (∀ w', Below W1.heap.size W1 w' → Calls Tryz.prog 33 #[.string (bs key)] w' fun e w2 => e = QuotedE (keyY key) ∧ Below w'.heap.size w' w2) := Lib.hid (fun w' hb => ywritekey_any key w' (by omega) (HV.out.keep hb).1)
  have CRK : Hid (∀ w', Below W1.heap.size W1 w' → Calls Tryz.prog 34 #[.string (bs key)] w' fun e w2 => e = QuotedE (keyY key) ∧ Below w'.heap.size w' w2) := Lib.hid (fun w' hb => rwritekey_any key w' (by omega) (HV.out.keep hb).1)
  obtain ⟨⟨A1, E1⟩, hA1⟩ : ∃ Q, writeY t = Q := ⟨_, rfl⟩
  obtain ⟨⟨A2, E2⟩, hA2⟩ : ∃ Q, keyY key = Q := ⟨_, rfl⟩
  rw [hA1] at CW CRW
  rw [hA2] at CK CRK
  clear hA1 hA2
  unfold QuotedE at CW CRW CK CRK
  simp only [] at CW CRW CK CRK
  have s1 := str_same A1
  have s2 := str_same A2
  have HCE : Hid (∀ w' kv2 iv2, Below W1.heap.size W1 w' → VD w' t.depth t kv2 iv2 → Calls Tryz.prog 27 #[vv t (.slice pk t.keys.length ck) (.slice p t.items.length c), vv t kv2 iv2] w' fun e w2 => e = .returned (.bool true) ∧ Below w'.heap.size w' w2) := Lib.hid (fun w' kv2 iv2 hb h2 => requal_any t.depth t _ _ _ _ w' (HVD.out.keep hb) h2 (by omega))
  unfold vv at CF CC CW CRW HCE ⊢
  go_enter Tryz.func7, Tryz.ntmps7
  go_upto_region 1 with fail
  clear hW1
  go_wp2_with fail
  refine C0.out.mono ?_
  rintro e w2 ⟨rfl, hb2⟩
  have HB2 := Lib.hid hb2
  clear hb2
  obtain ⟨b0, b1, b2, b3⟩ := (HXB.out.keep HB2.out).cells
  go_wp2_with fail
  refine (CF.out _ HB2.out).mono ?_
  rintro e w3 ⟨rfl, hb3⟩
  have HB3 := Lib.hid (below_of_new HB2.out hb3)
  clear hb3 b0 b1 b2 b3
  obtain ⟨b0, b1, b2, b3⟩ := (HXB.out.keep HB3.out).cells
  go_wp2_with fail
  refine (CC.out _ HB3.out).mono ?_
  rintro e w4 ⟨⟨kv2, iv2, rfl, hv4⟩, hb4⟩
  obtain ⟨pk2, ck2, p2, c2, rfl, rfl⟩ := hv4.form
  have HB4 := Lib.hid (below_of_new HB3.out hb4)
  have HZ0 := VBox.new w4 t (.slice pk2 t.keys.length ck2) (.slice p2 t.items.length c2)
  have hb40 := below_alloc1 w4 (.cells #[.int .i64 t.kind, .string (bs t.text), .slice pk2 t.keys.length ck2, .slice p2 t.items.length c2] 25)
  have HVC := Lib.hid (hv4.toVD.keep hb40)
  obtain ⟨Z, hZ⟩ : ∃ Z, w4.heap.size = Z := ⟨_, rfl⟩
  rw [hZ] at HZ0
  have HZB := Lib.hid HZ0
  have HB5 := Lib.hid (below_of_new HB4.out hb40)
  clear hb4 b0 b1 b2 b3 hv4 HZ0 hb40
  obtain ⟨b0, b1, b2, b3⟩ := (HXB.out.keep HB4.out).cells
  have hXl : X < w4.heap.size := cell_it (HXB.out.keep HB4.out)
  have hXZ : X < Z := by rw [← hZ]; exact hXl
  have hXZ2 : X ≠ Z := by omega
  have hXZ3 : ¬ Z = X := by omega
  unfold vv
  go_wp2_with fail
  refine (CW.out _ HB5.out).mono ?_
  rintro e w6 ⟨rfl, hb6⟩
  have HB6 := Lib.hid (below_of_new HB5.out hb6)
  have HZ6 := Lib.hid (HZB.out.keep hb6)
  have HV6 := Lib.hid (HVC.out.keep hb6)
  clear hb6 b0 b1 b2 b3
  obtain ⟨b0, b1, b2, b3⟩ := (HXB.out.keep HB6.out).cells
  go_wp2_with fail
  refine (CRW.out _ HB6.out).mono ?_
  rintro e w7 ⟨rfl, hb7⟩
  have HB7 := Lib.hid (below_of_new HB6.out hb7)
  have HZ7 := Lib.hid (HZ6.out.keep hb7)
  have HV7 := Lib.hid (HV6.out.keep hb7)
  clear hb7 b0 b1 b2 b3
  obtain ⟨b0, b1, b2, b3⟩ := (HXB.out.keep HB7.out).cells
  go_wp2_with fail
  refine (CK.out _ HB7.out).mono ?_
  rintro e w8 ⟨rfl, hb8⟩
  have HB8 := Lib.hid (below_of_new HB7.out hb8)
  have HZ8 := Lib.hid (HZ7.out.keep hb8)
  have HV8 := Lib.hid (HV7.out.keep hb8)
  clear hb8 b0 b1 b2 b3
  obtain ⟨b0, b1, b2, b3⟩ := (HXB.out.keep HB8.out).cells
  go_wp2_with fail
  refine (CRK.out _ HB8.out).mono ?_
  rintro e w9 ⟨rfl, hb9⟩
  have HB9 := Lib.hid (below_of_new HB8.out hb9)
  have HZ9 := Lib.hid (HZ8.out.keep hb9)
  have HV9 := Lib.hid (HV8.out.keep hb9)
  clear hb9 b0 b1 b2 b3
  obtain ⟨b0, b1, b2, b3⟩ := (HXB.out.keep HB9.out).cells
  obtain ⟨z0, z1, z2, z3⟩ := HZ9.out.cells
  go_wp2_with fail
  refine (HCE.out _ _ _ HB9.out HV9.out).mono ?_
  rintro e w20 ⟨rfl, hb20⟩
  have HBF := Lib.hid (below_of_new HB1.out (below_of_new HB9.out hb20))
  clear hb20 b0 b1 b2 b3 z0 z1 z2 z3
  go_wp2_with fail
  go_ret
  exact ⟨by first | rfl | simp, by first | exact HBF.out | (rw [← hX]; exact HBF.out)⟩
end Go.Proofs.YtnnlpkbopeiefaaGreatDoor
