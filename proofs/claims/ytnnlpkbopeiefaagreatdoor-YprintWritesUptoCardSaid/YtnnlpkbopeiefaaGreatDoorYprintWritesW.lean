import Derived.Test.YtnnlpkbopeiefaaGreatDoorTn
import Derived.Test.YtnnlpkbopeiefaaGreatDoorTj
import Derived.Test.YtnnlpkbopeiefaaGreatDoorYpM
import Derived.Test.YtnnlpkbopeiefaaGreatDoorWl
import Derived.Deep.RegionHeld3
/-! The walk of YprintWrites. Printed by mkyw.py. -/
namespace Go.Proofs.YtnnlpkbopeiefaaGreatDoor
set_option linter.unusedSimpArgs false
set_option linter.unusedVariables false
open Go.RowKit
open Go.Lib hiding intOf
theorem str_same (x : Stp) : ((bs x).toList == (bs x).toList) = true := by simp
abbrev WrS (W : World) (X Z : Nat) (k : Int) (s : ByteArray) (kv iv kv2 iv2 : Value) (w : World) : Prop :=
  (w.cell? ⟨X, 0, none⟩ = some (.int .i64 k) ∧ w.cell? ⟨X, 1, none⟩ = some (.string s) ∧ w.cell? ⟨X, 2, none⟩ = some kv ∧ w.cell? ⟨X, 3, none⟩ = some iv ∧ w.cell? ⟨Z, 0, none⟩ = some (.int .i64 k) ∧ w.cell? ⟨Z, 1, none⟩ = some (.string s) ∧ w.cell? ⟨Z, 2, none⟩ = some kv2 ∧ w.cell? ⟨Z, 3, none⟩ = some iv2) ∧ Hid (Below W.heap.size W w)
section
variable {W w w2 : World} {X Z : Nat} {k : Int} {s : ByteArray} {kv iv kv2 iv2 : Value}
theorem WrS.bel (h : WrS W X Z k s kv iv kv2 iv2 w) : Below W.heap.size W w := h.2.out
theorem WrS.step (h : WrS W X Z k s kv iv kv2 iv2 w) (hb : Below w.heap.size w w2) : WrS W X Z k s kv iv kv2 iv2 w2 := by
  obtain ⟨⟨h0, h1, h2, h3, h4, h5, h6, h7⟩, h8⟩ := h
  exact ⟨⟨cell_keepT h0 hb, cell_keepT h1 hb, cell_keepT h2 hb, cell_keepT h3 hb, cell_keepT h4 hb, cell_keepT h5 hb, cell_keepT h6 hb, cell_keepT h7 hb⟩, Lib.hid (below_of_new h8.out hb)⟩
theorem WrS.drew (h : WrS W X Z k s kv iv kv2 iv2 w) : WrS W X Z k s kv iv kv2 iv2 w.drew := h.step (Below.refl _ _).drew
end
set_option maxRecDepth 100000 in
set_option maxHeartbeats 4000000 in
theorem yprintWrites_any (t : VT) (kv iv : Value) (s : ByteArray) (ind : Int) (w : World) (h : VD w t.depth t kv iv) (hbk : t.bulk ≤ 1048576) (hV : YVar w) :
    Calls Tryz.prog 4 #[vv t kv iv, .string s, .int .i64 ind] w fun e w' => e = .returned (.bool true) ∧ Below w.heap.size w w' := by
  obtain ⟨key, rfl⟩ : ∃ l, s = bs l := ⟨s.data.toList, (bs_of s).symm⟩
  have sl := bs_size key
  obtain ⟨pk, ck, p, c, rfl, rfl⟩ := h.form
  obtain ⟨X, hX⟩ : ∃ X, w.heap.size = X := ⟨_, rfl⟩
  obtain ⟨W1, hW1⟩ : ∃ W, w.alloc (.cells #[.int .i64 t.kind, .string (bs t.text), .slice pk t.keys.length ck, .slice p t.items.length c] 25) = W := ⟨_, rfl⟩
  have HB1 : Hid (Below w.heap.size w W1) := Lib.hid (by rw [← hW1]; exact below_alloc1 _ _)
  have HXB : Hid (VBox W1 X t (.slice pk t.keys.length ck) (.slice p t.items.length c)) := Lib.hid (by rw [← hW1, ← hX]; exact VBox.new w t _ _)
  have HVD := Lib.hid (h.keep HB1.out)
  have HV := Lib.hid (hV.keep HB1.out)
  have C0 := Lib.hid (small14_any W1 HV.out)
  have CF : Hid (∀ w', Below W1.heap.size W1 w' → Calls Tryz.prog 14 #[vv t (.slice pk t.keys.length ck) (.slice p t.items.length c), .int .i64 300] w' fun e w2 => e = .returned (.bool (FewB t 300)) ∧ Below w'.heap.size w' w2) := Lib.hid (fun w' hb => vFew_any t.depth t _ _ w' 300 (HVD.out.keep hb) (by omega) (by omega) (by omega))
  have CC : Hid (∀ w', Below W1.heap.size W1 w' → Calls Tryz.prog 18 #[vv t (.slice pk t.keys.length ck) (.slice p t.items.length c)] w' (NewE t w')) := Lib.hid (fun w' hb => rclone_any t.depth t _ _ w' (HVD.out.keep hb) (by omega))
  clear h hV
  obtain ⟨y1, hy1⟩ : ∃ y, FewB t 300 = y := ⟨_, rfl⟩
  rw [hy1] at CF
  clear hy1
  by_cases hsm : y1 = true ∧ ¬ 1024 < key.length
  rotate_left
  · unfold vv at CF ⊢
    go_enter Tryz.func4, Tryz.ntmps4
    go_upto_region 1 with fail
    clear hW1
    go_wp2_with fail
    refine C0.out.mono ?_
    rintro e w2 ⟨rfl, hb2⟩
    have HB2 := Lib.hid hb2
    clear hb2
    obtain ⟨b0, b1, b2, b3⟩ := (HXB.out.keep HB2.out).cells
    go_wp2_with fail
    refine (CF.out _ HB2.out).mono ?_
    rintro e w3 ⟨rfl, hb3⟩
    have HB3 := Lib.hid (below_of_new HB2.out hb3)
    clear hb3 b0 b1 b2 b3
    have HB5 := Lib.hid (below_of_new HB1.out HB3.out)
    cases y1 with
    | false =>
      go_wp2_with fail
      go_ret
      exact ⟨rfl, by first | exact HB5.out | (rw [← hX]; exact HB5.out)⟩
    | true =>
      have hk : 1024 < key.length := by
        by_cases hk : 1024 < key.length
        · exact hk
        · exact absurd ⟨rfl, hk⟩ hsm
      have dk : decide ((1024 : Int) < (key.length : Int)) = true := decide_eq_true (by omega)
      go_wp2_with fail
      go_ret
      exact ⟨rfl, by first | exact HB5.out | (rw [← hX]; exact HB5.out)⟩
  obtain ⟨rfl, hkl⟩ := hsm
  have dk : decide ((1024 : Int) < (key.length : Int)) = false := decide_eq_false (by omega)
  have CP : Hid (∀ w', Below W1.heap.size W1 w' → Calls Tryz.prog 19 #[vv t (.slice pk t.keys.length ck) (.slice p t.items.length c)] w' fun e w2 => e = QuotedE (printP t) ∧ Below w'.heap.size w' w2) := Lib.hid (fun w' hb => yPrint_any t.depth t _ _ w' (HVD.out.keep hb) (by omega) (HV.out.keep hb))
  have CB : Hid (∀ w', Below W1.heap.size W1 w' → Calls Tryz.prog 15 #[vv t (.slice pk t.keys.length ck) (.slice p t.items.length c), .int .i64 ind] w' fun e w2 => e = QuotedE (blockP t ind) ∧ Below w'.heap.size w' w2) := Lib.hid (fun w' hb => yBlock_any t.depth t _ _ ind w' (HVD.out.keep hb) (by omega) (HV.out.keep hb))
  have CM : Hid (∀ w', Below W1.heap.size W1 w' → Calls Tryz.prog 20 #[.string (bs key), vv t (.slice pk t.keys.length ck) (.slice p t.items.length c), .int .i64 ind] w' fun e w2 => e = QuotedE (memberP key t ind) ∧ Below w'.heap.size w' w2) := Lib.hid (fun w' hb => yMember_any key t.depth t _ _ ind w' (HVD.out.keep hb) (by omega) (by omega) (by omega) (HV.out.keep hb))
  have CI : Hid (∀ w', Below W1.heap.size W1 w' → Calls Tryz.prog 21 #[vv t (.slice pk t.keys.length ck) (.slice p t.items.length c), .int .i64 ind] w' fun e w2 => e = QuotedE (itemP t ind) ∧ Below w'.heap.size w' w2) := Lib.hid (fun w' hb => yItem_any t.depth t _ _ ind w' (HVD.out.keep hb) (by omega) (HV.out.keep hb))
  have CRP : Hid (∀ w', Below W1.heap.size W1 w' → Calls Tryz.prog 22 #[vv t (.slice pk t.keys.length ck) (.slice p t.items.length c)] w' fun e w2 => e = QuotedE (printP t) ∧ Below w'.heap.size w' w2) := Lib.hid (fun w' hb => rPrint_any t.depth t _ _ w' (HVD.out.keep hb) (by omega) (HV.out.keep hb))
  have CRB : Hid (∀ w', Below W1.heap.size W1 w' → Calls Tryz.prog 23 #[vv t (.slice pk t.keys.length ck) (.slice p t.items.length c), .int .i64 ind] w' fun e w2 => e = QuotedE (blockP t ind) ∧ Below w'.heap.size w' w2) := Lib.hid (fun w' hb => rBlock_any t.depth t _ _ ind w' (HVD.out.keep hb) (by omega) (HV.out.keep hb))
  have CRM : Hid (∀ w', Below W1.heap.size W1 w' → Calls Tryz.prog 24 #[.string (bs key), vv t (.slice pk t.keys.length ck) (.slice p t.items.length c), .int .i64 ind] w' fun e w2 => e = QuotedE (memberP key t ind) ∧ Below w'.heap.size w' w2) := Lib.hid (fun w' hb => rMember_any key t.depth t _ _ ind w' (HVD.out.keep hb) (by omega) (by omega) (HV.out.keep hb))
  have CRI : Hid (∀ w', Below W1.heap.size W1 w' → Calls Tryz.prog 25 #[vv t (.slice pk t.keys.length ck) (.slice p t.items.length c), .int .i64 ind] w' fun e w2 => e = QuotedE (itemP t ind) ∧ Below w'.heap.size w' w2) := Lib.hid (fun w' hb => rItem_any t.depth t _ _ ind w' (HVD.out.keep hb) (by omega) (HV.out.keep hb))
  have CL : Hid (∀ w', Below W1.heap.size W1 w' → Calls Tryz.prog 16 #[vv t (.slice pk t.keys.length ck) (.slice p t.items.length c)] w' fun e w2 => e = .returned (.bool (linesB t)) ∧ Below w'.heap.size w' w2) := Lib.hid (fun w' hb => ylines_any t.depth t _ _ w' (HVD.out.keep hb) (by omega) (HV.out.keep hb))
  have CRL : Hid (∀ w', Below W1.heap.size W1 w' → Calls Tryz.prog 26 #[vv t (.slice pk t.keys.length ck) (.slice p t.items.length c)] w' fun e w2 => e = .returned (.bool (linesB t)) ∧ Below w'.heap.size w' w2) := Lib.hid (fun w' hb => rlines_any t.depth t _ _ w' (HVD.out.keep hb) (by omega) (HV.out.keep hb))
  obtain ⟨⟨A1, E1⟩, hA1⟩ : ∃ Q, printP t = Q := ⟨_, rfl⟩
  obtain ⟨⟨A2, E2⟩, hA2⟩ : ∃ Q, blockP t ind = Q := ⟨_, rfl⟩
  obtain ⟨⟨A3, E3⟩, hA3⟩ : ∃ Q, memberP key t ind = Q := ⟨_, rfl⟩
  obtain ⟨⟨A4, E4⟩, hA4⟩ : ∃ Q, itemP t ind = Q := ⟨_, rfl⟩
  obtain ⟨y2, hy2⟩ : ∃ y, linesB t = y := ⟨_, rfl⟩
  rw [hA1] at CP CRP
  rw [hA2] at CB CRB
  rw [hA3] at CM CRM
  rw [hA4] at CI CRI
  rw [hy2] at CL CRL
  clear hA1 hA2 hA3 hA4 hy2
  unfold QuotedE at CP CB CM CI CRP CRB CRM CRI
  simp only [] at CP CB CM CI CRP CRB CRM CRI
  have s1 := str_same A1
  have s2 := str_same A2
  have s3 := str_same A3
  have s4 := str_same A4
  have HCE : Hid (∀ w' kv2 iv2, Below W1.heap.size W1 w' → VD w' t.depth t kv2 iv2 → Calls Tryz.prog 27 #[vv t (.slice pk t.keys.length ck) (.slice p t.items.length c), vv t kv2 iv2] w' fun e w2 => e = .returned (.bool true) ∧ Below w'.heap.size w' w2) := Lib.hid (fun w' kv2 iv2 hb h2 => requal_any t.depth t _ _ _ _ w' (HVD.out.keep hb) h2 (by omega))
  unfold vv at CF CC CP CB CM CI CRP CRB CRM CRI CL CRL HCE ⊢
  go_enter Tryz.func4, Tryz.ntmps4
  go_upto_region 1 with fail
  clear hW1
  go_wp2_with fail
  refine C0.out.mono ?_
  rintro e w2 ⟨rfl, hb2⟩
  have HB2 := Lib.hid hb2
  clear hb2
  obtain ⟨b0, b1, b2, b3⟩ := (HXB.out.keep HB2.out).cells
  go_wp2_with fail
  refine (CF.out _ HB2.out).mono ?_
  rintro e w3 ⟨rfl, hb3⟩
  have HB3 := Lib.hid (below_of_new HB2.out hb3)
  clear hb3 b0 b1 b2 b3
  obtain ⟨b0, b1, b2, b3⟩ := (HXB.out.keep HB3.out).cells
  go_wp2_with fail
  refine (CC.out _ HB3.out).mono ?_
  rintro e w4 ⟨⟨kv2, iv2, rfl, hv4⟩, hb4⟩
  obtain ⟨pk2, ck2, p2, c2, rfl, rfl⟩ := hv4.form
  have HB4 := Lib.hid (below_of_new HB3.out hb4)
  have HZ0 := VBox.new w4 t (.slice pk2 t.keys.length ck2) (.slice p2 t.items.length c2)
  have hb40 := below_alloc1 w4 (.cells #[.int .i64 t.kind, .string (bs t.text), .slice pk2 t.keys.length ck2, .slice p2 t.items.length c2] 25)
  have HVC := Lib.hid (hv4.toVD.keep hb40)
  obtain ⟨Z, hZ⟩ : ∃ Z, w4.heap.size = Z := ⟨_, rfl⟩
  rw [hZ] at HZ0
  have HZB := Lib.hid HZ0
  have HB5 := Lib.hid (below_of_new HB4.out hb40)
  clear hb4 b0 b1 b2 b3 hv4 HZ0 hb40
  obtain ⟨b0, b1, b2, b3⟩ := (HXB.out.keep HB4.out).cells
  have hXl : X < w4.heap.size := cell_it (HXB.out.keep HB4.out)
  have hXZ : X < Z := by rw [← hZ]; exact hXl
  have hXZ2 : X ≠ Z := by omega
  have hXZ3 : ¬ Z = X := by omega
  unfold vv
  go_wp2_with fail
  refine (CP.out _ HB5.out).mono ?_
  rintro e w6 ⟨rfl, hb6⟩
  have HB6 := Lib.hid (below_of_new HB5.out hb6)
  have HZ6 := Lib.hid (HZB.out.keep hb6)
  have HV6 := Lib.hid (HVC.out.keep hb6)
  clear hb6 b0 b1 b2 b3
  obtain ⟨b0, b1, b2, b3⟩ := (HXB.out.keep HB6.out).cells
  go_wp2_with fail
  refine (CB.out _ HB6.out).mono ?_
  rintro e w7 ⟨rfl, hb7⟩
  have HB7 := Lib.hid (below_of_new HB6.out hb7)
  have HZ7 := Lib.hid (HZ6.out.keep hb7)
  have HV7 := Lib.hid (HV6.out.keep hb7)
  clear hb7 b0 b1 b2 b3
  obtain ⟨b0, b1, b2, b3⟩ := (HXB.out.keep HB7.out).cells
  go_wp2_with fail
  refine (CM.out _ HB7.out).mono ?_
  rintro e w8 ⟨rfl, hb8⟩
  have HB8 := Lib.hid (below_of_new HB7.out hb8)
  have HZ8 := Lib.hid (HZ7.out.keep hb8)
  have HV8 := Lib.hid (HV7.out.keep hb8)
  clear hb8 b0 b1 b2 b3
  obtain ⟨b0, b1, b2, b3⟩ := (HXB.out.keep HB8.out).cells
  go_wp2_with fail
  refine (CI.out _ HB8.out).mono ?_
  rintro e w9 ⟨rfl, hb9⟩
  have HB9 := Lib.hid (below_of_new HB8.out hb9)
  have HZ9 := Lib.hid (HZ8.out.keep hb9)
  have HV9 := Lib.hid (HV8.out.keep hb9)
  clear hb9 b0 b1 b2 b3
  obtain ⟨b0, b1, b2, b3⟩ := (HXB.out.keep HB9.out).cells
  go_wp2_with fail
  refine (CRP.out _ HB9.out).mono ?_
  rintro e w10 ⟨rfl, hb10⟩
  have HB10 := Lib.hid (below_of_new HB9.out hb10)
  have HZ10 := Lib.hid (HZ9.out.keep hb10)
  have HV10 := Lib.hid (HV9.out.keep hb10)
  clear hb10 b0 b1 b2 b3
  obtain ⟨b0, b1, b2, b3⟩ := (HXB.out.keep HB10.out).cells
  go_wp2_with fail
  refine (CRB.out _ HB10.out).mono ?_
  rintro e w11 ⟨rfl, hb11⟩
  have HB11 := Lib.hid (below_of_new HB10.out hb11)
  have HZ11 := Lib.hid (HZ10.out.keep hb11)
  have HV11 := Lib.hid (HV10.out.keep hb11)
  clear hb11 b0 b1 b2 b3
  obtain ⟨b0, b1, b2, b3⟩ := (HXB.out.keep HB11.out).cells
  go_wp2_with fail
  refine (CRM.out _ HB11.out).mono ?_
  rintro e w12 ⟨rfl, hb12⟩
  have HB12 := Lib.hid (below_of_new HB11.out hb12)
  have HZ12 := Lib.hid (HZ11.out.keep hb12)
  have HV12 := Lib.hid (HV11.out.keep hb12)
  clear hb12 b0 b1 b2 b3
  obtain ⟨b0, b1, b2, b3⟩ := (HXB.out.keep HB12.out).cells
  go_wp2_with fail
  refine (CRI.out _ HB12.out).mono ?_
  rintro e w13 ⟨rfl, hb13⟩
  have HB13 := Lib.hid (below_of_new HB12.out hb13)
  have HZ13 := Lib.hid (HZ12.out.keep hb13)
  have HV13 := Lib.hid (HV12.out.keep hb13)
  clear hb13 b0 b1 b2 b3
  obtain ⟨b0, b1, b2, b3⟩ := (HXB.out.keep HB13.out).cells
  obtain ⟨z0, z1, z2, z3⟩ := HZ13.out.cells
  have HS0 : WrS w13 X Z t.kind (bs t.text) (.slice pk t.keys.length ck) (.slice p t.items.length c) (.slice pk2 t.keys.length ck2) (.slice p2 t.items.length c2) w13 := ⟨⟨b0, b1, b2, b3, z0, z1, z2, z3⟩, Lib.hid (Below.refl _ _)⟩
  go_upto_region 14 with fail
  go_region_held3 (fun w' => WrS w13 X Z t.kind (bs t.text) (.slice pk t.keys.length ck) (.slice p t.items.length c) (.slice pk2 t.keys.length ck2) (.slice p2 t.items.length c2) w') ((first | exact WrS.drew (by assumption) | exact WrS.step (by assumption) (by assumption) | assumption))
    ((first
      | (go_at_call 16; (refine (CL.out _ (below_of_new HB13.out (WrS.bel (by assumption : WrS w13 X Z t.kind (bs t.text) (.slice pk t.keys.length ck) (.slice p t.items.length c) (.slice pk2 t.keys.length ck2) (.slice p2 t.items.length c2) _)))).mono ?_); rintro e w20 ⟨rfl, hb20⟩)
      | (go_at_call 26; (refine (CRL.out _ (below_of_new HB13.out (WrS.bel (by assumption : WrS w13 X Z t.kind (bs t.text) (.slice pk t.keys.length ck) (.slice p t.items.length c) (.slice pk2 t.keys.length ck2) (.slice p2 t.items.length c2) _)))).mono ?_); rintro e w21 ⟨rfl, hb21⟩)
      | (go_at_call 27; (refine (HCE.out _ _ _ (below_of_new HB13.out (WrS.bel (by assumption : WrS w13 X Z t.kind (bs t.text) (.slice pk t.keys.length ck) (.slice p t.items.length c) (.slice pk2 t.keys.length ck2) (.slice p2 t.items.length c2) _))) (HV13.out.keep (WrS.bel (by assumption : WrS w13 X Z t.kind (bs t.text) (.slice pk t.keys.length ck) (.slice p t.items.length c) (.slice pk2 t.keys.length ck2) (.slice p2 t.items.length c2) _)))).mono ?_); rintro e w22 ⟨rfl, hb22⟩)))
  all_goals
    have HF := Lib.hid (by assumption : WrS w13 X Z t.kind (bs t.text) (.slice pk t.keys.length ck) (.slice p t.items.length c) (.slice pk2 t.keys.length ck2) (.slice p2 t.items.length c2) w22)
    have HBF : Hid (Below w.heap.size w w22) := Lib.hid (below_of_new HB1.out (below_of_new HB13.out HF.out.2.out))
    go_wp2_with fail
    go_ret
    exact ⟨by first | rfl | simp, by first | exact HBF.out | (rw [← hX]; exact HBF.out)⟩
end Go.Proofs.YtnnlpkbopeiefaaGreatDoor
