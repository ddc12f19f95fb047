import Derived.Test.YtdegjfmjjabnnaaGreatDoorMkP
/-! The walks of mark: right, Right; what Encode asks of hunks. -/
namespace Go.Proofs.YtdegjfmjjabnnaaGreatDoor
set_option linter.unusedSimpArgs false
set_option linter.unusedVariables false
open Go.RowKit
open Go.Lib hiding intOf
attribute [local go_sem] eqSides

/-- Whether a part may stand behind another one. -/
def behindOk (y : Part) : Bool := y.hunk || y.text == []
set_option maxRecDepth 100000 in
set_option maxHeartbeats 8000000 in
theorem right_any (x y : Part) (w : World) :
    Calls Tryz.prog 39 #[partV x, partV y] w fun e w' => e = .returned (.bool (okPart (behindOk y) x)) ∧ Below w.heap.size w w' := by
  obtain ⟨R, hR⟩ : ∃ R, okPart (behindOk y) x = R := ⟨_, rfl⟩
  rw [hR]
  have hP := part0 ((partBox w x 30).keep (below_alloc1 _ (.cells #[.bool y.hunk, .string (bs y.text), .string (bs y.s0), .string (bs y.s1), .string (bs y.s2)] 30)) (by simp))
  have hQ := part0 (partBox (w.alloc (.cells #[.bool x.hunk, .string (bs x.text), .string (bs x.s0), .string (bs x.s1), .string (bs x.s2)] 30)) y 30)
  rw [World.size_alloc] at hQ
  have hB : Below w.heap.size w ((w.alloc (.cells #[.bool x.hunk, .string (bs x.text), .string (bs x.s0), .string (bs x.s1), .string (bs x.s2)] 30)).alloc (.cells #[.bool y.hunk, .string (bs y.text), .string (bs y.s0), .string (bs y.s1), .string (bs y.s2)] 30)) := ((Below.refl _ w).alloc (Nat.le_refl _) _).alloc (by simp) _
  unfold partV
  go_enter Tryz.func39, Tryz.ntmps39
  go_upto_region 1 with fail
  obtain ⟨W0, hW0⟩ : ∃ W, (w.alloc (.cells #[.bool x.hunk, .string (bs x.text), .string (bs x.s0), .string (bs x.s1), .string (bs x.s2)] 30)).alloc (.cells #[.bool y.hunk, .string (bs y.text), .string (bs y.s0), .string (bs y.s1), .string (bs y.s2)] 30) = W := ⟨_, rfl⟩
  rw [hW0] at hB hP hQ ⊢
  have HB := Lib.hid hB
  obtain ⟨p0, p1, p2, p3, p4⟩ := hP
  obtain ⟨q0, q1, q2, q3, q4⟩ := hQ
  clear hW0 hB
  obtain ⟨b, hb⟩ : ∃ b, (x.text == []) = b := ⟨_, rfl⟩
  obtain ⟨b0, hb0⟩ : ∃ b, (x.s0 == []) = b := ⟨_, rfl⟩
  obtain ⟨b1, hb1⟩ : ∃ b, (x.s1 == []) = b := ⟨_, rfl⟩
  obtain ⟨b2, hb2⟩ : ∃ b, (x.s2 == []) = b := ⟨_, rfl⟩
  obtain ⟨d, hd⟩ : ∃ b, (y.text == []) = b := ⟨_, rfl⟩
  obtain ⟨e1, e2, e3⟩ := empty_is _ _ hb
  obtain ⟨e01, e02, e03⟩ := empty_is _ _ hb0
  obtain ⟨e11, e12, e13⟩ := empty_is _ _ hb1
  obtain ⟨e21, e22, e23⟩ := empty_is _ _ hb2
  obtain ⟨e31, e32, e33⟩ := empty_is _ _ hd
  unfold okPart behindOk at hR
  rw [hb, hb0, hb1, hb2, bne, hb, hd] at hR
  obtain ⟨h, hh⟩ : ∃ h, x.hunk = h := ⟨_, rfl⟩
  obtain ⟨k, hk⟩ : ∃ h, y.hunk = h := ⟨_, rfl⟩
  rw [hh, hk] at hR
  rw [hh] at p0 ⊢
  rw [hk] at q0 ⊢
  have HR := Lib.hid hR
  clear hR hb hb0 hb1 hb2 hd hh hk
  cases h with
  | true =>
    have HF : Hid (R = b) := Lib.hid (by rw [← HR.out]; rfl)
    go_wp2_with fail
    go_ret
    exact ⟨ret_bool HF.out.symm, HB.out⟩
  | false =>
    cases b with
    | true =>
      have HF : Hid (R = false) := Lib.hid (by rw [← HR.out]; rfl)
      go_wp2_with fail
      go_ret
      exact ⟨ret_bool HF.out.symm, HB.out⟩
    | false =>
      cases hall : (b0 && b1 && b2) with
      | false =>
        have HF : Hid (R = false) := Lib.hid (by rw [← HR.out]; revert hall; cases b0 <;> cases b1 <;> cases b2 <;> simp)
        cases b0 <;> cases b1 <;> cases b2 <;> first | (exfalso; revert hall; decide) | skip
        all_goals (
          clear hall
          go_wp2_with fail
          go_ret
          exact ⟨ret_bool HF.out.symm, HB.out⟩)
      | true =>
        obtain ⟨rfl, rfl, rfl⟩ : b0 = true ∧ b1 = true ∧ b2 = true := by revert hall; cases b0 <;> cases b1 <;> cases b2 <;> simp
        cases k with
        | true =>
          have HF : Hid (R = true) := Lib.hid (by rw [← HR.out]; rfl)
          clear hall
          go_wp2_with fail
          go_ret
          exact ⟨ret_bool HF.out.symm, HB.out⟩
        | false =>
          have HF : Hid (R = d) := Lib.hid (by rw [← HR.out]; simp)
          clear hall
          go_wp2_with fail
          go_ret
          exact ⟨ret_bool HF.out.symm, HB.out⟩
end Go.Proofs.YtdegjfmjjabnnaaGreatDoor
