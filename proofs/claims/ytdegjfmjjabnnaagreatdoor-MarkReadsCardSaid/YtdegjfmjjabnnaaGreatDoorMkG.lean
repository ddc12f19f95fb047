import Derived.Test.YtdegjfmjjabnnaaGreatDoorMkEq
/-! The walks of scarfref25: Right, Same; scarflaw25.few. -/
namespace Go.Proofs.YtdegjfmjjabnnaaGreatDoor
set_option linter.unusedSimpArgs false
set_option linter.unusedVariables false
open Go.RowKit
open Go.Lib hiding intOf
attribute [local go_sem] eqSides

theorem partBox (W : World) (x : Part) (T : TypeId) : PCells (W.alloc (.cells #[.bool x.hunk, .string (bs x.text), .string (bs x.s0), .string (bs x.s1), .string (bs x.s2)] T)) W.heap.size 0 x := by
  have h := heap_alloc_new W (.cells #[.bool x.hunk, .string (bs x.text), .string (bs x.s0), .string (bs x.s1), .string (bs x.s2)] T)
  exact ⟨cell_of_row _ _ 0 _ _ (0, 0) h, cell_of_row _ _ 1 _ _ (0, 0) h, cell_of_row _ _ 2 _ _ (0, 0) h, cell_of_row _ _ 3 _ _ (0, 0) h, cell_of_row _ _ 4 _ _ (0, 0) h⟩
set_option maxRecDepth 100000 in
set_option maxHeartbeats 8000000 in
theorem rRight_any (v : Value) (l : List Part) (w : World) (hv : PV w v l) (hl : l.length ≤ 1073741825) :
    Calls Tryz.prog 36 #[v] w fun e w' => e = .returned (.bool (rightM l)) ∧ Below w.heap.size w w' := by
  obtain ⟨p, c, rfl, hp⟩ := hv
  have HP : Hid (PLies w p l) := Lib.hid hp
  clear hp
  by_cases hlen : 4096 < l.length
  · have hr : rightM l = false := by unfold rightM; rw [decide_eq_false (by omega), Bool.and_false]
    rw [hr]
    have hlz : (4096 : Int) < (l.length : Int) := by omega
    go_enter Tryz.func36, Tryz.ntmps36
    go_wp2_with fail
    go_ret
    exact ⟨rfl, Below.refl _ _⟩
  have hr : rightM l = rightGo true l := by unfold rightM; rw [decide_eq_true (by omega), Bool.and_true]
  rw [hr]
  obtain ⟨R, hR⟩ : ∃ R, rightGo true l = R := ⟨_, rfl⟩
  rw [hR]
  have HN : Hid (R = rightGo (prevH l 0) (l.drop 0)) := Lib.hid (by rw [List.drop_zero, ← hR]; rfl)
  have hlz : ¬ (4096 : Int) < (l.length : Int) := by omega
  have dl : decide (4096 < (l.length : Int)) = false := decide_eq_false hlz
  clear hR hr hlen
  go_enter Tryz.func36, Tryz.ntmps36
  go_wp2_with fail
  go_loopw [3] (fun s3 wr => ∃ (j : Nat), s3 = .int .i64 j ∧ j ≤ l.length ∧ Hid (R = rightGo (prevH l j) (l.drop j)) ∧ Hid (Below w.heap.size w wr)) (fun s3 _ => l.length - (RowKit.intOf s3).toNat)
  case atStart => exact ⟨0, rfl, by omega, HN, Below.refl _ _⟩
  case round =>
    obtain ⟨j, rfl, hj, HC, HB⟩ := hrel
    by_cases hlt : j < l.length
    · obtain ⟨x, hx⟩ : ∃ x, l[j]? = some x := ⟨_, List.getElem?_eq_getElem hlt⟩
      obtain ⟨g, o, rfl, hg, hat, c0, c1, c2, c3, c4⟩ := (HP.out.keep HB.out).at_ hx
      have hlj : (j : Int) < (l.length : Int) := by omega
      have hc := HC.out
      rw [drop_at hx, rightGo] at hc
      have hps := prevH_succ hx
      have HB2 : Hid (Below w.heap.size w (wr.alloc (.cells #[.bool x.hunk, .string (bs x.text), .string (bs x.s0), .string (bs x.s1), .string (bs x.s2)] 30))) := Lib.hid (HB.out.alloc HB.out.size _)
      cases hh : x.hunk with
      | true =>
        rw [hh] at c0 HB2
        obtain ⟨b, hb⟩ : ∃ b, (x.text == []) = b := ⟨_, rfl⟩
        obtain ⟨e1, e2, e3⟩ := empty_is _ _ hb
        unfold okPart at hc
        rw [hh, if_pos rfl, hb] at hc
        rw [hh] at hps
        clear hb hh hx hat HC
        cases b with
        | true =>
          have HC2 : Hid (R = rightGo (prevH l (j + 1)) (l.drop (j + 1))) := Lib.hid (by rw [hps, hc, Bool.true_and])
          clear hc hps
          go_wp2_with fail
          go_roundw
          case rel => exact ⟨j + 1, by go_num, by omega, HC2, by first | exact HB2 | exact below_drewN HB2.out _⟩
          case measure => simp [RowKit.intOf]; omega
        | false =>
          have HF : Hid (R = false) := Lib.hid (by rw [hc, Bool.false_and])
          clear hc hps
          go_wp2_with fail
          go_ret
          exact ⟨ret_bool HF.out.symm, HB2.out⟩
      | false =>
        rw [hh] at c0 HB2
        obtain ⟨b, hb⟩ : ∃ b, (x.text == []) = b := ⟨_, rfl⟩
        obtain ⟨b0, hb0⟩ : ∃ b, (x.s0 == []) = b := ⟨_, rfl⟩
        obtain ⟨b1, hb1⟩ : ∃ b, (x.s1 == []) = b := ⟨_, rfl⟩
        obtain ⟨b2, hb2⟩ : ∃ b, (x.s2 == []) = b := ⟨_, rfl⟩
        obtain ⟨e1, e2, e3⟩ := empty_is _ _ hb
        obtain ⟨e01, e02, e03⟩ := empty_is _ _ hb0
        obtain ⟨e11, e12, e13⟩ := empty_is _ _ hb1
        obtain ⟨e21, e22, e23⟩ := empty_is _ _ hb2
        unfold okPart at hc
        rw [hh, if_neg (by decide), hb0, hb1, hb2, bne, hb] at hc
        rw [hh] at hps
        have hprev : (j = 0 ∧ prevH l j = true) ∨ (∃ i y, j = i + 1 ∧ PCells wr g (o + i * 5) y ∧ prevH l j = y.hunk) := by
          cases j with
          | zero => exact .inl ⟨rfl, rfl⟩
          | succ i =>
            obtain ⟨y, hy⟩ : ∃ y, l[i]? = some y := ⟨_, List.getElem?_eq_getElem (by omega)⟩
            exact .inr ⟨i, y, rfl, hat i y hy, prevH_succ hy⟩
        clear hb hb0 hb1 hb2 hh hx hat HC
        obtain ⟨P, hP⟩ : ∃ P, prevH l j = P := ⟨_, rfl⟩
        rw [hP] at hprev hc
        have HC3 := Lib.hid hc
        have HPS := Lib.hid hps
        clear hc hps hP
        have hj0 : ∀ i : Nat, ((i + 1 : Nat) : Int) - 1 = (i : Int) := fun i => by omega
        cases b with
        | true =>
          have HF : Hid (R = false) := Lib.hid (by rw [HC3.out]; rfl)
          go_wp2_with fail
          go_ret
          exact ⟨ret_bool HF.out.symm, HB2.out⟩
        | false =>
          cases hall : (b0 && b1 && b2) with
          | false =>
            have HF : Hid (R = false) := Lib.hid (by
              have := HC3.out
              rw [this]
              revert hall
              cases b0 <;> cases b1 <;> cases b2 <;> simp)
            cases b0 <;> cases b1 <;> cases b2 <;> first | (exfalso; revert hall; decide) | skip
            all_goals (
              clear hall
              go_wp2_with fail
              go_ret
              exact ⟨ret_bool HF.out.symm, HB2.out⟩)
          | true =>
            obtain ⟨rfl, rfl, rfl⟩ : b0 = true ∧ b1 = true ∧ b2 = true := by revert hall; cases b0 <;> cases b1 <;> cases b2 <;> simp
            clear hall
            rcases hprev with ⟨rfl, hp0⟩ | ⟨i, y, rfl, ⟨y0, y1, y2, y3, y4⟩, hp0⟩
            · simp only [Nat.zero_mul, Nat.add_zero] at c0 c1 c2 c3 c4
              have HC2 : Hid (R = rightGo (prevH l (0 + 1)) (l.drop (0 + 1))) := Lib.hid (by rw [HPS.out, HC3.out, hp0]; rfl)
              clear hp0 HC3 HPS
              go_wp2_with fail
              go_roundw
              case rel => exact ⟨0 + 1, by go_num, by omega, HC2, by first | exact HB2 | exact below_drewN HB2.out _⟩
              case measure => simp [RowKit.intOf]; omega
            · obtain ⟨Y, hY⟩ : ∃ Y, y.hunk = Y := ⟨_, rfl⟩
              rw [hY] at y0 hp0
              have hil : i < l.length := by omega
              have hi1 := hj0 i
              clear hY hj0
              cases Y with
              | true =>
                have HC2 : Hid (R = rightGo (prevH l (i + 1 + 1)) (l.drop (i + 1 + 1))) := Lib.hid (by rw [HPS.out, HC3.out, hp0]; rfl)
                clear hp0 HC3 HPS
                go_wp2_with fail
                go_roundw
                case rel => exact ⟨i + 1 + 1, by go_num, by omega, HC2, by first | exact HB2 | exact below_drewN HB2.out _⟩
                case measure => simp [RowKit.intOf]; omega
              | false =>
                have HF : Hid (R = false) := Lib.hid (by rw [HC3.out, hp0]; rfl)
                clear hp0 HC3 HPS
                go_wp2_with fail
                go_ret
                exact ⟨ret_bool HF.out.symm, HB2.out⟩
    · have HF : Hid (R = true) := Lib.hid (by
        have := HC.out
        rw [List.drop_of_length_le (by omega)] at this
        exact this)
      go_wp2_with fail
      go_ret
      exact ⟨ret_bool HF.out.symm, HB.out⟩
end Go.Proofs.YtdegjfmjjabnnaaGreatDoor
