import Derived.Test.YtbbjgdnbekoaeaaGreatDoorNumH
/-! The walks of scarfref02: digits. -/
namespace Go.Proofs.YtbbjgdnbekoaeaaGreatDoor
set_option linter.unusedSimpArgs false
set_option linter.unusedVariables false
open Go.RowKit
open Go.Lib hiding intOf

theorem isDig_int (b : UInt8) : isDig b = (decide (48 ≤ (b.toNat : Int)) && decide ((b.toNat : Int) ≤ 57)) := by
  unfold isDig
  rw [← Bool.decide_and]
  exact decide_eq_decide.2 (by omega)
set_option maxHeartbeats 1000000 in
theorem refDigits_any (s : ByteArray) (w : World) (hs : s.size ≤ 4294967296) :
    Calls Tryz.prog 91 #[.string s] w fun e w' => e = .returned (.bool (allDig s.data.toList)) ∧ Below w.heap.size w w' := by
  obtain ⟨R, hR⟩ : ∃ R, allDig s.data.toList = R := ⟨_, rfl⟩
  rw [hR]
  have HR := Lib.hid hR; clear hR
  go_enter Tryz.func91, Tryz.ntmps91
  go_wp2_with fail
  go_loopw [3] (fun i wr => ∃ p : Nat, p ≤ s.size ∧ i = .int .i64 p ∧ Hid (Digs s p) ∧ wr = w) (fun i _ => s.size - (RowKit.intOf i).toNat)
  case atStart => exact ⟨0, by omega, rfl, Digs.zero s, rfl⟩
  case round =>
    obtain ⟨p, hp, rfl, HD, rfl⟩ := hrel
    by_cases hlt : p < s.size
    · have hlt' : (p : Int) < (s.size : Int) := by omega
      cases hd : isDig (s[p]'hlt) with
      | true =>
        have HN := Lib.hid (HD.out.next hlt hd)
        have hb := of_decide_eq_true hd
        clear hd
        go_wp2_with fail
        go_roundw
        case rel => exact ⟨p + 1, by omega, by rw [show ((p : Int) + 1) = ((p + 1 : Nat) : Int) by omega], HN.out, by first | rfl | trivial⟩
        case measure => simp [RowKit.intOf]; omega
      | false =>
        have hno : (s[p]'hlt).toNat < 48 ∨ 57 < (s[p]'hlt).toNat := by have h1 := of_decide_eq_false hd; omega
        have HF := Lib.hid (HR.out.symm.trans (digs_no hlt hd))
        clear hd
        rcases hno with hno | hno
        all_goals
          go_wp2_with fail
          go_ret
          exact ⟨ret_bool HF.out.symm, Below.refl _ _⟩
    · have hp2 : p = s.size := by omega
      subst hp2
      have HF := Lib.hid (HR.out.symm.trans (HD.out.fin (Nat.le_refl _)))
      go_wp2_with fail
      go_ret
      refine ⟨ret_bool ?_, Below.refl _ _⟩
      rw [HF.out, Lib.toList_data]
      have hl : s.data.toList.length = s.size := rfl
      cases h : s.data.toList with
      | nil => rw [h] at hl; rw [← hl]; rfl
      | cons x t => rw [h] at hl; rw [← hl]; exact decide_eq_true (by simp)
theorem refDigits_is (s : ByteArray) (w : World) (R : Bool) (hs : s.size ≤ 4294967296) (h : allDig s.data.toList = R) :
    Calls Tryz.prog 91 #[.string s] w fun e w' => e = .returned (.bool R) ∧ Below w.heap.size w w' := by
  rw [← h]; exact refDigits_any s w hs
end Go.Proofs.YtbbjgdnbekoaeaaGreatDoor
