import Derived.Test.YtnnlpkbopeiefaaGreatDoorProg
import Derived.Test.YtnnlpkbopeiefaaGreatDoorRnA
import Derived.Test.YtnnlpkbopeiefaaGreatDoorRnT
/-! The walks of the reference of layer 1, and of runes.Valid. -/
namespace Go.Proofs.YtnnlpkbopeiefaaGreatDoor
open Go.RowKit
open Go.Lib hiding intOf
set_option maxHeartbeats 400000 in
theorem wide_any (c : Int) (w : World) :
    Calls Tryz.prog 175 #[.int .i64 c] w fun e w' => e = .returned (.int .i64 (refWide c)) ∧ w = w' := by
  go_enter Tryz.func175, Tryz.ntmps175
  go_wp2
  all_goals go_ret
  all_goals (refine ⟨ret_eq (congrArg (Value.int .i64) ?_), rfl⟩; unfold refWide; (repeat split) <;> first | rfl | omega)
theorem wide_is (c n : Int) (w : World) (h : refWide c = n) :
    Calls Tryz.prog 175 #[.int .i64 c] w fun e w' => e = .returned (.int .i64 n) ∧ w = w' := by
  subst h; exact wide_any c w
set_option maxRecDepth 100000 in
set_option maxHeartbeats 4000000 in
theorem refNext_n (s : ByteArray) (i : Nat) (n : Int) (w : World) (hi : i < s.size) (hs : s.size ≤ 4611686018427387904)
    (h1 : 1 ≤ n) (h4 : n ≤ 4) (hn : Hid (refWide ((s[i]'hi).toNat : Int) = n)) (hfit : n ≤ (s.size : Int) - i) :
    Calls Tryz.prog 118 #[.string s, .int .i64 i] w fun e w' => e = .returned (.tuple #[.int .i32 (tailOf s i n).1, .int .i64 (tailOf s i n).2]) ∧ w = w' := by
  have hb : (s[i]'hi).toNat < 256 := (s[i]'hi).toNat_lt
  obtain ⟨R, hR⟩ : ∃ R, tailOf s i n = R := ⟨_, rfl⟩
  rw [hR]
  have HR := Lib.hid hR; clear hR
  have hbd := refHead_bd _ n hn.out (by omega) (by omega)
  have hH := refHead_is ((s[i]'hi).toNat : Int) n
  rcases (show n = 1 ∨ n = 2 ∨ n = 3 ∨ n = 4 by omega) with h | h | h | h
  all_goals
    first | have hV := hH.1 h | have hV := hH.2.1 h | have hV := hH.2.2.1 h | have hV := hH.2.2.2 h
    have hlo := Int.le_of_eq h; have hhi := Int.le_of_eq h.symm
    have n0 : (n == 0) = false := beq_eq_false_iff_ne.2 (by omega)
    first | have n2 : (n == 2) = false := beq_eq_false_iff_ne.2 (by omega) | have n2 : (n == 2) = true := beq_iff_eq.2 (by omega)
    first | have n3 : (n == 3) = false := beq_eq_false_iff_ne.2 (by omega) | have n3 : (n == 3) = true := beq_iff_eq.2 (by omega)
    first | have n4 : (n == 4) = false := beq_eq_false_iff_ne.2 (by omega) | have n4 : (n == 4) = true := beq_iff_eq.2 (by omega)
    rw [hV] at hbd; clear hH h
    have HV := Lib.hid hV; clear hV
    go_enter Tryz.func118, Tryz.ntmps118
    go_wp2_with (go_at_call 175; refine (wide_is _ _ _ hn.out).mono ?_; rintro e w' ⟨rfl, rfl⟩)
    go_loop [7, 8] (fun v k => ∃ (j : Nat) (V : Int), 1 ≤ j ∧ (j : Int) ≤ n ∧ k = .int .i64 j ∧ v = .int .i64 V ∧ 0 ≤ V ∧ Hid (V < bnd j) ∧ Hid (refTail s (n.toNat - 1) (i + 1) (refHead (byteAt s i) n) = refTail s (n.toNat - j) (i + j) V)) (fun _ k => (n - intOf k).toNat)
    case atStart => exact ⟨1, _, by omega, by omega, rfl, rfl, by omega, by unfold Hid bnd; simp; omega, by unfold Hid; rw [← byteAt_eq s i hi, HV.out]⟩
    case round =>
      obtain ⟨j, V, hj1, hj2, rfl, rfl, hV0, HB, HT⟩ := hrel
      by_cases hlt : (j : Int) < n
      · have hbV : V < 1048576 := Int.lt_of_lt_of_le HB.out (bnd_le j (by omega))
        have hij : i + j < s.size := by omega
        have hcb : (s[i + j]'hij).toNat < 256 := (s[i + j]'hij).toNat_lt
        go_wp2
        all_goals first
          | (go_round
             case rel => exact ⟨j + 1, _, by omega, by omega, by go_num, rfl, by omega, bnd_step j V _ HB.out hj1 (by omega) (by omega), tail_next HT hlt hij (by omega) (by omega)⟩
             case measure => simp [intOf]; omega)
          | (go_ret2; exact ⟨pair_ret (tail_bad HR HT hlt hij (by omega)), rfl⟩)
      · have hbV : V < 67108864 := by have h := HB.out; unfold bnd at h; revert h; (repeat' split) <;> omega
        go_wp2
        all_goals go_ret2
        all_goals
          refine ⟨pair_ret ((tail_end HR HT (by omega)).trans ?_), rfl⟩
          first
            | (rw [show refBad n V = true from decide_eq_true (by omega)]; rfl)
            | (rw [show refBad n V = false from decide_eq_false (by omega)]; rfl)
set_option maxRecDepth 100000 in
set_option maxHeartbeats 1000000 in
theorem refNext_no (s : ByteArray) (i : Nat) (n : Int) (w : World) (hi : i < s.size) (hs : s.size ≤ 4611686018427387904)
    (h1 : 0 ≤ n) (h4 : n ≤ 4) (hn : Hid (refWide ((s[i]'hi).toNat : Int) = n)) (hno : n = 0 ∨ (s.size : Int) - i < n) :
    Calls Tryz.prog 118 #[.string s, .int .i64 i] w fun e w' => e = .returned (.tuple #[.int .i32 65533, .int .i64 1]) ∧ w = w' := by
  have hb : (s[i]'hi).toNat < 256 := (s[i]'hi).toNat_lt
  by_cases h : n = 0
  all_goals
    first | have n0 : (n == 0) = false := beq_eq_false_iff_ne.2 (by omega) | have n0 : (n == 0) = true := beq_iff_eq.2 (by omega)
    have hno' : 1 ≤ n → (s.size : Int) - i < n := fun _ => by omega
    have hno'' : (s.size : Int) - i < n ∨ n ≤ 0 := by omega
    clear hno
    rcases hno'' with hno'' | hno''
    all_goals
      clear h hno'
      go_enter Tryz.func118, Tryz.ntmps118
      go_wp2_with (go_at_call 175; refine (wide_is _ _ _ hn.out).mono ?_; rintro e w' ⟨rfl, rfl⟩)
      all_goals go_ret2
      all_goals exact ⟨rfl, rfl⟩
theorem refNext_any (s : ByteArray) (i : Nat) (w : World) (hi : i < s.size) (hs : s.size ≤ 4611686018427387904) :
    Calls Tryz.prog 118 #[.string s, .int .i64 i] w fun e w' => e = .returned (.tuple #[.int .i32 (refNext s i).1, .int .i64 (refNext s i).2]) ∧ w = w' := by
  obtain ⟨n, hn⟩ : ∃ n, refWide ((s[i]'hi).toNat : Int) = n := ⟨_, rfl⟩
  have hc := refWide_cases ((s[i]'hi).toNat : Int)
  have hn' := hn; rw [byteAt_eq] at hn'
  by_cases h : n = 0 ∨ (s.size : Int) - i < n
  · rw [show refNext s i = (65533, 1) by unfold refNext; simp only [hn']; rw [if_pos h]]
    exact refNext_no s i n w hi hs (by omega) (by omega) hn h
  · rw [show refNext s i = tailOf s i n by unfold refNext tailOf; simp only [hn']; rw [if_neg h]]
    exact refNext_n s i n w hi hs (by omega) (by omega) hn (by omega)
/-- utf8.DecodeRuneInString(s[i:]). -/
theorem refNext_at (s : ByteArray) (i : Nat) (w : World) (hi : i < s.size) (hs : s.size ≤ 4611686018427387904) :
    Calls Tryz.prog 118 #[.string s, .int .i64 i] w fun e w' => e = .returned (.tuple #[.int .i32 (runeI s i), .int .i64 (widN s i)]) ∧ w = w' := by
  have h := refNext_any s i w hi hs
  rw [refNext_eq s i hi] at h
  exact h
set_option maxHeartbeats 400000 in
theorem good_at (s : ByteArray) (i : Nat) (w : World) (hi : i < s.size) (hs : s.size ≤ 4611686018427387904) :
    Calls Tryz.prog 117 #[.string s, .int .i64 i] w fun e w' => e = .returned (.bool (goodB s i)) ∧ w = w' := by
  have hw := widN_bd s i hi
  unfold goodB
  have hc := refNext_at s i w hi hs
  generalize runeI s i = c at *
  generalize widN s i = n at *
  have HC := Lib.hid hc; clear hc
  by_cases h1 : (c == 65533) = true
  all_goals
    first | have h1' : (c == 65533) = false := by simpa using h1 | skip
    go_enter Tryz.func117, Tryz.ntmps117
    go_wp2_with (go_at_call 118; refine HC.out.mono ?_; rintro e w' ⟨rfl, rfl⟩)
    all_goals go_ret
    all_goals (refine ⟨ret_bool ?_, rfl⟩; simp_all)
end Go.Proofs.YtnnlpkbopeiefaaGreatDoor
