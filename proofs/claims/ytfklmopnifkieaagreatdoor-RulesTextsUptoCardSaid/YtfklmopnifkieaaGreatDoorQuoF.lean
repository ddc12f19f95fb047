import Derived.Test.YtfklmopnifkieaaGreatDoorQuoE
/-! The walks of scarfref03: hex, utf. -/
namespace Go.Proofs.YtfklmopnifkieaaGreatDoor
set_option linter.unusedSimpArgs false
set_option linter.unusedVariables false
open Go.RowKit
open Go.Lib hiding intOf

def hexI (r : Option Nat) : Int := match r with | some n => n | none => -1
theorem hexN_cases (c : UInt8) :
    (48 ≤ (c.toNat : Int) ∧ (c.toNat : Int) ≤ 57 ∧ hexN c = some (c.toNat - 48)) ∨
    (97 ≤ (c.toNat : Int) ∧ (c.toNat : Int) ≤ 102 ∧ hexN c = some (c.toNat - 97 + 10)) ∨
    (65 ≤ (c.toNat : Int) ∧ (c.toNat : Int) ≤ 70 ∧ hexN c = some (c.toNat - 65 + 10)) ∨
    (((c.toNat : Int) < 48 ∨ 57 < (c.toNat : Int) ∧ (c.toNat : Int) < 65 ∨ 70 < (c.toNat : Int) ∧ (c.toNat : Int) < 97 ∨ 102 < (c.toNat : Int)) ∧ hexN c = none) := by
  unfold hexN
  by_cases a : 48 ≤ c.toNat ∧ c.toNat ≤ 57
  · left; refine ⟨by omega, by omega, ?_⟩; rw [if_pos (by omega)] 
  by_cases b : 97 ≤ c.toNat ∧ c.toNat ≤ 102
  · right; left; refine ⟨by omega, by omega, ?_⟩; rw [if_neg (by omega), if_pos (by omega)]; congr 1; omega
  by_cases d : 65 ≤ c.toNat ∧ c.toNat ≤ 70
  · right; right; left; refine ⟨by omega, by omega, ?_⟩; rw [if_neg (by omega), if_neg (by omega), if_pos (by omega)]; congr 1; omega
  · right; right; right; refine ⟨by omega, ?_⟩; rw [if_neg (by omega), if_neg (by omega), if_neg (by omega)]
theorem take_step (s : ByteArray) (a k : Nat) (hk : k < 4) (h : a + k < s.size) :
    (s.data.toList.drop (a + k)).take (4 - k) = s[a + k] :: (s.data.toList.drop (a + (k + 1))).take (4 - (k + 1)) := by
  have hl : s.data.toList.length = s.size := rfl
  rw [List.drop_eq_getElem_cons (by rw [hl]; exact h), show 4 - k = (4 - (k + 1)) + 1 by omega, List.take_succ_cons]
  rfl
set_option maxHeartbeats 2000000 in
theorem hex_any (s : ByteArray) (a : Nat) (w : World) (ha : a ≤ 4294967296) (hs : s.size ≤ 4294967296) :
    Calls Tryz.prog 105 #[.string s, .int .i64 a] w fun e w' => e = .returned (.int .i64 (hexI (fourL (s.data.toList.drop a)))) ∧ Below w.heap.size w w' := by
  obtain ⟨R, hR⟩ : ∃ R, fourL (s.data.toList.drop a) = R := ⟨_, rfl⟩
  rw [hR]
  have hl : s.data.toList.length = s.size := rfl
  by_cases h4 : (s.size : Int) - 4 < (a : Int)
  · have : R = none := by rw [← hR]; unfold fourL; rw [if_pos (by rw [List.length_drop]; omega)]
    subst this
    clear hR
    go_enter Tryz.func105, Tryz.ntmps105
    go_wp2_with fail
    go_ret
    exact ⟨rfl, Below.refl _ _⟩
  have hle : a + 4 ≤ s.size := by omega
  have h0 : Hid (hexGo 0 ((s.data.toList.drop (a + 0)).take (4 - 0)) = R) := by
    rw [← hR]; unfold fourL; rw [if_neg (by rw [List.length_drop]; omega)]; exact Lib.hid rfl
  clear hR hl
  go_enter Tryz.func105, Tryz.ntmps105
  go_wp2_with fail
  go_loopw [5, 6] (fun n i wr => ∃ k acc : Nat, k ≤ 4 ∧ acc < 65536 ∧ Hid (acc < 16 ^ k) ∧ n = .int .i64 acc ∧ i = .int .i64 ((a + k : Nat) : Int) ∧ Hid (hexGo acc ((s.data.toList.drop (a + k)).take (4 - k)) = R) ∧ wr = w) (fun n i _ => a + 4 - (RowKit.intOf i).toNat)
  case atStart => exact ⟨0, 0, by omega, by omega, Lib.hid (by simp), rfl, rfl, h0, rfl⟩
  case round =>
    obtain ⟨k, acc, hk, hac, HA, rfl, rfl, HD, rfl⟩ := hrel
    by_cases hlt : k < 4
    · have hlt' : ((a + k : Nat) : Int) < (a : Int) + 4 := by omega
      have hin : a + k < s.size := by omega
      have hst := take_step s a k hlt hin
      have hc := hexN_cases (s[a + k]'hin)
      have hacc : acc < 4096 := by
        have := HA.out
        have h3 : 16 ^ k ≤ 16 ^ 3 := Nat.pow_le_pow_right (by omega) (by omega)
        omega
      have key : ∀ d : Nat, hexN (s[a + k]'hin) = some d → Hid (hexGo (16 * acc + d) ((s.data.toList.drop (a + (k + 1))).take (4 - (k + 1))) = R) ∧ Hid (16 * acc + d < 16 ^ (k + 1)) ∧ 16 * acc + d < 65536 := by
        intro d hd
        have h1 := HD.out
        rw [hst] at h1
        unfold hexGo at h1
        rw [hd] at h1
        have h2 := hexN_lt hd
        have h3 := HA.out
        exact ⟨Lib.hid h1, Lib.hid (by rw [Nat.pow_succ]; omega), by omega⟩
      rcases hc with ⟨c1, c2, hd⟩ | ⟨c1, c2, hd⟩ | ⟨c1, c2, hd⟩ | ⟨c1, hd⟩
      · have hK := Lib.hid (key _ hd)
        clear key hd hst HD
        go_wp2_with fail
        go_roundw
        case rel => exact ⟨k + 1, 16 * acc + ((s[a + k]'hin).toNat - 48), by omega, hK.out.2.2, hK.out.2.1, by congr 1 <;> omega, by congr 1 <;> omega, hK.out.1, by first | rfl | trivial⟩
        case measure => simp [RowKit.intOf]; omega
      · have hK := Lib.hid (key _ hd)
        clear key hd hst HD
        go_wp2_with fail
        go_roundw
        case rel => exact ⟨k + 1, 16 * acc + ((s[a + k]'hin).toNat - 97 + 10), by omega, hK.out.2.2, hK.out.2.1, by congr 1 <;> omega, by congr 1 <;> omega, hK.out.1, by first | rfl | trivial⟩
        case measure => simp [RowKit.intOf]; omega
      · have hK := Lib.hid (key _ hd)
        clear key hd hst HD
        go_wp2_with fail
        go_roundw
        case rel => exact ⟨k + 1, 16 * acc + ((s[a + k]'hin).toNat - 65 + 10), by omega, hK.out.2.2, hK.out.2.1, by congr 1 <;> omega, by congr 1 <;> omega, hK.out.1, by first | rfl | trivial⟩
        case measure => simp [RowKit.intOf]; omega
      · have hN : Hid (R = none) := by
          have h1 := HD.out
          rw [hst] at h1
          unfold hexGo at h1
          rw [hd] at h1
          exact Lib.hid h1.symm
        clear key hd hst HD
        have c255 : ((s[a + k]'hin).toNat : Int) ≤ 255 := by have := (s[a + k]'hin).toNat_lt; omega
        rcases c1 with c1 | ⟨c1, c2⟩ | ⟨c1, c2⟩ | c1
        all_goals
          go_wp2_with fail
          go_ret
          exact ⟨by rw [hN.out]; rfl, Below.refl _ _⟩
    · have hk4 : k = 4 := by omega
      subst hk4
      have hF : Hid (R = some acc) := by
        have := HD.out
        rw [show 4 - 4 = 0 from rfl, List.take_zero] at this
        exact Lib.hid this.symm
      clear HD
      go_wp2_with fail
      go_ret
      exact ⟨by rw [hF.out]; rfl, Below.refl _ _⟩
theorem utf_any (n : Int) (w : World) (h0 : 0 ≤ n ∧ n ≤ 1114111) :
    Calls Tryz.prog 106 #[.int .i64 n] w fun e w' => e = .returned (.string (Utf8.encode n)) ∧ Below w.heap.size w w' := by
  go_enter Tryz.func106, Tryz.ntmps106
  go_wp2_with fail
  go_ret
  exact ⟨rfl, Below.refl _ _⟩
end Go.Proofs.YtfklmopnifkieaaGreatDoor
