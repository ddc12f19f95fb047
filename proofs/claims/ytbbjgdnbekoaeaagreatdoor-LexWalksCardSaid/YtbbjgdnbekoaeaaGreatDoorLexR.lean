import Derived.Test.YtbbjgdnbekoaeaaGreatDoorLexA
import Derived.Test.YtbbjgdnbekoaeaaGreatDoorSm
/-! The walks of scarfref04: among, run. -/
namespace Go.Proofs.YtbbjgdnbekoaeaaGreatDoor
set_option linter.unusedSimpArgs false
set_option linter.unusedVariables false
open Go.RowKit
open Go.Lib hiding intOf

theorem refAmong_any (c : UInt8) (A : List UInt8) (w : World) (hA : A.length ≤ 1024) :
    Calls Tryz.prog 44 #[.int .u8 (c.toNat : Int), .string (bs A)] w fun e w' => e = .returned (.bool (A.contains c)) ∧ w = w' := by
  have sA := bs_size A
  obtain ⟨R, hR⟩ : ∃ R, A.contains c = R := ⟨_, rfl⟩
  rw [hR]
  have HR := Lib.hid hR; clear hR
  obtain ⟨n, hn⟩ : ∃ n : Int, (c.toNat : Int) = n := ⟨_, rfl⟩
  have HN := Lib.hid hn
  rw [hn]
  clear hn
  go_enter Tryz.func44, Tryz.ntmps44
  go_wp2_with fail
  go_loop [5] (fun s5 => ∃ k : Nat, s5 = .int .i64 k ∧ k ≤ A.length ∧ Hid (∀ j, j < k → A[j]? ≠ some c)) (fun s5 => A.length - (RowKit.intOf s5).toNat)
  case atStart => exact ⟨0, rfl, by omega, Lib.hid (fun j hj => by omega)⟩
  case round =>
    obtain ⟨k, rfl, hk, HK⟩ := hrel
    by_cases hlt : k < A.length
    · have hlt' : k < (bs A).size := by omega
      have hb := at_bs A k hlt'
      have T1 := byte_eq ((bs A)[k]'hlt') c _ rfl
      rw [HN.out] at T1
      by_cases he : (bs A)[k]'hlt' = c
      · have HF : Hid (R = true) := Lib.hid (by rw [← HR.out]; exact List.contains_iff_mem.2 (List.mem_of_getElem? (by rw [hb, he])))
        rw [show ((bs A)[k]'hlt' == c) = true from beq_iff_eq.2 he] at T1
        clear he hb HK
        go_wp2_with fail
        go_ret
        exact ⟨ret_bool HF.out.symm, rfl⟩
      · have HK2 : Hid (∀ j, j < k + 1 → A[j]? ≠ some c) := Lib.hid (fun j hj => by
          by_cases h : j < k
          · exact HK.out j h
          · obtain rfl : j = k := by omega
            rw [hb]; exact fun h => he (Option.some.inj h))
        rw [show ((bs A)[k]'hlt' == c) = false from beq_eq_false_iff_ne.2 he] at T1
        clear he hb HK
        go_wp2_with fail
        go_round
        case rel => exact ⟨k + 1, by go_num, by omega, HK2.out⟩
        case measure => simp [RowKit.intOf]; omega
    · have HF : Hid (R = false) := Lib.hid (by
        rw [← HR.out]
        cases hc : A.contains c with
        | false => rfl
        | true =>
          obtain ⟨j, hj⟩ := List.getElem?_of_mem (List.contains_iff_mem.1 hc)
          exact absurd hj (HK.out j (by have := (List.getElem?_eq_some_iff.1 hj).1; omega)))
      go_wp2_with fail
      go_ret
      exact ⟨ret_bool HF.out.symm, rfl⟩
set_option maxHeartbeats 1000000 in
theorem refRun_any (l : List UInt8) (a : Nat) (A : List UInt8) (p : UInt8 → Bool) (hp : ∀ b, A.contains b = p b) (w : World) (hs : l.length ≤ 1073741824) (ha : a ≤ l.length) (hA : A.length ≤ 1024) :
    Calls Tryz.prog 45 #[.string (bs l), .int .i64 a, .string (bs A)] w fun e w' => e = .returned (.int .i64 ((a + runL p (l.drop a) : Nat) : Int)) ∧ w = w' := by
  have sl := bs_size l
  obtain ⟨R, hR⟩ : ∃ R, a + runL p (l.drop a) = R := ⟨_, rfl⟩
  rw [hR]
  have HR := Lib.hid hR; clear hR
  have CA : Hid (∀ b : UInt8, Calls Tryz.prog 44 #[.int .u8 (b.toNat : Int), .string (bs A)] w fun e w' => e = .returned (.bool (p b)) ∧ w = w') := Lib.hid (fun b => by rw [← hp b]; exact refAmong_any b A w hA)
  clear hp
  go_enter Tryz.func45, Tryz.ntmps45
  go_wp2_with fail
  go_loop [1] (fun s1 => ∃ k : Nat, s1 = .int .i64 k ∧ k ≤ l.length ∧ Hid (R = k + runL p (l.drop k))) (fun s1 => l.length - (RowKit.intOf s1).toNat)
  case atStart => exact ⟨a, rfl, ha, Lib.hid HR.out.symm⟩
  case round =>
    obtain ⟨k, rfl, hk, HG⟩ := hrel
    by_cases hlt : k < l.length
    · have hlt' : k < (bs l).size := by omega
      have hge : (bs l)[k]'hlt' = l[k]'hlt := by
        have := at_bs l k hlt'
        rw [List.getElem?_eq_getElem hlt] at this
        exact (Option.some.inj this).symm
      have hg := HG.out
      rw [List.drop_eq_getElem_cons hlt, runL_cons, ← hge] at hg
      have CC := Lib.hid (CA.out ((bs l)[k]'hlt'))
      cases hpk : p ((bs l)[k]'hlt') with
      | true =>
        rw [hpk] at CC
        rw [hpk, if_pos rfl] at hg
        have HG2 : Hid (R = (k + 1) + runL p (l.drop (k + 1))) := Lib.hid (by omega)
        clear hpk hg hge HG
        go_wp2_with (go_at_call 44; (with_reducible refine CC.out.mono ?_); rintro e w' ⟨rfl, rfl⟩)
        go_round
        case rel => exact ⟨k + 1, by go_num, by omega, HG2.out⟩
        case measure => simp [RowKit.intOf]; omega
      | false =>
        rw [hpk] at CC
        rw [hpk, if_neg (by simp)] at hg
        have HF : Hid (R = k) := Lib.hid (by omega)
        clear hpk hg hge HG
        go_wp2_with (go_at_call 44; (with_reducible refine CC.out.mono ?_); rintro e w' ⟨rfl, rfl⟩)
        go_ret
        exact ⟨ret_int (by rw [HF.out]), rfl⟩
    · have HF : Hid (R = l.length) := by
        have hg := HG.out
        rw [List.drop_of_length_le (by omega)] at hg
        exact Lib.hid (by rw [hg]; show k + 0 = _; omega)
      clear HG
      go_wp2_with fail
      go_ret
      exact ⟨ret_int (by rw [HF.out]; omega), rfl⟩
end Go.Proofs.YtbbjgdnbekoaeaaGreatDoor
