import Derived.Test.YtdegjfmjjabnnaaGreatDoorMkL1
import Derived.Deep.RegionHeld3
/-! The walk of the reference's Decimal at a natural number. -/
namespace Go.Proofs.YtdegjfmjjabnnaaGreatDoor
set_option linter.unusedSimpArgs false
set_option linter.unusedVariables false
open Go.RowKit
open Go.Lib hiding intOf

theorem digit_cut (m : Nat) (h : m < 10) : (⟨#[48, 49, 50, 51, 52, 53, 54, 55, 56, 57]⟩ : ByteArray).extract m (m + 1) = bs [UInt8.ofNat (48 + m)] := by
  rw [bs_extract]
  have : ∀ m : Fin 10, (List.take (m.val + 1 - m.val) (List.drop m.val (ByteArray.mk #[48, 49, 50, 51, 52, 53, 54, 55, 56, 57]).data.toList)) = [UInt8.ofNat (48 + m.val)] := by decide
  rw [this ⟨m, h⟩]
theorem decDigits_small (u : Nat) (h : u < 10) : Lib.decDigits u = [UInt8.ofNat (48 + u)] := by rw [Lib.decDigits, dif_pos h]
theorem decDigits_step (u : Nat) (h : 10 ≤ u) : Lib.decDigits u = Lib.decDigits (u / 10) ++ [UInt8.ofNat (48 + u % 10)] := by rw [Lib.decDigits, dif_neg (by omega)]
set_option maxHeartbeats 1000000 in
theorem decimal_pos (u : Nat) : ∀ (w : World), u ≤ 9223372036854775807 →
    Calls Tryz.prog 38 #[.int .i64 u] w fun e w' => e = .returned (.string (bs (Lib.decDigits u))) ∧ Below w.heap.size w w' := by
  induction u using Nat.strongRecOn with
  | _ u ih =>
    intro w hu
    by_cases h : u < 10
    · rw [decDigits_small u h, ← digit_cut u h]
      go_enter Tryz.func38, Tryz.ntmps38
      go_wp2_with fail
      go_ret
      exact ⟨rfl, Below.refl _ _⟩
    · rw [decDigits_step u (by omega), ← bs_append, ← digit_cut (u % 10) (by omega)]
      have IH0 := ih (u / 10) (by omega)
      clear ih
      have k1 : (u : Int).tdiv 10 = ((u / 10 : Nat) : Int) := by rw [Int.tdiv_eq_ediv_of_nonneg (by omega)]; omega
      have k2 : (u : Int) / 10 = ((u / 10 : Nat) : Int) := by omega
      have k3 : (u : Int).tmod 10 = ((u % 10 : Nat) : Int) := by rw [Int.tmod_eq_emod_of_nonneg (by omega)]; omega
      have k4 : (u : Int) % 10 = ((u % 10 : Nat) : Int) := by omega
      have hm : u % 10 < 10 := by omega
      have hq : u / 10 ≤ 922337203685477580 := by omega
      generalize u / 10 = q at *
      generalize u % 10 = m at *
      have w1 : IntKind.i64.wrap (q : Int) = q := IntWalk.i64_in _ (by omega)
      have w2 : IntKind.i64.wrap (m : Int) = m := IntWalk.i64_in _ (by omega)
      have w3 : IntKind.i64.wrap ((m : Int) + 1) = (m : Int) + 1 := IntWalk.i64_in _ (by omega)
      have t1 : ((m : Int) + 1).toNat = m + 1 := by omega
      have IH := Lib.hid (fun w => IH0 w (by omega))
      have hsl : ∀ wx, (Instr.slice 9 (.string ⟨#[48, 49, 50, 51, 52, 53, 54, 55, 56, 57]⟩) (some (.int .i64 (m : Int))) (some (.int .i64 ((m : Int) + 1))) none).run Tryz.prog wx = .ok (.string ((⟨#[48, 49, 50, 51, 52, 53, 54, 55, 56, 57]⟩ : ByteArray).extract m (m + 1))) wx := fun wx => by
        have := run_slice_string (P := Tryz.prog) wx 9 ⟨#[48, 49, 50, 51, 52, 53, 54, 55, 56, 57]⟩ .i64 .i64 (m : Int) ((m : Int) + 1) Tryz.underlying9 (by omega) (by omega) (by show (m : Int) + 1 ≤ ((10 : Nat) : Int); omega)
        simpa using this
      clear IH0
      have hD : (Lib.decDigits q).length ≤ 19 := decDigits_len q 19 (by omega) (by decide)
      have sE : ((⟨#[48, 49, 50, 51, 52, 53, 54, 55, 56, 57]⟩ : ByteArray).extract m (m + 1)).size = 1 := by rw [digit_cut m hm, bs_size]; rfl
      generalize (⟨#[48, 49, 50, 51, 52, 53, 54, 55, 56, 57]⟩ : ByteArray).extract m (m + 1) = E at *
      generalize Lib.decDigits q = D at *
      have sD := bs_size D
      have hn1 : ¬ 9223372036854775806 < D.length := by omega
      have hn2 : ¬ 9223372036854775807 < D.length + 1 := by omega
      have hn3 : ¬ 9223372036854775807 < (bs D).size + E.size := by omega
      go_enter Tryz.func38, Tryz.ntmps38
      go_wp2_with fail
      go_region_held3 (fun w' => Hid (Below w.heap.size w w')) ((first | exact (Below.refl _ _).drew | exact below_of_new (Hid.out (by assumption)) (by assumption) | assumption))
        (first
        | (go_at_call 38; refine (IH.out _).mono ?_; rintro e w1 ⟨rfl, hb1⟩))
      all_goals rename_i hH
      all_goals go_wp2_with fail
      all_goals go_ret
      all_goals exact ⟨rfl, hH.out⟩
end Go.Proofs.YtdegjfmjjabnnaaGreatDoor
