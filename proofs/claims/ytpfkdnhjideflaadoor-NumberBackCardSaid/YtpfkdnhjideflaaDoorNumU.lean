import Derived.Test.YtpfkdnhjideflaaDoorNumQ
/-! The walk of the reference's Decimal, Text. -/
namespace Go.Proofs.YtpfkdnhjideflaaDoor
set_option linter.unusedSimpArgs false
set_option linter.unusedVariables false
open Go.RowKit
open Go.Lib hiding intOf

theorem digit_cut (m : Nat) (h : m < 10) : (⟨#[48, 49, 50, 51, 52, 53, 54, 55, 56, 57]⟩ : ByteArray).extract m (m + 1) = bs [UInt8.ofNat (48 + m)] := by
  rw [bs_extract]
  have : ∀ m : Fin 10, (List.take (m.val + 1 - m.val) (List.drop m.val (ByteArray.mk #[48, 49, 50, 51, 52, 53, 54, 55, 56, 57]).data.toList)) = [UInt8.ofNat (48 + m.val)] := by decide
  rw [this ⟨m, h⟩]
theorem decDigits_small (u : Nat) (h : u < 10) : Lib.decDigits u = [UInt8.ofNat (48 + u)] := by rw [Lib.decDigits, dif_pos h]
theorem decDigits_step (u : Nat) (h : 10 ≤ u) : Lib.decDigits u = Lib.decDigits (u / 10) ++ [UInt8.ofNat (48 + u % 10)] := by rw [Lib.decDigits, dif_neg (by omega)]
set_option maxHeartbeats 1000000 in
theorem decimal_pos (u : Nat) : ∀ (w : World), u ≤ 9223372036854775807 →
    Calls Tryd.prog 22 #[.int .i64 u] w fun e w' => e = .returned (.string (bs (Lib.decDigits u))) ∧ Below w.heap.size w w' := by
  induction u using Nat.strongRecOn with
  | _ u ih =>
    intro w hu
    by_cases h : u < 10
    · rw [decDigits_small u h, ← digit_cut u h]
      go_enter Tryd.func22, Tryd.ntmps22
      go_wp2_with fail
      go_ret
      exact ⟨rfl, Below.refl _ _⟩
    · rw [decDigits_step u (by omega), ← bs_append, ← digit_cut (u % 10) (by omega)]
      have IH0 := ih (u / 10) (by omega)
      clear ih
      have k1 : (u : Int).tdiv 10 = ((u / 10 : Nat) : Int) := by rw [Int.tdiv_eq_ediv_of_nonneg (by omega)]; omega
      have k2 : (u : Int) / 10 = ((u / 10 : Nat) : Int) := by omega
      have k3 : (u : Int).tmod 10 = ((u % 10 : Nat) : Int) := by rw [Int.tmod_eq_emod_of_nonneg (by omega)]; omega
      have k4 : (u : Int) % 10 = ((u % 10 : Nat) : Int) := by omega
      have hm : u % 10 < 10 := by omega
      have hq : u / 10 ≤ 922337203685477580 := by omega
      generalize u / 10 = q at *
      generalize u % 10 = m at *
      have w1 : IntKind.i64.wrap (q : Int) = q := IntWalk.i64_in _ (by omega)
      have w2 : IntKind.i64.wrap (m : Int) = m := IntWalk.i64_in _ (by omega)
      have w3 : IntKind.i64.wrap ((m : Int) + 1) = (m : Int) + 1 := IntWalk.i64_in _ (by omega)
      have t1 : ((m : Int) + 1).toNat = m + 1 := by omega
      have IH := Lib.hid (fun w => IH0 w (by omega))
      have hsl : ∀ wx, (Instr.slice 9 (.string ⟨#[48, 49, 50, 51, 52, 53, 54, 55, 56, 57]⟩) (some (.int .i64 (m : Int))) (some (.int .i64 ((m : Int) + 1))) none).run Tryd.prog wx = .ok (.string ((⟨#[48, 49, 50, 51, 52, 53, 54, 55, 56, 57]⟩ : ByteArray).extract m (m + 1))) wx := fun wx => by
        have := run_slice_string (P := Tryd.prog) wx 9 ⟨#[48, 49, 50, 51, 52, 53, 54, 55, 56, 57]⟩ .i64 .i64 (m : Int) ((m : Int) + 1) Tryd.underlying9 (by omega) (by omega) (by show (m : Int) + 1 ≤ ((10 : Nat) : Int); omega)
        simpa using this
      clear IH0
      have hD : (Lib.decDigits q).length ≤ 19 := decDigits_len q 19 (by omega) (by decide)
      have sE : ((⟨#[48, 49, 50, 51, 52, 53, 54, 55, 56, 57]⟩ : ByteArray).extract m (m + 1)).size = 1 := by rw [digit_cut m hm, bs_size]; rfl
      generalize (⟨#[48, 49, 50, 51, 52, 53, 54, 55, 56, 57]⟩ : ByteArray).extract m (m + 1) = E at *
      generalize Lib.decDigits q = D at *
      have sD := bs_size D
      have hn1 : ¬ 9223372036854775806 < D.length := by omega
      have hn2 : ¬ 9223372036854775807 < D.length + 1 := by omega
      have hn3 : ¬ 9223372036854775807 < (bs D).size + E.size := by omega
      go_enter Tryd.func22, Tryd.ntmps22
      go_wp2_with fail
      go_region_held3 (fun w' => Hid (Below w.heap.size w w')) ((first | exact (Below.refl _ _).drew | exact below_of_new (Hid.out (by assumption)) (by assumption) | assumption))
        (first
        | (go_at_call 22; refine (IH.out _).mono ?_; rintro e w1 ⟨rfl, hb1⟩))
      all_goals rename_i hH
      all_goals go_wp2_with fail
      all_goals go_ret
      all_goals exact ⟨rfl, hH.out⟩
set_option maxHeartbeats 1000000 in
theorem decimal_neg (u : Nat) : ∀ (w : World), 1 ≤ u → u ≤ 9223372036854775808 →
    Calls Tryd.prog 22 #[.int .i64 (-(u : Int))] w fun e w' => e = .returned (.string (bs (45 :: Lib.decDigits u))) ∧ Below w.heap.size w w' := by
  induction u using Nat.strongRecOn with
  | _ u ih =>
    intro w h1 hu
    obtain ⟨N, hN⟩ : ∃ N, -(u : Int) = N := ⟨_, rfl⟩
    have hn0 : N < 0 := by omega
    rw [hN]
    by_cases h : u < 10
    · rw [decDigits_small u h, ← bs_cons, ← digit_cut u h]
      have k1 : -N = (u : Int) := by omega
      have hlo : -10 < N := by omega
      have w1 : IntKind.i64.wrap (-N) = -N := IntWalk.i64_in _ (by omega)
      have K1 := Lib.hid k1
      have t1 : (-N).toNat = u := by omega
      have t2 : (-N + 1).toNat = u + 1 := by omega
      have hsl : ∀ wx, (Instr.slice 9 (.string ⟨#[48, 49, 50, 51, 52, 53, 54, 55, 56, 57]⟩) (some (.int .i64 (-N))) (some (.int .i64 (-N + 1))) none).run Tryd.prog wx = .ok (.string ((⟨#[48, 49, 50, 51, 52, 53, 54, 55, 56, 57]⟩ : ByteArray).extract u (u + 1))) wx := fun wx => by
        have := run_slice_string (P := Tryd.prog) wx 9 ⟨#[48, 49, 50, 51, 52, 53, 54, 55, 56, 57]⟩ .i64 .i64 (-N) (-N + 1) Tryd.underlying9 (by omega) (by omega) (by show -N + 1 ≤ ((10 : Nat) : Int); omega)
        rw [t1, t2] at this
        exact this
      have sE : ((⟨#[48, 49, 50, 51, 52, 53, 54, 55, 56, 57]⟩ : ByteArray).extract u (u + 1)).size = 1 := by rw [digit_cut u h, bs_size]; rfl
      generalize (⟨#[48, 49, 50, 51, 52, 53, 54, 55, 56, 57]⟩ : ByteArray).extract u (u + 1) = E at *
      clear hN k1 t1 t2 ih
      go_enter Tryd.func22, Tryd.ntmps22
      go_wp2_with fail
      go_ret
      exact ⟨rfl, Below.refl _ _⟩
    · rw [decDigits_step u (by omega), show (45 : UInt8) :: (Lib.decDigits (u / 10) ++ [UInt8.ofNat (48 + u % 10)]) = (45 :: Lib.decDigits (u / 10)) ++ [UInt8.ofNat (48 + u % 10)] from rfl, ← bs_append, ← digit_cut (u % 10) (by omega)]
      have IH0 := ih (u / 10) (by omega)
      clear ih
      have k1 : N.tdiv 10 = -((u / 10 : Nat) : Int) := by rw [← hN, Int.neg_tdiv, Int.tdiv_eq_ediv_of_nonneg (by omega)]; omega
      have k3 : N.tmod 10 = -((u % 10 : Nat) : Int) := by rw [← hN, Int.neg_tmod, Int.tmod_eq_emod_of_nonneg (by omega)]; omega
      have hm : u % 10 < 10 := by omega
      have hq : u / 10 ≤ 922337203685477580 ∧ 1 ≤ u / 10 := by omega
      have hlo : ¬ -10 < N := by omega
      generalize u / 10 = q at *
      generalize u % 10 = m at *
      obtain ⟨Q, hQ⟩ : ∃ Q, -(q : Int) = Q := ⟨_, rfl⟩
      obtain ⟨M, hM⟩ : ∃ M, -(m : Int) = M := ⟨_, rfl⟩
      rw [hQ] at k1
      rw [hM] at k3
      have w1 : IntKind.i64.wrap Q = Q := IntWalk.i64_in _ (by omega)
      have w2 : IntKind.i64.wrap M = M := IntWalk.i64_in _ (by omega)
      have w3 : IntKind.i64.wrap (-M) = -M := IntWalk.i64_in _ (by omega)
      have w4 : IntKind.i64.wrap (-M + 1) = -M + 1 := IntWalk.i64_in _ (by omega)
      have IH : Hid (∀ w, Calls Tryd.prog 22 #[.int .i64 Q] w fun e w' => e = .returned (.string (bs (45 :: Lib.decDigits q))) ∧ Below w.heap.size w w') :=
        Lib.hid (fun w => by rw [← hQ]; exact IH0 w hq.2 (by omega))
      have hsl : ∀ wx, (Instr.slice 9 (.string ⟨#[48, 49, 50, 51, 52, 53, 54, 55, 56, 57]⟩) (some (.int .i64 (-M))) (some (.int .i64 (-M + 1))) none).run Tryd.prog wx = .ok (.string ((⟨#[48, 49, 50, 51, 52, 53, 54, 55, 56, 57]⟩ : ByteArray).extract m (m + 1))) wx := fun wx => by
        have := run_slice_string (P := Tryd.prog) wx 9 ⟨#[48, 49, 50, 51, 52, 53, 54, 55, 56, 57]⟩ .i64 .i64 (-M) (-M + 1) Tryd.underlying9 (by omega) (by omega) (by show -M + 1 ≤ ((10 : Nat) : Int); omega)
        rw [show (-M).toNat = m by omega, show (-M + 1).toNat = m + 1 by omega] at this
        exact this
      clear IH0 hN hM hQ
      have hD : (Lib.decDigits q).length ≤ 19 := decDigits_len q 19 (by omega) (by decide)
      have sE : ((⟨#[48, 49, 50, 51, 52, 53, 54, 55, 56, 57]⟩ : ByteArray).extract m (m + 1)).size = 1 := by rw [digit_cut m hm, bs_size]; rfl
      have hDl : (45 :: Lib.decDigits q).length = (Lib.decDigits q).length + 1 := rfl
      generalize (⟨#[48, 49, 50, 51, 52, 53, 54, 55, 56, 57]⟩ : ByteArray).extract m (m + 1) = E at *
      generalize (45 :: Lib.decDigits q) = D at *
      have sD := bs_size D
      have hD2 : D.length ≤ 20 := by omega
      clear hDl hD
      have hn1 : ¬ 9223372036854775806 < D.length := by omega
      have hn2 : ¬ 9223372036854775807 < D.length + 1 := by omega
      have hn3 : ¬ 9223372036854775807 < (bs D).size + E.size := by omega
      go_enter Tryd.func22, Tryd.ntmps22
      go_wp2_with fail
      go_region_held3 (fun w' => Hid (Below w.heap.size w w')) ((first | exact (Below.refl _ _).drew | exact below_of_new (Hid.out (by assumption)) (by assumption) | assumption))
        (first
        | (go_at_call 22; refine (IH.out _).mono ?_; rintro e w1 ⟨rfl, hb1⟩))
      all_goals rename_i hH
      all_goals go_wp2_with fail
      all_goals go_ret
      all_goals exact ⟨rfl, hH.out⟩
theorem decimal_any (n : Int) (w : World) (h : -9223372036854775808 ≤ n ∧ n ≤ 9223372036854775807) :
    Calls Tryd.prog 22 #[.int .i64 n] w fun e w' => e = .returned (.string (bs (Lib.itoa n))) ∧ Below w.heap.size w w' := by
  unfold Lib.itoa
  by_cases hn : n < 0
  · rw [if_pos hn]
    have := decimal_neg n.natAbs w (by omega) (by omega)
    rw [show -(n.natAbs : Int) = n by omega] at this
    exact this
  · rw [if_neg hn]
    have := decimal_pos n.toNat w (by omega)
    rw [show (n.toNat : Int) = n by omega] at this
    exact this
end Go.Proofs.YtpfkdnhjideflaaDoor
