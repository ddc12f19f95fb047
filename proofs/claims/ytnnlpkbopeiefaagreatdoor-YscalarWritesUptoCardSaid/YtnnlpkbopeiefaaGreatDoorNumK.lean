import Derived.Test.YtnnlpkbopeiefaaGreatDoorNumKd
import Derived.Test.YtnnlpkbopeiefaaGreatDoorNumF
import Derived.Deep.RegionHeld3
/-! The walks of scarfref02: digits, nought, Right. -/
namespace Go.Proofs.YtnnlpkbopeiefaaGreatDoor
set_option linter.unusedSimpArgs false
set_option linter.unusedVariables false
open Go.RowKit
open Go.Lib hiding intOf
theorem refNought_any (neg : Bool) (d : ByteArray) (e : Int) (w : World) :
    Calls Tryz.prog 143 #[.agg #[.bool neg, .string d, .int .i64 e]] w fun en w' => en = .returned (.bool (decide ((⟨neg, d.data.toList, e⟩ : Num) = nought))) ∧ Below w.heap.size w w' := by
  obtain ⟨R, hR⟩ : ∃ R, decide ((⟨neg, d.data.toList, e⟩ : Num) = nought) = R := ⟨_, rfl⟩
  rw [hR]
  have HR := Lib.hid hR; clear hR
  go_enter Tryz.func143, Tryz.ntmps143
  go_wp2_with fail
  all_goals go_ret
  all_goals refine ⟨ret_bool ?_, (Below.refl _ _).alloc (Nat.le_refl _) _⟩
  all_goals rw [← HR.out]
  all_goals clear HR
  all_goals try simp only [Lib.toList_data] at *
  all_goals first
    | (symm; apply decide_eq_true; simp_all [nought])
    | (symm; apply decide_eq_false; simp_all [nought])
end Go.Proofs.YtnnlpkbopeiefaaGreatDoor
/-! The walks of scarfref02: Right. -/
namespace Go.Proofs.YtnnlpkbopeiefaaGreatDoor
set_option linter.unusedSimpArgs false
set_option linter.unusedVariables false
open Go.RowKit
open Go.Lib hiding intOf
theorem rightB_of {n : Num} : rightB n = (decide (n = nought) || decide (rightP n)) := by
  unfold rightB; by_cases h1 : n = nought <;> by_cases h2 : rightP n <;> simp [h1, h2]
set_option maxHeartbeats 2000000 in
theorem refRight_any (neg : Bool) (d : ByteArray) (e : Int) (w : World) (hd : d.size ≤ 4294967296) :
    Calls Tryz.prog 142 #[.agg #[.bool neg, .string d, .int .i64 e]] w fun en w' => en = .returned (.bool (rightB ⟨neg, d.data.toList, e⟩)) ∧ Below w.heap.size w w' := by
  have hl : d.data.toList.length = d.size := rfl
  obtain ⟨N, hN⟩ : ∃ N, decide ((⟨neg, d.data.toList, e⟩ : Num) = nought) = N := ⟨_, rfl⟩
  have CN := Lib.hid (show ∀ w, Calls Tryz.prog 143 #[.agg #[.bool neg, .string d, .int .i64 e]] w fun en w' => en = .returned (.bool N) ∧ Below w.heap.size w w' from fun w => hN ▸ refNought_any neg d e w)
  have hB := rightB_of (n := ⟨neg, d.data.toList, e⟩)
  rw [hN] at hB
  clear hN
  generalize rightB ⟨neg, d.data.toList, e⟩ = R at *
  cases N with
  | true =>
    rw [Bool.true_or] at hB
    subst hB
    go_enter Tryz.func142, Tryz.ntmps142
    go_wp2_with fail
    refine (CN.out _).mono ?_
    rintro en w1 ⟨rfl, hb1⟩
    go_wp2_with fail
    all_goals go_ret
    all_goals exact ⟨rfl, ((Below.refl _ _).alloc (Nat.le_refl _) _).trans (hb1.mono (by simp))⟩
  | false =>
    rw [Bool.false_or] at hB
    cases hD : allDig d.data.toList with
    | false =>
      obtain rfl : R = false := hB.trans (decide_eq_false (fun h => by have := h.1; simp only [] at this; rw [hD] at this; cases this))
      have HC := Lib.hid (fun w => refDigits_is d w false hd hD)
      clear hD hB
      go_enter Tryz.func142, Tryz.ntmps142
      go_wp2_with fail
      refine (CN.out _).mono ?_
      rintro en w1 ⟨rfl, hb1⟩
      obtain ⟨hc1, hf1⟩ := bcell hb1
      go_wp2_with fail
      refine (HC.out _).mono ?_
      rintro en w2 ⟨rfl, hb2⟩
      have HB := Lib.hid ((((Below.refl _ _).alloc (Nat.le_refl _) _).trans (hb1.mono (by simp))).trans (hb2.mono (by have := hb1.size; simp at this; omega)))
      have hz1 : w.heap.size < w1.heap.size := by have := hb1.size; simp at this; omega
      obtain ⟨hc2, hf2⟩ := bcell hb2
      clear hb1 hb2
      go_wp2_with fail
      all_goals go_ret
      all_goals exact ⟨rfl, HB.out⟩
    | true =>
      have h0 : 0 < d.size := by
        have := (allDig_ne hD).1
        rcases Nat.eq_zero_or_pos d.size with h | h
        · exact absurd (List.eq_nil_of_length_eq_zero (by omega)) this
        · exact h
      have HC := Lib.hid (fun w => refDigits_is d w true hd hD)
      have hlast : d.size - 1 < d.size := by omega
      have e1 := head_at d h0
      have e2 := last_at d hlast
      have b1 := is48 (d[0]'h0)
      have b2 := is48 (d[d.size - 1]'hlast)
      have RP : rightP ⟨neg, d.data.toList, e⟩ ↔ d.size ≤ 1000 ∧ ¬ (d[0]'h0) = 48 ∧ ¬ (d[d.size - 1]'hlast) = 48 ∧ -1000000 ≤ e ∧ e ≤ 1000000 := by
        unfold rightP
        simp only [hD, hl, e1, e2, true_and, ne_eq, Option.some.injEq]
      have n1 : (((d[0]'h0).toNat : Int) != 48) = !(((d[0]'h0).toNat : Int) == 48) := rfl
      have n2 : (((d[d.size - 1]'hlast).toNat : Int) != 48) = !(((d[d.size - 1]'hlast).toNat : Int) == 48) := rfl
      have hB2 : R = (decide (d.size ≤ 1000) && (!decide ((d[0]'h0) = 48) && (!decide ((d[d.size - 1]'hlast) = 48) && (decide (-1000000 ≤ e) && decide (e ≤ 1000000))))) := by
        rw [hB]
        refine Bool.eq_iff_iff.2 ?_
        simp only [Bool.and_eq_true, decide_eq_true_eq, Bool.not_eq_true', decide_eq_false_iff_not]
        exact RP
      clear hD e1 e2 RP hB
      rw [b1] at n1
      rw [b2] at n2
      generalize decide ((d[0]'h0) = 48) = X1 at *
      generalize decide ((d[d.size - 1]'hlast) = 48) = X2 at *
      have HR := Lib.hid hB2; clear hB2
      have hc : 1000 < d.size ∨ (d.size ≤ 1000 ∧ X1 = true) ∨ (d.size ≤ 1000 ∧ X1 = false ∧ X2 = true) ∨ (d.size ≤ 1000 ∧ X1 = false ∧ X2 = false) := by
        rcases Nat.lt_or_ge 1000 d.size with h | h
        · exact .inl h
        · cases X1 <;> cases X2 <;> simp [h]
      rcases hc with c1 | ⟨c1, rfl⟩ | ⟨c1, rfl, rfl⟩ | ⟨c1, rfl, rfl⟩
      all_goals
        go_enter Tryz.func142, Tryz.ntmps142
        go_wp2_with fail
        refine (CN.out _).mono ?_
        rintro en w1 ⟨rfl, hb1⟩
        obtain ⟨hc1, hf1⟩ := bcell hb1
        go_wp2_with fail
        refine (HC.out _).mono ?_
        rintro en w2 ⟨rfl, hb2⟩
        have HB := Lib.hid ((((Below.refl _ _).alloc (Nat.le_refl _) _).trans (hb1.mono (by simp))).trans (hb2.mono (by have := hb1.size; simp at this; omega)))
        have hz1 : w.heap.size < w1.heap.size := by have := hb1.size; simp at this; omega
        obtain ⟨hc2, hf2⟩ := bcell hb2
        clear hb1 hb2
        go_wp2_with fail
        all_goals go_ret
        all_goals refine ⟨ret_bool ?_, HB.out⟩
        all_goals rw [HR.out]
        all_goals first
          | (simp; omega)
          | (simp [c1]; done)
          | (simp [c1]; omega)
          | (rename_i h; simp [c1, h]; done)
          | (rename_i h; simp [c1, h]; omega)
end Go.Proofs.YtnnlpkbopeiefaaGreatDoor
/-! The walk of the reference's Decimal, Text. -/
namespace Go.Proofs.YtnnlpkbopeiefaaGreatDoor
set_option linter.unusedSimpArgs false
set_option linter.unusedVariables false
open Go.RowKit
open Go.Lib hiding intOf
theorem digit_cut (m : Nat) (h : m < 10) : (⟨#[48, 49, 50, 51, 52, 53, 54, 55, 56, 57]⟩ : ByteArray).extract m (m + 1) = bs [UInt8.ofNat (48 + m)] := by
  rw [bs_extract]
  have : ∀ m : Fin 10, (List.take (m.val + 1 - m.val) (List.drop m.val (ByteArray.mk #[48, 49, 50, 51, 52, 53, 54, 55, 56, 57]).data.toList)) = [UInt8.ofNat (48 + m.val)] := by decide
  rw [this ⟨m, h⟩]
theorem decDigits_small (u : Nat) (h : u < 10) : Lib.decDigits u = [UInt8.ofNat (48 + u)] := by rw [Lib.decDigits, dif_pos h]
theorem decDigits_step (u : Nat) (h : 10 ≤ u) : Lib.decDigits u = Lib.decDigits (u / 10) ++ [UInt8.ofNat (48 + u % 10)] := by rw [Lib.decDigits, dif_neg (by omega)]
set_option maxHeartbeats 1000000 in
theorem decimal_pos (u : Nat) : ∀ (w : World), u ≤ 9223372036854775807 →
    Calls Tryz.prog 144 #[.int .i64 u] w fun e w' => e = .returned (.string (bs (Lib.decDigits u))) ∧ Below w.heap.size w w' := by
  induction u using Nat.strongRecOn with
  | _ u ih =>
    intro w hu
    by_cases h : u < 10
    · rw [decDigits_small u h, ← digit_cut u h]
      go_enter Tryz.func144, Tryz.ntmps144
      go_wp2_with fail
      go_ret
      exact ⟨rfl, Below.refl _ _⟩
    · rw [decDigits_step u (by omega), ← bs_append, ← digit_cut (u % 10) (by omega)]
      have IH0 := ih (u / 10) (by omega)
      clear ih
      have k1 : (u : Int).tdiv 10 = ((u / 10 : Nat) : Int) := by rw [Int.tdiv_eq_ediv_of_nonneg (by omega)]; omega
      have k2 : (u : Int) / 10 = ((u / 10 : Nat) : Int) := by omega
      have k3 : (u : Int).tmod 10 = ((u % 10 : Nat) : Int) := by rw [Int.tmod_eq_emod_of_nonneg (by omega)]; omega
      have k4 : (u : Int) % 10 = ((u % 10 : Nat) : Int) := by omega
      have hm : u % 10 < 10 := by omega
      have hq : u / 10 ≤ 922337203685477580 := by omega
      generalize u / 10 = q at *
      generalize u % 10 = m at *
      have w1 : IntKind.i64.wrap (q : Int) = q := IntWalk.i64_in _ (by omega)
      have w2 : IntKind.i64.wrap (m : Int) = m := IntWalk.i64_in _ (by omega)
      have w3 : IntKind.i64.wrap ((m : Int) + 1) = (m : Int) + 1 := IntWalk.i64_in _ (by omega)
      have t1 : ((m : Int) + 1).toNat = m + 1 := by omega
      have IH := Lib.hid (fun w => IH0 w (by omega))
      have hsl : ∀ wx, (Instr.slice 9 (.string ⟨#[48, 49, 50, 51, 52, 53, 54, 55, 56, 57]⟩) (some (.int .i64 (m : Int))) (some (.int .i64 ((m : Int) + 1))) none).run Tryz.prog wx = .ok (.string ((⟨#[48, 49, 50, 51, 52, 53, 54, 55, 56, 57]⟩ : ByteArray).extract m (m + 1))) wx := fun wx => by
        have := run_slice_string (P := Tryz.prog) wx 9 ⟨#[48, 49, 50, 51, 52, 53, 54, 55, 56, 57]⟩ .i64 .i64 (m : Int) ((m : Int) + 1) Tryz.underlying9 (by omega) (by omega) (by show (m : Int) + 1 ≤ ((10 : Nat) : Int); omega)
        simpa using this
      clear IH0
      have hD : (Lib.decDigits q).length ≤ 19 := decDigits_len q 19 (by omega) (by decide)
      have sE : ((⟨#[48, 49, 50, 51, 52, 53, 54, 55, 56, 57]⟩ : ByteArray).extract m (m + 1)).size = 1 := by rw [digit_cut m hm, bs_size]; rfl
      generalize (⟨#[48, 49, 50, 51, 52, 53, 54, 55, 56, 57]⟩ : ByteArray).extract m (m + 1) = E at *
      generalize Lib.decDigits q = D at *
      have sD := bs_size D
      have hn1 : ¬ 9223372036854775806 < D.length := by omega
      have hn2 : ¬ 9223372036854775807 < D.length + 1 := by omega
      have hn3 : ¬ 9223372036854775807 < (bs D).size + E.size := by omega
      go_enter Tryz.func144, Tryz.ntmps144
      go_wp2_with fail
      go_region_held3 (fun w' => Hid (Below w.heap.size w w')) ((first | exact (Below.refl _ _).drew | exact below_of_new (Hid.out (by assumption)) (by assumption) | assumption))
        (first
        | (go_at_call 144; refine (IH.out _).mono ?_; rintro e w1 ⟨rfl, hb1⟩))
      all_goals rename_i hH
      all_goals go_wp2_with fail
      all_goals go_ret
      all_goals exact ⟨rfl, hH.out⟩
set_option maxHeartbeats 1000000 in
theorem decimal_neg (u : Nat) : ∀ (w : World), 1 ≤ u → u ≤ 9223372036854775808 →
    Calls Tryz.prog 144 #[.int .i64 (-(u : Int))] w fun e w' => e = .returned (.string (bs (45 :: Lib.decDigits u))) ∧ Below w.heap.size w w' := by
  induction u using Nat.strongRecOn with
  | _ u ih =>
    intro w h1 hu
    obtain ⟨N, hN⟩ : ∃ N, -(u : Int) = N := ⟨_, rfl⟩
    have hn0 : N < 0 := by omega
    rw [hN]
    by_cases h : u < 10
    · rw [decDigits_small u h, ← bs_cons, ← digit_cut u h]
      have k1 : -N = (u : Int) := by omega
      have hlo : -10 < N := by omega
      have w1 : IntKind.i64.wrap (-N) = -N := IntWalk.i64_in _ (by omega)
      have K1 := Lib.hid k1
      have t1 : (-N).toNat = u := by omega
      have t2 : (-N + 1).toNat = u + 1 := by omega
      have hsl : ∀ wx, (Instr.slice 9 (.string ⟨#[48, 49, 50, 51, 52, 53, 54, 55, 56, 57]⟩) (some (.int .i64 (-N))) (some (.int .i64 (-N + 1))) none).run Tryz.prog wx = .ok (.string ((⟨#[48, 49, 50, 51, 52, 53, 54, 55, 56, 57]⟩ : ByteArray).extract u (u + 1))) wx := fun wx => by
        have := run_slice_string (P := Tryz.prog) wx 9 ⟨#[48, 49, 50, 51, 52, 53, 54, 55, 56, 57]⟩ .i64 .i64 (-N) (-N + 1) Tryz.underlying9 (by omega) (by omega) (by show -N + 1 ≤ ((10 : Nat) : Int); omega)
        rw [t1, t2] at this
        exact this
      have sE : ((⟨#[48, 49, 50, 51, 52, 53, 54, 55, 56, 57]⟩ : ByteArray).extract u (u + 1)).size = 1 := by rw [digit_cut u h, bs_size]; rfl
      generalize (⟨#[48, 49, 50, 51, 52, 53, 54, 55, 56, 57]⟩ : ByteArray).extract u (u + 1) = E at *
      clear hN k1 t1 t2 ih
      go_enter Tryz.func144, Tryz.ntmps144
      go_wp2_with fail
      go_ret
      exact ⟨rfl, Below.refl _ _⟩
    · rw [decDigits_step u (by omega), show (45 : UInt8) :: (Lib.decDigits (u / 10) ++ [UInt8.ofNat (48 + u % 10)]) = (45 :: Lib.decDigits (u / 10)) ++ [UInt8.ofNat (48 + u % 10)] from rfl, ← bs_append, ← digit_cut (u % 10) (by omega)]
      have IH0 := ih (u / 10) (by omega)
      clear ih
      have k1 : N.tdiv 10 = -((u / 10 : Nat) : Int) := by rw [← hN, Int.neg_tdiv, Int.tdiv_eq_ediv_of_nonneg (by omega)]; omega
      have k3 : N.tmod 10 = -((u % 10 : Nat) : Int) := by rw [← hN, Int.neg_tmod, Int.tmod_eq_emod_of_nonneg (by omega)]; omega
      have hm : u % 10 < 10 := by omega
      have hq : u / 10 ≤ 922337203685477580 ∧ 1 ≤ u / 10 := by omega
      have hlo : ¬ -10 < N := by omega
      generalize u / 10 = q at *
      generalize u % 10 = m at *
      obtain ⟨Q, hQ⟩ : ∃ Q, -(q : Int) = Q := ⟨_, rfl⟩
      obtain ⟨M, hM⟩ : ∃ M, -(m : Int) = M := ⟨_, rfl⟩
      rw [hQ] at k1
      rw [hM] at k3
      have w1 : IntKind.i64.wrap Q = Q := IntWalk.i64_in _ (by omega)
      have w2 : IntKind.i64.wrap M = M := IntWalk.i64_in _ (by omega)
      have w3 : IntKind.i64.wrap (-M) = -M := IntWalk.i64_in _ (by omega)
      have w4 : IntKind.i64.wrap (-M + 1) = -M + 1 := IntWalk.i64_in _ (by omega)
      have IH : Hid (∀ w, Calls Tryz.prog 144 #[.int .i64 Q] w fun e w' => e = .returned (.string (bs (45 :: Lib.decDigits q))) ∧ Below w.heap.size w w') :=
        Lib.hid (fun w => by rw [← hQ]; exact IH0 w hq.2 (by omega))
      have hsl : ∀ wx, (Instr.slice 9 (.string ⟨#[48, 49, 50, 51, 52, 53, 54, 55, 56, 57]⟩) (some (.int .i64 (-M))) (some (.int .i64 (-M + 1))) none).run Tryz.prog wx = .ok (.string ((⟨#[48, 49, 50, 51, 52, 53, 54, 55, 56, 57]⟩ : ByteArray).extract m (m + 1))) wx := fun wx => by
        have := run_slice_string (P := Tryz.prog) wx 9 ⟨#[48, 49, 50, 51, 52, 53, 54, 55, 56, 57]⟩ .i64 .i64 (-M) (-M + 1) Tryz.underlying9 (by omega) (by omega) (by show -M + 1 ≤ ((10 : Nat) : Int); omega)
        rw [show (-M).toNat = m by omega, show (-M + 1).toNat = m + 1 by omega] at this
        exact this
      clear IH0 hN hM hQ
      have hD : (Lib.decDigits q).length ≤ 19 := decDigits_len q 19 (by omega) (by decide)
      have sE : ((⟨#[48, 49, 50, 51, 52, 53, 54, 55, 56, 57]⟩ : ByteArray).extract m (m + 1)).size = 1 := by rw [digit_cut m hm, bs_size]; rfl
      have hDl : (45 :: Lib.decDigits q).length = (Lib.decDigits q).length + 1 := rfl
      generalize (⟨#[48, 49, 50, 51, 52, 53, 54, 55, 56, 57]⟩ : ByteArray).extract m (m + 1) = E at *
      generalize (45 :: Lib.decDigits q) = D at *
      have sD := bs_size D
      have hD2 : D.length ≤ 20 := by omega
      clear hDl hD
      have hn1 : ¬ 9223372036854775806 < D.length := by omega
      have hn2 : ¬ 9223372036854775807 < D.length + 1 := by omega
      have hn3 : ¬ 9223372036854775807 < (bs D).size + E.size := by omega
      go_enter Tryz.func144, Tryz.ntmps144
      go_wp2_with fail
      go_region_held3 (fun w' => Hid (Below w.heap.size w w')) ((first | exact (Below.refl _ _).drew | exact below_of_new (Hid.out (by assumption)) (by assumption) | assumption))
        (first
        | (go_at_call 144; refine (IH.out _).mono ?_; rintro e w1 ⟨rfl, hb1⟩))
      all_goals rename_i hH
      all_goals go_wp2_with fail
      all_goals go_ret
      all_goals exact ⟨rfl, hH.out⟩
theorem decimal_any (n : Int) (w : World) (h : -9223372036854775808 ≤ n ∧ n ≤ 9223372036854775807) :
    Calls Tryz.prog 144 #[.int .i64 n] w fun e w' => e = .returned (.string (bs (Lib.itoa n))) ∧ Below w.heap.size w w' := by
  unfold Lib.itoa
  by_cases hn : n < 0
  · rw [if_pos hn]
    have := decimal_neg n.natAbs w (by omega) (by omega)
    rw [show -(n.natAbs : Int) = n by omega] at this
    exact this
  · rw [if_neg hn]
    have := decimal_pos n.toNat w (by omega)
    rw [show (n.toNat : Int) = n by omega] at this
    exact this
end Go.Proofs.YtnnlpkbopeiefaaGreatDoor
/-! The reference's Text (no Compare in this seat). -/
namespace Go.Proofs.YtnnlpkbopeiefaaGreatDoor
set_option linter.unusedSimpArgs false
set_option linter.unusedVariables false
open Go.RowKit
open Go.Lib hiding intOf
def NumBox (w : World) (b : Nat) (n : Num) : Prop := w.heap[b]? = some (.cells #[.bool n.neg, .string (bs n.dig), .int .i64 n.exp] 80 (0, 0))
theorem NumBox.keep {w w' : World} {b : Nat} {n : Num} (h : NumBox w b n) (hb : Below w.heap.size w w') : NumBox w' b n := (hb.block b (cell_it h)).trans h
theorem NumBox.cells {w : World} {b : Nat} {n : Num} (h : NumBox w b n) : w.cell? ⟨b, 0, none⟩ = some (.bool n.neg) ∧ w.cell? ⟨b, 1, none⟩ = some (.string (bs n.dig)) ∧ w.cell? ⟨b, 2, none⟩ = some (.int .i64 n.exp) :=
  ⟨box_cell h 0, box_cell h 1, box_cell h 2⟩
theorem NumBox.new (w : World) (n : Num) : NumBox (w.alloc (.cells #[.bool n.neg, .string (bs n.dig), .int .i64 n.exp] 80)) w.heap.size n := heap_alloc_new w _
abbrev One (B : Nat) (n : Num) (w0 w' : World) : Prop :=
  (w'.cell? ⟨B, 0, none⟩ = some (.bool n.neg) ∧ w'.cell? ⟨B, 1, none⟩ = some (.string (bs n.dig)) ∧ w'.cell? ⟨B, 2, none⟩ = some (.int .i64 n.exp)) ∧ Hid (NumBox w' B n ∧ Below B w0 w')
theorem One.of {B : Nat} {n : Num} {w0 w1 : World} (h : NumBox w1 B n) (hb : Below B w0 w1) : One B n w0 w1 := ⟨h.cells, h, hb⟩
theorem One.step {B : Nat} {n : Num} {w0 w1 w2 : World} (h : One B n w0 w1) (hb : Below w1.heap.size w1 w2) : One B n w0 w2 :=
  One.of (h.2.out.1.keep hb) (h.2.out.2.trans (hb.mono (Nat.le_of_lt (cell_it h.2.out.1))))
theorem refRight_num (n : Num) (w : World) (hd : n.dig.length ≤ 4294967296) (R : Bool) (h : rightB n = R) :
    Calls Tryz.prog 142 #[.agg #[.bool n.neg, .string (bs n.dig), .int .i64 n.exp]] w fun en w' => en = .returned (.bool R) ∧ Below w.heap.size w w' := by
  have := refRight_any n.neg (bs n.dig) n.exp w (by rw [bs_size]; omega)
  rw [bs_data, h] at this; exact this
theorem refNought_is (n : Num) (w : World) (R : Bool) (h : decide (n = nought) = R) :
    Calls Tryz.prog 143 #[.agg #[.bool n.neg, .string (bs n.dig), .int .i64 n.exp]] w fun en w' => en = .returned (.bool R) ∧ Below w.heap.size w w' := by
  have := refNought_any n.neg (bs n.dig) n.exp w
  rw [bs_data, h] at this; exact this
set_option maxHeartbeats 1000000 in
theorem refText_any (n : Num) (w : World) (hd : n.dig.length ≤ 4294967296) :
    Calls Tryz.prog 86 #[.agg #[.bool n.neg, .string (bs n.dig), .int .i64 n.exp]] w fun e w' => e = .returned (.string (bs (textL n))) ∧ Below w.heap.size w w' := by
  obtain ⟨A1, hA⟩ : ∃ A1, rightB n = A1 := ⟨_, rfl⟩
  have CA := Lib.hid (fun w => refRight_num n w hd A1 hA)
  obtain ⟨R, hR⟩ : ∃ R, textL n = R := ⟨_, rfl⟩
  rw [hR]
  unfold textL at hR
  rw [hA] at hR
  have hb : A1 = true → n.dig.length ≤ 1000 ∧ -1000000 ≤ n.exp ∧ n.exp ≤ 1000000 := fun h => rightB_bd (hA.trans h)
  obtain ⟨Q, hQ⟩ : ∃ Q, decide (n = nought) = Q := ⟨_, rfl⟩
  have CQ := Lib.hid (fun w => refNought_is n w Q hQ)
  have hQd : A1 = true → (Q = true ↔ n.dig = []) := fun h => by
    rw [← hQ, decide_eq_true_eq]
    constructor
    · intro e; rw [e]; rfl
    · intro e
      rcases of_decide_eq_true (hA.trans h) with g | g
      · exact g
      · exact absurd e (allDig_ne g.1).1
  obtain ⟨ng, d, ex⟩ := n
  simp only [] at hR CA hb hd hQd CQ ⊢
  have sd := bs_size d
  have HN := Lib.hid (NumBox.new w ⟨ng, d, ex⟩)
  clear hA hQ
  cases A1 with
  | false =>
    rw [if_pos rfl] at hR
    subst hR
    clear hQd
    go_enter Tryz.func86, Tryz.ntmps86
    go_wp2_with (go_at_call 142; go_must (refine (CA.out _).mono ?_); rintro e w1 ⟨rfl, hb1⟩)
    go_ret
    exact ⟨rfl, (below_alloc1 w _).trans (hb1.mono (by simp))⟩
  | true =>
    obtain ⟨hb1, hb2, hb3⟩ := hb rfl
    have hq := hQd rfl
    rw [if_neg (by simp)] at hR
    have C2 := Lib.hid (fun w => decimal_any ex w (by omega))
    have hIl := itoa_len ex (by omega)
    generalize Lib.itoa ex = I at *
    have sI := bs_size I
    have HR := Lib.hid hR; have HQ := Lib.hid hq; clear hR hq hQd hb
    go_enter Tryz.func86, Tryz.ntmps86
    go_wp2_with fail
    refine (CA.out _).mono ?_
    rintro e w1 ⟨rfl, hb1⟩
    have HO := Lib.hid (One.of (HN.out.keep hb1) ((below_alloc1 w _).trans (hb1.mono (by simp))))
    obtain ⟨c0, c1, c2⟩ := HO.out.1
    simp only [] at c0 c1 c2
    clear hb1
    go_wp2_with fail
    refine (CQ.out _).mono ?_
    rintro e w2 ⟨rfl, hb2⟩
    have HO2 := Lib.hid (HO.out.step hb2)
    clear hb2 HO c0 c1 c2
    obtain ⟨c0, c1, c2⟩ := HO2.out.1
    simp only [] at c0 c1 c2
    have HB := Lib.hid HO2.out.2.out.2
    cases Q with
    | true =>
      have hR := HR.out
      rw [if_pos (by simpa using HQ.out)] at hR
      have HF := Lib.hid hR; clear hR
      go_wp2_with fail
      go_ret
      exact ⟨by rw [← HF.out]; rfl, HB.out⟩
    | false =>
      have hR := HR.out
      rw [if_neg (by simpa using HQ.out)] at hR
      have H2 := Lib.hid hR; clear hR HR
      by_cases he : ex = 0
      · subst he
        cases ng
        · have HF := Lib.hid (show d = R by simpa using H2.out); clear H2
          go_wp2_with fail
          go_ret
          exact ⟨by rw [← HF.out]; rfl, HB.out⟩
        · have HF := Lib.hid (show 45 :: d = R by simpa using H2.out); clear H2
          go_wp2_with fail
          go_ret
          exact ⟨by rw [← HF.out, bs_cons]; rfl, HB.out⟩
      · have he2 : (ex != 0) = true := bne_iff_ne.2 he
        have hR := H2.out
        rw [if_pos he] at hR
        have H3 := Lib.hid hR; clear hR he H2
        cases ng
        · have HF := Lib.hid (show d ++ ([101] ++ I) = R by simpa using H3.out); clear H3
          go_wp2_with (go_at_call 144; go_must (refine (C2.out _).mono ?_); rintro e w3 ⟨rfl, hb3⟩)
          go_ret
          exact ⟨by rw [← HF.out, show (⟨#[101]⟩ : ByteArray) = bs [101] from rfl, bs_append, bs_append, List.append_assoc]; rfl, HB.out.trans (hb3.mono HB.out.size)⟩
        · have HF := Lib.hid (show 45 :: (d ++ ([101] ++ I)) = R by simpa using H3.out); clear H3
          go_wp2_with (go_at_call 144; go_must (refine (C2.out _).mono ?_); rintro e w3 ⟨rfl, hb3⟩)
          go_ret
          exact ⟨by rw [← HF.out, bs_cons, show (⟨#[101]⟩ : ByteArray) = bs [101] from rfl, bs_append, bs_append, List.append_assoc]; rfl, HB.out.trans (hb3.mono HB.out.size)⟩
end Go.Proofs.YtnnlpkbopeiefaaGreatDoor
