import Derived.Test.YtbldfpkfinpciaaGreatDoorRa18
namespace Go.Proofs.YtbldfpkfinpciaaGreatDoor
set_option linter.unusedSimpArgs false
set_option linter.unusedVariables false
open Go.RowKit
open Go.Lib hiding intOf
theorem refNought_any (neg : Bool) (d : ByteArray) (e : Int) (w : World) :
  Calls Tryz.prog 129 #[.agg #[.bool neg, .string d, .int .i64 e]] w fun en w' => en = .returned (.bool (decide ((⟨neg, d.data.toList, e⟩ : Num) = nought))) ∧ Below w.heap.size w w' := by
 obtain ⟨R, hR⟩ : ∃ R, decide ((⟨neg, d.data.toList, e⟩ : Num) = nought) = R := ⟨_, rfl⟩
 rw [hR]
 have HR := Lib.hid hR; clear hR
 go_enter Tryz.func129, Tryz.ntmps129
 go_wp2_with fail
 all_goals go_ret
 all_goals refine ⟨ret_bool ?_, (Below.refl _ _).alloc (Nat.le_refl _) _⟩
 all_goals rw [← HR.out]
 all_goals clear HR
 all_goals try simp only [Lib.toList_data] at *
 all_goals first
  | (symm; apply decide_eq_true; simp_all [nought])
  | (symm; apply decide_eq_false; simp_all [nought])
theorem rightB_of {n : Num} : rightB n = (decide (n = nought) || decide (rightP n)) := by
 unfold rightB; by_cases h1 : n = nought <;> by_cases h2 : rightP n <;> simp [h1, h2]
set_option maxHeartbeats 2000000 in
theorem refRight_any (neg : Bool) (d : ByteArray) (e : Int) (w : World) (hd : d.size ≤ 4294967296) :
  Calls Tryz.prog 128 #[.agg #[.bool neg, .string d, .int .i64 e]] w fun en w' => en = .returned (.bool (rightB ⟨neg, d.data.toList, e⟩)) ∧ Below w.heap.size w w' := by
 have hl : d.data.toList.length = d.size := rfl
 obtain ⟨N, hN⟩ : ∃ N, decide ((⟨neg, d.data.toList, e⟩ : Num) = nought) = N := ⟨_, rfl⟩
 have CN := Lib.hid (show ∀ w, Calls Tryz.prog 129 #[.agg #[.bool neg, .string d, .int .i64 e]] w fun en w' => en = .returned (.bool N) ∧ Below w.heap.size w w' from fun w => hN ▸ refNought_any neg d e w)
 have hB := rightB_of (n := ⟨neg, d.data.toList, e⟩)
 rw [hN] at hB
 clear hN
 generalize rightB ⟨neg, d.data.toList, e⟩ = R at *
 cases N with
 | true =>
  rw [Bool.true_or] at hB
  subst hB
  go_enter Tryz.func128, Tryz.ntmps128
  go_wp2_with fail
  refine (CN.out _).mono ?_
  rintro en w1 ⟨rfl, hb1⟩
  go_wp2_with fail
  all_goals go_ret
  all_goals exact ⟨rfl, ((Below.refl _ _).alloc (Nat.le_refl _) _).trans (hb1.mono (by simp))⟩
 | false =>
  rw [Bool.false_or] at hB
  cases hD : allDig d.data.toList with
  | false =>
   obtain rfl : R = false := hB.trans (decide_eq_false (fun h => by have := h.1; simp only [] at this; rw [hD] at this; cases this))
   have HC := Lib.hid (fun w => refDigits_is d w false hd hD)
   clear hD hB
   go_enter Tryz.func128, Tryz.ntmps128
   go_wp2_with fail
   refine (CN.out _).mono ?_
   rintro en w1 ⟨rfl, hb1⟩
   obtain ⟨hc1, hf1⟩ := bcell hb1
   go_wp2_with fail
   refine (HC.out _).mono ?_
   rintro en w2 ⟨rfl, hb2⟩
   have HB := Lib.hid ((((Below.refl _ _).alloc (Nat.le_refl _) _).trans (hb1.mono (by simp))).trans (hb2.mono (by have := hb1.size; simp at this; omega)))
   have hz1 : w.heap.size < w1.heap.size := by have := hb1.size; simp at this; omega
   obtain ⟨hc2, hf2⟩ := bcell hb2
   clear hb1 hb2
   go_wp2_with fail
   all_goals go_ret
   all_goals exact ⟨rfl, HB.out⟩
  | true =>
   have h0 : 0 < d.size := by
    have := (allDig_ne hD).1
    rcases Nat.eq_zero_or_pos d.size with h | h
    ·exact absurd (List.eq_nil_of_length_eq_zero (by omega)) this
    ·exact h
   have HC := Lib.hid (fun w => refDigits_is d w true hd hD)
   have hlast : d.size - 1 < d.size := by omega
   have e1 := head_at d h0
   have e2 := last_at d hlast
   have b1 := is48 (d[0]'h0)
   have b2 := is48 (d[d.size - 1]'hlast)
   have RP : rightP ⟨neg, d.data.toList, e⟩ ↔ d.size ≤ 1000 ∧ ¬ (d[0]'h0) = 48 ∧ ¬ (d[d.size - 1]'hlast) = 48 ∧ -1000000 ≤ e ∧ e ≤ 1000000 := by
    unfold rightP
    simp only [hD, hl, e1, e2, true_and, ne_eq, Option.some.injEq]
   have n1 : (((d[0]'h0).toNat : Int) != 48) = !(((d[0]'h0).toNat : Int) == 48) := rfl
   have n2 : (((d[d.size - 1]'hlast).toNat : Int) != 48) = !(((d[d.size - 1]'hlast).toNat : Int) == 48) := rfl
   have hB2 : R = (decide (d.size ≤ 1000) && (!decide ((d[0]'h0) = 48) && (!decide ((d[d.size - 1]'hlast) = 48) && (decide (-1000000 ≤ e) && decide (e ≤ 1000000))))) := by
    rw [hB]
    refine Bool.eq_iff_iff.2 ?_
    simp only [Bool.and_eq_true, decide_eq_true_eq, Bool.not_eq_true', decide_eq_false_iff_not]
    exact RP
   clear hD e1 e2 RP hB
   rw [b1] at n1
   rw [b2] at n2
   generalize decide ((d[0]'h0) = 48) = X1 at *
   generalize decide ((d[d.size - 1]'hlast) = 48) = X2 at *
   have HR := Lib.hid hB2; clear hB2
   have hc : 1000 < d.size ∨ (d.size ≤ 1000 ∧ X1 = true) ∨ (d.size ≤ 1000 ∧ X1 = false ∧ X2 = true) ∨ (d.size ≤ 1000 ∧ X1 = false ∧ X2 = false) := by
    rcases Nat.lt_or_ge 1000 d.size with h | h
    ·exact .inl h
    ·cases X1 <;> cases X2 <;> simp [h]
   rcases hc with c1 | ⟨c1, rfl⟩ | ⟨c1, rfl, rfl⟩ | ⟨c1, rfl, rfl⟩
   all_goals
    go_enter Tryz.func128, Tryz.ntmps128
    go_wp2_with fail
    refine (CN.out _).mono ?_
    rintro en w1 ⟨rfl, hb1⟩
    obtain ⟨hc1, hf1⟩ := bcell hb1
    go_wp2_with fail
    refine (HC.out _).mono ?_
    rintro en w2 ⟨rfl, hb2⟩
    have HB := Lib.hid ((((Below.refl _ _).alloc (Nat.le_refl _) _).trans (hb1.mono (by simp))).trans (hb2.mono (by have := hb1.size; simp at this; omega)))
    have hz1 : w.heap.size < w1.heap.size := by have := hb1.size; simp at this; omega
    obtain ⟨hc2, hf2⟩ := bcell hb2
    clear hb1 hb2
    go_wp2_with fail
    all_goals go_ret
    all_goals refine ⟨ret_bool ?_, HB.out⟩
    all_goals rw [HR.out]
    all_goals first
     | (simp; omega)
     | (simp [c1]; done)
     | (simp [c1]; omega)
     | (rename_i h; simp [c1, h]; done)
     | (rename_i h; simp [c1, h]; omega)
theorem digit_cut (m : Nat) (h : m < 10) : (⟨#[48, 49, 50, 51, 52, 53, 54, 55, 56, 57]⟩ : ByteArray).extract m (m + 1) = bs [UInt8.ofNat (48 + m)] := by
 rw [bs_extract]
 have : ∀ m : Fin 10, (List.take (m.val + 1 - m.val) (List.drop m.val (ByteArray.mk #[48, 49, 50, 51, 52, 53, 54, 55, 56, 57]).data.toList)) = [UInt8.ofNat (48 + m.val)] := by decide
 rw [this ⟨m, h⟩]
theorem decDigits_small (u : Nat) (h : u < 10) : Lib.decDigits u = [UInt8.ofNat (48 + u)] := by rw [Lib.decDigits, dif_pos h]
theorem decDigits_step (u : Nat) (h : 10 ≤ u) : Lib.decDigits u = Lib.decDigits (u / 10) ++ [UInt8.ofNat (48 + u % 10)] := by rw [Lib.decDigits, dif_neg (by omega)]
set_option maxHeartbeats 1000000 in
theorem decimal_pos (u : Nat) : ∀ (w : World), u ≤ 9223372036854775807 →
  Calls Tryz.prog 130 #[.int .i64 u] w fun e w' => e = .returned (.string (bs (Lib.decDigits u))) ∧ Below w.heap.size w w' := by
 induction u using Nat.strongRecOn with
 | _ u ih =>
  intro w hu
  by_cases h : u < 10
  ·rw [decDigits_small u h, ← digit_cut u h]
   go_enter Tryz.func130, Tryz.ntmps130
   go_wp2_with fail
   go_ret
   exact ⟨rfl, Below.refl _ _⟩
  ·rw [decDigits_step u (by omega), ← bs_append, ← digit_cut (u % 10) (by omega)]
   have IH0 := ih (u / 10) (by omega)
   clear ih
   have k1 : (u : Int).tdiv 10 = ((u / 10 : Nat) : Int) := by rw [Int.tdiv_eq_ediv_of_nonneg (by omega)]; omega
   have k2 : (u : Int) / 10 = ((u / 10 : Nat) : Int) := by omega
   have k3 : (u : Int).tmod 10 = ((u % 10 : Nat) : Int) := by rw [Int.tmod_eq_emod_of_nonneg (by omega)]; omega
   have k4 : (u : Int) % 10 = ((u % 10 : Nat) : Int) := by omega
   have hm : u % 10 < 10 := by omega
   have hq : u / 10 ≤ 922337203685477580 := by omega
   generalize u / 10 = q at *
   generalize u % 10 = m at *
   have w1 : IntKind.i64.wrap (q : Int) = q := IntWalk.i64_in _ (by omega)
   have w2 : IntKind.i64.wrap (m : Int) = m := IntWalk.i64_in _ (by omega)
   have w3 : IntKind.i64.wrap ((m : Int) + 1) = (m : Int) + 1 := IntWalk.i64_in _ (by omega)
   have t1 : ((m : Int) + 1).toNat = m + 1 := by omega
   have IH := Lib.hid (fun w => IH0 w (by omega))
   have hsl : ∀ wx, (Instr.slice 9 (.string ⟨#[48, 49, 50, 51, 52, 53, 54, 55, 56, 57]⟩) (some (.int .i64 (m : Int))) (some (.int .i64 ((m : Int) + 1))) none).run Tryz.prog wx = .ok (.string ((⟨#[48, 49, 50, 51, 52, 53, 54, 55, 56, 57]⟩ : ByteArray).extract m (m + 1))) wx := fun wx => by
    have := run_slice_string (P := Tryz.prog) wx 9 ⟨#[48, 49, 50, 51, 52, 53, 54, 55, 56, 57]⟩ .i64 .i64 (m : Int) ((m : Int) + 1) Tryz.underlying9 (by omega) (by omega) (by show (m : Int) + 1 ≤ ((10 : Nat) : Int); omega)
    simpa using this
   clear IH0
   have hD : (Lib.decDigits q).length ≤ 19 := decDigits_len q 19 (by omega) (by decide)
   have sE : ((⟨#[48, 49, 50, 51, 52, 53, 54, 55, 56, 57]⟩ : ByteArray).extract m (m + 1)).size = 1 := by rw [digit_cut m hm, bs_size]; rfl
   generalize (⟨#[48, 49, 50, 51, 52, 53, 54, 55, 56, 57]⟩ : ByteArray).extract m (m + 1) = E at *
   generalize Lib.decDigits q = D at *
   have sD := bs_size D
   have hn1 : ¬ 9223372036854775806 < D.length := by omega
   have hn2 : ¬ 9223372036854775807 < D.length + 1 := by omega
   have hn3 : ¬ 9223372036854775807 < (bs D).size + E.size := by omega
   go_enter Tryz.func130, Tryz.ntmps130
   go_wp2_with fail
   go_region_held3 (fun w' => Hid (Below w.heap.size w w')) ((first | exact (Below.refl _ _).drew | exact below_of_new (Hid.out (by assumption)) (by assumption) | assumption))
    (first
    | (go_at_call 130; refine (IH.out _).mono ?_; rintro e w1 ⟨rfl, hb1⟩))
   all_goals rename_i hH
   all_goals go_wp2_with fail
   all_goals go_ret
   all_goals exact ⟨rfl, hH.out⟩
set_option maxHeartbeats 1000000 in
theorem decimal_neg (u : Nat) : ∀ (w : World), 1 ≤ u → u ≤ 9223372036854775808 →
  Calls Tryz.prog 130 #[.int .i64 (-(u : Int))] w fun e w' => e = .returned (.string (bs (45 :: Lib.decDigits u))) ∧ Below w.heap.size w w' := by
 induction u using Nat.strongRecOn with
 | _ u ih =>
  intro w h1 hu
  obtain ⟨N, hN⟩ : ∃ N, -(u : Int) = N := ⟨_, rfl⟩
  have hn0 : N < 0 := by omega
  rw [hN]
  by_cases h : u < 10
  ·rw [decDigits_small u h, ← bs_cons, ← digit_cut u h]
   have k1 : -N = (u : Int) := by omega
   have hlo : -10 < N := by omega
   have w1 : IntKind.i64.wrap (-N) = -N := IntWalk.i64_in _ (by omega)
   have K1 := Lib.hid k1
   have t1 : (-N).toNat = u := by omega
   have t2 : (-N + 1).toNat = u + 1 := by omega
   have hsl : ∀ wx, (Instr.slice 9 (.string ⟨#[48, 49, 50, 51, 52, 53, 54, 55, 56, 57]⟩) (some (.int .i64 (-N))) (some (.int .i64 (-N + 1))) none).run Tryz.prog wx = .ok (.string ((⟨#[48, 49, 50, 51, 52, 53, 54, 55, 56, 57]⟩ : ByteArray).extract u (u + 1))) wx := fun wx => by
    have := run_slice_string (P := Tryz.prog) wx 9 ⟨#[48, 49, 50, 51, 52, 53, 54, 55, 56, 57]⟩ .i64 .i64 (-N) (-N + 1) Tryz.underlying9 (by omega) (by omega) (by show -N + 1 ≤ ((10 : Nat) : Int); omega)
    rw [t1, t2] at this
    exact this
   have sE : ((⟨#[48, 49, 50, 51, 52, 53, 54, 55, 56, 57]⟩ : ByteArray).extract u (u + 1)).size = 1 := by rw [digit_cut u h, bs_size]; rfl
   generalize (⟨#[48, 49, 50, 51, 52, 53, 54, 55, 56, 57]⟩ : ByteArray).extract u (u + 1) = E at *
   clear hN k1 t1 t2 ih
   go_enter Tryz.func130, Tryz.ntmps130
   go_wp2_with fail
   go_ret
   exact ⟨rfl, Below.refl _ _⟩
  ·rw [decDigits_step u (by omega), show (45 : UInt8) :: (Lib.decDigits (u / 10) ++ [UInt8.ofNat (48 + u % 10)]) = (45 :: Lib.decDigits (u / 10)) ++ [UInt8.ofNat (48 + u % 10)] from rfl, ← bs_append, ← digit_cut (u % 10) (by omega)]
   have IH0 := ih (u / 10) (by omega)
   clear ih
   have k1 : N.tdiv 10 = -((u / 10 : Nat) : Int) := by rw [← hN, Int.neg_tdiv, Int.tdiv_eq_ediv_of_nonneg (by omega)]; omega
   have k3 : N.tmod 10 = -((u % 10 : Nat) : Int) := by rw [← hN, Int.neg_tmod, Int.tmod_eq_emod_of_nonneg (by omega)]; omega
   have hm : u % 10 < 10 := by omega
   have hq : u / 10 ≤ 922337203685477580 ∧ 1 ≤ u / 10 := by omega
   have hlo : ¬ -10 < N := by omega
   generalize u / 10 = q at *
   generalize u % 10 = m at *
   obtain ⟨Q, hQ⟩ : ∃ Q, -(q : Int) = Q := ⟨_, rfl⟩
   obtain ⟨M, hM⟩ : ∃ M, -(m : Int) = M := ⟨_, rfl⟩
   rw [hQ] at k1
   rw [hM] at k3
   have w1 : IntKind.i64.wrap Q = Q := IntWalk.i64_in _ (by omega)
   have w2 : IntKind.i64.wrap M = M := IntWalk.i64_in _ (by omega)
   have w3 : IntKind.i64.wrap (-M) = -M := IntWalk.i64_in _ (by omega)
   have w4 : IntKind.i64.wrap (-M + 1) = -M + 1 := IntWalk.i64_in _ (by omega)
   have IH : Hid (∀ w, Calls Tryz.prog 130 #[.int .i64 Q] w fun e w' => e = .returned (.string (bs (45 :: Lib.decDigits q))) ∧ Below w.heap.size w w') :=
    Lib.hid (fun w => by rw [← hQ]; exact IH0 w hq.2 (by omega))
   have hsl : ∀ wx, (Instr.slice 9 (.string ⟨#[48, 49, 50, 51, 52, 53, 54, 55, 56, 57]⟩) (some (.int .i64 (-M))) (some (.int .i64 (-M + 1))) none).run Tryz.prog wx = .ok (.string ((⟨#[48, 49, 50, 51, 52, 53, 54, 55, 56, 57]⟩ : ByteArray).extract m (m + 1))) wx := fun wx => by
    have := run_slice_string (P := Tryz.prog) wx 9 ⟨#[48, 49, 50, 51, 52, 53, 54, 55, 56, 57]⟩ .i64 .i64 (-M) (-M + 1) Tryz.underlying9 (by omega) (by omega) (by show -M + 1 ≤ ((10 : Nat) : Int); omega)
    rw [show (-M).toNat = m by omega, show (-M + 1).toNat = m + 1 by omega] at this
    exact this
   clear IH0 hN hM hQ
   have hD : (Lib.decDigits q).length ≤ 19 := decDigits_len q 19 (by omega) (by decide)
   have sE : ((⟨#[48, 49, 50, 51, 52, 53, 54, 55, 56, 57]⟩ : ByteArray).extract m (m + 1)).size = 1 := by rw [digit_cut m hm, bs_size]; rfl
   have hDl : (45 :: Lib.decDigits q).length = (Lib.decDigits q).length + 1 := rfl
   generalize (⟨#[48, 49, 50, 51, 52, 53, 54, 55, 56, 57]⟩ : ByteArray).extract m (m + 1) = E at *
   generalize (45 :: Lib.decDigits q) = D at *
   have sD := bs_size D
   have hD2 : D.length ≤ 20 := by omega
   clear hDl hD
   have hn1 : ¬ 9223372036854775806 < D.length := by omega
   have hn2 : ¬ 9223372036854775807 < D.length + 1 := by omega
   have hn3 : ¬ 9223372036854775807 < (bs D).size + E.size := by omega
   go_enter Tryz.func130, Tryz.ntmps130
   go_wp2_with fail
   go_region_held3 (fun w' => Hid (Below w.heap.size w w')) ((first | exact (Below.refl _ _).drew | exact below_of_new (Hid.out (by assumption)) (by assumption) | assumption))
    (first
    | (go_at_call 130; refine (IH.out _).mono ?_; rintro e w1 ⟨rfl, hb1⟩))
   all_goals rename_i hH
   all_goals go_wp2_with fail
   all_goals go_ret
   all_goals exact ⟨rfl, hH.out⟩
theorem decimal_any (n : Int) (w : World) (h : -9223372036854775808 ≤ n ∧ n ≤ 9223372036854775807) :
  Calls Tryz.prog 130 #[.int .i64 n] w fun e w' => e = .returned (.string (bs (Lib.itoa n))) ∧ Below w.heap.size w w' := by
 unfold Lib.itoa
 by_cases hn : n < 0
 ·rw [if_pos hn]
  have := decimal_neg n.natAbs w (by omega) (by omega)
  rw [show -(n.natAbs : Int) = n by omega] at this
  exact this
 ·rw [if_neg hn]
  have := decimal_pos n.toNat w (by omega)
  rw [show (n.toNat : Int) = n by omega] at this
  exact this
def NumBox (w : World) (b : Nat) (n : Num) : Prop := w.heap[b]? = some (.cells #[.bool n.neg, .string (bs n.dig), .int .i64 n.exp] 96 (0, 0))
theorem NumBox.keep {w w' : World} {b : Nat} {n : Num} (h : NumBox w b n) (hb : Below w.heap.size w w') : NumBox w' b n := (hb.block b (cell_it h)).trans h
theorem NumBox.cells {w : World} {b : Nat} {n : Num} (h : NumBox w b n) : w.cell? ⟨b, 0, none⟩ = some (.bool n.neg) ∧ w.cell? ⟨b, 1, none⟩ = some (.string (bs n.dig)) ∧ w.cell? ⟨b, 2, none⟩ = some (.int .i64 n.exp) :=
 ⟨box_cell h 0, box_cell h 1, box_cell h 2⟩
theorem NumBox.new (w : World) (n : Num) : NumBox (w.alloc (.cells #[.bool n.neg, .string (bs n.dig), .int .i64 n.exp] 96)) w.heap.size n := heap_alloc_new w _
abbrev One (B : Nat) (n : Num) (w0 w' : World) : Prop :=
 (w'.cell? ⟨B, 0, none⟩ = some (.bool n.neg) ∧ w'.cell? ⟨B, 1, none⟩ = some (.string (bs n.dig)) ∧ w'.cell? ⟨B, 2, none⟩ = some (.int .i64 n.exp)) ∧ Hid (NumBox w' B n ∧ Below B w0 w')
theorem One.of {B : Nat} {n : Num} {w0 w1 : World} (h : NumBox w1 B n) (hb : Below B w0 w1) : One B n w0 w1 := ⟨h.cells, h, hb⟩
theorem One.step {B : Nat} {n : Num} {w0 w1 w2 : World} (h : One B n w0 w1) (hb : Below w1.heap.size w1 w2) : One B n w0 w2 :=
 One.of (h.2.out.1.keep hb) (h.2.out.2.trans (hb.mono (Nat.le_of_lt (cell_it h.2.out.1))))
theorem refRight_num (n : Num) (w : World) (hd : n.dig.length ≤ 4294967296) (R : Bool) (h : rightB n = R) :
  Calls Tryz.prog 128 #[.agg #[.bool n.neg, .string (bs n.dig), .int .i64 n.exp]] w fun en w' => en = .returned (.bool R) ∧ Below w.heap.size w w' := by
 have := refRight_any n.neg (bs n.dig) n.exp w (by rw [bs_size]; omega)
 rw [bs_data, h] at this; exact this
theorem refNought_is (n : Num) (w : World) (R : Bool) (h : decide (n = nought) = R) :
  Calls Tryz.prog 129 #[.agg #[.bool n.neg, .string (bs n.dig), .int .i64 n.exp]] w fun en w' => en = .returned (.bool R) ∧ Below w.heap.size w w' := by
 have := refNought_any n.neg (bs n.dig) n.exp w
 rw [bs_data, h] at this; exact this
set_option maxHeartbeats 1000000 in
theorem refText_any (n : Num) (w : World) (hd : n.dig.length ≤ 4294967296) :
  Calls Tryz.prog 74 #[.agg #[.bool n.neg, .string (bs n.dig), .int .i64 n.exp]] w fun e w' => e = .returned (.string (bs (textL n))) ∧ Below w.heap.size w w' := by
 obtain ⟨A1, hA⟩ : ∃ A1, rightB n = A1 := ⟨_, rfl⟩
 have CA := Lib.hid (fun w => refRight_num n w hd A1 hA)
 obtain ⟨R, hR⟩ : ∃ R, textL n = R := ⟨_, rfl⟩
 rw [hR]
 unfold textL at hR
 rw [hA] at hR
 have hb : A1 = true → n.dig.length ≤ 1000 ∧ -1000000 ≤ n.exp ∧ n.exp ≤ 1000000 := fun h => rightB_bd (hA.trans h)
 obtain ⟨Q, hQ⟩ : ∃ Q, decide (n = nought) = Q := ⟨_, rfl⟩
 have CQ := Lib.hid (fun w => refNought_is n w Q hQ)
 have hQd : A1 = true → (Q = true ↔ n.dig = []) := fun h => by
  rw [← hQ, decide_eq_true_eq]
  constructor
  ·intro e; rw [e]; rfl
  ·intro e
   rcases of_decide_eq_true (hA.trans h) with g | g
   ·exact g
   ·exact absurd e (allDig_ne g.1).1
 obtain ⟨ng, d, ex⟩ := n
 simp only [] at hR CA hb hd hQd CQ ⊢
 have sd := bs_size d
 have HN := Lib.hid (NumBox.new w ⟨ng, d, ex⟩)
 clear hA hQ
 cases A1 with
 | false =>
  rw [if_pos rfl] at hR
  subst hR
  clear hQd
  go_enter Tryz.func74, Tryz.ntmps74
  go_wp2_with (go_at_call 128; go_must (refine (CA.out _).mono ?_); rintro e w1 ⟨rfl, hb1⟩)
  go_ret
  exact ⟨rfl, (below_alloc1 w _).trans (hb1.mono (by simp))⟩
 | true =>
  obtain ⟨hb1, hb2, hb3⟩ := hb rfl
  have hq := hQd rfl
  rw [if_neg (by simp)] at hR
  have C2 := Lib.hid (fun w => decimal_any ex w (by omega))
  have hIl := itoa_len ex (by omega)
  generalize Lib.itoa ex = I at *
  have sI := bs_size I
  have HR := Lib.hid hR; have HQ := Lib.hid hq; clear hR hq hQd hb
  go_enter Tryz.func74, Tryz.ntmps74
  go_wp2_with fail
  refine (CA.out _).mono ?_
  rintro e w1 ⟨rfl, hb1⟩
  have HO := Lib.hid (One.of (HN.out.keep hb1) ((below_alloc1 w _).trans (hb1.mono (by simp))))
  obtain ⟨c0, c1, c2⟩ := HO.out.1
  simp only [] at c0 c1 c2
  clear hb1
  go_wp2_with fail
  refine (CQ.out _).mono ?_
  rintro e w2 ⟨rfl, hb2⟩
  have HO2 := Lib.hid (HO.out.step hb2)
  clear hb2 HO c0 c1 c2
  obtain ⟨c0, c1, c2⟩ := HO2.out.1
  simp only [] at c0 c1 c2
  have HB := Lib.hid HO2.out.2.out.2
  cases Q with
  | true =>
   have hR := HR.out
   rw [if_pos (by simpa using HQ.out)] at hR
   have HF := Lib.hid hR; clear hR
   go_wp2_with fail
   go_ret
   exact ⟨by rw [← HF.out]; rfl, HB.out⟩
  | false =>
   have hR := HR.out
   rw [if_neg (by simpa using HQ.out)] at hR
   have H2 := Lib.hid hR; clear hR HR
   by_cases he : ex = 0
   ·subst he
    cases ng
    ·have HF := Lib.hid (show d = R by simpa using H2.out); clear H2
     go_wp2_with fail
     go_ret
     exact ⟨by rw [← HF.out]; rfl, HB.out⟩
    ·have HF := Lib.hid (show 45 :: d = R by simpa using H2.out); clear H2
     go_wp2_with fail
     go_ret
     exact ⟨by rw [← HF.out, bs_cons]; rfl, HB.out⟩
   ·have he2 : (ex != 0) = true := bne_iff_ne.2 he
    have hR := H2.out
    rw [if_pos he] at hR
    have H3 := Lib.hid hR; clear hR he H2
    cases ng
    ·have HF := Lib.hid (show d ++ ([101] ++ I) = R by simpa using H3.out); clear H3
     go_wp2_with (go_at_call 130; go_must (refine (C2.out _).mono ?_); rintro e w3 ⟨rfl, hb3⟩)
     go_ret
     exact ⟨by rw [← HF.out, show (⟨#[101]⟩ : ByteArray) = bs [101] from rfl, bs_append, bs_append, List.append_assoc]; rfl, HB.out.trans (hb3.mono HB.out.size)⟩
    ·have HF := Lib.hid (show 45 :: (d ++ ([101] ++ I)) = R by simpa using H3.out); clear H3
     go_wp2_with (go_at_call 130; go_must (refine (C2.out _).mono ?_); rintro e w3 ⟨rfl, hb3⟩)
     go_ret
     exact ⟨by rw [← HF.out, bs_cons, show (⟨#[101]⟩ : ByteArray) = bs [101] from rfl, bs_append, bs_append, List.append_assoc]; rfl, HB.out.trans (hb3.mono HB.out.size)⟩
end Go.Proofs.YtbldfpkfinpciaaGreatDoor
namespace Go.Proofs.YtbldfpkfinpciaaGreatDoor
set_option linter.unusedSimpArgs false
set_option linter.unusedVariables false
open Go.RowKit Go.Maps Go.WideMaps
open Go.Lib hiding intOf
def JNr (txt : Stp) (ns : List NodeD) (p : Option Addr) (c : Nat) (lv : Nat) : Prop := ∀ (k m : Nat) (w : World), TOk ns lv k m → NodesR w p ns →
 Calls Tryz.prog 114 #[.agg #[.string (bs txt), .slice p ns.length c], .int .i64 (k : Int)] w (NewE (nodeV txt ns lv k) w)
theorem CS.text {W w : World} {Y : Nat} {k : Int} {s : Stp} (h : CS W Y k s [] [] (.slice none 0 0) (.slice none 0 0) w) (s2 : Stp) : CS W Y k s2 [] [] (.slice none 0 0) (.slice none 0 0) (w.setCell ⟨Y, 1, none⟩ (.string (bs s2))) :=
 ⟨by have := box_setT h.box 1 (.string (bs s2)); exact this, OwnsS.nil _ _, (fun e => by cases e), OwnsV.nil _ _ _, h.bel.setCell (p := ⟨Y, 1, none⟩) h.new_ _, h.new_⟩
abbrev KyR (W : World) (D X g gk i q : Nat) (txt : ByteArray) (n c nk ck : Nat) (k1 k2 : Int) (w : World) : Prop :=
 (w.cell? ⟨D, 0, none⟩ = some (.string txt) ∧ w.cell? ⟨D, 1, none⟩ = some (.slice (some ⟨g, 0, none⟩) n c) ∧ w.cell? ⟨X, 5, none⟩ = some (.slice (some ⟨gk, 0, none⟩) nk ck) ∧ w.cell? ⟨gk, i, none⟩ = some (.int .i64 (q : Int)) ∧ w.cell? ⟨g, q * 7 + 3, none⟩ = some (.int .i64 k1) ∧ w.cell? ⟨g, q * 7 + 4, none⟩ = some (.int .i64 k2)) ∧ Hid (Below W.heap.size W w)
section
variable {W w w2 : World} {D X g gk i q : Nat} {txt : ByteArray} {n c nk ck : Nat} {k1 k2 : Int}
theorem KyR.bel (h : KyR W D X g gk i q txt n c nk ck k1 k2 w) : Below W.heap.size W w := h.2.out
theorem KyR.step (h : KyR W D X g gk i q txt n c nk ck k1 k2 w) (hb : Below w.heap.size w w2) : KyR W D X g gk i q txt n c nk ck k1 k2 w2 := by
 obtain ⟨⟨h0, h1, h2, h3, h4, h5⟩, h8⟩ := h
 exact ⟨⟨cell_keepT h0 hb, cell_keepT h1 hb, cell_keepT h2 hb, cell_keepT h3 hb, cell_keepT h4 hb, cell_keepT h5 hb⟩, Lib.hid (below_of_new h8.out hb)⟩
theorem KyR.drew (h : KyR W D X g gk i q txt n c nk ck k1 k2 w) : KyR W D X g gk i q txt n c nk ck k1 k2 w.drew := h.step (Below.refl _ _).drew
end
set_option maxRecDepth 100000 in
set_option maxHeartbeats 4000000 in
theorem rnode_step (txt : Stp) (ns : List NodeD) (p : Option Addr) (c : Nat) (hN : ns.length ≤ 65536) (hs : txt.length ≤ 1073741824) (lv : Nat) (IH : JNr txt ns p c lv) : JNr txt ns p c (lv + 1) := by
 intro k m w hT hn
 obtain ⟨x, hx⟩ : ∃ x, ns[k]? = some x := by obtain ⟨x, hx, _⟩ := hT; exact ⟨x, hx⟩
 have HKD := Lib.hid (fun q (hq : q ∈ x.kids) => hT.kid hx hq)
 obtain ⟨g, hp, kv, pv, n0, n1, n2, n3, n4, n5, n6, n7, n8⟩ := hn k x hx
 obtain ⟨pq, cq, rfl, hq⟩ := n7
 obtain ⟨pz, cz, rfl, _⟩ := n8
 have hk := (List.getElem?_eq_some_iff.1 hx).1
 have hval : nodeV txt ns (lv + 1) k = .mk (x.kind : Int) (textV x.kind (slT txt (x.sf, x.st))) (ksV txt ns x.kind x.kids) (x.kids.map (nodeV txt ns lv)) := by rw [nodeV, hx]; rfl
 rw [hval]
 have hp0 := hp
 subst hp
 obtain ⟨D, hD⟩ : ∃ D, w.heap.size = D := ⟨_, rfl⟩
 obtain ⟨W1, hW1⟩ : ∃ W, w.alloc (.cells #[.string (bs txt), .slice (some ⟨g, 0, none⟩) ns.length c] 132) = W := ⟨_, rfl⟩
 obtain ⟨R, hR⟩ : ∃ R, W1.heap.size = R := ⟨_, rfl⟩
 obtain ⟨W2, hW2⟩ : ∃ W, W1.alloc (.cells #[.int .i64 0, .string ⟨#[]⟩, .slice none 0 0, .slice none 0 0] 36) = W := ⟨_, rfl⟩
 obtain ⟨X, hX⟩ : ∃ X, W2.heap.size = X := ⟨_, rfl⟩
 obtain ⟨W3, hW3⟩ : ∃ W, W2.alloc (.cells #[.int .i64 (x.kind : Int), .int .i64 (x.sf : Int), .int .i64 (x.st : Int), .int .i64 (x.key.1 : Int), .int .i64 (x.key.2 : Int), .slice pq x.kids.length cq, .slice pz x.pcs.length cz] 187) = W := ⟨_, rfl⟩
 have hB1 : Below w.heap.size w W1 := by rw [← hW1]; exact below_alloc1 _ _
 have hB12 : Below W1.heap.size W1 W2 := by rw [← hW2]; exact below_alloc1 _ _
 have hB23 : Below W2.heap.size W2 W3 := by rw [← hW3]; exact below_alloc1 _ _
 have HB2 := Lib.hid (below_of_new hB1 hB12)
 have HB3 := Lib.hid (below_of_new HB2.out hB23)
 have hd0 : W1.heap[D]? = some (.cells #[.string (bs txt), .slice (some ⟨g, 0, none⟩) ns.length c] 132) := by rw [← hW1, ← hD]; exact heap_alloc_new w _
 have hdl := cell_it hd0
 have HD3 : Hid (W3.heap[D]? = some (.cells #[.string (bs txt), .slice (some ⟨g, 0, none⟩) ns.length c] 132)) := Lib.hid ((hB23.block D (Nat.lt_of_lt_of_le hdl hB12.size)).trans ((hB12.block D hdl).trans hd0))
 have hr0 : W2.heap[R]? = some (.cells #[.int .i64 0, .string (bs []), .slice none 0 0, .slice none 0 0] 36) := by rw [← hW2, ← hR]; exact heap_alloc_new W1 _
 have HR3 : Hid (W3.heap[R]? = some (.cells #[.int .i64 0, .string (bs []), .slice none 0 0, .slice none 0 0] 36)) := Lib.hid ((hB23.block R (cell_it hr0)).trans hr0)
 have HX3 : Hid (W3.heap[X]? = some (.cells #[.int .i64 (x.kind : Int), .int .i64 (x.sf : Int), .int .i64 (x.st : Int), .int .i64 (x.key.1 : Int), .int .i64 (x.key.2 : Int), .slice pq x.kids.length cq, .slice pz x.pcs.length cz] 187)) := Lib.hid (by rw [← hW3, ← hX]; exact heap_alloc_new W2 _)
 have hR3 : R < W3.heap.size := cell_it HR3.out
 have HQ : Hid (∀ (w' : World), Below W3.heap.size W3 w' → ∀ (j q : Nat), x.kids[j]? = some q → ∃ gk, pq = some ⟨gk, 0, none⟩ ∧ w'.cell? ⟨gk, j, none⟩ = some (.int .i64 (q : Int))) := Lib.hid (fun w' hb j q hj => by
  obtain ⟨gk, e1, e2⟩ := hq j q hj
  exact ⟨gk, e1, cell_keepT (cell_keepT e2 HB3.out) hb⟩)
 have HNR : Hid (∀ w', Below W3.heap.size W3 w' → NodesR w' (some ⟨g, 0, none⟩) ns) := Lib.hid (fun w' hb => (hn.keep HB3.out).keep hb)
 have HND : Hid (∀ w', Below W3.heap.size W3 w' → ∀ q ∈ x.kids, Calls Tryz.prog 114 #[.agg #[.string (bs txt), .slice (some ⟨g, 0, none⟩) ns.length c], .int .i64 (q : Int)] w' (NewE (nodeV txt ns lv q) w')) := Lib.hid (fun w' hb q hq => by
  obtain ⟨⟨m', hm'⟩, _⟩ := HKD.out q hq
  exact IH q m' w' hm' (HNR.out w' hb))
 have CSK : Hid (∀ (y : Sp) (w' : World), Calls Tryz.prog 173 #[.agg #[.string (bs txt), .slice (some ⟨g, 0, none⟩) ns.length c], .agg #[.int .i64 (y.1 : Int), .int .i64 (y.2 : Int)]] w' fun e w2 => e = .returned (.string (bs (slT txt y))) ∧ Below w'.heap.size w' w2) := Lib.hid (fun y w' => by
  have := rslice_any (bs txt) (.slice (some ⟨g, 0, none⟩) ns.length c) rfl (y.1 : Int) (y.2 : Int) w'
  rw [slB] at this
  exact this)
 have CUK : Hid (∀ (y : Sp) (w' : World), Calls Tryz.prog 61 #[.string (bs (slT txt y))] w' fun e w2 => e = ReadE (unqL (slT txt y)) ∧ Below w'.heap.size w' w2) := Lib.hid (fun y w' => refUnquote_any _ w' (by have := slT_len txt y; omega))
 obtain ⟨sl, hsl⟩ : ∃ sl, slT txt (x.sf, x.st) = sl := ⟨_, rfl⟩
 have hsll := slT_len txt (x.sf, x.st)
 rw [hsl] at hsll ⊢
 have CS1 : Hid (∀ w', Calls Tryz.prog 173 #[.agg #[.string (bs txt), .slice (some ⟨g, 0, none⟩) ns.length c], .agg #[.int .i64 (x.sf : Int), .int .i64 (x.st : Int)]] w' fun e w2 => e = .returned (.string (bs sl)) ∧ Below w'.heap.size w' w2) := Lib.hid (fun w' => by
  have := CSK.out (x.sf, x.st) w'
  rw [hsl] at this
  exact this)
 obtain ⟨tx, htx⟩ : ∃ tx, textV x.kind sl = tx := ⟨_, rfl⟩
 rw [htx]
 have HTX := Lib.hid htx
 have hk0 : (0 : Int) ≤ (k : Int) := by omega
 have hk1 : (k : Int) < (ns.length : Int) := by omega
 have hkl : x.kids.length ≤ 65536 := kids_len hT hx hN
 have e0 : W2.cell? ⟨g, k * 7, none⟩ = some (.int .i64 (x.kind : Int)) := cell_keepT n0 HB2.out
 have e1 : W2.cell? ⟨g, k * 7 + 1, none⟩ = some (.int .i64 (x.sf : Int)) := cell_keepT n1 HB2.out
 have e2 : W2.cell? ⟨g, k * 7 + 2, none⟩ = some (.int .i64 (x.st : Int)) := cell_keepT n2 HB2.out
 have e3 : W2.cell? ⟨g, k * 7 + 3, none⟩ = some (.int .i64 (x.key.1 : Int)) := cell_keepT n3 HB2.out
 have e4 : W2.cell? ⟨g, k * 7 + 4, none⟩ = some (.int .i64 (x.key.2 : Int)) := cell_keepT n4 HB2.out
 have e5 : W2.cell? ⟨g, k * 7 + 5, none⟩ = some (.slice pq x.kids.length cq) := cell_keepT n5 HB2.out
 have e6 : W2.cell? ⟨g, k * 7 + 6, none⟩ = some (.slice pz x.pcs.length cz) := cell_keepT n6 HB2.out
 have c1 : W2.cell? ⟨D, 1, none⟩ = some (.slice (some ⟨g, 0, none⟩) ns.length c) := by rw [node_box ((hB12.block D hdl).trans hd0) 1]; rfl
 have hDR : D < R := by rw [← hR, ← hD, ← hW1]; simp
 obtain ⟨kd, hkd⟩ : ∃ kd : Int, (x.kind : Int) = kd := ⟨_, rfl⟩
 have h6k : x.kind = 6 ↔ kd = 6 := by omega
 have H6 := Lib.hid h6k
 have HKD2 := Lib.hid hkd
 rw [hkd] at HX3 hW3 e0 ⊢
 clear hn n0 n1 n2 n3 n4 n5 n6 hval hx hk hT hB1 hB12 hB23 hd0 hr0 hsl htx hp0 hq hdl hkd h6k IH
 go_enter Tryz.func114, Tryz.ntmps114
 go_upto_region 1 with fail
 clear hW1 hR
 go_upto_region 2 with fail
 have HXC : Hid (∀ w', Below W3.heap.size W3 w' → (w'.cell? ⟨X, 0, none⟩ = some (.int .i64 kd) ∧ w'.cell? ⟨X, 1, none⟩ = some (.int .i64 (x.sf : Int)) ∧ w'.cell? ⟨X, 2, none⟩ = some (.int .i64 (x.st : Int)) ∧ w'.cell? ⟨X, 5, none⟩ = some (.slice pq x.kids.length cq)) ∧ w'.cell? ⟨D, 0, none⟩ = some (.string (bs txt)) ∧ w'.cell? ⟨D, 1, none⟩ = some (.slice (some ⟨g, 0, none⟩) ns.length c)) := Lib.hid (fun w' hb => by
  have hx := (hb.block X (cell_it HX3.out)).trans HX3.out
  have hd := (hb.block D (cell_it HD3.out)).trans HD3.out
  exact ⟨⟨by rw [node_box hx]; rfl, by rw [node_box hx]; rfl, by rw [node_box hx]; rfl, by rw [node_box hx]; rfl⟩, by rw [node_box hd]; rfl, by rw [node_box hd]; rfl⟩)
 clear e0 e1 e2 e3 e4 e5 e6 c1
 obtain ⟨⟨x0, x1, x2, x5⟩, z0, z1⟩ := HXC.out W3 (Below.refl _ _)
 go_wp2_with fail
 refine (CS1.out _).mono ?_
 rintro e w5 ⟨rfl, hb5⟩
 have HB5 := Lib.hid hb5
 clear x0 x1 x2 x5 z0 z1 hb5
 obtain ⟨⟨x0, x1, x2, x5⟩, z0, z1⟩ := HXC.out w5 HB5.out
 have HC5 := Lib.hid (CS.start HB5.out kd [])
 go_upto_region 4 with fail
 obtain ⟨Y, hY⟩ : ∃ Y, w5.heap.size = Y := ⟨_, rfl⟩
 obtain ⟨w6, hw6⟩ : ∃ W, w5.alloc (.cells #[.int .i64 kd, .string ⟨#[]⟩, .slice none 0 0, .slice none 0 0] 36) = W := ⟨_, rfl⟩
 have HC6 : Hid (CS W3 Y kd [] [] [] (.slice none 0 0) (.slice none 0 0) w6) := Lib.hid (by rw [← hw6, ← hY]; exact HC5.out)
 rw [hw6, hY]
 clear HC5 hw6 hY HB5 x0 x1 x2 x5 z0 z1
 obtain ⟨⟨x0, x1, x2, x5⟩, z0, z1⟩ := HXC.out w6 HC6.out.bel
 go_upto_block 0 with fail
 go_cut [8, 9, 28, 29, 30, 31, 32, 33, 34, 35, 36, 37, 38, 39, 40, 41, 42, 43, 44, 45, 46, 47, 48, 49, 50] (fun s8 s9 s28 s29 s30 s31 s32 s33 s34 s35 s36 s37 s38 s39 s40 s41 s42 s43 s44 s45 s46 s47 s48 s49 s50 wx => Hid (CS W3 Y kd tx [] [] (.slice none 0 0) (.slice none 0 0) wx))
 case first =>
  have hkd := HKD2.out
  have htx := HTX.out
  unfold textV at htx
  obtain ⟨y0, y1, y2, y3, g0, g1, g2, g3⟩ := HC6.out.cells
  by_cases h2 : x.kind = 2
  ·rw [if_pos h2] at htx
   obtain rfl : kd = 2 := by omega
   subst htx
   have HF := Lib.hid (HC6.out.text sl)
   clear hkd
   go_wp2_with fail
   go_meet
   exact HF
  rw [if_neg h2] at htx
  have d2 : (kd == 2) = false := beq_eq_false_iff_ne.2 (by omega)
  by_cases h3 : x.kind = 3
  ·rw [if_pos h3] at htx
   obtain rfl : kd = 3 := by omega
   have CP := Lib.hid (fun w => refParse_any sl w (by omega))
   have hdl := parse_dig2 sl
   obtain ⟨⟨n, er⟩, hP⟩ : ∃ P, parseL sl = P := ⟨_, rfl⟩
   rw [hP] at CP hdl htx
   simp only [] at hdl htx
   subst htx
   have CT2 := Lib.hid (fun w => refText_any n w (by omega))
   clear hkd hP hdl
   go_wp2_with fail
   refine (CP.out _).mono ?_
   unfold Parsed numV
   rintro e w7 ⟨rfl, hb7⟩
   have hb8 := below_of_new hb7 (below_alloc1 w7 (.cells #[.bool n.neg, .string (bs n.dig), .int .i64 n.exp] 96))
   have HC8 := Lib.hid (HC6.out.keep hb8)
   clear hb7 hb8 y0 y1 y2 y3 g0 g1 g2 g3 x0 x1 x2 x5 z0 z1
   go_wp2_with fail
   refine (CT2.out _).mono ?_
   rintro e w9 ⟨rfl, hb9⟩
   have HC9 := Lib.hid (HC8.out.keep hb9)
   clear hb9
   obtain ⟨y0, y1, y2, y3, g0, g1, g2, g3⟩ := HC9.out.cells
   have HF := Lib.hid (HC9.out.text (textL n))
   go_wp2_with fail
   go_meet
   exact HF
  rw [if_neg h3] at htx
  have d3 : (kd == 3) = false := beq_eq_false_iff_ne.2 (by omega)
  by_cases h4 : x.kind = 4
  ·rw [if_pos h4] at htx
   obtain rfl : kd = 4 := by omega
   have CU := Lib.hid (fun w => refUnquote_any sl w (by omega))
   unfold ReadE at CU
   obtain ⟨⟨U, ua, ue⟩, hU⟩ : ∃ U, unqL sl = U := ⟨_, rfl⟩
   rw [hU] at CU htx
   simp only [] at htx
   subst htx
   clear hkd hU
   go_wp2_with fail
   refine (CU.out _).mono ?_
   rintro e w7 ⟨rfl, hb7⟩
   have HC9 := Lib.hid (HC6.out.keep hb7)
   clear hb7 y0 y1 y2 y3 g0 g1 g2 g3 x0 x1 x2 x5 z0 z1
   obtain ⟨y0, y1, y2, y3, g0, g1, g2, g3⟩ := HC9.out.cells
   have HF := Lib.hid (HC9.out.text U)
   go_wp2_with fail
   go_meet
   exact HF
  rw [if_neg h4] at htx
  have d4 : (kd == 4) = false := beq_eq_false_iff_ne.2 (by omega)
  subst htx
  have HF := HC6
  clear hkd
  go_wp2_with fail
  go_meet
  exact HF
 case rest =>
 have HC7 := hcut
 clear hcut HC6 x0 x1 x2 x5 z0 z1 CS1 HTX HKD2
 go_wp2_with fail
 go_loopw [10, 11, 12, 13] (fun s10 s11 s12 s13 wr => ∃ (i : Nat) (kv ov : Value), s10 = .int .i64 (i : Int) ∧ i ≤ x.kids.length ∧ Hid (CS W3 Y kd tx (ksV txt ns x.kind (x.kids.take i)) ((x.kids.take i).map (nodeV txt ns lv)) kv ov wr)) (fun s10 _ _ _ _ => x.kids.length - (RowKit.intOf s10).toNat)
 case atStart => exact ⟨0, .slice none 0 0, .slice none 0 0, rfl, Nat.zero_le _, by rw [List.take_zero, ksV_nil]; first | exact HC7 | exact Lib.hid (HC7.out.keep (Below.refl _ _).drew)⟩
 case round =>
  obtain ⟨i, kv, ov, rfl, hi, HC⟩ := hrel
  obtain ⟨⟨x0, x1, x2, x5⟩, z0, z1⟩ := HXC.out wr HC.out.bel
  by_cases hil : i < x.kids.length
  ·obtain ⟨q, hq⟩ : ∃ q, x.kids[i]? = some q := ⟨_, List.getElem?_eq_getElem hil⟩
   have hqm := List.mem_of_getElem? hq
   obtain ⟨gk, rfl, kc⟩ := HQ.out wr HC.out.bel i q hq
   have hgk : gk < W3.heap.size := by
    obtain ⟨gk2, e1, e2⟩ := HQ.out W3 (Below.refl _ _) i q hq
    injection e1 with e1
    injection e1 with e1
    subst e1
    exact cell_lt e2
   obtain ⟨_, hqn⟩ := HKD.out q hqm
   have hi1 : (i : Int) < (x.kids.length : Int) := by omega
   have dk : decide ((i : Int) < (x.kids.length : Int)) = true := decide_eq_true hi1
   have hi0 : (0 : Int) ≤ (i : Int) := by omega
   have hq0 : (0 : Int) ≤ (q : Int) := by omega
   have hq1 : (q : Int) < (ns.length : Int) := by omega
   have HTK := Lib.hid (take_one hq)
   obtain ⟨pa, ca, hkv⟩ := HC.out.keys.slice
   obtain ⟨po, co, hov⟩ := HC.out.its.slice
   have hlt : ((x.kids.take i).map (nodeV txt ns lv)).length = i := by rw [List.length_map, List.length_take]; omega
   rw [hlt] at hov
   obtain ⟨nk, hnk⟩ : ∃ nk, (ksV txt ns x.kind (x.kids.take i)).length = nk := ⟨_, rfl⟩
   have hnk1 : nk ≤ 65536 := by
    rw [← hnk]
    unfold ksV
    split
    ·rw [List.length_map, List.length_take]; omega
    ·exact Nat.zero_le _
   rw [hnk] at hkv
   subst hkv hov
   have HNK := Lib.hid hnk
   have HQM := Lib.hid hqm
   have HQX := Lib.hid hq
   clear hq hqm hnk hlt
   go_upto_if 60 with fail
   go_cut [11, 12, 13, 61, 62, 63, 64, 65, 66, 67, 68, 69, 70, 71, 72, 73, 74, 75, 76, 77, 78, 79, 80, 81, 82, 83] (fun s11 s12 s13 s61 s62 s63 s64 s65 s66 s67 s68 s69 s70 s71 s72 s73 s74 s75 s76 s77 s78 s79 s80 s81 s82 s83 wx => ∃ kv', Hid (CS W3 Y kd tx (ksV txt ns x.kind (x.kids.take (i + 1))) ((x.kids.take i).map (nodeV txt ns lv)) kv' (.slice po i co) wx))
   case first =>
    by_cases h6 : kd = 6
    rotate_left
    ·have d6 : (kd == 6) = false := beq_eq_false_iff_ne.2 h6
     have hx6 : ¬ x.kind = 6 := fun e => h6 (H6.out.1 e)
     have HC1 : Hid (CS W3 Y kd tx (ksV txt ns x.kind (x.kids.take (i + 1))) ((x.kids.take i).map (nodeV txt ns lv)) (.slice pa nk ca) (.slice po i co) wr) := Lib.hid (by
      have := HC.out
      unfold ksV at this ⊢
      rw [if_neg hx6] at this ⊢
      exact this)
     clear h6 hx6
     go_wp2_with fail
     go_meet
     exact ⟨_, by first | exact HC1 | exact Lib.hid (HC1.out.keep (Below.refl _ _).drew)⟩
    ·have d6 : (kd == 6) = true := by rw [h6]; rfl
     have hx6 : x.kind = 6 := H6.out.2 h6
     obtain ⟨xq, hxq⟩ : ∃ xq, ns[q]? = some xq := ⟨_, List.getElem?_eq_getElem hqn⟩
     obtain ⟨g', hg', _, _, _, _, _, m3, m4, _⟩ := HNR.out wr HC.out.bel q xq hxq
     injection hg' with hg'
     injection hg' with hg'
     subst hg'
     have hkey : (unqL (slT txt xq.key)).1 = keyV txt ns q := by unfold keyV; rw [hxq]
     have CS16 := Lib.hid (CSK.out xq.key)
     have CU16 := Lib.hid (CUK.out xq.key)
     unfold ReadE at CU16
     obtain ⟨⟨U, ua, ue⟩, hU⟩ : ∃ U, unqL (slT txt xq.key) = U := ⟨_, rfl⟩
     rw [hU] at CU16 hkey
     simp only [] at hkey
     subst hkey
     have hlen2 : ((x.kids.take i).map (keyV txt ns) ++ [keyV txt ns q]).length = nk + 1 := by
      have := HNK.out
      unfold ksV at this
      rw [if_pos hx6] at this
      rw [List.length_append, this, List.length_singleton]
     have hlk : ((x.kids.take i).map (keyV txt ns)).length ≤ 4294967295 := by rw [List.length_map, List.length_take]; omega
     have HX6 := Lib.hid hx6
     have HL2 := Lib.hid (And.intro hlen2 hlk)
     have HC1 : Hid (CS W3 Y kd tx ((x.kids.take i).map (keyV txt ns)) ((x.kids.take i).map (nodeV txt ns lv)) (.slice pa nk ca) (.slice po i co) wr) := Lib.hid (by
      have := HC.out
      unfold ksV at this
      rw [if_pos hx6] at this
      exact this)
     have HS0 : KyR wr D X g gk i q (bs txt) ns.length c x.kids.length cq (xq.key.1 : Int) (xq.key.2 : Int) wr := ⟨⟨z0, z1, x5, kc, m3, m4⟩, Lib.hid (Below.refl _ _)⟩
     clear h6 hx6 hlen2 hlk hU hxq
     go_upto_region 16 with fail
     clear x0 x1 x2 x5 z0 z1 kc m3 m4
     go_region_held3 (fun w' => KyR wr D X g gk i q (bs txt) ns.length c x.kids.length cq (xq.key.1 : Int) (xq.key.2 : Int) w') ((first | exact KyR.drew (by assumption) | exact KyR.step (by assumption) (by assumption) | assumption))
      ((first
       | (go_at_call 173; (refine (CS16.out _).mono ?_); rintro e w5 ⟨rfl, hb5⟩)
       | (go_at_call 61; (refine (CU16.out _).mono ?_); rintro e w6 ⟨rfl, hb6⟩)))
     all_goals
      have HB6 : Hid (Below wr.heap.size wr w6) := Lib.hid (KyR.bel (by assumption : KyR wr D X g gk i q (bs txt) ns.length c x.kids.length cq (xq.key.1 : Int) (xq.key.2 : Int) w6))
      have HC6 := Lib.hid (HC1.out.keep HB6.out)
      have hlsz : (bs (keyV txt ns q)).size = (keyV txt ns q).length := bs_size _
      obtain ⟨y0, y1, y2, y3, g0, g1, g2, g3⟩ := HC6.out.cells
      go_wp2_with (at_builtin; refine wpList_step fun K hK => ?_; rw [if_pos (by rfl)]; refine PhK.app (.tmp 79) (.tmp 81) rfl (key := keyV txt ns q) HC6.out ⟨w6, Below.refl _ _, rfl, rfl⟩ rfl rfl HL2.out.2 ?_; intro v' w7 hp3; obtain ⟨pz2, cz2, hz⟩ := hp3.1.slice; rw [HL2.out.1] at hz; subst hz; have HP3 := Lib.hid hp3; have hy : w7.cell? ⟨Y, 2, none⟩ = some (.slice pa nk ca) ∧ w7.frozen? ⟨Y, 2, none⟩ = false := (by obtain ⟨q1, q2, q3, q4, q5⟩ := hp3; have hbox := HC6.out.box; have hYl := cell_it hbox; have e1 : w7.heap[Y]? = w6.heap[Y]? := q4 Y hYl HC6.out.off; have e2 := e1.trans hbox; obtain ⟨y0, y1, y2, y3, y4, y5, y6, y7⟩ := box4 e2; exact ⟨y2, y6⟩); obtain ⟨hy1, hy2⟩ := hy; clear hp3; refine hK _ _ ?_)
      obtain ⟨kv2, HC2⟩ := PhK.fin HC6.out (show PhK W3 w6 Y (keyV txt ns q) ((x.kids.take i).map (keyV txt ns)) (.slice pa nk ca) 4 undef _ from ⟨_, _, HP3.out, rfl⟩)
      have HC2 : Hid (CS W3 Y kd tx (ksV txt ns x.kind (x.kids.take (i + 1))) ((x.kids.take i).map (nodeV txt ns lv)) kv2 (.slice po i co) _) := Lib.hid (by unfold ksV; rw [if_pos HX6.out, HTK.out, List.map_append]; exact HC2)
      go_meet
      exact ⟨_, HC2⟩
   case rest =>
    obtain ⟨kv', HC1⟩ := hcut
    clear HC HNK hnk1 x0 x1 x2 x5 z0 z1 kc
    obtain ⟨W0, hW0⟩ : ∃ W, wc.drew = W := ⟨_, rfl⟩
    have hb0r : Below wc.heap.size wc W0 := by rw [← hW0]; exact (Below.refl _ _).drew
    have HC0' := Lib.hid (HC1.out.keep hb0r)
    have hlen2 : ((x.kids.take i).map (nodeV txt ns lv) ++ [nodeV txt ns lv q]).length = i + 1 := by rw [List.length_append, List.length_map, List.length_take, List.length_singleton]; omega
    have hlk : ((x.kids.take i).map (nodeV txt ns lv)).length ≤ 4294967295 := by rw [List.length_map, List.length_take]; omega
    have HL2 := Lib.hid (And.intro hlen2 hlk)
    have HQI : Hid (x.kids[i]? = some q) := HQX
    clear hlen2 hlk hb0r
    go_upto_region 18 with fail
    obtain ⟨SA, hSA⟩ : ∃ S : World → Prop, (fun w' => (w'.cell? ⟨Y, 3, none⟩ = some (.slice po i co) ∧ w'.frozen? ⟨Y, 3, none⟩ = false) ∧ w'.cell? ⟨D, 0, none⟩ = some (.string (bs txt)) ∧ w'.cell? ⟨D, 1, none⟩ = some (.slice (some ⟨g, 0, none⟩) ns.length c) ∧ w'.cell? ⟨X, 5, none⟩ = some (.slice (some ⟨gk, 0, none⟩) x.kids.length cq) ∧ w'.cell? ⟨gk, i, none⟩ = some (.int .i64 (q : Int))) = S := ⟨_, rfl⟩
    have HGK : Hid (∀ w', Below W3.heap.size W3 w' → w'.cell? ⟨gk, i, none⟩ = some (.int .i64 (q : Int))) := Lib.hid (fun w' hb => by
     obtain ⟨gk2, e1, e2⟩ := HQ.out w' hb i q HQI.out
     injection e1 with e1
     injection e1 with e1
     subst e1
     exact e2)
    have HSA : Hid (∀ w', Below W0.heap.size W0 w' → SA w') := Lib.hid (fun w' hb => by
     rw [← hSA]
     obtain ⟨⟨_, _, _, a5⟩, a3, a4⟩ := HXC.out w' (below_of_new HC0'.out.bel hb)
     have q := (HC0'.out.keep hb).cells
     exact ⟨⟨q.2.2.2.1, q.2.2.2.2.2.2.2⟩, a3, a4, a5, HGK.out w' (below_of_new HC0'.out.bel hb)⟩)
    have HSG : Hid (∀ w' c', PhV W0 Y kv'.ownBlock (nodeV txt ns lv q) ((x.kids.take i).map (nodeV txt ns lv)) (.slice po i co) 3 c' w' → SA w') := Lib.hid (fun w' c' hp => by
     rw [← hSA]
     obtain ⟨q1, q2, q3, q4⟩ := hp
     have hbox := HC0'.out.box
     have hn := HC0'.out.new_
     have hD3l := cell_it HD3.out
     have hX3l := cell_it HX3.out
     have hbY : Below (Y + 1) W0 w' := q2
     have e2 : w'.heap[Y]? = _ := (hbY.block Y (Nat.lt_succ_self _)).trans hbox
     have e3 : ∀ b o', b < W3.heap.size → w'.cell? ⟨b, o', none⟩ = W0.cell? ⟨b, o', none⟩ := fun b o' hb => hbY.cell (p := ⟨b, o', none⟩) (by show b < Y + 1; omega)
     obtain ⟨⟨_, _, _, a5⟩, a3, a4⟩ := HXC.out W0 HC0'.out.bel
     obtain ⟨y0, y1, y2, y3, y4, y5, y6, y7⟩ := box4 e2
     exact ⟨⟨y3, y7⟩, by rw [e3 _ _ hD3l]; exact a3, by rw [e3 _ _ hD3l]; exact a4, by rw [e3 _ _ hX3l]; exact a5, by rw [e3 _ _ hgk]; exact HGK.out W0 HC0'.out.bel⟩)
    have hfol : Tryz.prog.follows .mixedOrders = true := by kernel_rfl
    refine wp_region_rcf hfol [84, 85, 86, 87, 88, 89, 90, 91, 92, 93, 94, 95] [8, 9, 10, 12] 1000000 (fun _ _ => True) 97 rfl (by kernel_rfl) (by kernel_rfl) (by kernel_rfl) (fun iz => match iz with | 0 => .pointer (some ⟨Y, 3, none⟩) | 1 => .slice po i co | 2 => .agg #[.string (bs txt), .slice (some ⟨g, 0, none⟩) ns.length c] | 3 => .pointer (some ⟨X, 5, none⟩) | 4 => .slice (some ⟨gk, 0, none⟩) x.kids.length cq | 5 => .int .i64 (i : Int) | 6 => .pointer (some ⟨gk, i, none⟩) | 7 => .int .i64 (q : Int) | 11 => .pointer (some ⟨Y, 3, none⟩) | _ => undef) SA (PhV W0 Y kv'.ownBlock (nodeV txt ns lv q) ((x.kids.take i).map (nodeV txt ns lv)) (.slice po i co)) (by rw [hW0]; exact HSA.out _ (Below.refl _ _)) (by rw [hW0]; exact Below.refl _ _) ?_ ?_
    ·intro d a w' iq o' ho hi hall hfr hF R' hR
     have hiN : iq < 13 := (Array.getElem?_eq_some_iff.1 ho).1
     have q2 : a.tmps[2]?.getD undef = .pointer (some ⟨D, 0, none⟩) := by rw [← Array.getD_eq_getD_getElem?]; exact hfr 2 (by decide)
     have q5 : a.tmps[5]?.getD undef = .pointer (some ⟨X, 0, none⟩) := by rw [← Array.getD_eq_getD_getElem?]; exact hfr 5 (by decide)
     have q7 : a.tmps[7]?.getD undef = .pointer (some ⟨Y, 0, none⟩) := by rw [← Array.getD_eq_getD_getElem?]; exact hfr 7 (by decide)
     have q10 : a.tmps[10]?.getD undef = .int .i64 (i : Int) := by rw [← Array.getD_eq_getD_getElem?]; exact hfr 10 (by decide)
     clear hfr
     have ha := hall
     have hoo := ho
     have hcs : iq = 0 ∨ iq = 1 ∨ iq = 2 ∨ iq = 3 ∨ iq = 4 ∨ iq = 5 ∨ iq = 6 ∨ iq = 7 ∨ iq = 8 ∨ iq = 9 ∨ iq = 10 ∨ iq = 11 ∨ iq = 12 := by omega
     clear hiN
     rcases hcs with rfl | rfl | rfl | rfl | rfl | rfl | rfl | rfl | rfl | rfl | rfl | rfl | rfl <;> simp only [List.getElem?_toArray, List.getElem?_cons_zero, List.getElem?_cons_succ, Option.some.injEq] at ho <;> subst ho
     ·go_simp
      exact hR _ _ (hF.pure (by decide) hoo ha rfl (by decide) (by decide) (by decide) rfl)
     ·simp [Region.binds] at hall
      have c84 : a.tmps[84]?.getD undef = .pointer (some ⟨Y, 3, none⟩) := by rw [← Array.getD_eq_getD_getElem?]; exact hF.cl 0 (by decide) (by decide) (by decide) (by simp [hall])
      have hS0 := hF.early (f := 13) (i := 1) (by kernel_rfl) hi
      rw [← hSA] at hS0
      obtain ⟨⟨x3, x3f⟩, s3, s4, s5, s6⟩ := hS0
      go_simp
      exact hR _ _ (hF.pure (by decide) hoo ha rfl (by decide) (by decide) (by decide) rfl)
     ·have hS0 := hF.early (f := 13) (i := 2) (by kernel_rfl) hi
      rw [← hSA] at hS0
      obtain ⟨⟨x3, x3f⟩, s3, s4, s5, s6⟩ := hS0
      go_simp
      exact hR _ _ (hF.pure (by decide) hoo ha rfl (by decide) (by decide) (by decide) rfl)
     ·go_simp
      exact hR _ _ (hF.pure (by decide) hoo ha rfl (by decide) (by decide) (by decide) rfl)
     ·simp [Region.binds] at hall
      have c87 : a.tmps[87]?.getD undef = .pointer (some ⟨X, 5, none⟩) := by rw [← Array.getD_eq_getD_getElem?]; exact hF.cl 3 (by decide) (by decide) (by decide) (by simp [hall])
      have hS0 := hF.early (f := 13) (i := 4) (by kernel_rfl) hi
      rw [← hSA] at hS0
      obtain ⟨⟨x3, x3f⟩, s3, s4, s5, s6⟩ := hS0
      go_simp
      exact hR _ _ (hF.pure (by decide) hoo ha rfl (by decide) (by decide) (by decide) rfl)
     ·go_simp
      exact hR _ _ (hF.pure (by decide) hoo ha rfl (by decide) (by decide) (by decide) rfl)
     ·simp [Region.binds] at hall
      have c88 : a.tmps[88]?.getD undef = .slice (some ⟨gk, 0, none⟩) x.kids.length cq := by rw [← Array.getD_eq_getD_getElem?]; exact hF.cl 4 (by decide) (by decide) (by decide) (by simp [hall])
      have c89 : a.tmps[89]?.getD undef = .int .i64 (i : Int) := by rw [← Array.getD_eq_getD_getElem?]; exact hF.cl 5 (by decide) (by decide) (by decide) (by simp [hall])
      have hS0 := hF.early (f := 13) (i := 6) (by kernel_rfl) hi
      rw [← hSA] at hS0
      obtain ⟨⟨x3, x3f⟩, s3, s4, s5, s6⟩ := hS0
      go_simp
      exact hR _ _ (hF.pure (by decide) hoo ha rfl (by decide) (by decide) (by decide) rfl)
     ·simp [Region.binds] at hall
      have c90 : a.tmps[90]?.getD undef = .pointer (some ⟨gk, i, none⟩) := by rw [← Array.getD_eq_getD_getElem?]; exact hF.cl 6 (by decide) (by decide) (by decide) (by simp [hall])
      have hS0 := hF.early (f := 13) (i := 7) (by kernel_rfl) hi
      rw [← hSA] at hS0
      obtain ⟨⟨x3, x3f⟩, s3, s4, s5, s6⟩ := hS0
      go_simp
      exact hR _ _ (hF.pure (by decide) hoo ha rfl (by decide) (by decide) (by decide) rfl)
     ·simp [Region.binds] at hall
      have c86 : a.tmps[86]?.getD undef = .agg #[.string (bs txt), .slice (some ⟨g, 0, none⟩) ns.length c] := by rw [← Array.getD_eq_getD_getElem?]; exact hF.cl 2 (by decide) (by decide) (by decide) (by simp [hall])
      have c91 : a.tmps[91]?.getD undef = .int .i64 (q : Int) := by rw [← Array.getD_eq_getD_getElem?]; exact hF.cl 7 (by decide) (by decide) (by decide) (by simp [hall])
      have hP0 := hF.at2 (j := 0) rfl hi (.inl rfl)
      have hA : Below W0.heap.size W0 w' := hP0
      go_simp
      go_at_call 114
      refine (HND.out _ (below_of_new HC0'.out.bel hA) q HQM.out).mono ?_
      rintro e w5 ⟨⟨kv5, iv5, rfl, hv5⟩, hb5⟩
      have hb6 := below_of_new hA hb5
      exact hR _ _ (hF.eff2 (by decide) (by decide) 0 hoo ha rfl hi (.inl rfl) rfl (by decide) (fun _ _ _ => trivial) (fun _ => HSA.out _ hb6) ⟨kv5, iv5, rfl, hv5.mono (fun q hq _ => Nat.le_trans hA.size hq), hb6⟩)
     ·simp [Region.binds] at hall
      have hpv : d 8 = true := by first | first | exact hall | exact hall.1 | exact hall.2 | exact hall.2.1 | exact hall.2.2 | exact hall.2.2.1 | exact hall.2.2.2 | (exact ha ⟨_, _⟩ (by simp) rfl)
      have hP0 := hF.at2 (j := 1) rfl hi (.inr ⟨8, rfl, hpv⟩)
      obtain ⟨kv5, iv5, hc5, hv5, hb5⟩ := hP0
      have hc5 : a.tmps.getD 92 undef = vv (nodeV txt ns lv q) kv5 iv5 := hc5
      have c92 : a.tmps[92]?.getD undef = .agg #[.int .i64 (nodeV txt ns lv q).kind, .string (bs (nodeV txt ns lv q).text), kv5, iv5] := by rw [← Array.getD_eq_getD_getElem?]; exact hc5
      have hb6 := fun ob => below_of_new hb5 (below_alloc1 w' ob)
      go_simp
      exact hR _ _ (hF.eff2 (by decide) (by decide) 1 hoo ha rfl hi (.inr ⟨8, rfl, hpv⟩) rfl (by decide) (fun _ _ _ => trivial) (fun _ => HSA.out _ (hb6 _)) ⟨w', kv5, iv5, hv5, hb5, rfl, rfl⟩)
     ·simp [Region.binds] at hall
      have c85 : a.tmps[85]?.getD undef = .slice po i co := by rw [← Array.getD_eq_getD_getElem?]; exact hF.cl 1 (by decide) (by decide) (by decide) (by simp [hall])
      have hpv : d 9 = true := by first | first | exact hall | exact hall.1 | exact hall.2 | exact hall.2.1 | exact hall.2.2 | exact hall.2.2.1 | exact hall.2.2.2 | (exact ha ⟨_, _⟩ (by simp) rfl)
      have hP0 := hF.at2 (j := 2) rfl hi (.inr ⟨9, rfl, hpv⟩)
      have c85' : a.tmps.getD 85 undef = .slice po i co := by rw [Array.getD_eq_getD_getElem?]; exact c85
      exact PhV.app (.tmp 85) (.tmp 93) rfl HC0'.out hP0 c85' rfl HL2.out.2 (fun v' w2 hp3 => hR _ _ (hF.eff2 (by decide) (by decide) 2 hoo ha rfl hi (.inr ⟨9, rfl, hpv⟩) rfl (by decide) (fun _ _ _ => trivial) (fun _ => HSG.out _ _ hp3) hp3))
     ·go_simp
      exact hR _ _ (hF.pure (by decide) hoo ha rfl (by decide) (by decide) (by decide) rfl)
     ·simp [Region.binds] at hall
      have c95 : a.tmps[95]?.getD undef = .pointer (some ⟨Y, 3, none⟩) := by rw [← Array.getD_eq_getD_getElem?]; exact hF.cl 11 (by decide) (by decide) (by decide) (by simp [hall])
      have hpv : d 10 = true := by first | first | exact hall | exact hall.1 | exact hall.2 | exact hall.2.1 | exact hall.2.2 | exact hall.2.2.1 | exact hall.2.2.2 | (exact ha ⟨_, _⟩ (by simp) rfl)
      have hP0 := hF.at2 (j := 3) rfl hi (.inr ⟨10, rfl, hpv⟩)
      have hP3 : PhV W0 Y kv'.ownBlock (nodeV txt ns lv q) ((x.kids.take i).map (nodeV txt ns lv)) (.slice po i co) 3 (a.tmps.getD 94 undef) w' := hP0
      have hS0 := hF.st hi
      rw [← hSA] at hS0
      obtain ⟨⟨x3, x3f⟩, _⟩ := hS0
      obtain ⟨pz2, cz2, hz⟩ := hP3.1.slice
      rw [HL2.out.1] at hz
      rw [hz] at hP3
      have c94 : a.tmps[94]?.getD undef = .slice pz2 (i + 1) cz2 := by rw [← Array.getD_eq_getD_getElem?]; exact hz
      go_simp
      exact hR undef _ (hF.eff2 (by decide) (by decide) 3 hoo ha rfl hi (.inr ⟨10, rfl, hpv⟩) rfl (by decide) (fun _ _ _ => trivial) (fun h => absurd rfl h) ⟨_, _, hP3, rfl⟩)
    intro v wz hcl hP4
    obtain ⟨ov2, HC2⟩ := PhV.fin HC0'.out hP4
    have HC2 : Hid (CS W3 Y kd tx (ksV txt ns x.kind (x.kids.take (i + 1))) ((x.kids.take (i + 1)).map (nodeV txt ns lv)) kv' ov2 wz) := Lib.hid (by
     have e : (x.kids.take (i + 1)).map (nodeV txt ns lv) = (x.kids.take i).map (nodeV txt ns lv) ++ [nodeV txt ns lv q] := by rw [HTK.out, List.map_append]; rfl
     rw [e]; exact HC2)
    clear hcl hP4 HSG HSA hSA HC0' hW0 HC1
    simp only [fillT, List.setIfInBounds_toArray, List.set_cons_succ, List.set_cons_zero]
    have hiw : IntKind.i64.wrap ((i : Int) + 1) = (i : Int) + 1 := IntWalk.i64_in _ (by omega)
    go_wp2_with fail
    go_roundw
    case rel => exact ⟨i + 1, kv', ov2, by go_num, by omega, by first | exact HC2 | exact Lib.hid (HC2.out.keep (Below.refl _ _).drew)⟩
    case measure => simp [RowKit.intOf]; omega
  ·have dk : decide ((i : Int) < (x.kids.length : Int)) = false := decide_eq_false (by omega)
   obtain rfl : i = x.kids.length := by omega
   have hc0 := HC.out
   rw [List.take_length] at hc0
   have HC9 := Lib.hid hc0
   clear hc0 HC
   obtain ⟨pa, ca, hkv⟩ := HC9.out.keys.slice
   obtain ⟨po, co, hov⟩ := HC9.out.its.slice
   obtain ⟨nk, hnk⟩ : ∃ nk, (ksV txt ns x.kind x.kids).length = nk := ⟨_, rfl⟩
   obtain ⟨ni, hni⟩ : ∃ ni, (x.kids.map (nodeV txt ns lv)).length = ni := ⟨_, rfl⟩
   rw [hnk] at hkv
   rw [hni] at hov
   subst hkv hov
   have HP : Hid (NewE (VT.mk kd tx (ksV txt ns x.kind x.kids) (x.kids.map (nodeV txt ns lv))) w (.returned (.agg #[.int .i64 kd, .string (bs tx), .slice pa nk ca, .slice po ni co])) (putV wr R kd tx (.slice pa nk ca) (.slice po ni co))) := Lib.hid (by
    refine ⟨⟨_, _, rfl, ?_⟩, below_putV (below_of_new HB3.out HC9.out.bel) (by omega)⟩
    exact (HC9.out.put (R := R) hR3).mono (fun q hq _ => Nat.le_trans HB3.out.size hq))
   have HRf : Hid ((putV wr R kd tx (.slice pa nk ca) (.slice po ni co)).heap[R]? = some (.cells #[.int .i64 kd, .string (bs tx), .slice pa nk ca, .slice po ni co] 36)) := Lib.hid (putV_cells ((HC9.out.bel.block R hR3).trans HR3.out))
   obtain ⟨r0, r1, r2, r3, f0, f1, f2, f3⟩ := box4 ((HC9.out.bel.block R hR3).trans HR3.out)
   obtain ⟨y0, y1, y2, y3, _⟩ := HC9.out.cells
   clear hnk hni
   go_wp2_with fail
   obtain ⟨WF, hWF⟩ : ∃ W, putV wr R kd tx (.slice pa nk ca) (.slice po ni co) = W := ⟨_, rfl⟩
   rw [hWF] at HP HRf
   have hWF' : (((wr.setCell ⟨R, 0, none⟩ (.int .i64 kd)).setCell ⟨R, 1, none⟩ (.string (bs tx))).setCell ⟨R, 2, none⟩ (.slice pa nk ca)).setCell ⟨R, 3, none⟩ (.slice po ni co) = WF := hWF
   rw [hWF']
   clear hWF hWF' r0 r1 r2 r3 f0 f1 f2 f3 y0 y1 y2 y3
   obtain ⟨d0, d1, d2, d3, _⟩ := box4 HRf.out
   refine bodyPost_ret (v := .agg #[.int .i64 kd, .string (bs tx), .slice pa nk ca, .slice po ni co]) ?_ rfl HP.out
   simp [results, Tryz.results114, go_sem, d0, d1, d2, d3]
theorem rnode_any (txt : Stp) (ns : List NodeD) (p : Option Addr) (c : Nat) (hN : ns.length ≤ 65536) (hs : txt.length ≤ 1073741824) : ∀ lv, JNr txt ns p c lv
 | 0 => fun _ _ _ h => h.elim
 | lv + 1 => rnode_step txt ns p c hN hs lv (rnode_any txt ns p c hN hs lv)
end Go.Proofs.YtbldfpkfinpciaaGreatDoor
