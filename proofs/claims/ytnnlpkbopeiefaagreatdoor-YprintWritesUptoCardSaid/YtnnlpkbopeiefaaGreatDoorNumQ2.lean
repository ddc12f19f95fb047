import Derived.Test.YtnnlpkbopeiefaaGreatDoorNumF
import Derived.Lib.LaidTab
import Derived.Sort.Grow
/-! The walks of number: Of, Text. -/
namespace Go.Proofs.YtnnlpkbopeiefaaGreatDoor
set_option linter.unusedSimpArgs false
set_option linter.unusedVariables false
open Go.RowKit
open Go.Lib hiding intOf
theorem right_num (n : Num) (w : World) (hd : n.dig.length ≤ 4294967296) (R : Bool) (h : rightB n = R) :
    Calls Tryz.prog 139 #[.agg #[.bool n.neg, .string (bs n.dig), .int .i64 n.exp]] w fun en w' => en = .returned (.bool R) ∧ Below w.heap.size w w' := by
  have := right_any n.neg (bs n.dig) n.exp w (by rw [bs_size]; omega)
  rw [bs_data, h] at this; exact this
theorem rightB_bd {n : Num} (h : rightB n = true) : n.dig.length ≤ 1000 ∧ -1000000 ≤ n.exp ∧ n.exp ≤ 1000000 := by
  rcases of_decide_eq_true h with h | h
  · subst h; simp [nought]
  · exact ⟨h.2.1, h.2.2.2.2.1, h.2.2.2.2.2⟩
def PTab (w : World) : Prop := Lib.TabIs Tryz.prog w "internal/strconv.uint64pow10" .u64 Lib.pow10Tab
theorem PTab.keep {w w' : World} (h : PTab w) (hb : Below w.heap.size w w') : PTab w' := var_keep h hb
theorem below_grow (w : World) (k : Nat) (os : Array Obj) : Below w.heap.size w (Go.Sort.grow (w.drewN k) os) :=
  ⟨rfl, rfl, rfl, by simp [Go.Sort.grow], fun j hj => Go.Sort.heap_grow_old (w.drewN k) os hj⟩
theorem itoa_any (n : Int) (w : World) (h0 : -9223372036854775808 ≤ n ∧ n ≤ 9223372036854775807) (hT : PTab w) :
    Calls Tryz.prog 140 #[.int .i64 n] w fun e w' => e = .returned (.string (bs (Lib.itoa n))) ∧ Below w.heap.size w w' :=
  (Tryz.strconv_Itoa n h0.1 h0.2 w hT).mono fun _ _ ⟨a, k, os, b⟩ => ⟨a, b ▸ below_grow w k os⟩
theorem itoa_len (n : Int) (h : n.natAbs < 10 ^ 20) : (Lib.itoa n).length ≤ 22 := by
  have h1 := decDigits_len n.natAbs 20 h (by decide)
  unfold Lib.itoa
  split
  · simp; omega
  · rw [show n.toNat = n.natAbs from by omega]; omega
theorem of_any (n : Int) (w : World) (h0 : -9223372036854775808 ≤ n ∧ n ≤ 9223372036854775807) (hT : PTab w) :
    Calls Tryz.prog 103 #[.int .i64 n] w fun e w' => e = .returned (numV (ofInt n)) ∧ Below w.heap.size w w' := by
  have C1 := Lib.hid (fun w hT => itoa_any n w h0 hT)
  have C2 := Lib.hid (fun w => parse_any (Lib.itoa n) w (by have := itoa_len n (by omega); omega))
  obtain ⟨R, hR⟩ : ∃ R, parseL (Lib.itoa n) = R := ⟨_, rfl⟩
  have hR2 : ofInt n = R.1 := by unfold ofInt; rw [hR]
  rw [hR] at C2
  rw [hR2]
  have HT := Lib.hid (hT.keep (below_alloc1 w (.cells #[.bool false, .string ⟨#[]⟩, .int .i64 0] 80)))
  clear hT hR hR2
  obtain ⟨N, er⟩ := R
  obtain ⟨ng, dg, ex⟩ := N
  go_enter Tryz.func103, Tryz.ntmps103
  go_wp2_with fail
  refine (C1.out _ HT.out).mono ?_
  rintro e w1 ⟨rfl, hb1⟩
  go_wp2_with fail
  refine (C2.out _).mono ?_
  unfold Parsed numV
  rintro e w2 ⟨rfl, hb2⟩
  have HK1 := Lib.hid ((hb1.block w.heap.size (by simp)).trans (heap_alloc_new w _))
  have hz1 : w.heap.size < w1.heap.size := cell_it HK1.out
  have HK2 := Lib.hid ((hb2.block w.heap.size hz1).trans HK1.out)
  have hz2 : w.heap.size < w2.heap.size := cell_it HK2.out
  have HB2 := Lib.hid (((below_alloc1 w _).trans (hb1.mono (by simp))).trans (hb2.mono (by omega)))
  clear hb1 hb2
  obtain ⟨r0, r1, r2, g0, g1, g2⟩ := box3 HK2.out
  go_wp2_with fail
  have hf := box3 ((Below.heap_alloc _ (.cells #[.bool ng, .string (bs dg), .int .i64 ex] 80) w.heap.size (by simp [World.setCell]; exact hz2)).trans (box_set (box_set (box_set HK2.out 0 (.bool ng)) 1 (.string (bs dg))) 2 (.int .i64 ex)))
  clear r0 r1 r2 g0 g1 g2
  obtain ⟨r0, r1, r2, g0, g1, g2⟩ := hf
  refine bodyPost_ret (v := .agg #[.bool ng, .string (bs dg), .int .i64 ex]) ?_ rfl ⟨rfl, ?_⟩
  · simp [results, Tryz.results103, go_sem, r0, r1, r2]
  · refine Below.alloc ?_ (by simp [World.setCell]; omega) _
    repeat (first | refine below_set ?_ (Nat.le_refl _) | refine Below.drew ?_)
    exact HB2.out
theorem bs_cons (c : UInt8) (l : List UInt8) : (⟨#[c]⟩ : ByteArray) ++ bs l = bs (c :: l) := by
  have := bs_append [c] l
  exact this
set_option maxHeartbeats 1000000 in
theorem text_any (n : Num) (w : World) (hd : n.dig.length ≤ 4294967296) (hT : PTab w) :
    Calls Tryz.prog 84 #[.agg #[.bool n.neg, .string (bs n.dig), .int .i64 n.exp]] w fun e w' => e = .returned (.string (bs (textL n))) ∧ Below w.heap.size w w' := by
  obtain ⟨A1, hA⟩ : ∃ A1, rightB n = A1 := ⟨_, rfl⟩
  have CA := Lib.hid (fun w => right_num n w hd A1 hA)
  obtain ⟨R, hR⟩ : ∃ R, textL n = R := ⟨_, rfl⟩
  rw [hR]
  unfold textL at hR
  rw [hA] at hR
  have hb : A1 = true → n.dig.length ≤ 1000 ∧ -1000000 ≤ n.exp ∧ n.exp ≤ 1000000 := fun h => rightB_bd (hA.trans h)
  obtain ⟨ng, d, ex⟩ := n
  simp only [] at hR CA hb hd ⊢
  have sd := bs_size d
  have HT := Lib.hid (hT.keep (below_alloc1 w (.cells #[.bool ng, .string (bs d), .int .i64 ex] 80)))
  clear hT hA
  cases A1 with
  | false =>
    rw [if_pos rfl] at hR
    subst hR
    go_enter Tryz.func84, Tryz.ntmps84
    go_wp2_with (go_at_call 139; go_must (refine (CA.out _).mono ?_); rintro e w1 ⟨rfl, hb1⟩)
    go_ret
    exact ⟨rfl, (below_alloc1 w _).trans (hb1.mono (by simp))⟩
  | true =>
    obtain ⟨hb1, hb2, hb3⟩ := hb rfl
    rw [if_neg (by simp)] at hR
    have C2 := Lib.hid (fun w hT => itoa_any ex w (by omega) hT)
    have HR := Lib.hid hR; clear hR
    go_enter Tryz.func84, Tryz.ntmps84
    go_wp2_with fail
    refine (CA.out _).mono ?_
    rintro e w1 ⟨rfl, hb1⟩
    have HK1 := Lib.hid ((hb1.block w.heap.size (by simp)).trans (heap_alloc_new w _))
    have HT1 := Lib.hid (HT.out.keep hb1)
    have HB1 := Lib.hid ((below_alloc1 w _).trans (hb1.mono (by simp)))
    obtain ⟨r0, r1, r2, g0, g1, g2⟩ := box3 HK1.out
    clear hb1
    have hDt : (bs d).toList = d := by rw [Lib.toList_data, bs_data]
    by_cases hne : d = []
    · have hR := HR.out
      rw [if_pos hne] at hR
      subst hR
      rw [hne] at hDt
      clear HR
      go_wp2_with fail
      go_ret
      exact ⟨rfl, HB1.out⟩
    · have hR := HR.out
      rw [if_neg hne] at hR
      have hDn : ¬ (bs d).toList = [] := by rw [hDt]; exact hne
      have hDn2 : ((bs d).toList == []) = false := beq_eq_false_iff_ne.2 hDn
      have hDn3 : (bs d).toList.isEmpty = false := by rw [hDt]; cases d with | nil => exact absurd rfl hne | cons _ _ => rfl
      clear hDt hne HR
      by_cases he : ex = 0
      · subst he
        cases ng
        · have HR := Lib.hid (show d = R by simpa using hR); clear hR
          go_wp2_with fail
          go_ret
          exact ⟨by rw [← HR.out]; rfl, HB1.out⟩
        · have HR := Lib.hid (show 45 :: d = R by simpa using hR); clear hR
          go_wp2_with fail
          go_ret
          exact ⟨by rw [← HR.out, bs_cons]; rfl, HB1.out⟩
      · rw [if_pos he] at hR
        have he2 : (ex != 0) = true := bne_iff_ne.2 he
        have hIl := itoa_len ex (by omega)
        generalize Lib.itoa ex = I at *
        have sI := bs_size I
        have HR := Lib.hid hR; clear hR he
        cases ng
        · go_wp2_with fail
          refine (C2.out _ HT1.out).mono ?_
          rintro e w2 ⟨rfl, hb2⟩
          go_wp2_with fail
          go_ret
          exact ⟨by rw [← HR.out, bs_cons, bs_append]; rfl, HB1.out.trans (hb2.mono HB1.out.size)⟩
        · go_wp2_with (go_at_call 140; go_must (refine (C2.out _ HT1.out).mono ?_); rintro e w2 ⟨rfl, hb2⟩)
          go_ret
          exact ⟨by rw [← HR.out, bs_cons, bs_cons, bs_append]; rfl, HB1.out.trans (hb2.mono HB1.out.size)⟩
end Go.Proofs.YtnnlpkbopeiefaaGreatDoor
