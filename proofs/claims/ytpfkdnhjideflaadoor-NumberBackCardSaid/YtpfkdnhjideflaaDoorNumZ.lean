import Derived.Test.YtpfkdnhjideflaaDoorNumU
import Derived.Test.YtpfkdnhjideflaaDoorNumT
import Derived.Test.YtpfkdnhjideflaaDoorNumY
/-! The walks of the reference: Text, Of, Int. -/
namespace Go.Proofs.YtpfkdnhjideflaaDoor
set_option linter.unusedSimpArgs false
set_option linter.unusedVariables false
open Go.RowKit
open Go.Lib hiding intOf

theorem refOf_any (n : Int) (w : World) (h0 : -9223372036854775808 ≤ n ∧ n ≤ 9223372036854775807) :
    Calls Tryd.prog 36 #[.int .i64 n] w fun e w' => e = .returned (numV (ofInt n)) ∧ Below w.heap.size w w' := by
  have C1 := Lib.hid (fun w => decimal_any n w h0)
  have C2 := Lib.hid (fun w => refParse_any (Lib.itoa n) w (by have := itoa_len n (by omega); omega))
  obtain ⟨R, hR⟩ : ∃ R, parseL (Lib.itoa n) = R := ⟨_, rfl⟩
  have hR2 : ofInt n = R.1 := by unfold ofInt; rw [hR]
  rw [hR] at C2
  rw [hR2]
  clear hR hR2
  obtain ⟨N, er⟩ := R
  obtain ⟨ng, dg, ex⟩ := N
  go_enter Tryd.func36, Tryd.ntmps36
  go_wp2_with fail
  refine (C1.out _).mono ?_
  rintro e w1 ⟨rfl, hb1⟩
  go_wp2_with fail
  refine (C2.out _).mono ?_
  unfold Parsed numV
  rintro e w2 ⟨rfl, hb2⟩
  have HK1 := Lib.hid ((hb1.block w.heap.size (by simp)).trans (heap_alloc_new w _))
  have hz1 : w.heap.size < w1.heap.size := cell_it HK1.out
  have HK2 := Lib.hid ((hb2.block w.heap.size hz1).trans HK1.out)
  have hz2 : w.heap.size < w2.heap.size := cell_it HK2.out
  have HB2 := Lib.hid (((below_alloc1 w _).trans (hb1.mono (by simp))).trans (hb2.mono (by omega)))
  clear hb1 hb2
  obtain ⟨r0, r1, r2, g0, g1, g2⟩ := box3 HK2.out
  go_wp2_with fail
  have hf := box3 ((Below.heap_alloc _ (.cells #[.bool ng, .string (bs dg), .int .i64 ex] 24) w.heap.size (by simp [World.setCell]; exact hz2)).trans (box_set (box_set (box_set HK2.out 0 (.bool ng)) 1 (.string (bs dg))) 2 (.int .i64 ex)))
  clear r0 r1 r2 g0 g1 g2
  obtain ⟨r0, r1, r2, g0, g1, g2⟩ := hf
  refine bodyPost_ret (v := .agg #[.bool ng, .string (bs dg), .int .i64 ex]) ?_ rfl ⟨rfl, ?_⟩
  · simp [results, Tryd.results36, go_sem, r0, r1, r2]
  · refine Below.alloc ?_ (by simp [World.setCell]; omega) _
    repeat (first | refine below_set ?_ (Nat.le_refl _) | refine Below.drew ?_)
    exact HB2.out
theorem refNought_is (n : Num) (w : World) (R : Bool) (h : decide (n = nought) = R) :
    Calls Tryd.prog 60 #[.agg #[.bool n.neg, .string (bs n.dig), .int .i64 n.exp]] w fun en w' => en = .returned (.bool R) ∧ Below w.heap.size w w' := by
  have := refNought_any n.neg (bs n.dig) n.exp w
  rw [bs_data, h] at this; exact this
set_option maxHeartbeats 1000000 in
theorem refText_any (n : Num) (w : World) (hd : n.dig.length ≤ 4294967296) :
    Calls Tryd.prog 35 #[.agg #[.bool n.neg, .string (bs n.dig), .int .i64 n.exp]] w fun e w' => e = .returned (.string (bs (textL n))) ∧ Below w.heap.size w w' := by
  obtain ⟨A1, hA⟩ : ∃ A1, rightB n = A1 := ⟨_, rfl⟩
  have CA := Lib.hid (fun w => refRight_num n w hd A1 hA)
  obtain ⟨R, hR⟩ : ∃ R, textL n = R := ⟨_, rfl⟩
  rw [hR]
  unfold textL at hR
  rw [hA] at hR
  have hb : A1 = true → n.dig.length ≤ 1000 ∧ -1000000 ≤ n.exp ∧ n.exp ≤ 1000000 := fun h => rightB_bd (hA.trans h)
  obtain ⟨Q, hQ⟩ : ∃ Q, decide (n = nought) = Q := ⟨_, rfl⟩
  have CQ := Lib.hid (fun w => refNought_is n w Q hQ)
  have hQd : A1 = true → (Q = true ↔ n.dig = []) := fun h => by
    rw [← hQ, decide_eq_true_eq]
    constructor
    · intro e; rw [e]; rfl
    · intro e
      rcases of_decide_eq_true (hA.trans h) with g | g
      · exact g
      · exact absurd e (allDig_ne g.1).1
  obtain ⟨ng, d, ex⟩ := n
  simp only [] at hR CA hb hd hQd CQ ⊢
  have sd := bs_size d
  have HN := Lib.hid (NumBox.new w ⟨ng, d, ex⟩)
  clear hA hQ
  cases A1 with
  | false =>
    rw [if_pos rfl] at hR
    subst hR
    clear hQd
    go_enter Tryd.func35, Tryd.ntmps35
    go_wp2_with (go_at_call 33; go_must (refine (CA.out _).mono ?_); rintro e w1 ⟨rfl, hb1⟩)
    go_ret
    exact ⟨rfl, (below_alloc1 w _).trans (hb1.mono (by simp))⟩
  | true =>
    obtain ⟨hb1, hb2, hb3⟩ := hb rfl
    have hq := hQd rfl
    rw [if_neg (by simp)] at hR
    have C2 := Lib.hid (fun w => decimal_any ex w (by omega))
    have hIl := itoa_len ex (by omega)
    generalize Lib.itoa ex = I at *
    have sI := bs_size I
    have HR := Lib.hid hR; have HQ := Lib.hid hq; clear hR hq hQd hb
    go_enter Tryd.func35, Tryd.ntmps35
    go_wp2_with fail
    refine (CA.out _).mono ?_
    rintro e w1 ⟨rfl, hb1⟩
    have HO := Lib.hid (One.of (HN.out.keep hb1) ((below_alloc1 w _).trans (hb1.mono (by simp))))
    obtain ⟨c0, c1, c2⟩ := HO.out.1
    simp only [] at c0 c1 c2
    clear hb1
    go_wp2_with fail
    refine (CQ.out _).mono ?_
    rintro e w2 ⟨rfl, hb2⟩
    have HO2 := Lib.hid (HO.out.step hb2)
    clear hb2 HO c0 c1 c2
    obtain ⟨c0, c1, c2⟩ := HO2.out.1
    simp only [] at c0 c1 c2
    have HB := Lib.hid HO2.out.2.out.2
    cases Q with
    | true =>
      have hR := HR.out
      rw [if_pos (by simpa using HQ.out)] at hR
      have HF := Lib.hid hR; clear hR
      go_wp2_with fail
      go_ret
      exact ⟨by rw [← HF.out]; rfl, HB.out⟩
    | false =>
      have hR := HR.out
      rw [if_neg (by simpa using HQ.out)] at hR
      have H2 := Lib.hid hR; clear hR HR
      by_cases he : ex = 0
      · subst he
        cases ng
        · have HF := Lib.hid (show d = R by simpa using H2.out); clear H2
          go_wp2_with fail
          go_ret
          exact ⟨by rw [← HF.out]; rfl, HB.out⟩
        · have HF := Lib.hid (show 45 :: d = R by simpa using H2.out); clear H2
          go_wp2_with fail
          go_ret
          exact ⟨by rw [← HF.out, bs_cons]; rfl, HB.out⟩
      · have he2 : (ex != 0) = true := bne_iff_ne.2 he
        have hR := H2.out
        rw [if_pos he] at hR
        have H3 := Lib.hid hR; clear hR he H2
        cases ng
        · have HF := Lib.hid (show d ++ ([101] ++ I) = R by simpa using H3.out); clear H3
          go_wp2_with (go_at_call 22; go_must (refine (C2.out _).mono ?_); rintro e w3 ⟨rfl, hb3⟩)
          go_ret
          exact ⟨by rw [← HF.out, show (⟨#[101]⟩ : ByteArray) = bs [101] from rfl, bs_append, bs_append, List.append_assoc]; rfl, HB.out.trans (hb3.mono HB.out.size)⟩
        · have HF := Lib.hid (show 45 :: (d ++ ([101] ++ I)) = R by simpa using H3.out); clear H3
          go_wp2_with (go_at_call 22; go_must (refine (C2.out _).mono ?_); rintro e w3 ⟨rfl, hb3⟩)
          go_ret
          exact ⟨by rw [← HF.out, bs_cons, show (⟨#[101]⟩ : ByteArray) = bs [101] from rfl, bs_append, bs_append, List.append_assoc]; rfl, HB.out.trans (hb3.mono HB.out.size)⟩
end Go.Proofs.YtpfkdnhjideflaaDoor
