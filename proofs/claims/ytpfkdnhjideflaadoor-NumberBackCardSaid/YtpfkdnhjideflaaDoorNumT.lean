import Derived.Test.YtpfkdnhjideflaaDoorNumS
/-! The walks of the reference: Compare. -/
namespace Go.Proofs.YtpfkdnhjideflaaDoor
set_option linter.unusedSimpArgs false
set_option linter.unusedVariables false
open Go.RowKit
open Go.Lib hiding intOf

theorem neg_ne {n : Num} (h : rightB n = true) (hn : n.neg = true) : n.dig ≠ [] := by
  rcases of_decide_eq_true h with h | h
  · subst h; cases hn
  · exact (allDig_ne h.1).1
theorem cmpL_ref (a b : Num) (ha : rightB a = true) (hb : rightB b = true) : cmpL a b = if a.neg != b.neg then (if a.neg then -1 else 1) else if a.neg then sizeL b a else sizeL a b := by
  unfold cmpL
  rw [ha, hb, if_neg (by simp), if_neg (by simp), if_neg (by simp)]
  have na := neg_ne ha
  have nb := neg_ne hb
  have hf := farL_neg a b
  unfold sizeL sgn min1
  by_cases h1 : a.dig = [] <;> by_cases h2 : b.dig = [] <;> cases e1 : a.neg <;> cases e2 : b.neg
  all_goals simp_all
theorem refRight_num (n : Num) (w : World) (hd : n.dig.length ≤ 4294967296) (R : Bool) (h : rightB n = R) :
    Calls Tryd.prog 33 #[.agg #[.bool n.neg, .string (bs n.dig), .int .i64 n.exp]] w fun en w' => en = .returned (.bool R) ∧ Below w.heap.size w w' := by
  have := refRight_any n.neg (bs n.dig) n.exp w (by rw [bs_size]; omega)
  rw [bs_data, h] at this; exact this
set_option maxHeartbeats 2000000 in
theorem refCompare_any (a b : Num) (w : World) (ha : a.dig.length ≤ 4294967296) (hb : b.dig.length ≤ 4294967296) :
    Calls Tryd.prog 19 #[.agg #[.bool a.neg, .string (bs a.dig), .int .i64 a.exp], .agg #[.bool b.neg, .string (bs b.dig), .int .i64 b.exp]] w fun en w' => en = .returned (.int .i64 (cmpL a b)) ∧ Below w.heap.size w w' := by
  obtain ⟨A1, hA⟩ : ∃ A1, rightB a = A1 := ⟨_, rfl⟩
  obtain ⟨B1, hB⟩ : ∃ B1, rightB b = B1 := ⟨_, rfl⟩
  have CA := Lib.hid (fun w => refRight_num a w ha A1 hA)
  have CB := Lib.hid (fun w => refRight_num b w hb B1 hB)
  obtain ⟨R, hR⟩ : ∃ R, cmpL a b = R := ⟨_, rfl⟩
  have h1 : A1 = true → B1 = true → (if a.neg != b.neg then (if a.neg then -1 else 1) else if a.neg then sizeL b a else sizeL a b) = R := fun x y => by
    rw [← cmpL_ref a b (hA.trans x) (hB.trans y)]; exact hR
  have h2 : ¬ (A1 = true ∧ B1 = true) → (if A1 = false ∧ B1 = false then 0 else if A1 = false then -1 else (1 : Int)) = R := fun x => by
    rw [← hR]; unfold cmpL; rw [hA, hB]; cases A1 <;> cases B1 <;> simp_all
  have CS : A1 = true → B1 = true → Hid (∀ w, Calls Tryd.prog 44 #[.agg #[.bool a.neg, .string (bs a.dig), .int .i64 a.exp], .agg #[.bool b.neg, .string (bs b.dig), .int .i64 b.exp]] w fun en w' => en = .returned (.int .i64 (sizeL a b)) ∧ Below w.heap.size w w') := fun x y => Lib.hid (fun w => size_any a b w (hA.trans x) (hB.trans y))
  have CT : A1 = true → B1 = true → Hid (∀ w, Calls Tryd.prog 44 #[.agg #[.bool b.neg, .string (bs b.dig), .int .i64 b.exp], .agg #[.bool a.neg, .string (bs a.dig), .int .i64 a.exp]] w fun en w' => en = .returned (.int .i64 (sizeL b a)) ∧ Below w.heap.size w w') := fun x y => Lib.hid (fun w => size_any b a w (hB.trans y) (hA.trans x))
  rw [hR]
  have H1 := Lib.hid h1; have H2 := Lib.hid h2
  have HCS := Lib.hid CS; have HCT := Lib.hid CT
  clear hR h1 h2 CS CT hA hB
  have hst := Two.start0 a b w 24
  go_enter Tryd.func19, Tryd.ntmps19
  go_wp2_with fail
  refine (CA.out _).mono ?_
  rintro e w1 ⟨rfl, hb1⟩
  have hT : Two w.heap.size a b w w1 := Two.step hst hb1
  clear hst hb1
  have HT1 := Lib.hid hT
  obtain ⟨⟨r0, r1, r2, q0, q1, q2⟩, HB⟩ := hT
  go_wp2_with fail
  refine (CB.out _).mono ?_
  rintro e w2 ⟨rfl, hb2⟩
  have hT := Two.step HT1.out hb2
  clear hb2 HT1 r0 r1 r2 q0 q1 q2 HB
  have HT2 := Lib.hid hT
  obtain ⟨⟨r0, r1, r2, q0, q1, q2⟩, HB⟩ := hT
  by_cases hr : A1 = true ∧ B1 = true
  · obtain ⟨rfl, rfl⟩ := hr
    have h := H1.out rfl rfl
    have CS := HCS.out rfl rfl
    have CT := HCT.out rfl rfl
    clear H1 H2 HCS HCT
    obtain ⟨na, A, ea⟩ := a
    obtain ⟨nb, B, eb⟩ := b
    simp only [] at h r0 r1 r2 q0 q1 q2 CS CT
    cases na <;> cases nb
    · have HF := Lib.hid (show sizeL ⟨false, A, ea⟩ ⟨false, B, eb⟩ = R from h); clear h
      go_wp2_with fail
      refine (CS.out _).mono ?_
      rintro e w3 ⟨rfl, hb3⟩
      go_wp2_with fail
      go_ret
      exact ⟨ret_int HF.out, (Two.step HT2.out hb3).2.out.2⟩
    · have HF := Lib.hid (show 1 = R from h); clear h
      go_wp2_with fail
      go_ret
      exact ⟨ret_int HF.out, HB.out.2⟩
    · have HF := Lib.hid (show -1 = R from h); clear h
      go_wp2_with fail
      go_ret
      exact ⟨ret_int HF.out, HB.out.2⟩
    · have HF := Lib.hid (show sizeL ⟨true, B, eb⟩ ⟨true, A, ea⟩ = R from h); clear h
      go_wp2_with fail
      refine (CT.out _).mono ?_
      rintro e w3 ⟨rfl, hb3⟩
      go_wp2_with fail
      go_ret
      exact ⟨ret_int HF.out, (Two.step HT2.out hb3).2.out.2⟩
  · have h := H2.out hr
    have HRr := Lib.hid hr
    clear H1 H2 HCS HCT hr
    cases A1 <;> cases B1
    · have HF := Lib.hid (show 0 = R from h); clear h
      go_wp2_with fail
      go_ret
      exact ⟨ret_int HF.out, HB.out.2⟩
    · have HF := Lib.hid (show -1 = R from h); clear h
      go_wp2_with fail
      go_ret
      exact ⟨ret_int HF.out, HB.out.2⟩
    · have HF := Lib.hid (show 1 = R from h); clear h
      go_wp2_with fail
      go_ret
      exact ⟨ret_int HF.out, HB.out.2⟩
    · exact absurd ⟨rfl, rfl⟩ HRr.out
end Go.Proofs.YtpfkdnhjideflaaDoor
