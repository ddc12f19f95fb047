import Derived.Test.YtnnlpkbopeiefaaGreatDoorYsC
import Derived.Test.YtnnlpkbopeiefaaGreatDoorYsB
import Derived.Test.YtnnlpkbopeiefaaGreatDoorWd
/-! PLAIN: what yscalar writes is read (P11.5). -/
namespace Go.Proofs.YtnnlpkbopeiefaaGreatDoor
set_option linter.unusedSimpArgs false
set_option linter.unusedVariables false
open Go.Lib hiding intOf
theorem clean_okT2 : ∀ (n f : Nat) (s : Stp), s.length ≤ n → s.length ≤ f → Lib.validD s = true → cleanGo f s = true → ∀ g, s.length ≤ g → wrGo false g s 0 = s.length
  | 0, f, s, hn, _, _, _ => by
    intro g _
    cases s with
    | nil => cases g <;> rfl
    | cons c r => simp at hn
  | n + 1, f, s, hn, hf, hv, hc => by
    intro g hg
    by_cases hne : s = []
    · subst hne; cases g <;> rfl
    obtain ⟨r, t, hr, rfl, ht, hd⟩ := valid_cut s hne hv
    obtain ⟨E, hE⟩ : ∃ E, encodeRune r = E := ⟨_, rfl⟩
    have hEne := encode_ne r
    have hpl := fun h32 => (plain_rune r hr h32 t).2
    rw [hE] at hEne
    cases E with
    | nil => exact absurd rfl hEne
    | cons e E' =>
      rw [hE] at hd hn hf hc hg hpl ⊢
      obtain ⟨f', rfl⟩ : ∃ g, f = g + 1 := ⟨f - 1, by simp at hf; omega⟩
      obtain ⟨g', rfl⟩ : ∃ g0, g = g0 + 1 := ⟨g - 1, by simp at hg; omega⟩
      rw [List.cons_append, cleanGo] at hc
      rw [List.cons_append] at hd hpl
      rw [hd] at hc
      split at hc
      · cases hc
      rename_i hb
      simp only [Bool.or_eq_true, decide_eq_true_eq, beq_iff_eq, not_or] at hb
      have e1 : (e :: (E' ++ t)).drop (e :: E').length = t := by rw [show e :: (E' ++ t) = (e :: E') ++ t from rfl, List.drop_left]
      rw [e1] at hc
      have ih := clean_okT2 n f' t (by simp at hn; omega) (by simp at hf; omega) ht hc g' (by simp at hg; omega)
      have hr0 := hr.1
      have hp := hpl (by omega)
      rw [List.cons_append, wrGo_cons, hp, hd, Bool.false_and, Bool.or_false, if_neg (by simp), e1]
      have ho := wrGo_off false g' t 0 (e :: E').length
      rw [Nat.zero_add] at ho
      rw [Nat.zero_add, ho, ih]
      simp only [List.length_cons, List.length_append]
      omega
theorem clean_sqw2 {s : Stp} (h : cleanB s = true) : (sqw s).2 = 0 := by
  unfold cleanB at h
  rw [Bool.and_eq_true] at h
  have h1 : okT s := clean_okT2 s.length s.length s (Nat.le_refl _) (Nat.le_refl _) h.2 h.1 s.length (Nat.le_refl _)
  have h2 := (wrL_ok s).1 h1
  unfold sqw
  rw [if_neg h2]
theorem key_ok2 {s : Stp} (h : Lib.validD s = true) : (keyY s).2 = 0 := by
  unfold keyY
  rw [if_pos h]
  split
  · rfl
  · unfold quotedY
    split
    · rename_i hc
      exact clean_sqw2 hc
    · unfold quoteL
      rw [if_pos h]
theorem write_ok2 {t : VT} (h : RightB t = true) : (writeY t).2 = 0 := by
  have hn := (every_kids (k := t.kind) (s := t.text) (ks := t.keys) (l := t.items) (by rw [VT.eta]; exact right_every h)).1
  rw [VT.eta] at hn
  unfold rnodeB nodeB nodeF at hn
  simp only [Bool.and_eq_true, decide_eq_true_eq] at hn
  have h2 := hn.2
  unfold writeY
  rw [if_pos h]
  by_cases h4 : t.kind = 4
  · rw [if_pos h4]
    rw [if_neg (by omega), if_neg (by omega)] at h2
    split at h2
    · cases h2
    · simp [h4] at h2
      split
      · rfl
      · unfold quotedY
        split
        · rename_i hc
          exact clean_sqw2 hc
        · unfold quoteL
          rw [if_pos h2]
  · rw [if_neg h4]
theorem write_no {t : VT} (h : ¬ RightB t = true) : writeY t = ([], 1) := by unfold writeY; rw [if_neg h]
/-! Bare texts. -/
theorem bare_cons {s : Stp} (h : bareB s = true) : ∃ c r, s = c :: r ∧ c ≠ 34 ∧ c ≠ 39 ∧ c ≠ 91 ∧ c ≠ 123 := by
  rw [bare_eq] at h
  cases s with
  | nil => cases h
  | cons c r =>
    unfold bareR at h
    simp only [Bool.and_eq_true, Bool.not_eq_true'] at h
    have hs : signsL.contains c = false := h.1.1.2
    refine ⟨c, r, rfl, ?_, ?_, ?_, ?_⟩ <;> · rintro rfl; exact absurd hs (by decide)
theorem read_bare {s : Stp} (h : bareB s = true) : readY s = (resT s, 0) := by
  obtain ⟨c, r, rfl, h1, h2, h3, h4⟩ := bare_cons h
  unfold readY
  simp only []
  rw [if_neg (by simp [h1, h2]), if_neg (by simp [h3, h4]), if_pos h]
theorem key_bare {s : Stp} (h : bareB s = true) : keyRd s = (s, 0) := by
  obtain ⟨c, r, rfl, h1, h2, h3, h4⟩ := bare_cons h
  unfold keyRd
  simp only []
  rw [if_neg (by simp [h1, h2]), if_pos h]
/-! Texts in quotes. -/
theorem text_qS (s : Stp) (hv : validD s = true) : textY (qS s) = (s, 0) := by
  unfold textY
  have e : (qS s).head? = some 34 := rfl
  rw [e, if_neg (by decide), unq_safe s hv]
theorem text_sqw (s : Stp) (h : (sqw s).2 = 0) : textY (sqw s).1 = (s, 0) ∧ ∃ r, (sqw s).1 = 39 :: r := by
  have hb := sqL_back [] s [] h (by simp)
  simp only [List.nil_append, List.append_nil, List.length_nil, Nat.zero_add] at hb
  rw [show ((0 : Nat) : Int) = 0 from rfl] at hb
  have he : ∃ r, (sqw s).1 = 39 :: r := by
    unfold sqw at h ⊢
    split at h
    · cases h
    · rename_i hw
      rw [if_neg hw]
      exact ⟨_, rfl⟩
  refine ⟨?_, he⟩
  obtain ⟨r, hr⟩ := he
  unfold textY singleY
  rw [hb, hr]
  simp
/-- What stands in quotes for a text. -/
theorem quoted_back (s : Stp) (hv : validD s = true) : (quotedY s).2 = 0 ∧ textY (quotedY s).1 = (s, 0) ∧ ∃ c r, (quotedY s).1 = c :: r ∧ (c = 34 ∨ c = 39) := by
  unfold quotedY
  by_cases hc : cleanB s = true
  · rw [if_pos hc]
    have h0 := clean_sqw2 hc
    obtain ⟨h1, r, h2⟩ := text_sqw s h0
    exact ⟨h0, h1, 39, r, h2, .inr rfl⟩
  · rw [if_neg hc]
    have hq : safeL (quoteL s).1 = qS s := by rw [safe_eq, safe_quote s hv]
    refine ⟨by unfold quoteL; rw [if_pos hv], ?_⟩
    simp only []
    rw [hq]
    exact ⟨text_qS s hv, 34, _, rfl, .inl rfl⟩
theorem read_quoted {t s : Stp} (h : textY t = (s, 0)) (hc : ∃ c r, t = c :: r ∧ (c = 34 ∨ c = 39)) : readY t = (strT s, 0) ∧ keyRd t = (s, 0) := by
  obtain ⟨c, r, rfl, hq⟩ := hc
  unfold readY keyRd
  simp only []
  rw [if_pos hq, if_pos hq, h]
  simp
/-! Numbers are bare. -/
theorem num_bytes : ∀ n : Fin 256, (isDig (UInt8.ofNat n.val) = true ∨ UInt8.ofNat n.val = 45 ∨ UInt8.ofNat n.val = 101) → lowB (UInt8.ofNat n.val) = false ∧ UInt8.ofNat n.val ≠ 32 ∧ UInt8.ofNat n.val ≠ 58 ∧ (UInt8.ofNat n.val).toNat < 128 ∧ signsL.contains (UInt8.ofNat n.val) = false ∧ UInt8.ofNat n.val ≠ 126 := by decide +kernel
theorem num_byte {c : UInt8} (h : isDig c = true ∨ c = 45 ∨ c = 101) : lowB c = false ∧ c ≠ 32 ∧ c ≠ 58 ∧ c.toNat < 128 ∧ signsL.contains c = false ∧ c ≠ 126 := by
  have := num_bytes ⟨c.toNat, c.toNat_lt⟩
  simp only [UInt8.ofNat_toNat] at this
  exact this h
theorem valid_ascii : ∀ (l : Stp), (∀ c ∈ l, c.toNat < 128) → validD l = true
  | [], _ => by decide
  | c :: r, h => by
    have hc := h c (by simp)
    have e := encode_one c hc
    have hr : okRune (c.toNat : Int) := by unfold okRune; omega
    have := validD_rune (c.toNat : Int) hr r
    rw [e] at this
    rw [show c :: r = [c] ++ r from rfl, this]
    exact valid_ascii r (fun d hd => h d (by simp [hd]))
theorem pairs_no : ∀ (l : Stp), (∀ c ∈ l, c ≠ 32 ∧ c ≠ 58) → pairsB l = true
  | [], _ => rfl
  | [c], _ => rfl
  | a :: b :: r, h => by
    obtain ⟨h1, h2⟩ := h a (by simp)
    rw [pairsB, pairs_no (b :: r) (fun c hc => h c (by simp [hc]))]
    simp [h1, h2]
theorem num_bare {s : Stp} (h : decB s = true) : bareB s = true := by
  obtain ⟨hall, c, r, rfl, hc⟩ := num_chars h
  obtain ⟨hp, _, _⟩ := num_text h
  have hb := fun d hd => num_byte (hall d hd)
  have h45 : ¬ (c :: r) = [45] := by
    intro e
    rw [e] at hp
    exact absurd hp (by decide +kernel)
  rw [bare_eq]
  unfold bareR
  simp only [Bool.and_eq_true, Bool.not_eq_true']
  have hc0 := hb c (by simp)
  refine ⟨⟨⟨⟨⟨⟨?_, ?_⟩, ?_⟩, ?_⟩, hc0.2.2.2.2.1⟩, ?_⟩, pairs_no _ (fun d hd => ⟨(hb d hd).2.1, (hb d hd).2.2.1⟩)⟩
  · rw [clean_eq, valid_ascii _ (fun d hd => (hb d hd).2.2.2.1), Bool.true_and, Bool.not_eq_true']
    rw [List.any_eq_false]
    intro d hd
    rw [(hb d hd).1]
    simp
  · exact beq_eq_false_iff_ne.2 hc0.2.1
  · refine beq_eq_false_iff_ne.2 (fun e => ?_)
    exact (hb 32 (List.mem_of_getLast? e)).2.1 rfl
  · refine beq_eq_false_iff_ne.2 (fun e => ?_)
    exact (hb 58 (List.mem_of_getLast? e)).2.2.1 rfl
  · by_cases h1 : c = 45
    · subst h1
      cases r with
      | nil => exact absurd rfl h45
      | cons d r =>
        have := (hb d (by simp)).2.1
        simp [this]
    · rw [beq_eq_false_iff_ne.2 h1, Bool.false_and]
theorem num_res {s : Stp} (h : decB s = true) : resT s = .mk 3 s [] [] := by
  obtain ⟨hall, c, r, rfl, hc⟩ := num_chars h
  obtain ⟨hp, ht, hne⟩ := num_text h
  unfold resT resP
  rw [if_neg, if_neg, if_pos hp, ht]
  · rintro (e | e)
    · injection e with e _
      subst e
      rcases hc with h | h <;> exact absurd h (by decide)
    · injection e with e _
      subst e
      rcases hc with h | h <;> exact absurd h (by decide)
  · rintro (e | e | e)
    · cases e
    · injection e with e _
      subst e
      rcases hc with h | h <;> exact absurd h (by decide)
    · injection e with e _
      subst e
      rcases hc with h | h <;> exact absurd h (by decide)
theorem cmp_len (t : VT) (h : RightB t = true) (h4 : t.kind ≠ 4) : (writeY t).1 = cmpS t := by
  unfold writeY
  rw [if_pos h, if_neg h4, safe_comp t h]
/-- WHAT IS WRITTEN IS READ. -/
theorem write_read (t : VT) (h : RightB t = true) (hl : (writeY t).1.length ≤ 65536) : readY (writeY t).1 = (t, 0) := by
  obtain ⟨k, s, ks, l⟩ := t
  obtain ⟨h2, _⟩ := every_kids (right_every h)
  unfold rnodeB nodeB nodeF at h2
  simp only [Bool.and_eq_true, decide_eq_true_eq] at h2
  obtain ⟨h7, h2⟩ := h2
  change (if k = 5 then !decide (0 < ks.length) && s.isEmpty else if k = 6 then keyedB ks l.length && s.isEmpty else if (decide (0 < ks.length) || decide (0 < l.length)) = true then false else if k = 1 then s.isEmpty else if k = 2 then decide (s = trueL) || decide (s = falseL) else if k = 3 then decB s else if k = 4 then validD s else false) = true at h2
  have hw : ∀ (_ : k ≠ 4), (writeY (.mk k s ks l)).1 = cmpS (.mk k s ks l) := fun h4 => cmp_len _ h h4
  by_cases h5 : k = 5
  · subst h5
    rw [hw (by decide)] at hl ⊢
    obtain ⟨ns, hp, hv⟩ := parse_comp _ h hl
    have hr : cmpS (.mk 5 s ks l) = 91 :: (itS l ++ [93]) := by rw [cmpS]; simp
    rw [hr] at hp hv ⊢
    unfold readY
    simp only []
    rw [if_neg (by decide), if_pos (by decide)]
    unfold readJ
    rw [hp]
    simp only []
    rw [if_neg (by simp), hv]
  rw [if_neg h5] at h2
  by_cases h6 : k = 6
  · subst h6
    rw [hw (by decide)] at hl ⊢
    obtain ⟨ns, hp, hv⟩ := parse_comp _ h hl
    have hr : cmpS (.mk 6 s ks l) = 123 :: (mbS l ks ++ [125]) := by rw [cmpS]; simp
    rw [hr] at hp hv ⊢
    unfold readY
    simp only []
    rw [if_neg (by decide), if_pos (by decide)]
    unfold readJ
    rw [hp]
    simp only []
    rw [if_neg (by simp), hv]
  rw [if_neg h6] at h2
  by_cases he : (decide (0 < ks.length) || decide (0 < l.length)) = true
  · rw [if_pos he] at h2; cases h2
  rw [if_neg he] at h2
  simp only [Bool.or_eq_true, decide_eq_true_eq, not_or] at he
  obtain rfl : ks = [] := List.length_eq_zero_iff.1 (by omega)
  obtain rfl : l = [] := List.length_eq_zero_iff.1 (by omega)
  by_cases e1 : k = 1
  · subst e1
    rw [if_pos rfl] at h2
    obtain rfl : s = [] := by simpa using h2
    rw [hw (by decide), show cmpS (.mk 1 [] [] []) = nullL by rw [cmpS]; simp, read_bare (by decide +kernel)]
    rfl
  rw [if_neg e1] at h2
  by_cases e2 : k = 2
  · subst e2
    rw [if_pos rfl] at h2
    rw [hw (by decide), show cmpS (.mk 2 s [] []) = s by rw [cmpS]; simp]
    simp only [Bool.or_eq_true, decide_eq_true_eq] at h2
    rcases h2 with rfl | rfl
    · rw [read_bare (by decide +kernel)]; rfl
    · rw [read_bare (by decide +kernel)]; rfl
  rw [if_neg e2] at h2
  by_cases e3 : k = 3
  · subst e3
    rw [if_pos rfl] at h2
    rw [hw (by decide), show cmpS (.mk 3 s [] []) = s by rw [cmpS]; simp, read_bare (num_bare h2), num_res h2]
  rw [if_neg e3] at h2
  by_cases e4 : k = 4
  · subst e4
    rw [if_pos rfl] at h2
    have hw4 : writeY (.mk 4 s [] []) = if (bareB s && decide ((resP s).1 = 4)) = true then (s, 0) else quotedY s := by
      unfold writeY
      rw [if_pos h]
      rfl
    rw [hw4]
    by_cases hb : (bareB s && decide ((resP s).1 = 4)) = true
    · rw [if_pos hb]
      simp only [Bool.and_eq_true, decide_eq_true_eq] at hb
      simp only []
      rw [read_bare hb.1]
      have : resT s = .mk 4 s [] [] := by
        have h4 := hb.2
        unfold resT
        unfold resP at h4 ⊢
        by_cases a : s = [] ∨ s = nullL ∨ s = [126]
        · rw [if_pos a] at h4; exact absurd h4 (by decide)
        rw [if_neg a] at h4 ⊢
        by_cases b : s = trueL ∨ s = falseL
        · rw [if_pos b] at h4; exact absurd h4 (show ¬ (2 : Int) = 4 by decide)
        rw [if_neg b] at h4 ⊢
        by_cases c : (parseL s).2 = 0
        · rw [if_pos c] at h4; exact absurd h4 (show ¬ (3 : Int) = 4 by decide)
        rw [if_neg c]
      rw [this]
    · rw [if_neg hb]
      obtain ⟨_, q1, q2⟩ := quoted_back s h2
      exact (read_quoted q1 q2).1
  rw [if_neg e4] at h2
  cases h2
/-- KEYS TOO. -/
theorem key_back (s : Stp) (hv : validD s = true) : (keyY s).2 = 0 ∧ keyRd (keyY s).1 = (s, 0) := by
  refine ⟨key_ok2 hv, ?_⟩
  unfold keyY
  rw [if_pos hv]
  by_cases hb : bareB s = true
  · rw [if_pos hb]; exact key_bare hb
  · rw [if_neg hb]
    obtain ⟨_, q1, q2⟩ := quoted_back s hv
    exact (read_quoted q1 q2).2
theorem key_no {s : Stp} (hv : ¬ validD s = true) : keyY s = ([], 2) := by unfold keyY; rw [if_neg hv]
theorem sqw_len2 (s : Stp) : (sqw s).1.length ≤ 2 * s.length + 2 := by
  unfold sqw
  split
  · simp
  · have := (dbl_len s).2
    simp only [List.length_cons, List.length_append, List.length_nil]
    omega
theorem textL_len2 (n : Num) (h : n.dig.length ≤ 1000) (he : -1000000 ≤ n.exp ∧ n.exp ≤ 1000000) : (textL n).length ≤ 1100 := by
  have hi := itoa_len n.exp (by omega)
  unfold textL
  split
  · simp
  · split
    · simp
    · split <;> split <;> simp <;> omega
theorem parse_text_len (s : Stp) (h : (parseL s).2 = 0) : (textL (parseL s).1).length ≤ 1100 := by
  have hr := rightB_bd (parseL_right (l := s) (n := (parseL s).1) (Prod.ext rfl h))
  exact textL_len2 _ hr.1 hr.2
theorem quotedY_len2 (s : Stp) : (quotedY s).1.length ≤ 336 * s.length + 172 := by
  unfold quotedY
  split
  · have := sqw_len2 s; omega
  · have h1 := safeL_len (quoteL s).1
    have h2 := quoteL_len s
    simp only []
    omega
theorem keyY_len2 (s : Stp) : (keyY s).1.length ≤ 336 * s.length + 172 := by
  unfold keyY
  split
  · split
    · simp only []; omega
    · exact quotedY_len2 s
  · simp
theorem resP_len (s : Stp) : (resP s).2.length ≤ s.length + 1100 := by
  unfold resP
  split
  · exact Nat.zero_le _
  · split
    · exact Nat.le_add_right _ _
    · split
      · rename_i h
        have := parse_text_len s h
        show (textL (parseL s).1).length ≤ _
        omega
      · exact Nat.le_add_right _ _
end Go.Proofs.YtnnlpkbopeiefaaGreatDoor
