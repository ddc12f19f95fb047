import Derived.Test.YtnnlpkbopeiefaaGreatDoorWj
/-! PLAIN: a block's lines, as YprintLines counts them. -/
namespace Go.Proofs.YtnnlpkbopeiefaaGreatDoor
set_option linter.unusedSimpArgs false
set_option linter.unusedVariables false
open Go.Lib hiding intOf
/-- The law's scan: how many lines, none if one is not as it should be. -/
def scanGo (ind : Nat) : Nat → Bool → Bool → Nat → Stp → Option Nat
  | _, _, _, m, [] => some m
  | n, f, ld, m, c :: r => if c = 10 then (if ld || decide (n < ind) || (f && decide (n ≠ ind)) then none else scanGo ind 0 false true (m + 1) r) else if c = 32 ∧ ld = true then scanGo ind (n + 1) f ld m r else scanGo ind n f false m r
theorem scan_body (ind n : Nat) (f : Bool) (m : Nat) (rest : Stp) : ∀ body : Stp, (10 : UInt8) ∉ body → scanGo ind n f false m (body ++ rest) = scanGo ind n f false m rest
  | [], _ => rfl
  | c :: b, h => by
    have h1 : c ≠ 10 := fun e => h (by rw [e]; exact List.mem_cons_self)
    rw [List.cons_append, scanGo, if_neg h1, if_neg (by simp)]
    exact scan_body ind n f m rest b (fun hm => h (List.mem_cons_of_mem _ hm))
theorem scan_blanks (ind : Nat) (f : Bool) (m : Nat) (rest : Stp) : ∀ k n : Nat, scanGo ind n f true m (List.replicate k 32 ++ rest) = scanGo ind (n + k) f true m rest
  | 0, n => rfl
  | k + 1, n => by
    rw [List.replicate_succ, List.cons_append, scanGo, if_neg (by decide), if_pos ⟨rfl, rfl⟩, scan_blanks ind f m rest k (n + 1)]
    congr 1
    omega
/-- One line. -/
theorem scan_line (ind k : Nat) (f : Bool) (m : Nat) (body rest : Stp) (hk : ind ≤ k) (hf : f = true → k = ind) (hne : body ≠ []) (h32 : body.head? ≠ some 32) (h10 : (10 : UInt8) ∉ body) :
    scanGo ind 0 f true m (List.replicate k 32 ++ (body ++ (10 :: rest))) = scanGo ind 0 false true (m + 1) rest := by
  rw [scan_blanks]
  cases body with
  | nil => exact absurd rfl hne
  | cons c b =>
    have h1 : c ≠ 10 := fun e => h10 (by rw [e]; exact List.mem_cons_self)
    have h2 : c ≠ 32 := fun e => h32 (by rw [e]; rfl)
    rw [List.cons_append, scanGo, if_neg h1, if_neg (by simp [h2]), scan_body ind _ f m _ b (fun hm => h10 (List.mem_cons_of_mem _ hm))]
    rw [scanGo, if_pos rfl, if_neg]
    rw [Nat.zero_add]
    have e1 : decide (k < ind) = false := decide_eq_false (by omega)
    cases f with
    | false => simp [e1]
    | true => simp [e1, hf rfl]
/-! No line feed in a line's body. -/
theorem clean_low : ∀ (n f : Nat) (s : Stp), s.length ≤ n → s.length ≤ f → Lib.validD s = true → cleanGo f s = true → ∀ c ∈ s, 32 ≤ c.toNat
  | 0, f, s, hn, _, _, _ => by
    cases s with
    | nil => simp
    | cons c r => simp at hn
  | n + 1, f, s, hn, hf, hv, hc => by
    by_cases hne : s = []
    · subst hne; simp
    obtain ⟨r, t, hr, rfl, ht, hd⟩ := valid_cut s hne hv
    obtain ⟨E, hE⟩ : ∃ E, encodeRune r = E := ⟨_, rfl⟩
    have hEne := encode_ne r
    rw [hE] at hEne
    cases E with
    | nil => exact absurd rfl hEne
    | cons e E' =>
      rw [hE] at hd hn hf hc ⊢
      obtain ⟨g, rfl⟩ : ∃ g, f = g + 1 := ⟨f - 1, by simp at hf; omega⟩
      rw [List.cons_append, cleanGo] at hc
      rw [List.cons_append] at hd
      rw [hd] at hc
      split at hc
      · cases hc
      rename_i hb
      simp only [Bool.or_eq_true, decide_eq_true_eq, beq_iff_eq, not_or] at hb
      have e1 : (e :: (E' ++ t)).drop (e :: E').length = t := by rw [show e :: (E' ++ t) = (e :: E') ++ t from rfl, List.drop_left]
      rw [e1] at hc
      have ih := clean_low n g t (by simp at hn; omega) (by simp at hf; omega) ht hc
      intro c hm
      rcases List.mem_append.1 hm with hm | hm
      · by_cases h128 : r < 128
        · have h0 := hr.1
          obtain ⟨d, hd2⟩ : ∃ d : UInt8, r = (d.toNat : Int) := ⟨UInt8.ofNat r.toNat, by rw [UInt8.toNat_ofNat']; omega⟩
          subst hd2
          rw [← hE, encode_one d (by omega), List.mem_singleton] at hm
          subst hm
          simp only [Int.toNat_natCast] at hb
          omega
        · rw [← hE] at hm
          have := encode_high r hr (by omega) c hm
          omega
      · exact ih c hm
theorem clean_no {s : Stp} (h : cleanB s = true) : (10 : UInt8) ∉ s := by
  unfold cleanB at h
  rw [Bool.and_eq_true] at h
  intro hm
  have := clean_low s.length s.length s (Nat.le_refl _) (Nat.le_refl _) h.2 h.1 10 hm
  exact absurd this (by decide)
theorem low_no {s : Stp} (h : ∀ c ∈ s, 32 ≤ c.toNat) : (10 : UInt8) ∉ s := fun hm => absurd (h 10 hm) (by decide)
theorem repK_no (old new : Stp) (hnew : (10 : UInt8) ∉ new) : ∀ (k : Nat) (s : Stp), (10 : UInt8) ∉ s → (10 : UInt8) ∉ Lib.replaceK old new k s
  | 0, s, h => by rw [Lib.replaceK]; exact h
  | k + 1, s, h => by
    rw [Lib.replaceK]
    split
    · exact h
    · have ih := repK_no old new hnew k (s.drop ((Lib.index s old).toNat + old.length)) (fun hm => h (List.mem_of_mem_drop hm))
      simp only [List.mem_append, not_or]
      exact ⟨⟨fun hm => h (List.mem_of_mem_take hm), hnew⟩, ih⟩
theorem repA_no {s old new : Stp} (hnew : (10 : UInt8) ∉ new) (h : (10 : UInt8) ∉ s) : (10 : UInt8) ∉ Lib.replaceAll s old new := by
  unfold Lib.replaceAll Lib.replace
  split
  · exact h
  · exact repK_no old new hnew _ s h
theorem safe_no {s : Stp} (h : (10 : UInt8) ∉ s) : (10 : UInt8) ∉ safeL s := by
  unfold safeL safe1
  exact repA_no (by decide) (repA_no (by decide) h)
theorem quote_no (s : Stp) : (10 : UInt8) ∉ (quoteL s).1 := by
  unfold quoteL
  split
  · simp only [List.mem_cons, List.mem_append, List.not_mem_nil, or_false, not_or]
    exact ⟨by decide, low_no (qBs_low s), by decide⟩
  · exact List.not_mem_nil
theorem dbl_no {s : Stp} (h : (10 : UInt8) ∉ s) : (10 : UInt8) ∉ dbl s := by
  unfold dbl
  rw [List.mem_flatMap]
  rintro ⟨c, hc, hm⟩
  split at hm
  · revert hm; decide
  · rw [List.mem_singleton] at hm
    subst hm
    exact h hc
theorem sqw_no {s : Stp} (h : (10 : UInt8) ∉ s) : (10 : UInt8) ∉ (sqw s).1 := by
  unfold sqw
  split
  · exact List.not_mem_nil
  · simp only [List.mem_cons, List.mem_append, List.not_mem_nil, or_false, not_or]
    exact ⟨by decide, dbl_no h, by decide⟩
theorem quotedY_no (s : Stp) : (10 : UInt8) ∉ (quotedY s).1 := by
  unfold quotedY
  split
  · rename_i h
    exact sqw_no (clean_no h)
  · exact safe_no (quote_no s)
theorem bare_parts {s : Stp} (h : bareB s = true) : s ≠ [] ∧ cleanB s = true ∧ Lib.trimB s 32 = s := by
  cases s with
  | nil => cases h
  | cons c r =>
    unfold bareB at h
    simp only [Bool.and_eq_true, decide_eq_true_eq] at h
    exact ⟨by simp, h.1.1.1.1.1.1.1, h.1.1.1.1.1.1.2⟩
theorem drop_head (p : UInt8 → Bool) : ∀ l : Stp, ∀ c, (l.dropWhile p).head? = some c → p c = false
  | [], c, h => by simp at h
  | x :: l, c, h => by
    rw [List.dropWhile_cons] at h
    split at h
    · exact drop_head p l c h
    · rename_i hx
      simp at h
      subst h
      simpa using hx
theorem bare_head {s : Stp} (h : bareB s = true) : s.head? ≠ some 32 := by
  intro e
  have h3 := (bare_parts h).2.2
  rw [← h3] at e
  have := drop_head _ _ _ e
  simp at this
theorem keyY_no (s : Stp) : (10 : UInt8) ∉ (keyY s).1 := by
  unfold keyY
  split
  · split
    · rename_i h
      exact clean_no (bare_parts h).2.1
    · exact quotedY_no s
  · exact List.not_mem_nil
theorem repK_head (old new : Stp) (c : UInt8) (ho : old ≠ []) (hoc : old.head? ≠ some c) : ∀ (k : Nat) (s : Stp), s.head? = some c → (Lib.replaceK old new k s).head? = some c
  | 0, s, h => by rw [Lib.replaceK]; exact h
  | k + 1, s, h => by
    rw [Lib.replaceK]
    split
    · exact h
    · rename_i hi
      rcases Lib.index_spec s old with ⟨h1, _⟩ | ⟨i, h1, h2, h3, _⟩
      · rw [h1] at hi; exact absurd rfl hi
      · rw [h1]
        cases i with
        | zero =>
          exfalso
          unfold Lib.occAt at h3
          rw [List.drop_zero] at h3
          cases s with
          | nil => simp at h
          | cons x r =>
            cases old with
            | nil => exact ho rfl
            | cons y q =>
              simp at h
              subst h
              simp only [List.isPrefixOf, Bool.and_eq_true, beq_iff_eq] at h3
              exact hoc (by rw [h3.1]; rfl)
        | succ i =>
          cases s with
          | nil => simp at h
          | cons x r => simpa using h
theorem repA_head {s old new : Stp} (c : UInt8) (ho : old ≠ []) (hoc : old.head? ≠ some c) (h : s.head? = some c) : (Lib.replaceAll s old new).head? = some c := by
  unfold Lib.replaceAll Lib.replace
  split
  · exact h
  · exact repK_head old new c ho hoc _ s h
theorem repA_nil {old new : Stp} (ho : old ≠ []) : Lib.replaceAll [] old new = [] := by
  unfold Lib.replaceAll Lib.replace
  split
  · rfl
  · have e1 : Lib.index [] old = -1 := by cases old with | nil => exact absurd rfl ho | cons x l => rfl
    generalize Lib.replaceNum [] old (-1) = k
    cases k with
    | zero => rfl
    | succ k => rw [Lib.replaceK, if_pos (by rw [e1]; rfl)]
theorem quotedY_head (s : Stp) : (quotedY s).1.head? ≠ some 32 := by
  unfold quotedY
  split
  · unfold sqw
    split <;> simp
  · unfold safeL safe1
    simp only []
    unfold quoteL
    split
    · rw [repA_head 34 (by decide) (by decide) (repA_head 34 (by decide) (by decide) rfl)]
      decide
    · simp only []
      rw [repA_nil (by decide), repA_nil (by decide)]
      simp
theorem keyY_head (s : Stp) : ((keyY s).1 ++ [58]).head? ≠ some 32 := by
  have gen : ∀ l : Stp, l.head? ≠ some 32 → (l ++ [58]).head? ≠ some 32 := by
    intro l h
    cases l with
    | nil => simp
    | cons c r => simpa using h
  apply gen
  unfold keyY
  split
  · split
    · rename_i h
      exact bare_head h
    · exact quotedY_head s
  · simp
theorem dig_no {l : Stp} (h : l.all isDig = true) : (10 : UInt8) ∉ l := by
  intro hm
  rw [List.all_eq_true] at h
  exact absurd (h 10 hm) (by decide)
theorem textL_no (n : Num) : (10 : UInt8) ∉ textL n := by
  unfold textL
  split
  · exact List.not_mem_nil
  · rename_i hr
    split
    · decide
    · rename_i hd
      have hrr : rightP n := by
        unfold rightB at hr
        simp only [decide_eq_false_iff_not, Classical.not_not] at hr
        rcases hr with h | h
        · rw [h] at hd; exact absurd rfl hd
        · exact h
      have h1 : (10 : UInt8) ∉ n.dig := by
        have := hrr.1
        unfold allDig at this
        simp only [Bool.and_eq_true] at this
        exact dig_no (by first | exact this.1 | exact this.2 | exact this)
      have h2 : (10 : UInt8) ∉ Lib.itoa n.exp := by
        unfold Lib.itoa
        split
        · simp only [List.mem_cons, not_or]
          exact ⟨by decide, dig_no (decDigits_dig _).1⟩
        · exact dig_no (decDigits_dig _).1
      simp only [List.mem_append, not_or]
      refine ⟨by split <;> decide, h1, ?_⟩
      split
      · simp only [List.mem_cons, not_or]
        exact ⟨by decide, h2⟩
      · exact List.not_mem_nil
theorem leaf_no {t : VT} (h : rnodeB t = true) (hl : t.items = []) : (10 : UInt8) ∉ compactL t := by
  rw [compactL_eq]
  unfold rnodeB at h
  simp only [Bool.and_eq_true, decide_eq_true_eq] at h
  obtain ⟨h7, h⟩ := h
  unfold nodeB nodeF at h
  by_cases h1 : t.kind = 1
  · rw [if_pos h1]; decide
  by_cases h4 : t.kind = 4
  · rw [if_neg h1, if_pos h4]
    exact quote_no _
  by_cases h5 : t.kind = 5
  · rw [if_neg h1, if_neg h4, if_pos h5, hl]; decide
  by_cases h6 : t.kind = 6
  · rw [if_neg h1, if_neg h4, if_neg h5, if_pos h6, hl]; simp [membersL]
  rw [if_neg h1, if_neg h4, if_neg h5, if_neg h6]
  rw [if_neg h5, if_neg h6] at h
  split at h
  · cases h
  · split at h
    · rw [Bool.or_eq_true, decide_eq_true_eq, decide_eq_true_eq] at h
      rcases h with h | h <;> rw [h] <;> decide
    · split at h
      · unfold decB at h
        simp only [Bool.and_eq_true, decide_eq_true_eq] at h
        rw [← h.2]
        exact textL_no _
      · first | cases h | (rw [if_neg h4] at h; cases h)
theorem write_no {t : VT} (h : rnodeB t = true) (hl : t.items = []) : (10 : UInt8) ∉ (writeY t).1 := by
  unfold writeY
  split
  · split
    · split
      · rename_i hb
        rw [Bool.and_eq_true] at hb
        exact clean_no (bare_parts hb.1).2.1
      · exact quotedY_no _
    · exact safe_no (leaf_no h hl)
  · exact List.not_mem_nil
theorem every_node {t : VT} {p : VT → Bool} (h : everyB p t = true) : p t = true ∧ everyL p t.items = true := by
  cases t with
  | mk k s ks l =>
    rw [everyB, Bool.and_eq_true] at h
    exact h
mutual
theorem ybeh_scan : ∀ (t : VT) (R ind : Nat) (rest : Stp) (f : Bool) (m : Nat) (hd : Stp), everyB rnodeB t = true → R ≤ ind → (f = true → ind = R) → hd ≠ [] → hd.head? ≠ some 32 → (10 : UInt8) ∉ hd →
    scanGo R 0 f true m (List.replicate ind 32 ++ hd ++ ybehL t ind ++ rest) = scanGo R 0 false true (m + t.size) rest
  | .mk k s ks l, R, ind, rest, f, m, hd, he, hR, hf, h1, h2, h3 => by
    have hn := every_node he
    rw [ybehL, VT.size]
    split
    · rename_i hl
      have hl' : l = [] := by cases l with | nil => rfl | cons x l => cases hl
      have hw := write_no (t := .mk k s ks l) hn.1 hl'
      have e1 : List.replicate ind 32 ++ hd ++ 32 :: ((writeY (.mk k s ks l)).1 ++ [10]) ++ rest = List.replicate ind 32 ++ ((hd ++ 32 :: (writeY (.mk k s ks l)).1) ++ (10 :: rest)) := by simp
      rw [e1, scan_line R ind f m _ rest hR hf (by simp [h1]) (by cases hd with | nil => exact absurd rfl h1 | cons c r => simpa using h2) (by simp only [List.mem_append, List.mem_cons, not_or]; exact ⟨h3, by decide, hw⟩), hl', sizes]
    · have e1 : List.replicate ind 32 ++ hd ++ 10 :: (if k = 6 then ymemL l ks (ind + 2) else yitemL l (ind + 2)) ++ rest = List.replicate ind 32 ++ (hd ++ (10 :: ((if k = 6 then ymemL l ks (ind + 2) else yitemL l (ind + 2)) ++ rest))) := by simp
      rw [e1, scan_line R ind f m hd _ hR hf h1 h2 h3]
      split
      · rw [ymem_scan l ks R (ind + 2) rest false (m + 1) hn.2 (by omega) (by intro h; cases h)]
        rw [show m + 1 + sizes l = m + (sizes l + 1) by omega]
        rfl
      · rw [yitem_scan l R (ind + 2) rest false (m + 1) hn.2 (by omega) (by intro h; cases h)]
        rw [show m + 1 + sizes l = m + (sizes l + 1) by omega]
        rfl
theorem yitem_scan : ∀ (l : List VT) (R ind : Nat) (rest : Stp) (f : Bool) (m : Nat), everyL rnodeB l = true → R ≤ ind → (f = true → ind = R) →
    scanGo R 0 f true m (yitemL l ind ++ rest) = scanGo R 0 (f && l.isEmpty) true (m + sizes l) rest
  | [], R, ind, rest, f, m, _, _, _ => by rw [yitemL, sizes]; cases f <;> rfl
  | x :: l, R, ind, rest, f, m, he, hR, hf => by
    rw [everyL, Bool.and_eq_true] at he
    rw [yitemL, sizes, List.append_assoc, ybeh_scan x R ind _ f m [45] he.1 hR hf (by decide) (by decide) (by decide)]
    rw [yitem_scan l R ind rest false (m + x.size) he.2 hR (by intro h; cases h)]
    rw [show m + x.size + sizes l = m + (x.size + sizes l) by omega]
    cases f <;> rfl
theorem ymem_scan : ∀ (l : List VT) (ks : List Stp) (R ind : Nat) (rest : Stp) (f : Bool) (m : Nat), everyL rnodeB l = true → R ≤ ind → (f = true → ind = R) →
    scanGo R 0 f true m (ymemL l ks ind ++ rest) = scanGo R 0 (f && l.isEmpty) true (m + sizes l) rest
  | [], ks, R, ind, rest, f, m, _, _, _ => by rw [ymemL, sizes]; cases f <;> rfl
  | x :: l, ks, R, ind, rest, f, m, he, hR, hf => by
    rw [everyL, Bool.and_eq_true] at he
    rw [ymemL, sizes, List.append_assoc, ybeh_scan x R ind _ f m ((keyY (ks.headD [])).1 ++ [58]) he.1 hR hf (by simp) (keyY_head _) (by simp only [List.mem_append, not_or]; exact ⟨keyY_no _, by decide⟩)]
    rw [ymem_scan l ks.tail R ind rest false (m + x.size) he.2 hR (by intro h; cases h)]
    rw [show m + x.size + sizes l = m + (x.size + sizes l) by omega]
    cases f <;> rfl
end
/-- A block's lines: all as they should be, one for each node within. -/
theorem block_scan {t : VT} {i : Nat} (h : RightB t = true) (h0 : 0 < t.items.length) : scanGo i 0 true true 0 (blockL t i) = some (t.size - 1) := by
  have he := right_every h
  have hn := every_node he
  have e1 : sizes t.items = t.size - 1 := by cases t; rw [VT.size]; rfl
  have e2 : t.items.isEmpty = false := by cases hh : t.items with | nil => rw [hh] at h0; cases h0 | cons x l => rfl
  unfold blockL
  split
  · have := ymem_scan t.items t.keys i i [] true 0 hn.2 (Nat.le_refl _) (fun _ => rfl)
    rw [List.append_nil, e1, e2, Nat.zero_add] at this
    rw [this]
    rfl
  · have := yitem_scan t.items i i [] true 0 hn.2 (Nat.le_refl _) (fun _ => rfl)
    rw [List.append_nil, e1, e2, Nat.zero_add] at this
    rw [this]
    rfl
/-! The last byte. -/
theorem last_app (a b : Stp) (h : b.getLast? = some 10) : (a ++ b).getLast? = some 10 := by
  rw [List.getLast?_append, h]
  rfl
mutual
theorem ybeh_last : ∀ (t : VT) (ind : Nat), (ybehL t ind).getLast? = some 10
  | .mk k s ks l, ind => by
    rw [ybehL]
    split
    · have e1 : 32 :: ((writeY (.mk k s ks l)).1 ++ [10]) = (32 :: (writeY (.mk k s ks l)).1) ++ [10] := rfl
      rw [e1]
      exact last_app _ _ rfl
    · rename_i hl
      have hl' : l ≠ [] := by intro e; rw [e] at hl; exact hl rfl
      split
      · exact last_app [10] _ (ymem_last l ks (ind + 2) hl')
      · exact last_app [10] _ (yitem_last l (ind + 2) hl')
theorem yitem_last : ∀ (l : List VT) (ind : Nat), l ≠ [] → (yitemL l ind).getLast? = some 10
  | [], ind, h => absurd rfl h
  | x :: l, ind, _ => by
    rw [yitemL]
    by_cases hl : l = []
    · rw [hl, yitemL, List.append_nil]
      exact last_app _ _ (ybeh_last x ind)
    · exact last_app _ _ (yitem_last l ind hl)
theorem ymem_last : ∀ (l : List VT) (ks : List Stp) (ind : Nat), l ≠ [] → (ymemL l ks ind).getLast? = some 10
  | [], ks, ind, h => absurd rfl h
  | x :: l, ks, ind, _ => by
    rw [ymemL]
    by_cases hl : l = []
    · rw [hl, ymemL, List.append_nil]
      exact last_app _ _ (ybeh_last x ind)
    · exact last_app _ _ (ymem_last l ks.tail ind hl)
end
theorem block_last {t : VT} {i : Nat} (h0 : 0 < t.items.length) : (blockL t i).getLast? = some 10 := by
  have e2 : t.items ≠ [] := by intro e; rw [e] at h0; cases h0
  unfold blockL
  split
  · exact ymem_last _ _ _ e2
  · exact yitem_last _ _ e2
end Go.Proofs.YtnnlpkbopeiefaaGreatDoor
