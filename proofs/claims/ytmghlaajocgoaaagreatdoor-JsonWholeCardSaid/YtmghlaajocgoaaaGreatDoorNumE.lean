import Derived.Test.YtmghlaajocgoaaaGreatDoorNumD
/-! PLAIN: texts of decimals. -/
namespace Go.Proofs.YtmghlaajocgoaaaGreatDoor
set_option linter.unusedSimpArgs false
set_option linter.unusedVariables false
open Go.Lib (compareBytes compareInt itoa decDigits nDigits)

def textL (n : Num) : List UInt8 :=
  if rightB n = false then [] else if n.dig = [] then [48] else
  (if n.neg then [45] else []) ++ (n.dig ++ (if n.exp ≠ 0 then 101 :: itoa n.exp else []))
theorem cutAt_no {p : UInt8 → Bool} {l a b : List UInt8} (h : cutAt p l = (a, b, false)) : a = l ∧ b = [] := by
  unfold cutAt at h
  split at h
  · injection h with h1 h2; injection h2 with h3 _; exact ⟨h1.symm, h3.symm⟩
  · injection h with h1 h2; injection h2 with h3 h4; cases h4
theorem allDig_ne {l : List UInt8} (h : allDig l = true) : l ≠ [] ∧ l.all isDig = true := by
  unfold allDig at h
  rw [Bool.and_eq_true] at h
  exact ⟨by intro e; rw [e] at h; simp at h, h.2⟩
theorem allDig_mk {l : List UInt8} (h : l ≠ []) (h2 : l.all isDig = true) : allDig l = true := by
  unfold allDig
  rw [h2, Bool.and_true]
  cases l with
  | nil => exact absurd rfl h
  | cons _ _ => rfl
theorem noTail_head {l : List UInt8} (h : l.head? ≠ some 48) (hne : l ≠ []) : noTail l ≠ [] ∧ (noTail l).head? ≠ some 48 := by
  have hsp := noTail_split l
  have hn : noTail l ≠ [] := by
    intro e
    rw [e, List.nil_append] at hsp
    cases hc : l with
    | nil => exact hne hc
    | cons x t =>
      rw [hc] at hsp h
      simp only [List.length_cons, List.length_nil, Nat.sub_zero, List.replicate_succ] at hsp
      injection hsp with hx _
      apply h; rw [hx]; rfl
  refine ⟨hn, ?_⟩
  rw [hsp] at h
  cases hc : noTail l with
  | nil => exact absurd hc hn
  | cons x t => rw [hc] at h; exact h
theorem noZeros_head (l : List UInt8) : (noZeros l).head? ≠ some 48 := by
  unfold noZeros
  intro h
  have := List.head?_dropWhile_not (p := fun x : UInt8 => x == 48) (l := l)
  rw [h] at this
  simp at this
theorem noZeros_all {l : List UInt8} (h : l.all isDig = true) : (noZeros l).all isDig = true := by
  rw [List.all_eq_true] at h ⊢
  intro x hx
  exact h x ((List.dropWhile_sublist _).subset hx)
theorem noTail_all {l : List UInt8} (h : l.all isDig = true) : (noTail l).all isDig = true := by
  rw [noTail_split l, List.all_append, Bool.and_eq_true] at h
  exact h.1
theorem litOf_parts {l : List UInt8} {x : Lit} (h : litOf l = some x) : allDig x.whole = true ∧ x.rest.all isDig = true ∧ x.exp.all isDig = true := by
  unfold litOf at h
  simp only [] at h
  have hx0 : (cutAt isE (unsign l)).2.2 = false → (if (cutAt isE (unsign l)).2.2 = true then unplus (cutAt isE (unsign l)).2.1 else []) = [] := fun e => by rw [e]; rfl
  generalize (if (cutAt isE (unsign l)).2.2 = true then unplus (cutAt isE (unsign l)).2.1 else []) = xx at h hx0
  split at h
  · rename_i hok
    injection h with h
    subst h
    unfold litOk at hok
    simp only [Bool.and_eq_true, Bool.or_eq_true, Bool.not_eq_true'] at hok
    obtain ⟨⟨h1, h2, h3⟩, _⟩ := hok
    refine ⟨h2, ?_, ?_⟩
    · rcases h3 with h3 | h3
      · have := (cutAt_no (p := isDot) (l := (cutAt isE (unsign l)).1) (a := (cutAt isDot (cutAt isE (unsign l)).1).1) (b := (cutAt isDot (cutAt isE (unsign l)).1).2.1) (by rw [← h3])).2
        rw [this]; rfl
      · exact (allDig_ne h3).2
    · rcases h1 with h1 | h1
      · rw [hx0 h1]; rfl
      · exact (allDig_ne h1).2
  · cases h
theorem parseLit_right {x : Lit} {n : Num} (h1 : allDig x.whole = true) (h2 : x.rest.all isDig = true) (h : parseLit x = (n, 0)) : rightB n = true := by
  unfold parseLit at h
  split at h
  · injection h with _ h; cases h
  rename_i hlen
  split at h
  · injection h with _ h; cases h
  simp only [] at h
  generalize (if x.low = true then - decV x.exp else decV x.exp) = ee at h
  split at h
  · injection h with h _; subst h; rfl
  rename_i hd
  split at h
  · injection h with _ h; cases h
  rename_i hk
  injection h with h _
  subst h
  have hall : (noZeros (x.whole ++ x.rest)).all isDig = true := noZeros_all (by rw [List.all_append, Bool.and_eq_true]; exact ⟨(allDig_ne h1).2, h2⟩)
  have hh := noTail_head (noZeros_head _) hd
  have hl1 : (noZeros (x.whole ++ x.rest)).length ≤ x.whole.length + x.rest.length := by
    have := (List.dropWhile_sublist (p := fun c : UInt8 => c == 48) (l := x.whole ++ x.rest)).length_le
    rw [List.length_append] at this; exact this
  have hl2 := congrArg List.length (noTail_split (noZeros (x.whole ++ x.rest)))
  rw [List.length_append] at hl2
  refine decide_eq_true (.inr ⟨allDig_mk hh.1 (noTail_all hall), ?_, hh.2, noTail_last _, ?_, ?_⟩)
  · show (noTail (noZeros (x.whole ++ x.rest))).length ≤ 1000; omega
  · simp only []; omega
  · simp only []; omega
theorem parseL_right {l : List UInt8} {n : Num} (h : parseL l = (n, 0)) : rightB n = true := by
  unfold parseL at h
  cases hl : litOf l with
  | none => rw [hl] at h; injection h with _ h; cases h
  | some x =>
    rw [hl] at h
    obtain ⟨h1, h2, _⟩ := litOf_parts hl
    exact parseLit_right h1 h2 h
theorem textL_ne {n : Num} (h : rightB n = true) : textL n ≠ [] := by
  unfold textL
  rw [h]
  simp only [Bool.true_eq_false, if_false]
  split
  · simp
  · rename_i hd
    intro e
    rw [List.append_eq_nil_iff, List.append_eq_nil_iff] at e
    exact hd e.2.1
/-- Texts and right numbers are each other's. -/
theorem parse_text (n : Num) (h : rightB n = true) : parseL (textL n) = (n, 0) := by
  rcases of_decide_eq_true h with h0 | hr
  · subst h0; rfl
  have hr' := hr
  obtain ⟨hd, hlen, hh, hl, he1, he2⟩ := hr
  obtain ⟨hne, hall⟩ := allDig_ne hd
  obtain ⟨n1, n2, n3, n4⟩ := dig_not _ hall
  have ht : textL n = (if n.neg then [45] else []) ++ (n.dig ++ (if n.exp ≠ 0 then 101 :: itoa n.exp else [])) := by
    unfold textL; rw [h]; simp only [Bool.true_eq_false, if_false]; rw [if_neg hne]
  have hhd : ∀ t : List UInt8, (n.dig ++ t).head? = n.dig.head? := fun t => by
    cases hc : n.dig with
    | nil => exact absurd hc hne
    | cons _ _ => rfl
  have hu : unsign (textL n) = n.dig ++ (if n.exp ≠ 0 then 101 :: itoa n.exp else []) ∧ ((textL n).head? == some 45) = n.neg := by
    rw [ht]; unfold unsign
    cases n.neg with
    | true => simp
    | false =>
      simp only [Bool.false_eq_true, if_false, List.nil_append]
      rw [hhd, if_neg n3]
      exact ⟨rfl, beq_eq_false_iff_ne.2 n3⟩
  have hfin : ∀ x : Lit, x = ⟨n.neg, n.dig, [], decide (n.exp < 0), if n.exp = 0 then [] else decDigits n.exp.natAbs⟩ → parseLit x = (n, 0) := by
    rintro x rfl
    unfold parseLit
    simp only [List.length_nil, Nat.add_zero, List.append_nil]
    rw [if_neg (by omega)]
    have hz : (noZeros (if n.exp = 0 then [] else decDigits n.exp.natAbs)).length ≤ 9 := by
      have h9 := decDigits_len n.exp.natAbs 9 (by omega) (by decide)
      by_cases e0 : n.exp = 0
      · rw [if_pos e0]; simp [noZeros]
      · rw [if_neg e0]; exact Nat.le_trans ((List.dropWhile_sublist _).length_le) h9
    rw [if_neg (by omega), noZeros_same hh, if_neg hne, noTail_same hl]
    have hv : (if decide (n.exp < 0) = true then - decV (if n.exp = 0 then [] else decDigits n.exp.natAbs) else decV (if n.exp = 0 then [] else decDigits n.exp.natAbs)) = n.exp := by
      by_cases e0 : n.exp = 0
      · rw [e0]; rfl
      · rw [if_neg e0, (decDigits_dig _).2.2]
        by_cases e1 : n.exp < 0
        · rw [if_pos (decide_eq_true e1)]; omega
        · rw [if_neg (by simp [e1])]; omega
    rw [hv, if_neg (by omega)]
    cases n
    simp
  unfold parseL
  by_cases e0 : n.exp = 0
  · have hlit : litOf (textL n) = some ⟨n.neg, n.dig, [], decide (n.exp < 0), if n.exp = 0 then [] else decDigits n.exp.natAbs⟩ := by
      unfold litOf
      simp only [hu.1, hu.2, e0, ne_eq, not_true, if_false, List.append_nil, cutAt_none isE _ n1, cutAt_none isDot _ n2]
      have hok : litOk false false [] n.dig [] = true := by
        unfold litOk; rw [hd]; simp [hh]
      simp [hok]
    rw [hlit]; exact hfin _ rfl
  · have hlit : litOf (textL n) = some ⟨n.neg, n.dig, [], decide (n.exp < 0), if n.exp = 0 then [] else decDigits n.exp.natAbs⟩ := by
      obtain ⟨d1, d2, d3⟩ := decDigits_dig n.exp.natAbs
      obtain ⟨_, _, m3, m4⟩ := dig_not _ d1
      have hp : unplus (itoa n.exp) = decDigits n.exp.natAbs ∧ ((itoa n.exp).head? == some 45) = decide (n.exp < 0) := by
        unfold unplus itoa
        by_cases e1 : n.exp < 0
        · rw [if_pos e1]; simp [e1]
        · rw [if_neg e1, show n.exp.toNat = n.exp.natAbs by omega, if_neg (by intro hc; rcases hc with hc | hc; exact m3 hc; exact m4 hc)]
          exact ⟨rfl, by rw [decide_eq_false e1, beq_eq_false_iff_ne]; exact m3⟩
      unfold litOf
      simp only [hu.1, hu.2, ne_eq, e0, not_false_eq_true, if_true, cutAt_some isE _ 101 _ n1 rfl, cutAt_none isDot _ n2, hp.1, hp.2, Bool.true_and, if_false]
      have hok : litOk true false (decDigits n.exp.natAbs) n.dig [] = true := by
        unfold litOk; rw [hd, allDig_mk d2 d1]; simp [hh]
      simp [hok]
    rw [hlit]; exact hfin _ rfl
end Go.Proofs.YtmghlaajocgoaaaGreatDoor
