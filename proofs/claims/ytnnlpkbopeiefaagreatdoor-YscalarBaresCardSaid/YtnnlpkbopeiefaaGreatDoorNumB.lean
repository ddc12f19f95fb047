import Derived.Test.YtnnlpkbopeiefaaGreatDoorNumA
/-! PLAIN: how two decimals stand. -/
namespace Go.Proofs.YtnnlpkbopeiefaaGreatDoor
set_option linter.unusedSimpArgs false
set_option linter.unusedVariables false
open Go.Lib (compareBytes)
def topOf (n : Num) : Int := (n.dig.length : Int) + n.exp
end Go.Proofs.YtnnlpkbopeiefaaGreatDoor
/-! PLAIN: decimals and their values. -/
namespace Go.Proofs.YtnnlpkbopeiefaaGreatDoor
set_option linter.unusedSimpArgs false
set_option linter.unusedVariables false
open Go.Lib (compareBytes compareInt)
theorem decV_cons (c : UInt8) (t : List UInt8) : decV (c :: t) = ((c.toNat : Int) - 48) * 10 ^ t.length + decV t := by
  have := decV_append [c] t
  rw [List.singleton_append] at this
  rw [this]
  unfold decV; simp
theorem decV_zeros : ∀ m : Nat, decV (List.replicate m 48) = 0
  | 0 => rfl
  | m + 1 => by rw [List.replicate_succ, decV_cons, decV_zeros m]; simp
theorem all_zeros (m : Nat) : (List.replicate m (48 : UInt8)).all isDig = true := by
  rw [List.all_eq_true]; intro x hx; rw [List.eq_of_mem_replicate hx]; rfl
/-- The value of a number that has no digits behind the point. -/
def mag (n : Num) : Int := decV n.dig * 10 ^ n.exp.toNat
theorem mag_pad (n : Num) : decV (n.dig ++ List.replicate n.exp.toNat 48) = mag n := by
  rw [decV_append, decV_zeros, List.length_replicate]; unfold mag; omega
end Go.Proofs.YtnnlpkbopeiefaaGreatDoor
/-! PLAIN: texts, ints and decimals. -/
namespace Go.Proofs.YtnnlpkbopeiefaaGreatDoor
set_option linter.unusedSimpArgs false
set_option linter.unusedVariables false
open Go.Lib (compareBytes compareInt itoa decDigits nDigits)
theorem dropWhile_none (p : UInt8 → Bool) : ∀ l : List UInt8, (∀ c ∈ l, p c = true) → l.dropWhile p = []
  | [], _ => rfl
  | c :: t, h => by rw [List.dropWhile_cons, if_pos (h c List.mem_cons_self)]; exact dropWhile_none p t fun x hx => h x (List.mem_cons_of_mem _ hx)
theorem cutAt_none (p : UInt8 → Bool) (l : List UInt8) (h : ∀ c ∈ l, p c = false) : cutAt p l = (l, [], false) := by
  unfold cutAt
  rw [dropWhile_none _ l fun c hc => by simp [h c hc]]
theorem cutAt_some (p : UInt8 → Bool) : ∀ (a : List UInt8) (b : UInt8) (t : List UInt8), (∀ c ∈ a, p c = false) → p b = true → cutAt p (a ++ b :: t) = (a, t, true)
  | [], b, t, _, hb => by simp [cutAt, hb]
  | c :: a, b, t, h, hb => by
    have ih := cutAt_some p a b t (fun x hx => h x (List.mem_cons_of_mem _ hx)) hb
    have hc := h c (List.mem_cons_self)
    unfold cutAt at ih ⊢
    rw [List.cons_append, List.dropWhile_cons, List.takeWhile_cons, hc]
    simp only [Bool.not_false, if_true]
    cases hd : (a ++ b :: t).dropWhile (fun c => !p c) with
    | nil => rw [hd] at ih; simp at ih
    | cons y r => rw [hd] at ih; simp at ih ⊢; exact ih
theorem decDigits_dig (u : Nat) : (decDigits u).all isDig = true ∧ decDigits u ≠ [] ∧ decV (decDigits u) = (u : Int) := by
  induction u using Nat.strongRecOn with
  | _ u ih =>
    have hd : ∀ k : Nat, k < 10 → isDig (UInt8.ofNat (48 + k)) = true ∧ ((UInt8.ofNat (48 + k)).toNat : Int) = 48 + k := by
      intro k hk
      have : (UInt8.ofNat (48 + k)).toNat = 48 + k := by rw [UInt8.toNat_ofNat']; omega
      refine ⟨decide_eq_true (by rw [this]; omega), by rw [this]; omega⟩
    by_cases h : u < 10
    · rw [decDigits, dif_pos h]
      refine ⟨by rw [List.all_cons, (hd u h).1]; rfl, by simp, ?_⟩
      unfold decV; simp only [List.foldl_cons, List.foldl_nil]; rw [(hd u h).2]; omega
    · rw [decDigits, dif_neg h]
      obtain ⟨h1, h2, h3⟩ := ih (u / 10) (by omega)
      refine ⟨?_, by simp, ?_⟩
      · rw [List.all_append, Bool.and_eq_true]; exact ⟨h1, by rw [List.all_cons, (hd (u % 10) (by omega)).1]; rfl⟩
      · rw [decV_snoc, h3, (hd (u % 10) (by omega)).2]; omega
theorem decDigits_len (u : Nat) : ∀ k, u < 10 ^ k → 1 ≤ k → (decDigits u).length ≤ k := by
  induction u using Nat.strongRecOn with
  | _ u ih =>
    intro k hk h1
    by_cases h : u < 10
    · rw [decDigits, dif_pos h]; exact h1
    · rw [decDigits, dif_neg h, List.length_append]
      obtain ⟨m, rfl⟩ : ∃ m, k = m + 1 := ⟨k - 1, by omega⟩
      rw [Nat.pow_succ] at hk
      rcases Nat.eq_zero_or_pos m with h0 | h0
      · subst h0; simp at hk; omega
      · have := ih (u / 10) (by omega) m (by omega) h0
        simp; omega
theorem noTail_split (l : List UInt8) : l = noTail l ++ List.replicate (l.length - (noTail l).length) 48 := by
  unfold noTail
  have h := List.takeWhile_append_dropWhile (p := fun x : UInt8 => x == 48) (l := l.reverse)
  have h1 : (l.reverse.takeWhile (· == 48)) = List.replicate (l.reverse.takeWhile (· == 48)).length 48 := by
    rw [List.eq_replicate_iff]
    refine ⟨rfl, fun b hb => ?_⟩
    have := List.all_eq_true.1 (List.all_takeWhile (p := fun x : UInt8 => x == 48) (l := l.reverse)) b hb
    simpa using this
  have h2 : l = (l.reverse.dropWhile (· == 48)).reverse ++ (l.reverse.takeWhile (· == 48)).reverse := by
    rw [← List.reverse_append, h, List.reverse_reverse]
  have h3 : l.length - (l.reverse.dropWhile (· == 48)).reverse.length = (l.reverse.takeWhile (· == 48)).length := by
    have := congrArg List.length h2
    rw [List.length_append, List.length_reverse (as := l.reverse.takeWhile (· == 48))] at this
    omega
  rw [h3, ← List.reverse_replicate, ← h1]
  exact h2
theorem noTail_last (l : List UInt8) : (noTail l).getLast? ≠ some 48 := by
  unfold noTail
  rw [List.getLast?_reverse]
  intro h
  have := List.head?_dropWhile_not (p := fun x : UInt8 => x == 48) (l := l.reverse)
  rw [h] at this
  simp at this
def ofInt (i : Int) : Num := (parseL (itoa i)).1
end Go.Proofs.YtnnlpkbopeiefaaGreatDoor
/-! PLAIN: texts of decimals. -/
namespace Go.Proofs.YtnnlpkbopeiefaaGreatDoor
set_option linter.unusedSimpArgs false
set_option linter.unusedVariables false
open Go.Lib (compareBytes compareInt itoa decDigits nDigits)
def textL (n : Num) : List UInt8 :=
  if rightB n = false then [] else if n.dig = [] then [48] else
  (if n.neg then [45] else []) ++ (n.dig ++ (if n.exp ≠ 0 then 101 :: itoa n.exp else []))
theorem cutAt_no {p : UInt8 → Bool} {l a b : List UInt8} (h : cutAt p l = (a, b, false)) : a = l ∧ b = [] := by
  unfold cutAt at h
  split at h
  · injection h with h1 h2; injection h2 with h3 _; exact ⟨h1.symm, h3.symm⟩
  · injection h with h1 h2; injection h2 with h3 h4; cases h4
theorem allDig_ne {l : List UInt8} (h : allDig l = true) : l ≠ [] ∧ l.all isDig = true := by
  unfold allDig at h
  rw [Bool.and_eq_true] at h
  exact ⟨by intro e; rw [e] at h; simp at h, h.2⟩
theorem allDig_mk {l : List UInt8} (h : l ≠ []) (h2 : l.all isDig = true) : allDig l = true := by
  unfold allDig
  rw [h2, Bool.and_true]
  cases l with
  | nil => exact absurd rfl h
  | cons _ _ => rfl
theorem noTail_head {l : List UInt8} (h : l.head? ≠ some 48) (hne : l ≠ []) : noTail l ≠ [] ∧ (noTail l).head? ≠ some 48 := by
  have hsp := noTail_split l
  have hn : noTail l ≠ [] := by
    intro e
    rw [e, List.nil_append] at hsp
    cases hc : l with
    | nil => exact hne hc
    | cons x t =>
      rw [hc] at hsp h
      simp only [List.length_cons, List.length_nil, Nat.sub_zero, List.replicate_succ] at hsp
      injection hsp with hx _
      apply h; rw [hx]; rfl
  refine ⟨hn, ?_⟩
  rw [hsp] at h
  cases hc : noTail l with
  | nil => exact absurd hc hn
  | cons x t => rw [hc] at h; exact h
theorem noZeros_head (l : List UInt8) : (noZeros l).head? ≠ some 48 := by
  unfold noZeros
  intro h
  have := List.head?_dropWhile_not (p := fun x : UInt8 => x == 48) (l := l)
  rw [h] at this
  simp at this
theorem noZeros_all {l : List UInt8} (h : l.all isDig = true) : (noZeros l).all isDig = true := by
  rw [List.all_eq_true] at h ⊢
  intro x hx
  exact h x ((List.dropWhile_sublist _).subset hx)
theorem noTail_all {l : List UInt8} (h : l.all isDig = true) : (noTail l).all isDig = true := by
  rw [noTail_split l, List.all_append, Bool.and_eq_true] at h
  exact h.1
theorem litOf_parts {l : List UInt8} {x : Lit} (h : litOf l = some x) : allDig x.whole = true ∧ x.rest.all isDig = true ∧ x.exp.all isDig = true := by
  unfold litOf at h
  simp only [] at h
  have hx0 : (cutAt isE (unsign l)).2.2 = false → (if (cutAt isE (unsign l)).2.2 = true then unplus (cutAt isE (unsign l)).2.1 else []) = [] := fun e => by rw [e]; rfl
  generalize (if (cutAt isE (unsign l)).2.2 = true then unplus (cutAt isE (unsign l)).2.1 else []) = xx at h hx0
  split at h
  · rename_i hok
    injection h with h
    subst h
    unfold litOk at hok
    simp only [Bool.and_eq_true, Bool.or_eq_true, Bool.not_eq_true'] at hok
    obtain ⟨⟨h1, h2, h3⟩, _⟩ := hok
    refine ⟨h2, ?_, ?_⟩
    · rcases h3 with h3 | h3
      · have := (cutAt_no (p := isDot) (l := (cutAt isE (unsign l)).1) (a := (cutAt isDot (cutAt isE (unsign l)).1).1) (b := (cutAt isDot (cutAt isE (unsign l)).1).2.1) (by rw [← h3])).2
        rw [this]; rfl
      · exact (allDig_ne h3).2
    · rcases h1 with h1 | h1
      · rw [hx0 h1]; rfl
      · exact (allDig_ne h1).2
  · cases h
theorem parseLit_right {x : Lit} {n : Num} (h1 : allDig x.whole = true) (h2 : x.rest.all isDig = true) (h : parseLit x = (n, 0)) : rightB n = true := by
  unfold parseLit at h
  split at h
  · injection h with _ h; cases h
  rename_i hlen
  split at h
  · injection h with _ h; cases h
  simp only [] at h
  generalize (if x.low = true then - decV x.exp else decV x.exp) = ee at h
  split at h
  · injection h with h _; subst h; rfl
  rename_i hd
  split at h
  · injection h with _ h; cases h
  rename_i hk
  injection h with h _
  subst h
  have hall : (noZeros (x.whole ++ x.rest)).all isDig = true := noZeros_all (by rw [List.all_append, Bool.and_eq_true]; exact ⟨(allDig_ne h1).2, h2⟩)
  have hh := noTail_head (noZeros_head _) hd
  have hl1 : (noZeros (x.whole ++ x.rest)).length ≤ x.whole.length + x.rest.length := by
    have := (List.dropWhile_sublist (p := fun c : UInt8 => c == 48) (l := x.whole ++ x.rest)).length_le
    rw [List.length_append] at this; exact this
  have hl2 := congrArg List.length (noTail_split (noZeros (x.whole ++ x.rest)))
  rw [List.length_append] at hl2
  refine decide_eq_true (.inr ⟨allDig_mk hh.1 (noTail_all hall), ?_, hh.2, noTail_last _, ?_, ?_⟩)
  · show (noTail (noZeros (x.whole ++ x.rest))).length ≤ 1000; omega
  · simp only []; omega
  · simp only []; omega
theorem parseL_right {l : List UInt8} {n : Num} (h : parseL l = (n, 0)) : rightB n = true := by
  unfold parseL at h
  cases hl : litOf l with
  | none => rw [hl] at h; injection h with _ h; cases h
  | some x =>
    rw [hl] at h
    obtain ⟨h1, h2, _⟩ := litOf_parts hl
    exact parseLit_right h1 h2 h
theorem textL_ne {n : Num} (h : rightB n = true) : textL n ≠ [] := by
  unfold textL
  rw [h]
  simp only [Bool.true_eq_false, if_false]
  split
  · simp
  · rename_i hd
    intro e
    rw [List.append_eq_nil_iff, List.append_eq_nil_iff] at e
    exact hd e.2.1
end Go.Proofs.YtnnlpkbopeiefaaGreatDoor
