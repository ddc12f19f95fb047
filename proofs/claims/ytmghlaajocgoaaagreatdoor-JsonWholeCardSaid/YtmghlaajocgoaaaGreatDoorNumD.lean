import Derived.Test.YtmghlaajocgoaaaGreatDoorNumC
/-! PLAIN: texts, ints and decimals. -/
namespace Go.Proofs.YtmghlaajocgoaaaGreatDoor
set_option linter.unusedSimpArgs false
set_option linter.unusedVariables false
open Go.Lib (compareBytes compareInt itoa decDigits nDigits)

theorem dropWhile_none (p : UInt8 → Bool) : ∀ l : List UInt8, (∀ c ∈ l, p c = true) → l.dropWhile p = []
  | [], _ => rfl
  | c :: t, h => by rw [List.dropWhile_cons, if_pos (h c List.mem_cons_self)]; exact dropWhile_none p t fun x hx => h x (List.mem_cons_of_mem _ hx)
theorem decDigits_zero : decDigits 0 = [48] := by rw [decDigits, dif_pos (by decide)]; rfl
theorem cutAt_none (p : UInt8 → Bool) (l : List UInt8) (h : ∀ c ∈ l, p c = false) : cutAt p l = (l, [], false) := by
  unfold cutAt
  rw [dropWhile_none _ l fun c hc => by simp [h c hc]]
theorem cutAt_some (p : UInt8 → Bool) : ∀ (a : List UInt8) (b : UInt8) (t : List UInt8), (∀ c ∈ a, p c = false) → p b = true → cutAt p (a ++ b :: t) = (a, t, true)
  | [], b, t, _, hb => by simp [cutAt, hb]
  | c :: a, b, t, h, hb => by
    have ih := cutAt_some p a b t (fun x hx => h x (List.mem_cons_of_mem _ hx)) hb
    have hc := h c (List.mem_cons_self)
    unfold cutAt at ih ⊢
    rw [List.cons_append, List.dropWhile_cons, List.takeWhile_cons, hc]
    simp only [Bool.not_false, if_true]
    cases hd : (a ++ b :: t).dropWhile (fun c => !p c) with
    | nil => rw [hd] at ih; simp at ih
    | cons y r => rw [hd] at ih; simp at ih ⊢; exact ih
theorem decDigits_dig (u : Nat) : (decDigits u).all isDig = true ∧ decDigits u ≠ [] ∧ decV (decDigits u) = (u : Int) := by
  induction u using Nat.strongRecOn with
  | _ u ih =>
    have hd : ∀ k : Nat, k < 10 → isDig (UInt8.ofNat (48 + k)) = true ∧ ((UInt8.ofNat (48 + k)).toNat : Int) = 48 + k := by
      intro k hk
      have : (UInt8.ofNat (48 + k)).toNat = 48 + k := by rw [UInt8.toNat_ofNat']; omega
      refine ⟨decide_eq_true (by rw [this]; omega), by rw [this]; omega⟩
    by_cases h : u < 10
    · rw [decDigits, dif_pos h]
      refine ⟨by rw [List.all_cons, (hd u h).1]; rfl, by simp, ?_⟩
      unfold decV; simp only [List.foldl_cons, List.foldl_nil]; rw [(hd u h).2]; omega
    · rw [decDigits, dif_neg h]
      obtain ⟨h1, h2, h3⟩ := ih (u / 10) (by omega)
      refine ⟨?_, by simp, ?_⟩
      · rw [List.all_append, Bool.and_eq_true]; exact ⟨h1, by rw [List.all_cons, (hd (u % 10) (by omega)).1]; rfl⟩
      · rw [decV_snoc, h3, (hd (u % 10) (by omega)).2]; omega
theorem decDigits_head (u : Nat) (hu : u ≠ 0) : (decDigits u).head? ≠ some 48 := by
  induction u using Nat.strongRecOn with
  | _ u ih =>
    by_cases h : u < 10
    · rw [decDigits, dif_pos h, List.head?_cons]
      intro e
      have := congrArg (fun x => x.map UInt8.toNat) e
      simp at this
      omega
    · rw [decDigits, dif_neg h]
      have h2 := (decDigits_dig (u / 10)).2.1
      have := ih (u / 10) (by omega) (by omega)
      cases hc : decDigits (u / 10) with
      | nil => exact absurd hc h2
      | cons x t => rw [hc] at this; exact this
theorem decDigits_len (u : Nat) : ∀ k, u < 10 ^ k → 1 ≤ k → (decDigits u).length ≤ k := by
  induction u using Nat.strongRecOn with
  | _ u ih =>
    intro k hk h1
    by_cases h : u < 10
    · rw [decDigits, dif_pos h]; exact h1
    · rw [decDigits, dif_neg h, List.length_append]
      obtain ⟨m, rfl⟩ : ∃ m, k = m + 1 := ⟨k - 1, by omega⟩
      rw [Nat.pow_succ] at hk
      rcases Nat.eq_zero_or_pos m with h0 | h0
      · subst h0; simp at hk; omega
      · have := ih (u / 10) (by omega) m (by omega) h0
        simp; omega
theorem noTail_split (l : List UInt8) : l = noTail l ++ List.replicate (l.length - (noTail l).length) 48 := by
  unfold noTail
  have h := List.takeWhile_append_dropWhile (p := fun x : UInt8 => x == 48) (l := l.reverse)
  have h1 : (l.reverse.takeWhile (· == 48)) = List.replicate (l.reverse.takeWhile (· == 48)).length 48 := by
    rw [List.eq_replicate_iff]
    refine ⟨rfl, fun b hb => ?_⟩
    have := List.all_eq_true.1 (List.all_takeWhile (p := fun x : UInt8 => x == 48) (l := l.reverse)) b hb
    simpa using this
  have h2 : l = (l.reverse.dropWhile (· == 48)).reverse ++ (l.reverse.takeWhile (· == 48)).reverse := by
    rw [← List.reverse_append, h, List.reverse_reverse]
  have h3 : l.length - (l.reverse.dropWhile (· == 48)).reverse.length = (l.reverse.takeWhile (· == 48)).length := by
    have := congrArg List.length h2
    rw [List.length_append, List.length_reverse (as := l.reverse.takeWhile (· == 48))] at this
    omega
  rw [h3, ← List.reverse_replicate, ← h1]
  exact h2
theorem noTail_last (l : List UInt8) : (noTail l).getLast? ≠ some 48 := by
  unfold noTail
  rw [List.getLast?_reverse]
  intro h
  have := List.head?_dropWhile_not (p := fun x : UInt8 => x == 48) (l := l.reverse)
  rw [h] at this
  simp at this
theorem noTail_same {l : List UInt8} (h : l.getLast? ≠ some 48) : noTail l = l := by
  unfold noTail
  rw [List.getLast?_eq_head?_reverse] at h
  cases hc : l.reverse with
  | nil => simp at hc; subst hc; rfl
  | cons x t =>
    rw [hc] at h
    have hx : ¬ (x == 48) = true := by
      intro hx; apply h; rw [List.head?_cons]; congr 1; simpa using hx
    rw [List.dropWhile_cons, if_neg hx, ← hc, List.reverse_reverse]
theorem noZeros_same {l : List UInt8} (h : l.head? ≠ some 48) : noZeros l = l := by
  unfold noZeros
  cases l with
  | nil => rfl
  | cons x t =>
    have hx : ¬ (x == 48) = true := by
      intro hx; apply h; rw [List.head?_cons]; congr 1; simpa using hx
    rw [List.dropWhile_cons, if_neg hx]
theorem dig_not (l : List UInt8) (h : l.all isDig = true) : (∀ c ∈ l, isE c = false) ∧ (∀ c ∈ l, isDot c = false) ∧ l.head? ≠ some 45 ∧ l.head? ≠ some 43 := by
  have hc : ∀ c ∈ l, 48 ≤ c.toNat ∧ c.toNat ≤ 57 := fun c hc => of_decide_eq_true (List.all_eq_true.1 h c hc)
  have hno : ∀ c ∈ l, ∀ k : UInt8, (k.toNat < 48 ∨ 57 < k.toNat) → c ≠ k := fun c hm k hk e => by have := hc c hm; rw [e] at this; omega
  refine ⟨fun c hm => ?_, fun c hm => ?_, fun e => ?_, fun e => ?_⟩
  · unfold isE; rw [Bool.or_eq_false_iff]; exact ⟨by simpa using hno c hm 101 (by decide), by simpa using hno c hm 69 (by decide)⟩
  · unfold isDot; simpa using hno c hm 46 (by decide)
  · exact hno 45 (List.mem_of_mem_head? e) 45 (by decide) rfl
  · exact hno 43 (List.mem_of_mem_head? e) 43 (by decide) rfl

/-- A whole number's literal. -/
theorem litOf_itoa (i : Int) : litOf (itoa i) = some ⟨decide (i < 0), decDigits i.natAbs, [], false, []⟩ := by
  obtain ⟨h1, h2, h3⟩ := decDigits_dig i.natAbs
  obtain ⟨n1, n2, n3, n4⟩ := dig_not _ h1
  have hu : unsign (itoa i) = decDigits i.natAbs ∧ ((itoa i).head? == some 45) = decide (i < 0) := by
    unfold itoa unsign
    by_cases hi : i < 0
    · rw [if_pos hi]; simp [hi]
    · rw [if_neg hi, show i.toNat = i.natAbs by omega, if_neg n3]
      refine ⟨rfl, ?_⟩
      rw [decide_eq_false hi, beq_eq_false_iff_ne]; exact n3
  unfold litOf
  simp only [hu.1, hu.2, cutAt_none isE _ n1, cutAt_none isDot _ n2]
  have hok : litOk false false [] (decDigits i.natAbs) [] = true := by
    unfold litOk allDig
    have : (decDigits i.natAbs).isEmpty = false := by
      cases hc : decDigits i.natAbs with
      | nil => exact absurd hc h2
      | cons _ _ => rfl
    simp only [this, h1]
    by_cases h0 : i.natAbs = 0
    · rw [h0, decDigits_zero]; decide
    · simp [decDigits_head _ h0]
  simp [hok]
def ofInt (i : Int) : Num := (parseL (itoa i)).1
theorem parse_itoa (i : Int) (hi : i.natAbs < 10 ^ 20) : parseL (itoa i) = if i = 0 then (nought, 0) else (⟨decide (i < 0), noTail (decDigits i.natAbs), ((decDigits i.natAbs).length : Int) - (noTail (decDigits i.natAbs)).length⟩, 0) := by
  have hl := decDigits_len i.natAbs 20 hi (by decide)
  have hs := congrArg List.length (noTail_split (decDigits i.natAbs))
  rw [List.length_append] at hs
  unfold parseL
  rw [litOf_itoa]
  simp only [parseLit, List.append_nil, List.length_nil]
  rw [if_neg (by omega), if_neg (by simp [noZeros])]
  by_cases h0 : i = 0
  · subst h0; rw [if_pos rfl, show Int.natAbs 0 = 0 from rfl, decDigits_zero]; rfl
  · rw [if_neg h0, noZeros_same (decDigits_head _ (by omega)), if_neg (decDigits_dig _).2.1]
    have e0 : decV [] = 0 := rfl
    simp only [e0, Bool.false_eq_true, if_false]
    rw [if_neg (by omega)]
    congr 2
    omega
theorem ofInt_zero : ofInt 0 = nought := by unfold ofInt; rw [parse_itoa 0 (by decide), if_pos rfl]
theorem ofInt_right (i : Int) (hi : i.natAbs < 10 ^ 20) (h0 : i ≠ 0) : rightP (ofInt i) ∧ 0 ≤ (ofInt i).exp ∧ (ofInt i).neg = decide (i < 0) ∧ mag (ofInt i) = i.natAbs ∧ (ofInt i).exp ≤ 20 := by
  obtain ⟨h1, h2, h3⟩ := decDigits_dig i.natAbs
  have hsp := noTail_split (decDigits i.natAbs)
  have hl := decDigits_len i.natAbs 20 hi (by decide)
  have hlen := congrArg List.length hsp
  rw [List.length_append, List.length_replicate] at hlen
  have hh := decDigits_head i.natAbs (by omega)
  unfold ofInt
  rw [parse_itoa i hi, if_neg h0]
  have hne : noTail (decDigits i.natAbs) ≠ [] := by
    intro e
    rw [e, List.nil_append] at hsp
    cases hc : decDigits i.natAbs with
    | nil => exact h2 hc
    | cons x t =>
      rw [hc] at hsp hh
      simp only [List.length_cons, List.length_nil, Nat.sub_zero, List.replicate_succ] at hsp
      injection hsp with hx _
      apply hh; rw [hx]; rfl
  refine ⟨⟨?_, ?_, ?_, noTail_last _, ?_, ?_⟩, ?_, rfl, ?_, ?_⟩
  · unfold allDig
    rw [hsp, List.all_append, Bool.and_eq_true] at h1
    rw [h1.1, Bool.and_true]
    cases hc : noTail (decDigits i.natAbs) with
    | nil => exact absurd hc hne
    | cons _ _ => rfl
  · show (noTail (decDigits i.natAbs)).length ≤ 1000; omega
  · show (noTail (decDigits i.natAbs)).head? ≠ some 48
    rw [hsp] at hh
    cases hc : noTail (decDigits i.natAbs) with
    | nil => exact absurd hc hne
    | cons x t => rw [hc] at hh; exact hh
  · show (-1000000 : Int) ≤ _; simp only []; omega
  · show _ ≤ (1000000 : Int); simp only []; omega
  · simp only []; omega
  · unfold mag
    simp only []
    rw [← h3, show (((decDigits i.natAbs).length : Int) - (noTail (decDigits i.natAbs)).length).toNat = (decDigits i.natAbs).length - (noTail (decDigits i.natAbs)).length by omega]
    have := decV_append (noTail (decDigits i.natAbs)) (List.replicate ((decDigits i.natAbs).length - (noTail (decDigits i.natAbs)).length) 48)
    rw [← hsp, decV_zeros, List.length_replicate] at this
    omega
  · simp only []; omega
theorem ofInt_rightB (i : Int) (hi : i.natAbs < 10 ^ 20) : rightB (ofInt i) = true := by
  by_cases h0 : i = 0
  · subst h0; rw [ofInt_zero]; rfl
  · exact decide_eq_true (.inr (ofInt_right i hi h0).1)
theorem sgn_ofInt (i : Int) (hi : i.natAbs < 10 ^ 20) : sgn (ofInt i) = if i < 0 then -1 else if i = 0 then 0 else 1 := by
  by_cases h0 : i = 0
  · subst h0; rw [ofInt_zero]; rfl
  · obtain ⟨h1, _, h3, _, _⟩ := ofInt_right i hi h0
    have hne : (ofInt i).dig ≠ [] := by intro e; have := h1.1; rw [e] at this; simp [allDig] at this
    unfold sgn
    rw [if_neg hne, h3]
    by_cases hn : i < 0
    · simp [hn]
    · simp [hn, h0]
/-- Of ints the order is that of ints. -/
theorem cmpL_ofInt (i k : Int) (hi : i.natAbs < 10 ^ 20) (hk : k.natAbs < 10 ^ 20) : cmpL (ofInt i) (ofInt k) = compareInt i k := by
  unfold cmpL
  simp only [ofInt_rightB i hi, ofInt_rightB k hk, sgn_ofInt i hi, sgn_ofInt k hk]
  simp only [Bool.true_eq_false, false_and, if_false]
  unfold compareInt
  rcases Int.lt_trichotomy i 0 with h | h | h
  · rcases Int.lt_trichotomy k 0 with g | g | g
    · obtain ⟨p1, p2, _, p4, _⟩ := ofInt_right i hi (by omega)
      obtain ⟨q1, q2, _, q4, _⟩ := ofInt_right k hk (by omega)
      have := farL_val _ _ p1 q1 p2 q2
      rw [p4, q4] at this
      unfold compareInt at this
      rw [this]
      simp only [h, g, if_true]
      by_cases c : i < k
      · simp [c]; omega
      · by_cases d : k < i
        · simp [c, d]; omega
        · simp [c, d]; omega
    · subst g; simp [h]
    · simp [h, show ¬ k < 0 by omega, show ¬ k = 0 by omega]; omega
  · subst h
    rcases Int.lt_trichotomy k 0 with g | g | g
    · simp [g]; omega
    · subst g; simp
    · simp [show ¬ k < 0 by omega, show ¬ k = 0 by omega, g]
  · rcases Int.lt_trichotomy k 0 with g | g | g
    · simp [show ¬ i < 0 by omega, show ¬ i = 0 by omega, g]; omega
    · subst g; simp [show ¬ i < 0 by omega, show ¬ i = 0 by omega, h]
    · obtain ⟨p1, p2, _, p4, _⟩ := ofInt_right i hi (by omega)
      obtain ⟨q1, q2, _, q4, _⟩ := ofInt_right k hk (by omega)
      have := farL_val _ _ p1 q1 p2 q2
      rw [p4, q4] at this
      unfold compareInt at this
      rw [this]
      simp only [show ¬ i < 0 by omega, show ¬ i = 0 by omega, show ¬ k < 0 by omega, show ¬ k = 0 by omega, if_false]
      by_cases c : i < k
      · simp [c]; omega
      · by_cases d : k < i
        · simp [c, d]; omega
        · simp [c, d]; omega
end Go.Proofs.YtmghlaajocgoaaaGreatDoor
