import Derived.Test.YtpfkdnhjideflaaDoorNumE
/-! PLAIN: literals put together; what NumberShifts says. -/
namespace Go.Proofs.YtpfkdnhjideflaaDoor
set_option linter.unusedSimpArgs false
set_option linter.unusedVariables false
open Go.Lib (compareBytes compareInt itoa decDigits nDigits)

/-- The text of a literal: digits, perhaps a point and digits, perhaps a letter, a sign and digits. -/
def litT (wh : List UInt8) (rs : Option (List UInt8)) (ex : Option (UInt8 × List UInt8 × List UInt8)) : List UInt8 :=
  (match rs with | none => wh | some r => wh ++ 46 :: r) ++ (match ex with | none => [] | some (c, s, x) => c :: (s ++ x))
def exOk : Option (UInt8 × List UInt8 × List UInt8) → Prop
  | none => True
  | some (c, s, x) => isE c = true ∧ (s = [] ∨ s = [43] ∨ s = [45]) ∧ allDig x = true
def rsOk : Option (List UInt8) → Prop
  | none => True
  | some r => allDig r = true
theorem allDig_ne' {l : List UInt8} (h : allDig l = true) : l ≠ [] ∧ l.all isDig = true := allDig_ne h
theorem unsign_dig {l : List UInt8} (h : allDig l = true) : l.head? ≠ some 45 ∧ l.head? ≠ some 43 :=
  ⟨(dig_not l (allDig_ne h).2).2.2.1, (dig_not l (allDig_ne h).2).2.2.2⟩
theorem litOf_text (wh : List UInt8) (rs : Option (List UInt8)) (ex : Option (UInt8 × List UInt8 × List UInt8)) (h1 : allDig wh = true) (h2 : wh = [48] ∨ wh.head? ≠ some 48) (h3 : rsOk rs) (h4 : exOk ex) :
    litOf (litT wh rs ex) = some ⟨false, wh, rs.getD [], (match ex with | none => false | some (_, s, _) => s == [45]), (match ex with | none => [] | some (_, _, x) => x)⟩ := by
  obtain ⟨hne, hall⟩ := allDig_ne h1
  obtain ⟨d1, d2, d3, d4⟩ := dig_not wh hall
  have hh : ∀ t : List UInt8, (wh ++ t).head? = wh.head? := fun t => by cases wh with | nil => exact absurd rfl hne | cons _ _ => rfl
  obtain ⟨m, hm⟩ : ∃ m, (match rs with | none => wh | some r => wh ++ 46 :: r) = m := ⟨_, rfl⟩
  have hmh : m.head? = wh.head? := by subst hm; cases rs <;> simp only [hh]
  have hmne : m ≠ [] := by
    intro e; rw [e] at hmh
    cases wh with | nil => exact absurd rfl hne | cons _ _ => simp at hmh
  have hmE : ∀ c ∈ m, isE c = false := by
    subst hm
    cases rs with
    | none => exact d1
    | some r =>
      intro c hc
      rcases List.mem_append.1 hc with hc | hc
      · exact d1 c hc
      · rcases List.mem_cons.1 hc with rfl | hc
        · rfl
        · exact (dig_not r (allDig_ne h3).2).1 c hc
  have hdot : cutAt isDot m = (wh, rs.getD [], rs.isSome) := by
    subst hm
    cases rs with
    | none => exact cutAt_none isDot wh d2
    | some r => exact cutAt_some isDot wh 46 r d2 rfl
  have htm : ∀ t : List UInt8, (m ++ t).head? = wh.head? := fun t => by rw [← hmh]; cases m with | nil => exact absurd rfl hmne | cons _ _ => rfl
  have hus : ∀ t : List UInt8, unsign (m ++ t) = m ++ t := fun t => by unfold unsign; rw [if_neg (by rw [htm]; exact d3)]
  have h45 : ∀ t : List UInt8, ((m ++ t).head? == some 45) = false := fun t => by rw [htm]; exact beq_eq_false_iff_ne.2 d3
  have hw : (wh == [48] || wh.head? != some 48) = true := by
    rcases h2 with h2 | h2
    · rw [h2]; rfl
    · rw [Bool.or_eq_true]; right; exact bne_iff_ne.2 h2
  have hr : (!rs.isSome || allDig (rs.getD [])) = true := by
    cases rs with
    | none => rfl
    | some r => have h : allDig r = true := h3; simpa using h
  unfold litT litOf
  rw [hm]
  cases ex with
  | none =>
    simp only [hus, h45]
    rw [List.append_nil, cutAt_none isE m hmE]
    simp only [hdot]
    unfold litOk
    rw [h1, hw, hr]
    simp
  | some p =>
    obtain ⟨c, s, x⟩ := p
    obtain ⟨g1, g2, g3⟩ := h4
    simp only [hus, h45]
    rw [cutAt_some isE m c (s ++ x) hmE g1]
    simp only [hdot]
    obtain ⟨u1, u2⟩ := unsign_dig g3
    have hx : unplus (s ++ x) = x ∧ ((s ++ x).head? == some 45) = (s == [45]) := by
      rcases g2 with rfl | rfl | rfl
      · rw [List.nil_append]
        unfold unplus
        rw [if_neg (by rintro (h | h); exact u1 h; exact u2 h)]
        exact ⟨rfl, by rw [beq_eq_false_iff_ne.2 u1]; rfl⟩
      · exact ⟨rfl, rfl⟩
      · exact ⟨rfl, rfl⟩
    rw [hx.1, hx.2]
    unfold litOk
    simp only [if_true, h1, hw, hr, g3]
    simp
theorem noTail_zeros (l : List UInt8) : ∀ z, noTail (l ++ List.replicate z 48) = noTail l
  | 0 => by simp
  | z + 1 => by
    rw [List.replicate_succ', ← List.append_assoc]
    have : noTail ((l ++ List.replicate z 48) ++ [48]) = noTail (l ++ List.replicate z 48) := by unfold noTail; simp
    rw [this, noTail_zeros l z]
theorem noTail_length (l : List UInt8) : (noTail l).length ≤ l.length := by
  have := congrArg List.length (noTail_split l)
  rw [List.length_append] at this; omega
theorem parseLit_shift (l wh rs x : List UInt8) (lo : Bool) (z : Nat) (E : Int) (h1 : l ≠ []) (h2 : noZeros (wh ++ rs) = l ++ List.replicate z 48) (h3 : wh.length + rs.length ≤ 1000) (h4 : (noZeros x).length ≤ 9)
    (h5 : (if lo then - decV x else decV x) = E) (h6 : -1000 ≤ E ∧ E ≤ 1000) :
    parseLit ⟨false, wh, rs, lo, x⟩ = (⟨false, noTail l, E - rs.length + z + (l.length - (noTail l).length)⟩, 0) := by
  have hnt := noTail_length l
  have hl : l.length + z ≤ wh.length + rs.length := by
    have := (List.dropWhile_sublist (p := fun c : UInt8 => c == 48) (l := wh ++ rs)).length_le
    have h : (noZeros (wh ++ rs)).length ≤ (wh ++ rs).length := this
    rw [h2, List.length_append, List.length_append, List.length_replicate] at h; exact h
  unfold parseLit
  simp only [h2, h5, noTail_zeros, List.length_append, List.length_replicate]
  rw [if_neg (by omega), if_neg (by omega), if_neg (by simp [h1]), if_neg (by omega)]
  congr 2
  omega
def shiftA (l : List UInt8) : Num := ⟨false, noTail l, (l.length : Int) - (noTail l).length⟩
def shiftB (l : List UInt8) (i : Int) : Num := ⟨false, noTail l, i + ((l.length : Int) - (noTail l).length)⟩
theorem itoa_nat (i : Nat) : itoa (i : Int) = decDigits i := by unfold itoa; rw [if_neg (by omega)]; rfl
theorem allDig_dec (i : Nat) : allDig (decDigits i) = true := allDig_mk (decDigits_dig i).2.1 (decDigits_dig i).1
theorem noZeros_len (l : List UInt8) : (noZeros l).length ≤ l.length := (List.dropWhile_sublist _).length_le
theorem shifts_pos (l : List UInt8) (i : Nat) (hd : allDig l = true) (hh : l.head? ≠ some 48) (hl : l.length ≤ 400) (hi : i ≤ 255) :
    parseL l = (shiftA l, 0) ∧ parseL (l ++ [46, 48, 48, 48]) = (shiftA l, 0) ∧ parseL ([48, 46] ++ l ++ [101] ++ itoa l.length) = (shiftA l, 0) ∧ parseL (l ++ [48, 48, 48, 101, 45, 51]) = (shiftA l, 0) ∧
    parseL (l ++ [69, 43] ++ itoa i) = (shiftB l i, 0) ∧ parseL (l ++ [48, 101] ++ itoa ((i : Int) - 1)) = (shiftB l i, 0) := by
  obtain ⟨hne, hall⟩ := allDig_ne hd
  have hz0 : noZeros l = l := noZeros_same hh
  have hrep : ∀ z, noZeros (l ++ List.replicate z 48) = l ++ List.replicate z 48 := fun z => by
    apply noZeros_same
    cases l with | nil => exact absurd rfl hne | cons c t => exact hh
  have hdz : ∀ z, allDig (l ++ List.replicate z 48) = true := fun z => allDig_mk (by simp [hne]) (by rw [List.all_append, hall, Bool.true_and]; exact all_zeros z)
  have hhz : ∀ z, (l ++ List.replicate z 48).head? ≠ some 48 := fun z => by
    cases l with | nil => exact absurd rfl hne | cons c t => exact hh
  have dl : (decDigits l.length).length ≤ 9 := decDigits_len _ 9 (by omega) (by decide)
  have di : (decDigits i).length ≤ 9 := decDigits_len _ 9 (by omega) (by decide)
  have el : ∀ n x : List UInt8, parseL n = match litOf n with | none => (nought, 2) | some x => parseLit x := fun n x => rfl
  refine ⟨?_, ?_, ?_, ?_, ?_, ?_⟩
  · have h := litOf_text l none none hd (.inr hh) trivial trivial
    rw [show litT l none none = l by simp [litT]] at h
    unfold parseL; rw [h]
    simp only [Option.getD_none]
    rw [parseLit_shift l l [] [] false 0 0 hne (by rw [List.append_nil, hz0]; simp) (by simp; omega) (by simp [noZeros]) rfl (by omega)]
    simp [shiftA]
  · have h := litOf_text l (some [48, 48, 48]) none hd (.inr hh) (show allDig [48, 48, 48] = true by rfl) trivial
    rw [show litT l (some [48, 48, 48]) none = l ++ [46, 48, 48, 48] by simp [litT]] at h
    unfold parseL; rw [h]
    simp only [Option.getD_some]
    rw [parseLit_shift l l [48, 48, 48] [] false 3 0 hne (hrep 3) (by simp; omega) (by simp [noZeros]) rfl (by omega)]
    unfold shiftA
    simp only [Prod.mk.injEq, Num.mk.injEq, true_and, and_true]
    simp
  · rw [itoa_nat]
    have h := litOf_text [48] (some l) (some (101, [], decDigits l.length)) rfl (.inl rfl) hd ⟨rfl, .inl rfl, allDig_dec _⟩
    rw [show litT [48] (some l) (some (101, [], decDigits l.length)) = [48, 46] ++ l ++ [101] ++ decDigits l.length by simp [litT]] at h
    unfold parseL; rw [h]
    simp only [Option.getD_some]
    rw [parseLit_shift l [48] l (decDigits l.length) _ 0 l.length hne (by
      have : noZeros ([48] ++ l) = noZeros l := by unfold noZeros; rw [List.singleton_append, List.dropWhile_cons, if_pos (by decide)]
      rw [this, hz0]; simp) (by simp; omega) (Nat.le_trans (noZeros_len _) dl) (by rw [if_neg (by decide)]; exact (decDigits_dig _).2.2) (by omega)]
    unfold shiftA
    simp only [Prod.mk.injEq, Num.mk.injEq, true_and, and_true]
    omega
  · have h := litOf_text (l ++ List.replicate 3 48) none (some (101, [45], [51])) (hdz 3) (.inr (hhz 3)) trivial ⟨rfl, .inr (.inr rfl), rfl⟩
    rw [show litT (l ++ List.replicate 3 48) none (some (101, [45], [51])) = l ++ [48, 48, 48, 101, 45, 51] by simp [litT]] at h
    unfold parseL; rw [h]
    simp only [Option.getD_none]
    rw [parseLit_shift l (l ++ List.replicate 3 48) [] [51] _ 3 (-3) hne (by rw [List.append_nil]; exact hrep 3) (by simp; omega) (by decide) (by decide) (by omega)]
    unfold shiftA
    simp only [Prod.mk.injEq, Num.mk.injEq, true_and, and_true]
    simp
  · rw [itoa_nat]
    have h := litOf_text l none (some (69, [43], decDigits i)) hd (.inr hh) trivial ⟨rfl, .inr (.inl rfl), allDig_dec _⟩
    rw [show litT l none (some (69, [43], decDigits i)) = l ++ [69, 43] ++ decDigits i by simp [litT]] at h
    unfold parseL; rw [h]
    simp only [Option.getD_none]
    rw [parseLit_shift l l [] (decDigits i) _ 0 i hne (by rw [List.append_nil, hz0]; simp) (by simp; omega) (Nat.le_trans (noZeros_len _) di) (by rw [if_neg (by decide)]; exact (decDigits_dig i).2.2) (by omega)]
    unfold shiftB
    simp only [Prod.mk.injEq, Num.mk.injEq, true_and, and_true]
    simp
  · by_cases h0 : i = 0
    · subst h0
      have h := litOf_text (l ++ List.replicate 1 48) none (some (101, [45], [49])) (hdz 1) (.inr (hhz 1)) trivial ⟨rfl, .inr (.inr rfl), rfl⟩
      rw [show litT (l ++ List.replicate 1 48) none (some (101, [45], [49])) = l ++ [48, 101] ++ itoa (((0 : Nat) : Int) - 1) by rw [show itoa (((0 : Nat) : Int) - 1) = [45, 49] by decide +kernel]; simp [litT]] at h
      unfold parseL; rw [h]
      simp only [Option.getD_none]
      rw [parseLit_shift l (l ++ List.replicate 1 48) [] [49] _ 1 (-1) hne (by rw [List.append_nil]; exact hrep 1) (by simp; omega) (by decide) (by decide) (by omega)]
      unfold shiftB
      simp only [Prod.mk.injEq, Num.mk.injEq, true_and, and_true]
      simp
    · obtain ⟨j, rfl⟩ : ∃ j, i = j + 1 := ⟨i - 1, by omega⟩
      have dj : (decDigits j).length ≤ 9 := decDigits_len _ 9 (by omega) (by decide)
      rw [show (((j + 1 : Nat) : Int) - 1) = ((j : Nat) : Int) by omega, itoa_nat]
      have h := litOf_text (l ++ List.replicate 1 48) none (some (101, [], decDigits j)) (hdz 1) (.inr (hhz 1)) trivial ⟨rfl, .inl rfl, allDig_dec _⟩
      rw [show litT (l ++ List.replicate 1 48) none (some (101, [], decDigits j)) = l ++ [48, 101] ++ decDigits j by simp [litT]] at h
      unfold parseL; rw [h]
      simp only [Option.getD_none]
      rw [parseLit_shift l (l ++ List.replicate 1 48) [] (decDigits j) _ 1 j hne (by rw [List.append_nil]; exact hrep 1) (by simp; omega) (Nat.le_trans (noZeros_len _) dj) (by rw [if_neg (by decide)]; exact (decDigits_dig j).2.2) (by omega)]
      unfold shiftB
      simp only [Prod.mk.injEq, Num.mk.injEq, true_and, and_true]
      simp only [List.length_nil]; omega
theorem shifts_nought (i : Nat) (hi : i ≤ 255) : parseL [48] = (nought, 0) ∧ parseL [48, 46, 48, 48, 48] = (nought, 0) ∧ parseL ([48, 46] ++ [48] ++ [101] ++ itoa 1) = (nought, 0) ∧ parseL [48, 48, 48, 48, 101, 45, 51] = (nought, 2) ∧
    parseL ([48] ++ [69, 43] ++ itoa i) = (nought, 0) ∧ parseL ([48] ++ [48, 101] ++ itoa ((i : Int) - 1)) = (nought, 2) := by
  have di : (decDigits i).length ≤ 9 := decDigits_len _ 9 (by omega) (by decide)
  refine ⟨by decide +kernel, by decide +kernel, by decide +kernel, by decide +kernel, ?_, ?_⟩
  · rw [itoa_nat]
    have h := litOf_text [48] none (some (69, [43], decDigits i)) rfl (.inl rfl) trivial ⟨rfl, .inr (.inl rfl), allDig_dec _⟩
    rw [show litT [48] none (some (69, [43], decDigits i)) = [48] ++ [69, 43] ++ decDigits i by simp [litT]] at h
    unfold parseL; rw [h]
    simp only [Option.getD_none]
    unfold parseLit
    simp only []
    rw [if_neg (by simp), if_neg (by have := noZeros_len (decDigits i); omega), if_pos (by decide)]
  · unfold parseL
    have h : litOf ([48] ++ [48, 101] ++ itoa ((i : Int) - 1)) = none := by
      unfold litOf
      have e : unsign ([48] ++ [48, 101] ++ itoa ((i : Int) - 1)) = [48, 48] ++ 101 :: itoa ((i : Int) - 1) := rfl
      have c := cutAt_some isE [48, 48] 101 (itoa ((i : Int) - 1)) (by decide) rfl
      simp only [e, c]
      have c2 : cutAt isDot [48, 48] = ([48, 48], [], false) := by decide
      simp only [c2]
      rw [if_neg]
      unfold litOk
      simp
    rw [h]
end Go.Proofs.YtpfkdnhjideflaaDoor
