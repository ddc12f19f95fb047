import Derived.Test.YtfklmopnifkieaaGreatDoorBase
import Derived.Test.YtfklmopnifkieaaGreatDoorEncD
import Derived.Lib.Replace
import Derived.Lib.CountLaws
import Derived.Lib.SplitLaws
/-! PLAIN: patterns and paths: what fits what (P18.1, P18.5). -/
namespace Go.Proofs.YtfklmopnifkieaaGreatDoor
set_option linter.unusedSimpArgs false
set_option linter.unusedVariables false
abbrev Stp := List UInt8
def oneS : Stp := [42]
def anyS : Stp := [42, 42]
/-- Does a pattern fit a path? -/
def fits : List Stp → List Stp → Bool
  | [], [] => true
  | [], _ :: _ => false
  | x :: p, [] => if x = anyS then fits p [] else false
  | x :: p, y :: a => if x = anyS then fits p (y :: a) || fits (x :: p) a else (x == oneS || x == y) && fits p a
termination_by p a => p.length + a.length
theorem fits_nil : ∀ a : List Stp, fits [] a = a.isEmpty
  | [] => by rw [fits]; rfl
  | _ :: _ => by rw [fits]; rfl
theorem fits_any_nil (p : List Stp) : fits (anyS :: p) [] = fits p [] := by rw [fits, if_pos rfl]
theorem fits_any (p : List Stp) (y : Stp) (a : List Stp) : fits (anyS :: p) (y :: a) = (fits p (y :: a) || fits (anyS :: p) a) := by rw [fits, if_pos rfl]
theorem fits_no_nil {x : Stp} (p : List Stp) (h : x ≠ anyS) : fits (x :: p) [] = false := by rw [fits, if_neg h]
theorem fits_no {x : Stp} (p : List Stp) (y : Stp) (a : List Stp) (h : x ≠ anyS) : fits (x :: p) (y :: a) = ((x == oneS || x == y) && fits p a) := by rw [fits, if_neg h]
/-- ** takes more, or nothing more. -/
theorem fits_any_less (p : List Stp) : ∀ (a : List Stp) (n : Nat), fits (anyS :: p) (a.drop n) = true → fits (anyS :: p) a = true
  | a, 0, h => by simpa using h
  | [], n + 1, h => by simpa using h
  | y :: a, n + 1, h => by
    rw [List.drop_succ_cons] at h
    rw [fits_any, fits_any_less p a n h, Bool.or_true]
theorem fits_any_of (p a : List Stp) (h : fits p a = true) : fits (anyS :: p) a = true := by
  cases a with
  | nil => rw [fits_any_nil]; exact h
  | cons y a => rw [fits_any, h, Bool.true_or]
/-- What ** leaves. -/
theorem fits_any_ex (p : List Stp) : ∀ a : List Stp, fits (anyS :: p) a = true → ∃ n, n ≤ a.length ∧ fits p (a.drop n) = true
  | [], h => ⟨0, Nat.le_refl _, by rw [fits_any_nil] at h; exact h⟩
  | y :: a, h => by
    rw [fits_any, Bool.or_eq_true] at h
    rcases h with h | h
    · exact ⟨0, Nat.zero_le _, h⟩
    · obtain ⟨n, h1, h2⟩ := fits_any_ex p a h
      exact ⟨n + 1, by simp; omega, by simpa using h2⟩
theorem fits_any_iff (p a : List Stp) : fits (anyS :: p) a = true ↔ ∃ n, n ≤ a.length ∧ fits p (a.drop n) = true :=
  ⟨fits_any_ex p a, fun ⟨n, _, h⟩ => fits_any_less p a n (fits_any_of p _ h)⟩
/-- A piece of a pattern without ** takes as many steps as it has. -/
theorem fits_piece : ∀ (q r a : List Stp), (∀ x ∈ q, x ≠ anyS) → fits (q ++ r) a = true → q.length ≤ a.length ∧ fits r (a.drop q.length) = true
  | [], r, a, _, h => ⟨Nat.zero_le _, by simpa using h⟩
  | x :: q, r, [], hq, h => by rw [List.cons_append, fits_no_nil _ (hq x List.mem_cons_self)] at h; cases h
  | x :: q, r, y :: a, hq, h => by
    rw [List.cons_append, fits_no _ _ _ (hq x List.mem_cons_self), Bool.and_eq_true] at h
    obtain ⟨h1, h2⟩ := fits_piece q r a (fun z hz => hq z (List.mem_cons_of_mem _ hz)) h.2
    exact ⟨by simp; omega, by simpa using h2⟩
theorem fits_rest_nil : ∀ (p : List Stp), fits p [] = p.all (· == anyS)
  | [] => by rw [fits]; rfl
  | x :: p => by
    by_cases h : x = anyS
    · rw [h, fits_any_nil, fits_rest_nil p, List.all_cons]; simp
    · rw [fits_no_nil p h, List.all_cons, beq_eq_false_iff_ne.2 h, Bool.false_and]
/-- What the last ** could still take. -/
def altB (p a : List Stp) : Option (Nat × Nat) → Bool
  | none => false
  | some (s, t) => decide (t + 1 ≤ a.length) && fits (p.drop s) (a.drop (t + 1))
/-- Where the search stands: the last ** (if any), what lies between it and the place, and how much of the path it has taken. -/
structure GrE (p a : List Stp) (R : Bool) (i k : Nat) (star : Option (Nat × Nat)) : Prop where
  hi : i ≤ p.length
  hk : k ≤ a.length
  res : ∀ s t, star = some (s, t) → s < i ∧ t ≤ k ∧ p[s]? = some anyS ∧ i - (s + 1) = k - t ∧ ∀ j, s < j → j < i → p[j]? ≠ some anyS
  eq : R = (fits (p.drop i) (a.drop k) || altB p a star)
theorem GrE.start (p a : List Stp) : GrE p a (fits p a) 0 0 none := ⟨Nat.zero_le _, Nat.zero_le _, fun s t h => (by cases h), by simp [altB]⟩
theorem drop_cons {α : Type} {l : List α} {n : Nat} {x : α} (h : l[n]? = some x) : l.drop n = x :: l.drop (n + 1) := by
  obtain ⟨hlt, rfl⟩ := List.getElem?_eq_some_iff.1 h
  exact List.drop_eq_getElem_cons hlt
/-- What is left if the last ** takes more: no less than what stands at the place. -/
theorem GrE.more {p a : List Stp} {R : Bool} {i k s t : Nat} (h : GrE p a R i k (some (s, t))) (ha : t + 1 ≤ a.length) (hf : fits (p.drop s) (a.drop (t + 1)) = true) : ∃ m, k + 1 ≤ m ∧ m ≤ a.length ∧ fits (p.drop i) (a.drop m) = true := by
  obtain ⟨h1, h2, h3, h4, h5⟩ := h.res s t rfl
  rw [drop_cons h3] at hf
  obtain ⟨n, hn, hf⟩ := fits_any_ex _ _ hf
  rw [List.drop_drop] at hf
  rw [List.length_drop] at hn
  have hsp : p.drop (s + 1) = (p.drop (s + 1)).take (i - (s + 1)) ++ p.drop i := by
    conv => lhs; rw [← List.take_append_drop (i - (s + 1)) (p.drop (s + 1))]
    rw [List.drop_drop, show s + 1 + (i - (s + 1)) = i by omega]
  have hq : ((p.drop (s + 1)).take (i - (s + 1))).length = i - (s + 1) := by
    rw [List.length_take, List.length_drop]
    have := h.hi
    omega
  rw [hsp] at hf
  obtain ⟨g1, g2⟩ := fits_piece _ _ _ (fun x hx => by
    obtain ⟨j, hj, rfl⟩ := List.getElem_of_mem hx
    rw [hq] at hj
    rw [List.getElem_take, List.getElem_drop]
    intro e
    have := h5 (s + 1 + j) (by omega) (by omega)
    rw [List.getElem?_eq_getElem (by have := h.hi; omega), e] at this
    exact this rfl) hf
  rw [hq, List.drop_drop] at g2
  rw [hq, List.length_drop] at g1
  exact ⟨t + 1 + n + (i - (s + 1)), by omega, by omega, g2⟩
/-- A ** at the place. -/
theorem GrE.star {p a : List Stp} {R : Bool} {i k : Nat} {st : Option (Nat × Nat)} (h : GrE p a R i k st) (hk : k < a.length) (hp : p[i]? = some anyS) : GrE p a R (i + 1) k (some (i, k)) := by
  have hil := (List.getElem?_eq_some_iff.1 hp).1
  refine ⟨by omega, h.hk, fun s t e => ?_, ?_⟩
  · cases e
    exact ⟨by omega, by omega, hp, by omega, fun j h1 h2 => by omega⟩
  · have hX : fits (p.drop i) (a.drop k) = (fits (p.drop (i + 1)) (a.drop k) || (decide (k + 1 ≤ a.length) && fits (p.drop i) (a.drop (k + 1)))) := by
      rw [decide_eq_true (show k + 1 ≤ a.length by omega), Bool.true_and, drop_cons hp, List.drop_eq_getElem_cons hk, fits_any]
    show R = (fits (p.drop (i + 1)) (a.drop k) || (decide (k + 1 ≤ a.length) && fits (p.drop i) (a.drop (k + 1))))
    rw [← hX, h.eq]
    cases st with
    | none => simp [altB]
    | some st =>
      obtain ⟨s, t⟩ := st
      show (_ || (decide (t + 1 ≤ a.length) && fits (p.drop s) (a.drop (t + 1)))) = _
      cases hY : (decide (t + 1 ≤ a.length) && fits (p.drop s) (a.drop (t + 1))) with
      | false => simp
      | true =>
        rw [Bool.and_eq_true] at hY
        obtain ⟨m, m1, m2, m3⟩ := h.more (of_decide_eq_true hY.1) hY.2
        rw [drop_cons hp] at m3 ⊢
        have : fits (anyS :: p.drop (i + 1)) (a.drop k) = true := fits_any_less _ _ (m - k) (by rw [List.drop_drop, show k + (m - k) = m by omega]; exact m3)
        rw [this]
        rfl
/-- A step that fits. -/
theorem GrE.step {p a : List Stp} {R : Bool} {i k : Nat} {st : Option (Nat × Nat)} (h : GrE p a R i k st) {x y : Stp} (hp : p[i]? = some x) (ha : a[k]? = some y) (hx : x ≠ anyS) (hf : (x == oneS || x == y) = true) : GrE p a R (i + 1) (k + 1) st := by
  have hil := (List.getElem?_eq_some_iff.1 hp).1
  have hkl := (List.getElem?_eq_some_iff.1 ha).1
  refine ⟨by omega, by omega, fun s t e => ?_, ?_⟩
  · obtain ⟨h1, h2, h3, h4, h5⟩ := h.res s t e
    refine ⟨by omega, by omega, h3, by omega, fun j h6 h7 => ?_⟩
    by_cases hj : j < i
    · exact h5 j h6 hj
    · obtain rfl : j = i := by omega
      rw [hp]
      exact fun e => hx (Option.some.inj e)
  · rw [h.eq, drop_cons hp, drop_cons ha, fits_no _ _ _ hx, hf, Bool.true_and]
/-- A step that does not fit: the last ** takes one more. -/
theorem GrE.back {p a : List Stp} {R : Bool} {i k s t : Nat} (h : GrE p a R i k (some (s, t))) (hk : k < a.length) (hno : fits (p.drop i) (a.drop k) = false) : GrE p a R (s + 1) (t + 1) (some (s, t + 1)) := by
  obtain ⟨h1, h2, h3, h4, h5⟩ := h.res s t rfl
  have hsl := (List.getElem?_eq_some_iff.1 h3).1
  refine ⟨by omega, by omega, fun s' t' e => ?_, ?_⟩
  · cases e
    exact ⟨by omega, by omega, h3, by omega, fun j h6 h7 => by omega⟩
  · have e0 := h.eq
    rw [hno, Bool.false_or] at e0
    unfold altB at e0
    simp only [] at e0
    rw [decide_eq_true (show t + 1 ≤ a.length by omega), Bool.true_and] at e0
    rw [e0]
    show _ = (fits (p.drop (s + 1)) (a.drop (t + 1)) || (decide (t + 1 + 1 ≤ a.length) && fits (p.drop s) (a.drop (t + 1 + 1))))
    rw [drop_cons h3]
    by_cases ht : t + 1 < a.length
    · rw [decide_eq_true (show t + 1 + 1 ≤ a.length by omega), Bool.true_and, List.drop_eq_getElem_cons ht, fits_any]
    · rw [decide_eq_false (show ¬ t + 1 + 1 ≤ a.length by omega), Bool.false_and, Bool.or_false, List.drop_of_length_le (show a.length ≤ t + 1 by omega), fits_any_nil]
/-- No ** ahead: it does not fit. -/
theorem GrE.fail {p a : List Stp} {R : Bool} {i k : Nat} (h : GrE p a R i k none) (hno : fits (p.drop i) (a.drop k) = false) : R = false := by rw [h.eq, hno]; rfl
/-- The path's end. -/
theorem GrE.fin {p a : List Stp} {R : Bool} {i : Nat} {st : Option (Nat × Nat)} (h : GrE p a R i a.length st) : R = (p.drop i).all (· == anyS) := by
  rw [h.eq, List.drop_of_length_le (Nat.le_refl _), fits_rest_nil]
  cases st with
  | none => simp [altB]
  | some st =>
    obtain ⟨s, t⟩ := st
    show (_ || (decide (t + 1 ≤ a.length) && fits (p.drop s) (a.drop (t + 1)))) = _
    cases hY : (decide (t + 1 ≤ a.length) && fits (p.drop s) (a.drop (t + 1))) with
    | false => simp
    | true =>
      rw [Bool.and_eq_true] at hY
      obtain ⟨m, m1, m2, m3⟩ := h.more (of_decide_eq_true hY.1) hY.2
      omega
theorem miss_no {p a : List Stp} {i k : Nat} {x y : Stp} (hp : p[i]? = some x) (ha : a[k]? = some y) (hx : x ≠ anyS) (hf : (x == oneS || x == y) = false) : fits (p.drop i) (a.drop k) = false := by
  rw [drop_cons hp, drop_cons ha, fits_no _ _ _ hx, hf, Bool.false_and]
theorem miss_end {p a : List Stp} {i k : Nat} (hp : p.length ≤ i) (hk : k < a.length) : fits (p.drop i) (a.drop k) = false := by
  rw [List.drop_of_length_le hp, List.drop_eq_getElem_cons hk, fits]
/-- The laws (P18.5). -/
theorem fits_plain : ∀ (p a : List Stp), (∀ x ∈ p, x ≠ oneS ∧ x ≠ anyS) → fits p a = (p == a)
  | [], [], _ => by rw [fits]; rfl
  | [], _ :: _, _ => by rw [fits]; rfl
  | x :: p, [], h => by rw [fits_no_nil _ (h x List.mem_cons_self).2]; rfl
  | x :: p, y :: a, h => by
    rw [fits_no _ _ _ (h x List.mem_cons_self).2, fits_plain p a (fun z hz => h z (List.mem_cons_of_mem _ hz)), beq_eq_false_iff_ne.2 (h x List.mem_cons_self).1, Bool.false_or]
    rfl
theorem fits_app : ∀ (n : Nat) (p a q b : List Stp), p.length + a.length ≤ n → fits p a = true → fits q b = true → fits (p ++ q) (a ++ b) = true := by
  intro n
  induction n with
  | zero =>
    intro p a q b hn h1 h2
    obtain rfl : p = [] := List.length_eq_zero_iff.1 (by omega)
    obtain rfl : a = [] := List.length_eq_zero_iff.1 (by omega)
    exact h2
  | succ n ih =>
    intro p a q b hn h1 h2
    match p, a with
    | [], [] => exact h2
    | [], _ :: _ => rw [fits] at h1; cases h1
    | x :: p, [] =>
      by_cases hx : x = anyS
      · subst hx
        rw [fits_any_nil] at h1
        have := ih p [] q b (by simp at hn ⊢; omega) h1 h2
        exact fits_any_of _ _ this
      · rw [fits_no_nil p hx] at h1; cases h1
    | x :: p, y :: a =>
      simp only [List.length_cons] at hn
      by_cases hx : x = anyS
      · subst hx
        rw [fits_any, Bool.or_eq_true] at h1
        rcases h1 with h1 | h1
        · exact fits_any_of _ _ (ih p (y :: a) q b (by simp; omega) h1 h2)
        · have := ih (anyS :: p) a q b (by simp; omega) h1 h2
          exact fits_any_less _ ((y :: a) ++ b) 1 (by simpa using this)
      · rw [fits_no _ _ _ hx, Bool.and_eq_true] at h1
        rw [List.cons_append, List.cons_append, fits_no _ _ _ hx, h1.1, ih p a q b (by omega) h1.2 h2]
        rfl
theorem fits_all (a : List Stp) : fits [anyS] a = true := fits_any_less [] a a.length (by rw [List.drop_length]; rw [fits_any_nil, fits])
end Go.Proofs.YtfklmopnifkieaaGreatDoor
/-! PLAIN: what fits what, from the end: the document's rows. -/
namespace Go.Proofs.YtfklmopnifkieaaGreatDoor
set_option linter.unusedSimpArgs false
set_option linter.unusedVariables false
theorem snoc_nil (p : List Stp) (x : Stp) : fits (p ++ [x]) [] = (fits p [] && (x == anyS)) := by
  rw [fits_rest_nil, fits_rest_nil, List.all_append]
  simp
theorem snoc_step (x : Stp) (hx : x ≠ anyS) (y : Stp) : ∀ (n : Nat) (p a : List Stp), p.length + a.length ≤ n → fits (p ++ [x]) (a ++ [y]) = (fits p a && (x == oneS || x == y)) := by
  have hxb : (x == anyS) = false := beq_eq_false_iff_ne.2 hx
  intro n
  induction n with
  | zero =>
    intro p a hn
    obtain rfl : p = [] := List.length_eq_zero_iff.1 (by omega)
    obtain rfl : a = [] := List.length_eq_zero_iff.1 (by omega)
    rw [List.nil_append, List.nil_append, fits_no _ _ _ hx, Bool.and_comm]
  | succ n ih =>
    intro p a hn
    match p, a with
    | [], [] => rw [List.nil_append, List.nil_append, fits_no _ _ _ hx, Bool.and_comm]
    | [], z :: a => rw [List.nil_append, List.cons_append, fits_no _ _ _ hx, fits_nil, fits_nil]; simp
    | q :: p, [] =>
      simp only [List.length_cons, List.length_nil] at hn
      by_cases hq : q = anyS
      · subst hq
        have h1 := ih p [] (by simp; omega)
        rw [List.nil_append] at h1
        rw [List.nil_append, List.cons_append, fits_any, fits_any_nil, fits_any_nil, h1, snoc_nil, hxb]
        simp
      · rw [List.nil_append, List.cons_append, fits_no _ _ _ hq, snoc_nil, fits_no_nil _ hq, hxb]
        simp
    | q :: p, z :: a =>
      simp only [List.length_cons] at hn
      by_cases hq : q = anyS
      · subst hq
        have h1 := ih p (z :: a) (by simp; omega)
        have h2 := ih (anyS :: p) a (by simp; omega)
        rw [List.cons_append] at h1 h2
        rw [List.cons_append, List.cons_append, fits_any, fits_any, h1, h2, Bool.and_or_distrib_right]
      · rw [List.cons_append, List.cons_append, fits_no _ _ _ hq, fits_no _ _ _ hq, ih p a (by omega), Bool.and_assoc]
theorem snoc_any (y : Stp) : ∀ (n : Nat) (p a : List Stp), p.length + a.length ≤ n → fits (p ++ [anyS]) (a ++ [y]) = (fits p (a ++ [y]) || fits (p ++ [anyS]) a) := by
  have hnil : ∀ p : List Stp, fits (p ++ [anyS]) [] = fits p [] := fun p => by rw [snoc_nil]; simp
  intro n
  induction n with
  | zero =>
    intro p a hn
    obtain rfl : p = [] := List.length_eq_zero_iff.1 (by omega)
    obtain rfl : a = [] := List.length_eq_zero_iff.1 (by omega)
    rw [List.nil_append, fits_all, fits_all, Bool.or_true]
  | succ n ih =>
    intro p a hn
    match p, a with
    | [], a => rw [List.nil_append, fits_all, fits_all, Bool.or_true]
    | q :: p, [] =>
      simp only [List.length_cons, List.length_nil] at hn
      have h1 := ih p [] (by simp; omega)
      rw [List.nil_append] at h1
      by_cases hq : q = anyS
      · subst hq
        rw [List.nil_append, List.cons_append, fits_any, fits_any, fits_any_nil, fits_any_nil, h1, hnil]
      · rw [List.nil_append, List.cons_append, fits_no _ _ _ hq, fits_no _ _ _ hq, fits_no_nil _ hq, hnil, Bool.or_false]
    | q :: p, z :: a =>
      simp only [List.length_cons] at hn
      by_cases hq : q = anyS
      · subst hq
        have h1 := ih p (z :: a) (by simp; omega)
        have h2 := ih (anyS :: p) a (by simp; omega)
        rw [List.cons_append] at h1 h2
        rw [List.cons_append, List.cons_append, fits_any, fits_any, fits_any, h1, h2]
        generalize fits p (z :: (a ++ [y])) = A
        generalize fits (p ++ [anyS]) (z :: a) = B
        generalize fits (anyS :: p) (a ++ [y]) = C
        generalize fits (anyS :: (p ++ [anyS])) a = D
        cases A <;> cases B <;> cases C <;> cases D <;> rfl
      · rw [List.cons_append, List.cons_append, fits_no _ _ _ hq, fits_no _ _ _ hq, fits_no _ _ _ hq, ih p a (by omega), Bool.and_or_distrib_left]
/-- A row of the document's: which beginnings of the path a beginning of the pattern fits. -/
def rowF (p a : List Stp) (k : Nat) : Bool := fits p (a.take k)
theorem take_snoc {α : Type} {l : List α} {n : Nat} {x : α} (h : l[n]? = some x) : l.take (n + 1) = l.take n ++ [x] := by
  obtain ⟨hlt, rfl⟩ := List.getElem?_eq_some_iff.1 h
  exact List.take_succ_eq_append_getElem hlt
theorem rowF_start (a : List Stp) (k : Nat) (hk : k ≤ a.length) : rowF [] a k = decide (k = 0) := by
  unfold rowF
  rw [fits_nil]
  cases k with
  | zero => rfl
  | succ k =>
    rw [List.isEmpty_eq_false_iff.2 (by rw [← List.length_pos_iff, List.length_take]; omega)]
    exact (decide_eq_false (by omega)).symm
theorem rowF_any_zero (p a : List Stp) : rowF (p ++ [anyS]) a 0 = rowF p a 0 := by unfold rowF; rw [List.take_zero, snoc_nil]; simp
theorem rowF_any (p a : List Stp) (k : Nat) (hk : k < a.length) : rowF (p ++ [anyS]) a (k + 1) = (rowF p a (k + 1) || rowF (p ++ [anyS]) a k) := by
  unfold rowF
  obtain ⟨y, hy⟩ : ∃ y, a[k]? = some y := ⟨_, List.getElem?_eq_getElem hk⟩
  rw [take_snoc hy, snoc_any y _ p (a.take k) (Nat.le_refl _)]
theorem rowF_zero (p a : List Stp) (x : Stp) (hx : x ≠ anyS) : rowF (p ++ [x]) a 0 = false := by unfold rowF; rw [List.take_zero, snoc_nil, beq_eq_false_iff_ne.2 hx, Bool.and_false]
theorem rowF_step (p a : List Stp) (x : Stp) (hx : x ≠ anyS) (k : Nat) (y : Stp) (hy : a[k]? = some y) : rowF (p ++ [x]) a (k + 1) = (rowF p a k && (x == oneS || x == y)) := by
  unfold rowF
  rw [take_snoc hy, snoc_step x hx y _ p (a.take k) (Nat.le_refl _)]
theorem rowF_full (p a : List Stp) : rowF p a a.length = fits p a := by unfold rowF; rw [List.take_length]
end Go.Proofs.YtfklmopnifkieaaGreatDoor
/-! PLAIN: paths as texts: what ReplaceAll, Cut, Split make of them (P7.1). -/
namespace Go.Proofs.YtfklmopnifkieaaGreatDoor
set_option linter.unusedSimpArgs false
set_option linter.unusedVariables false
open Go.Lib
theorem ix_skip {old : List UInt8} {b : UInt8} {l : List UInt8} (h : old.isPrefixOf (b :: l) = false) : index (b :: l) old = if index l old == -1 then -1 else index l old + 1 := by rw [index, h]; simp
theorem ix_pre {old : List UInt8} {b : UInt8} {l : List UInt8} (h : old.isPrefixOf (b :: l) = true) : index (b :: l) old = ((0 : Nat) : Int) := by rw [index, if_pos h]; rfl
theorem repK_skip {old new : List UInt8} {b : UInt8} {l : List UInt8} (h : old.isPrefixOf (b :: l) = false) : ∀ k, replaceK old new k (b :: l) = b :: replaceK old new k l
  | 0 => rfl
  | k + 1 => by
    by_cases hm : index l old = -1
    · have h1 : index (b :: l) old = -1 := by rw [ix_skip h, hm]; rfl
      unfold replaceK
      rw [h1, hm]; rfl
    · have hge := index_ge l old
      obtain ⟨j, hj⟩ : ∃ j : Nat, index l old = j := ⟨(index l old).toNat, by omega⟩
      have hj' : index (b :: l) old = ((j + 1 : Nat) : Int) := by rw [ix_skip h, if_neg (fun e => hm (beq_iff_eq.1 e)), hj]; omega
      rw [replaceK_hit old new k _ _ hj', replaceK_hit old new k _ _ hj, show j + 1 + old.length = (j + old.length) + 1 by omega]
      simp
theorem cnt_skip {old : List UInt8} (hne : old ≠ []) {b : UInt8} {l : List UInt8} (h : old.isPrefixOf (b :: l) = false) : count (b :: l) old = count l old := by
  by_cases hm : index l old = -1
  · rw [count_miss hm, count_miss (by rw [ix_skip h, hm]; rfl)]
  · have hge := index_ge l old
    obtain ⟨j, hj⟩ : ∃ j : Nat, index l old = j := ⟨(index l old).toNat, by omega⟩
    have hj' : index (b :: l) old = ((j + 1 : Nat) : Int) := by rw [ix_skip h, if_neg (fun e => hm (beq_iff_eq.1 e)), hj]; omega
    rw [count_hit hne hj, count_hit hne hj', show j + 1 + old.length = (j + old.length) + 1 by omega]
    simp
theorem repAll_eq {old new : List UInt8} (hn : old ≠ new) (s : List UInt8) : replaceAll s old new = replaceK old new (count s old) s := by
  unfold replaceAll replace replaceNum
  rw [if_neg (fun h => hn (beq_iff_eq.1 h)), if_pos (.inl (by decide))]
theorem repAll_nil {old new : List UInt8} (hn : old ≠ new) (hne : old ≠ []) : replaceAll [] old new = [] := by
  rw [repAll_eq hn, count_miss (by cases old with | nil => exact absurd rfl hne | cons a t => rfl)]; rfl
theorem repAll_skip {old new : List UInt8} (hn : old ≠ new) (hne : old ≠ []) {b : UInt8} {l : List UInt8} (h : old.isPrefixOf (b :: l) = false) : replaceAll (b :: l) old new = b :: replaceAll l old new := by
  rw [repAll_eq hn, repAll_eq hn, cnt_skip hne h, repK_skip h]
theorem repAll_pre {old new : List UInt8} (hn : old ≠ new) (hne : old ≠ []) {b : UInt8} {l : List UInt8} (h : old.isPrefixOf (b :: l) = true) : replaceAll (b :: l) old new = new ++ replaceAll ((b :: l).drop old.length) old new := by
  rw [repAll_eq hn, repAll_eq hn, count_hit hne (ix_pre h), Nat.add_comm 1, replaceK_hit old new _ _ _ (ix_pre h)]
  simp
theorem pre1 (c b : UInt8) (l : List UInt8) : ([c] : List UInt8).isPrefixOf (b :: l) = (c == b) := by simp [List.isPrefixOf]
theorem pre2 (c d b e : UInt8) (l : List UInt8) : ([c, d] : List UInt8).isPrefixOf (b :: e :: l) = (c == b && d == e) := by simp [List.isPrefixOf]
theorem pre2' (c d b : UInt8) : ([c, d] : List UInt8).isPrefixOf [b] = false := by simp [List.isPrefixOf]
theorem pre2n (c d b : UInt8) (l : List UInt8) (h : c ≠ b) : ([c, d] : List UInt8).isPrefixOf (b :: l) = false := by simp [List.isPrefixOf, h]
/-- A step as it is written. -/
def escB (c : UInt8) : List UInt8 := if c = 126 then [126, 48] else if c = 47 then [126, 49] else [c]
def escS (s : Stp) : List UInt8 := s.flatMap escB
theorem escS_cons (c : UInt8) (s : Stp) : escS (c :: s) = escB c ++ escS s := rfl
def repOut (s : List UInt8) : List UInt8 := replaceAll (replaceAll s [126] [126, 48]) [47] [126, 49]
theorem repOut_esc : ∀ s, repOut s = escS s
  | [] => by unfold repOut; rw [repAll_nil (by decide) (by decide), repAll_nil (by decide) (by decide)]; rfl
  | c :: s => by
    have ih := repOut_esc s
    unfold repOut at ih ⊢
    rw [escS_cons, ← ih]
    by_cases h1 : c = 126
    · subst h1
      rw [repAll_pre (by decide) (by decide) (by rw [pre1]; rfl), show escB 126 = [126, 48] from rfl]
      show replaceAll (126 :: 48 :: replaceAll s _ _) _ _ = _
      rw [repAll_skip (by decide) (by decide) (by rw [pre1]; rfl), repAll_skip (by decide) (by decide) (by rw [pre1]; rfl)]
      rfl
    · rw [repAll_skip (by decide) (by decide) (by rw [pre1]; exact beq_eq_false_iff_ne.2 (Ne.symm h1))]
      by_cases h2 : c = 47
      · subst h2
        rw [repAll_pre (by decide) (by decide) (by rw [pre1]; rfl)]; rfl
      · rw [repAll_skip (by decide) (by decide) (by rw [pre1]; exact beq_eq_false_iff_ne.2 (Ne.symm h2))]
        unfold escB
        rw [if_neg h1, if_neg h2]; rfl
/-- The way back. -/
def unesc : List UInt8 → List UInt8
  | [] => []
  | [c] => [c]
  | c :: d :: r => if c = 126 then (if d = 48 then 126 :: unesc r else if d = 49 then 47 :: unesc r else c :: unesc (d :: r)) else c :: unesc (d :: r)
/-- Each 126 is followed by 48 or 49. -/
def wholeL : List UInt8 → Bool
  | [] => true
  | [c] => c != 126
  | c :: d :: r => if c = 126 then (d == 48 || d == 49) && wholeL r else wholeL (d :: r)
theorem unesc_no {c : UInt8} (h : c ≠ 126) (r : List UInt8) : unesc (c :: r) = c :: unesc r := by
  cases r with
  | nil => rfl
  | cons d r => rw [unesc, if_neg h]
theorem whole_no {c : UInt8} (h : c ≠ 126) (r : List UInt8) : wholeL (c :: r) = wholeL r := by
  cases r with
  | nil => unfold wholeL; rw [bne_iff_ne]; exact h
  | cons d r => rw [wholeL, if_neg h]
theorem unesc_0 (r : List UInt8) : unesc (126 :: 48 :: r) = 126 :: unesc r := by rw [unesc, if_pos rfl, if_pos rfl]
theorem unesc_1 (r : List UInt8) : unesc (126 :: 49 :: r) = 47 :: unesc r := by rw [unesc, if_pos rfl, if_neg (by decide), if_pos rfl]
theorem whole_0 (r : List UInt8) : wholeL (126 :: 48 :: r) = wholeL r := by rw [wholeL, if_pos rfl]; rfl
theorem whole_1 (r : List UInt8) : wholeL (126 :: 49 :: r) = wholeL r := by rw [wholeL, if_pos rfl]; rfl
/-- What a whole text may be. -/
theorem whole_cases : ∀ s : List UInt8, wholeL s = true → s = [] ∨ (∃ r, s = 126 :: 48 :: r ∧ wholeL r = true) ∨ (∃ r, s = 126 :: 49 :: r ∧ wholeL r = true) ∨ ∃ c r, s = c :: r ∧ c ≠ 126 ∧ wholeL r = true
  | [], _ => .inl rfl
  | c :: r, h => by
    by_cases h1 : c = 126
    · subst h1
      cases r with
      | nil => exact absurd h (by decide)
      | cons d r =>
        rw [wholeL, if_pos rfl, Bool.and_eq_true, Bool.or_eq_true, beq_iff_eq, beq_iff_eq] at h
        rcases h.1 with rfl | rfl
        · exact .inr (.inl ⟨r, rfl, h.2⟩)
        · exact .inr (.inr (.inl ⟨r, rfl, h.2⟩))
    · exact .inr (.inr (.inr ⟨c, r, rfl, h1, by rw [whole_no h1] at h; exact h⟩))
def repIn (s : List UInt8) : List UInt8 := replaceAll (replaceAll s [126, 49] [47]) [126, 48] [126]
theorem repIn_unesc (n : Nat) : ∀ s : List UInt8, s.length ≤ n → wholeL s = true → repIn s = unesc s := by
  induction n with
  | zero =>
    intro s hs _
    obtain rfl : s = [] := List.eq_nil_of_length_eq_zero (by omega)
    unfold repIn; rw [repAll_nil (by decide) (by decide), repAll_nil (by decide) (by decide)]; rfl
  | succ n ih =>
    intro s hs h
    rcases whole_cases s h with rfl | ⟨r, rfl, hr⟩ | ⟨r, rfl, hr⟩ | ⟨c, r, rfl, hc, hr⟩
    · unfold repIn; rw [repAll_nil (by decide) (by decide), repAll_nil (by decide) (by decide)]; rfl
    · rw [unesc_0, ← ih r (by simp only [List.length_cons] at hs; omega) hr]
      unfold repIn
      have e1 : replaceAll (126 :: 48 :: r) [126, 49] [47] = 126 :: 48 :: replaceAll r [126, 49] [47] := by
        rw [repAll_skip (by decide) (by decide) (by rw [pre2]; rfl), repAll_skip (by decide) (by decide) (pre2n _ _ _ _ (by decide))]
      rw [e1, repAll_pre (by decide) (by decide) (by rw [pre2]; rfl)]
      rfl
    · rw [unesc_1, ← ih r (by simp only [List.length_cons] at hs; omega) hr]
      unfold repIn
      rw [repAll_pre (by decide) (by decide) (by rw [pre2]; rfl)]
      show replaceAll (47 :: replaceAll r _ _) _ _ = _
      rw [repAll_skip (by decide) (by decide) (pre2n _ _ _ _ (by decide))]
    · rw [unesc_no hc, ← ih r (by simp only [List.length_cons] at hs; omega) hr]
      unfold repIn
      rw [repAll_skip (by decide) (by decide) (pre2n _ _ _ _ (Ne.symm hc)), repAll_skip (by decide) (by decide) (pre2n _ _ _ _ (Ne.symm hc))]
/-- A text in pieces at 47. -/
def splitL : List UInt8 → List Stp
  | [] => [[]]
  | c :: r => if c = 47 then [] :: splitL r else match splitL r with
    | [] => [[c]]
    | x :: t => (c :: x) :: t
theorem splitL_ne : ∀ s, ∃ x t, splitL s = x :: t
  | [] => ⟨[], [], rfl⟩
  | c :: r => by
    obtain ⟨x, t, h⟩ := splitL_ne r
    unfold splitL
    split
    · exact ⟨_, _, rfl⟩
    · rw [h]; exact ⟨_, _, rfl⟩
theorem splitL_hit (r : List UInt8) : splitL (47 :: r) = [] :: splitL r := by rw [splitL, if_pos rfl]
theorem splitL_skip {c : UInt8} (h : c ≠ 47) {r : List UInt8} {x : Stp} {t : List Stp} (hr : splitL r = x :: t) : splitL (c :: r) = (c :: x) :: t := by rw [splitL, if_neg h, hr]
theorem splitL_len : ∀ s, (splitL s).length = s.count 47 + 1
  | [] => rfl
  | c :: r => by
    have ih := splitL_len r
    by_cases h : c = 47
    · subst h; rw [splitL_hit, List.length_cons, ih, List.count_cons_self]
    · obtain ⟨x, t, hr⟩ := splitL_ne r
      rw [splitL_skip h hr, List.count_cons_of_ne (by simpa using h), ← ih, hr]; rfl
theorem splitK_skip {c : UInt8} (h : c ≠ 47) (r : List UInt8) : ∀ k, splitK [47] 0 k (c :: r) = match splitK [47] 0 k r with | [] => [[c]] | x :: t => (c :: x) :: t := by
  have hp : ([47] : List UInt8).isPrefixOf (c :: r) = false := by rw [pre1]; exact beq_eq_false_iff_ne.2 (Ne.symm h)
  intro k
  cases k with
  | zero => rfl
  | succ k =>
    by_cases hm : index r [47] = -1
    · have h1 : index (c :: r) [47] = -1 := by rw [ix_skip hp, hm]; rfl
      unfold splitK; rw [h1, hm]; rfl
    · have hge := index_ge r [47]
      obtain ⟨j, hj⟩ : ∃ j : Nat, index r [47] = j := ⟨(index r [47]).toNat, by omega⟩
      have hj' : index (c :: r) [47] = ((j + 1 : Nat) : Int) := by rw [ix_skip hp, if_neg (fun e => hm (beq_iff_eq.1 e)), hj]; omega
      have n1 : ¬ (((j + 1 : Nat) : Int) == -1) = true := fun e => by have := beq_iff_eq.1 e; omega
      have n2 : ¬ ((j : Int) == -1) = true := fun e => by have := beq_iff_eq.1 e; omega
      unfold splitK
      rw [hj, hj', if_neg n1, if_neg n2]
      simp
theorem split_is : ∀ s, split s [47] = splitL s
  | [] => rfl
  | c :: r => by
    have ih := split_is r
    unfold split at ih ⊢
    by_cases h : c = 47
    · subst h
      have hp : ([47] : List UInt8).isPrefixOf (47 :: r) = true := by rw [pre1]; rfl
      rw [splitL_hit, ← ih, count_cons_eq, Nat.add_comm 1, splitK, ix_pre hp]
      rfl
    · obtain ⟨x, t, hr⟩ := splitL_ne r
      rw [splitL_skip h hr, count_cons_ne _ _ _ h, splitK_skip h, ih, hr]
theorem whole_split (n : Nat) : ∀ s : List UInt8, s.length ≤ n → wholeL s = true → ∀ x ∈ splitL s, wholeL x = true := by
  induction n with
  | zero =>
    intro s hs _ x hx
    obtain rfl : s = [] := List.eq_nil_of_length_eq_zero (by omega)
    rw [List.mem_singleton.1 hx]; rfl
  | succ n ih =>
    intro s hs h x hx
    rcases whole_cases s h with rfl | ⟨r, rfl, hr⟩ | ⟨r, rfl, hr⟩ | ⟨c, r, rfl, hc, hr⟩
    · rw [List.mem_singleton.1 hx]; rfl
    · obtain ⟨y, t, hy⟩ := splitL_ne r
      have hi := ih r (by simp only [List.length_cons] at hs; omega) hr
      rw [splitL_skip (by decide) (splitL_skip (by decide) hy)] at hx
      rcases List.mem_cons.1 hx with rfl | hx
      · rw [whole_0]; exact hi y (by rw [hy]; exact List.mem_cons_self)
      · exact hi x (by rw [hy]; exact List.mem_cons_of_mem _ hx)
    · obtain ⟨y, t, hy⟩ := splitL_ne r
      have hi := ih r (by simp only [List.length_cons] at hs; omega) hr
      rw [splitL_skip (by decide) (splitL_skip (by decide) hy)] at hx
      rcases List.mem_cons.1 hx with rfl | hx
      · rw [whole_1]; exact hi y (by rw [hy]; exact List.mem_cons_self)
      · exact hi x (by rw [hy]; exact List.mem_cons_of_mem _ hx)
    · obtain ⟨y, t, hy⟩ := splitL_ne r
      have hi := ih r (by simp only [List.length_cons] at hs; omega) hr
      by_cases h47 : c = 47
      · subst h47
        rw [splitL_hit] at hx
        rcases List.mem_cons.1 hx with rfl | hx
        · rfl
        · exact hi x hx
      · rw [splitL_skip h47 hy] at hx
        rcases List.mem_cons.1 hx with rfl | hx
        · rw [whole_no hc]; exact hi y (by rw [hy]; exact List.mem_cons_self)
        · exact hi x (by rw [hy]; exact List.mem_cons_of_mem _ hx)
/-- The program's way to tell: cut at the first 126. -/
theorem whole_front : ∀ (a r : List UInt8), (∀ x ∈ a, x ≠ 126) → wholeL (a ++ r) = wholeL r
  | [], r, _ => rfl
  | c :: a, r, h => by
    rw [List.cons_append, whole_no (h c List.mem_cons_self), whole_front a r (fun x hx => h x (List.mem_cons_of_mem _ hx))]
theorem whole_at (d : UInt8) (r : List UInt8) : wholeL (126 :: d :: r) = ((d == 48 || d == 49) && wholeL (d :: r)) := by
  rw [wholeL, if_pos rfl]
  by_cases h : d = 48 ∨ d = 49
  · rw [whole_no (c := d) (by rcases h with rfl | rfl <;> decide)]
  · have : (d == 48 || d == 49) = false := by rw [Bool.or_eq_false_iff, beq_eq_false_iff_ne, beq_eq_false_iff_ne]; exact ⟨fun e => h (.inl e), fun e => h (.inr e)⟩
    rw [this, Bool.false_and, Bool.false_and]
/-- A path, its text, and back. -/
def pathOk (p : List Stp) : Bool := decide (p.length ≤ 64) && p.all validD
def textP (p : List Stp) : List UInt8 := p.flatMap fun s => 47 :: escS s
def headP (s : List UInt8) : Bool := match s with | [] => true | c :: _ => c == 47
def segs (s : List UInt8) : List Stp := match s with | [] => [] | _ :: r => (splitL r).map unesc
/-- pointer.Parse and scarfref07.Parse. -/
def parseP (s : List UInt8) : List Stp × Int :=
  if validD s = true ∧ headP s = true ∧ wholeL s = true then (if 64 < s.count 47 then ([], 3) else (segs s, 0)) else ([], 2)
/-- pointer.Text and scarfref07.Text. -/
def textR (p : List Stp) : List UInt8 × Int := if pathOk p = true then (textP p, 0) else ([], 1)
end Go.Proofs.YtfklmopnifkieaaGreatDoor
/-! PLAIN: paths and texts are each other's (P7.1); the document's way of reading one. -/
namespace Go.Proofs.YtfklmopnifkieaaGreatDoor
set_option linter.unusedSimpArgs false
set_option linter.unusedVariables false
open Go.Lib
theorem valid_low {c : UInt8} (h : c.toNat < 128) (r : List UInt8) : validD (c :: r) = validD r := by
  have := validD_rune (c.toNat : Int) ⟨by omega, by omega, by omega⟩ r
  rw [encode_one c h] at this
  exact this
/-- A valid text that is not empty: a low byte, or high ones, and a valid rest. -/
theorem valid_front (l : List UInt8) (hne : l ≠ []) (h : validD l = true) : (∃ c r, l = c :: r ∧ c.toNat < 128 ∧ validD r = true) ∨ ∃ a r, l = a ++ r ∧ a ≠ [] ∧ (∀ x ∈ a, 128 ≤ x.toNat) ∧ validD a = true ∧ validD r = true := by
  obtain ⟨r, t, hr, rfl, ht, _⟩ := valid_cut l hne h
  by_cases h1 : r < 128
  · have h0 := hr.1
    have hc : encodeRune r = [UInt8.ofNat r.toNat] := by
      have := encode_one (UInt8.ofNat r.toNat) (by rw [UInt8.toNat_ofNat']; omega)
      rw [UInt8.toNat_ofNat', Nat.mod_eq_of_lt (show r.toNat < 256 by omega), show ((r.toNat : Nat) : Int) = r by omega] at this
      exact this
    refine .inl ⟨UInt8.ofNat r.toNat, t, by rw [hc]; rfl, by rw [UInt8.toNat_ofNat']; omega, ht⟩
  · exact .inr ⟨_, t, rfl, encode_ne r, encode_high r hr (by omega), validD_one r hr, ht⟩
theorem high_ne {a : List UInt8} (h : ∀ x ∈ a, 128 ≤ x.toNat) (c : UInt8) (hc : c.toNat < 128) : ∀ x ∈ a, x ≠ c := by
  intro x hx e
  have := h x hx
  rw [e] at this
  omega
theorem splitL_front : ∀ (a r : List UInt8), (∀ x ∈ a, x ≠ 47) → ∀ {x t}, splitL r = x :: t → splitL (a ++ r) = (a ++ x) :: t
  | [], r, _, x, t, h => h
  | c :: a, r, ha, x, t, h => splitL_skip (ha c List.mem_cons_self) (splitL_front a r (fun y hy => ha y (List.mem_cons_of_mem _ hy)) h)
theorem unesc_front : ∀ (a r : List UInt8), (∀ x ∈ a, x ≠ 126) → unesc (a ++ r) = a ++ unesc r
  | [], r, _ => rfl
  | c :: a, r, ha => by
    rw [List.cons_append, unesc_no (ha c List.mem_cons_self), unesc_front a r (fun y hy => ha y (List.mem_cons_of_mem _ hy))]; rfl
theorem valid_pieces (n : Nat) : ∀ l : List UInt8, l.length ≤ n → validD l = true → ∀ x ∈ splitL l, validD x = true := by
  induction n with
  | zero =>
    intro l hs _ x hx
    obtain rfl : l = [] := List.eq_nil_of_length_eq_zero (by omega)
    rw [List.mem_singleton.1 hx]; rfl
  | succ n ih =>
    intro l hs h x hx
    by_cases hne : l = []
    · subst hne; rw [List.mem_singleton.1 hx]; rfl
    rcases valid_front l hne h with ⟨c, r, rfl, hc, hr⟩ | ⟨a, r, rfl, ha, hh, hva, hr⟩
    · have hi := ih r (by simp only [List.length_cons] at hs; omega) hr
      by_cases h47 : c = 47
      · subst h47
        rw [splitL_hit] at hx
        rcases List.mem_cons.1 hx with rfl | hx
        · rfl
        · exact hi x hx
      · obtain ⟨y, t, hy⟩ := splitL_ne r
        rw [splitL_skip h47 hy] at hx
        rw [hy] at hi
        rcases List.mem_cons.1 hx with rfl | hx
        · rw [valid_low hc]; exact hi y List.mem_cons_self
        · exact hi x (List.mem_cons_of_mem _ hx)
    · have hl := List.length_pos_iff.2 ha
      have hi := ih r (by rw [List.length_append] at hs; omega) hr
      obtain ⟨y, t, hy⟩ := splitL_ne r
      rw [splitL_front a r (high_ne hh 47 (by decide)) hy] at hx
      rw [hy] at hi
      rcases List.mem_cons.1 hx with rfl | hx
      · rw [validD_app a y hva]; exact hi y List.mem_cons_self
      · exact hi x (List.mem_cons_of_mem _ hx)
theorem valid_unesc (n : Nat) : ∀ l : List UInt8, l.length ≤ n → validD l = true → wholeL l = true → validD (unesc l) = true := by
  induction n with
  | zero =>
    intro l hs _ _
    obtain rfl : l = [] := List.eq_nil_of_length_eq_zero (by omega)
    rfl
  | succ n ih =>
    intro l hs h hw
    rcases whole_cases l hw with rfl | ⟨r, rfl, hr⟩ | ⟨r, rfl, hr⟩ | ⟨c, r, rfl, hc, hr⟩
    · rfl
    · rw [valid_low (by decide), valid_low (by decide)] at h
      rw [unesc_0, valid_low (by decide)]
      exact ih r (by simp only [List.length_cons] at hs; omega) h hr
    · rw [valid_low (by decide), valid_low (by decide)] at h
      rw [unesc_1, valid_low (by decide)]
      exact ih r (by simp only [List.length_cons] at hs; omega) h hr
    · rcases valid_front _ (List.cons_ne_nil c r) h with ⟨c', r', he, hc', hr'⟩ | ⟨a, r', he, ha, hh, hva, hr'⟩
      · injection he with h1 h2
        subst h1 h2
        rw [unesc_no hc, valid_low hc']
        exact ih r (by simp only [List.length_cons] at hs; omega) hr' hr
      · rw [he] at hs hw ⊢
        have hl := List.length_pos_iff.2 ha
        have hn := high_ne hh 126 (by decide)
        rw [unesc_front a r' hn, validD_app a _ hva]
        rw [whole_front a r' hn] at hw
        exact ih r' (by rw [List.length_append] at hs; omega) hr' hw
theorem pieces_no47 : ∀ (l : List UInt8), ∀ x ∈ splitL l, ∀ c ∈ x, c ≠ 47
  | [], x, hx, c, hc => by rw [List.mem_singleton.1 hx] at hc; cases hc
  | d :: r, x, hx, c, hc => by
    have hi := pieces_no47 r
    by_cases h : d = 47
    · subst h
      rw [splitL_hit] at hx
      rcases List.mem_cons.1 hx with rfl | hx
      · cases hc
      · exact hi x hx c hc
    · obtain ⟨y, t, hy⟩ := splitL_ne r
      rw [splitL_skip h hy] at hx
      rw [hy] at hi
      rcases List.mem_cons.1 hx with rfl | hx
      · rcases List.mem_cons.1 hc with rfl | hc
        · exact h
        · exact hi y List.mem_cons_self c hc
      · exact hi x (List.mem_cons_of_mem _ hx) c hc
theorem esc_unesc (n : Nat) : ∀ l : List UInt8, l.length ≤ n → wholeL l = true → (∀ c ∈ l, c ≠ 47) → escS (unesc l) = l := by
  induction n with
  | zero =>
    intro l hs _ _
    obtain rfl : l = [] := List.eq_nil_of_length_eq_zero (by omega)
    rfl
  | succ n ih =>
    intro l hs hw h47
    rcases whole_cases l hw with rfl | ⟨r, rfl, hr⟩ | ⟨r, rfl, hr⟩ | ⟨c, r, rfl, hc, hr⟩
    · rfl
    · rw [unesc_0, escS_cons, ih r (by simp only [List.length_cons] at hs; omega) hr (fun c hc => h47 c (List.mem_cons_of_mem _ (List.mem_cons_of_mem _ hc)))]; rfl
    · rw [unesc_1, escS_cons, ih r (by simp only [List.length_cons] at hs; omega) hr (fun c hc => h47 c (List.mem_cons_of_mem _ (List.mem_cons_of_mem _ hc)))]; rfl
    · rw [unesc_no hc, escS_cons, ih r (by simp only [List.length_cons] at hs; omega) hr (fun c hc => h47 c (List.mem_cons_of_mem _ hc))]
      unfold escB
      rw [if_neg hc, if_neg (h47 c List.mem_cons_self)]; rfl
theorem escB_facts (c : UInt8) (r : List UInt8) : unesc (escB c ++ r) = c :: unesc r ∧ wholeL (escB c ++ r) = wholeL r ∧ (∀ x ∈ escB c, x ≠ 47) ∧ (c.toNat < 128 → ∀ x ∈ escB c, x.toNat < 128) := by
  unfold escB
  by_cases h1 : c = 126
  · subst h1; rw [if_pos rfl]; exact ⟨unesc_0 r, whole_0 r, by decide, fun _ => by decide⟩
  · rw [if_neg h1]
    by_cases h2 : c = 47
    · subst h2; rw [if_pos rfl]; exact ⟨unesc_1 r, whole_1 r, by decide, fun _ => by decide⟩
    · rw [if_neg h2]
      exact ⟨unesc_no h1 r, whole_no h1 r, fun x hx => by rw [List.mem_singleton.1 hx]; exact h2, fun h x hx => by rw [List.mem_singleton.1 hx]; exact h⟩
theorem unesc_esc : ∀ s : Stp, unesc (escS s) = s
  | [] => rfl
  | c :: s => by rw [escS_cons, (escB_facts c _).1, unesc_esc s]
theorem whole_esc : ∀ (s : Stp) (r : List UInt8), wholeL (escS s ++ r) = wholeL r
  | [], r => rfl
  | c :: s, r => by rw [escS_cons, List.append_assoc, (escB_facts c _).2.1, whole_esc s]
theorem esc_no47 : ∀ (s : Stp), ∀ x ∈ escS s, x ≠ 47
  | [], x, hx => by cases hx
  | c :: s, x, hx => by
    rw [escS_cons] at hx
    rcases List.mem_append.1 hx with hx | hx
    · exact (escB_facts c []).2.2.1 x hx
    · exact esc_no47 s x hx
theorem escS_app (a b : Stp) : escS (a ++ b) = escS a ++ escS b := by unfold escS; rw [List.flatMap_append]
theorem escS_high : ∀ (a : Stp), (∀ x ∈ a, 128 ≤ x.toNat) → escS a = a
  | [], _ => rfl
  | c :: a, h => by
    have hc := h c List.mem_cons_self
    rw [escS_cons, escS_high a (fun x hx => h x (List.mem_cons_of_mem _ hx))]
    unfold escB
    rw [if_neg (fun e => by rw [e] at hc; exact absurd hc (by decide)), if_neg (fun e => by rw [e] at hc; exact absurd hc (by decide))]; rfl
theorem escB_len (c : UInt8) : 1 ≤ (escB c).length ∧ (escB c).length ≤ 2 := by
  unfold escB
  repeat' split
  all_goals simp
theorem escS_len : ∀ s : Stp, s.length ≤ (escS s).length ∧ (escS s).length ≤ 2 * s.length
  | [] => by decide
  | c :: s => by
    have := escS_len s
    have := escB_len c
    rw [escS_cons, List.length_append, List.length_cons]
    omega
theorem valid_escB {c : UInt8} (h : c.toNat < 128) (r : List UInt8) : validD (escB c ++ r) = validD r := by
  unfold escB
  by_cases h1 : c = 126
  · rw [if_pos h1]; show validD (126 :: 48 :: r) = _; rw [valid_low (by decide), valid_low (by decide)]
  · rw [if_neg h1]
    by_cases h2 : c = 47
    · rw [if_pos h2]; show validD (126 :: 49 :: r) = _; rw [valid_low (by decide), valid_low (by decide)]
    · rw [if_neg h2]; exact valid_low h r
theorem valid_esc (n : Nat) : ∀ s : Stp, s.length ≤ n → validD s = true → validD (escS s) = true := by
  induction n with
  | zero =>
    intro l hs _
    obtain rfl : l = [] := List.eq_nil_of_length_eq_zero (by omega)
    rfl
  | succ n ih =>
    intro l hs h
    by_cases hne : l = []
    · subst hne; rfl
    rcases valid_front l hne h with ⟨c, r, rfl, hc, hr⟩ | ⟨a, r, rfl, ha, hh, hva, hr⟩
    · rw [escS_cons, valid_escB hc]
      exact ih r (by simp only [List.length_cons] at hs; omega) hr
    · have hl := List.length_pos_iff.2 ha
      rw [escS_app, escS_high a hh, validD_app a _ hva]
      exact ih r (by rw [List.length_append] at hs; omega) hr
theorem textP_cons (s : Stp) (p : List Stp) : textP (s :: p) = 47 :: (escS s ++ textP p) := rfl
theorem textP_app (p q : List Stp) : textP (p ++ q) = textP p ++ textP q := by unfold textP; rw [List.flatMap_append]
theorem textP_valid : ∀ p : List Stp, p.all validD = true → validD (textP p) = true
  | [], _ => rfl
  | s :: p, h => by
    rw [List.all_cons, Bool.and_eq_true] at h
    rw [textP_cons, valid_low (by decide), validD_app _ _ (valid_esc _ s (Nat.le_refl _) h.1)]
    exact textP_valid p h.2
theorem textP_whole : ∀ p : List Stp, wholeL (textP p) = true
  | [] => rfl
  | s :: p => by rw [textP_cons, whole_no (by decide), whole_esc, textP_whole p]
theorem textP_head (p : List Stp) : headP (textP p) = true := by cases p <;> rfl
theorem count_no {l : List UInt8} {c : UInt8} (h : ∀ x ∈ l, x ≠ c) : l.count c = 0 := List.count_eq_zero.2 (fun hc => h c hc rfl)
theorem textP_count : ∀ p : List Stp, (textP p).count 47 = p.length
  | [] => rfl
  | s :: p => by rw [textP_cons, List.count_cons_self, List.count_append, count_no (esc_no47 s), textP_count p, List.length_cons]; omega
theorem textP_split : ∀ (s : Stp) (p : List Stp), splitL (escS s ++ textP p) = escS s :: p.map escS
  | s, [] => by
    have := splitL_front (escS s) [] (esc_no47 s) (x := []) (t := []) rfl
    rw [List.append_nil] at this
    show splitL (escS s ++ []) = _
    rw [List.append_nil]; exact this
  | s, t :: p => by
    have h := splitL_front (escS s) (textP (t :: p)) (esc_no47 s) (x := []) (t := escS t :: p.map escS) (by rw [textP_cons, splitL_hit, textP_split t p])
    rw [List.append_nil] at h
    exact h
theorem segs_text (p : List Stp) : segs (textP p) = p := by
  cases p with
  | nil => rfl
  | cons s p =>
    show (splitL (escS s ++ textP p)).map unesc = _
    rw [textP_split, List.map_cons, unesc_esc, List.map_map]
    congr 1
    conv => rhs; rw [← List.map_id p]
    exact List.map_congr_left fun x _ => unesc_esc x
theorem parse_text (p : List Stp) (h : pathOk p = true) : parseP (textP p) = (p, 0) := by
  unfold pathOk at h
  rw [Bool.and_eq_true, decide_eq_true_iff] at h
  unfold parseP
  rw [if_pos ⟨textP_valid p h.2, textP_head p, textP_whole p⟩, if_neg (by rw [textP_count]; omega), segs_text]
theorem join_split : ∀ r : List UInt8, (splitL r).flatMap (fun x => 47 :: x) = 47 :: r
  | [] => rfl
  | c :: r => by
    have ih := join_split r
    by_cases h : c = 47
    · subst h; rw [splitL_hit, List.flatMap_cons, ih]; rfl
    · obtain ⟨y, t, hy⟩ := splitL_ne r
      rw [hy, List.flatMap_cons] at ih
      rw [splitL_skip h hy, List.flatMap_cons]
      have ih2 : y ++ t.flatMap (fun x => 47 :: x) = r := by simpa using ih
      show 47 :: c :: (y ++ _) = _
      rw [ih2]
theorem text_segs (s : List UInt8) (hh : headP s = true) (hw : wholeL s = true) : textP (segs s) = s := by
  cases s with
  | nil => rfl
  | cons c r =>
    have hc : c = 47 := beq_iff_eq.1 hh
    subst hc
    rw [whole_no (by decide)] at hw
    conv => rhs; rw [← join_split r]
    show ((splitL r).map unesc).flatMap (fun s => 47 :: escS s) = _
    rw [List.flatMap_map]
    have : ∀ x ∈ splitL r, (fun x => 47 :: escS (unesc x)) x = (fun x => 47 :: x) x := fun x hx => by
      show 47 :: escS (unesc x) = 47 :: x
      rw [esc_unesc _ x (Nat.le_refl _) (whole_split _ r (Nat.le_refl _) hw x hx) (pieces_no47 r x hx)]
    rw [List.flatMap_def, List.flatMap_def, List.map_congr_left this]
/-- What is read is a path, and its text is what was read. -/
theorem parse_right (s : List UInt8) : pathOk (parseP s).1 = true ∧ ((parseP s).2 = 0 → textP (parseP s).1 = s) ∧ (textP (parseP s).1).length ≤ s.length ∧ ((parseP s).2 ≠ 0 → (parseP s).1 = []) := by
  unfold parseP
  split
  · rename_i h
    obtain ⟨hv, hh, hw⟩ := h
    split
    · exact ⟨rfl, fun h => absurd h (by decide), by simp [textP], fun _ => rfl⟩
    · rename_i h64
      have ht := text_segs s hh hw
      refine ⟨?_, fun _ => ht, by simp only []; rw [ht]; exact Nat.le_refl _, fun h => absurd rfl h⟩
      unfold pathOk
      rw [Bool.and_eq_true, decide_eq_true_iff]
      cases s with
      | nil => exact ⟨by simp [segs], rfl⟩
      | cons c r =>
        have hc : c = 47 := beq_iff_eq.1 hh
        subst hc
        rw [whole_no (by decide)] at hw
        rw [valid_low (by decide)] at hv
        refine ⟨?_, ?_⟩
        · show ((splitL r).map unesc).length ≤ 64
          rw [List.length_map, splitL_len]
          rw [List.count_cons_self] at h64
          omega
        · show ((splitL r).map unesc).all validD = true
          rw [List.all_map, List.all_eq_true]
          intro x hx
          exact valid_unesc _ x (Nat.le_refl _) (valid_pieces _ r (Nat.le_refl _) hv x hx) (whole_split _ r (Nat.le_refl _) hw x hx)
  · exact ⟨rfl, fun h => absurd h (by decide), by simp [textP], fun _ => rfl⟩
/-- The document's way of reading a path: the rows so far, the last one being made. -/
def snoc (acc : List Stp) (u : List UInt8) : List Stp := acc.dropLast ++ [acc.getLastD [] ++ u]
def pgo : List Stp → List UInt8 → Option (List Stp)
  | acc, [] => some acc
  | acc, [c] => if c = 47 then some (acc ++ [[]]) else if c = 126 then none else some (snoc acc [c])
  | acc, c :: d :: r => if c = 47 then pgo (acc ++ [[]]) (d :: r) else if c = 126 then (if d = 48 then pgo (snoc acc [126]) r else if d = 49 then pgo (snoc acc [47]) r else none) else pgo (snoc acc [c]) (d :: r)
theorem pgo_47 (acc : List Stp) (r : List UInt8) : pgo acc (47 :: r) = pgo (acc ++ [[]]) r := by
  cases r with
  | nil => simp [pgo]
  | cons d r => rw [pgo, if_pos rfl]
theorem pgo_no {c : UInt8} (h1 : c ≠ 47) (h2 : c ≠ 126) (acc : List Stp) (r : List UInt8) : pgo acc (c :: r) = pgo (snoc acc [c]) r := by
  cases r with
  | nil => simp [pgo, h1, h2]
  | cons d r => rw [pgo, if_neg h1, if_neg h2]
theorem pgo_0 (acc : List Stp) (r : List UInt8) : pgo acc (126 :: 48 :: r) = pgo (snoc acc [126]) r := by rw [pgo, if_neg (by decide), if_pos rfl, if_pos rfl]
theorem pgo_1 (acc : List Stp) (r : List UInt8) : pgo acc (126 :: 49 :: r) = pgo (snoc acc [47]) r := by rw [pgo, if_neg (by decide), if_pos rfl, if_neg (by decide), if_pos rfl]
theorem pgo_bad (acc : List Stp) : ∀ (r : List UInt8), wholeL (126 :: r) = false → (∀ d t, r = d :: t → d ≠ 48 ∧ d ≠ 49) → pgo acc (126 :: r) = none
  | [], _, _ => by rw [pgo, if_neg (by decide), if_pos rfl]
  | d :: r, _, h => by rw [pgo, if_neg (by decide), if_pos rfl, if_neg (h d r rfl).1, if_neg (h d r rfl).2]
theorem snoc_app (acc : List Stp) (x u : List UInt8) : snoc (acc ++ [x]) u = acc ++ [x ++ u] := by
  unfold snoc
  rw [List.dropLast_concat, List.getLastD_concat]
def joinH (x : Stp) : List Stp → List Stp
  | [] => [x]
  | y :: t => (x ++ y) :: t
theorem pgo_is (n : Nat) : ∀ (s : List UInt8) (acc : List Stp) (x : Stp), s.length ≤ n → pgo (acc ++ [x]) s = if wholeL s = true then some (acc ++ joinH x ((splitL s).map unesc)) else none := by
  induction n with
  | zero =>
    intro s acc x hs
    obtain rfl : s = [] := List.eq_nil_of_length_eq_zero (by omega)
    simp [pgo, wholeL, splitL, joinH, unesc]
  | succ n ih =>
    intro s acc x hs
    have key : ∀ (c : UInt8) (f : List UInt8) (r : List UInt8), r.length ≤ n → (∀ y t, splitL r = y :: t → ∃ z, splitL (f ++ r) = z :: t ∧ unesc z = c :: unesc y) → wholeL (f ++ r) = wholeL r →
        pgo (acc ++ [x ++ [c]]) r = if wholeL (f ++ r) = true then some (acc ++ joinH x ((splitL (f ++ r)).map unesc)) else none := by
      intro c f r hr hf hw
      rw [ih r acc (x ++ [c]) hr, hw]
      obtain ⟨y, t, hy⟩ := splitL_ne r
      obtain ⟨z, hz1, hz2⟩ := hf y t hy
      rw [hy, hz1, List.map_cons, List.map_cons, hz2]
      simp [joinH]
    cases s with
    | nil =>
      simp [pgo, wholeL, splitL, joinH, unesc]
    | cons c r =>
      simp only [List.length_cons] at hs
      by_cases h47 : c = 47
      · subst h47
        rw [pgo_47, ih r (acc ++ [x]) [] (by omega), whole_no (by decide), splitL_hit]
        split
        · obtain ⟨y, t, hy⟩ := splitL_ne r
          rw [hy]
          simp [joinH, unesc]
        · rfl
      by_cases h126 : c = 126
      · subst h126
        cases r with
        | nil => rw [pgo_bad _ _ rfl (fun d t h => by cases h), if_neg (by decide)]
        | cons d r =>
          simp only [List.length_cons] at hs
          by_cases h0 : d = 48
          · subst h0
            rw [pgo_0, snoc_app]
            exact key 126 [126, 48] r (by omega) (fun y t hy => ⟨126 :: 48 :: y, splitL_skip (by decide) (splitL_skip (by decide) hy), unesc_0 y⟩) (whole_0 r)
          by_cases h1 : d = 49
          · subst h1
            rw [pgo_1, snoc_app]
            exact key 47 [126, 49] r (by omega) (fun y t hy => ⟨126 :: 49 :: y, splitL_skip (by decide) (splitL_skip (by decide) hy), unesc_1 y⟩) (whole_1 r)
          have hf : wholeL (126 :: d :: r) = false := by
            rw [whole_at]
            have : (d == 48 || d == 49) = false := by rw [Bool.or_eq_false_iff, beq_eq_false_iff_ne, beq_eq_false_iff_ne]; exact ⟨h0, h1⟩
            rw [this]; rfl
          rw [pgo_bad _ _ hf (fun d' t h => by injection h with h h'; subst h; exact ⟨h0, h1⟩), if_neg (by rw [hf]; decide)]
      · rw [pgo_no h47 h126, snoc_app]
        exact key c [c] r (by omega) (fun y t hy => ⟨c :: y, splitL_skip h47 hy, unesc_no h126 y⟩) (whole_no h126 r)
/-- The document's way ends where the program's does. -/
theorem pgo_parse (s : List UInt8) (hh : headP s = true) : pgo [] s = if wholeL s = true then some (segs s) else none := by
  cases s with
  | nil => rfl
  | cons c r =>
    have hc : c = 47 := beq_iff_eq.1 hh
    subst hc
    have := pgo_is r.length r [] [] (Nat.le_refl _)
    rw [pgo_47, this, whole_no (by decide)]
    split
    · obtain ⟨y, t, hy⟩ := splitL_ne r
      show some ([] ++ joinH [] _) = some (List.map unesc (splitL r))
      rw [hy]; rfl
    · rfl
def ofPgo : Option (List Stp) → List Stp × Int
  | none => ([], 2)
  | some p => if 64 < p.length then ([], 3) else (p, 0)
theorem parse_pgo (s : List UInt8) : parseP s = if validD s = true ∧ headP s = true then ofPgo (pgo [] s) else ([], 2) := by
  unfold parseP
  by_cases h : validD s = true ∧ headP s = true
  · rw [if_pos h, pgo_parse s h.2]
    by_cases hw : wholeL s = true
    · rw [if_pos ⟨h.1, h.2, hw⟩, if_pos hw]
      have hl : (segs s).length = s.count 47 := by
        cases s with
        | nil => rfl
        | cons c r =>
          have hc : c = 47 := beq_iff_eq.1 h.2
          subst hc
          show ((splitL r).map unesc).length = _
          rw [List.length_map, splitL_len, List.count_cons_self]
      unfold ofPgo; simp only [hl]
    · rw [if_neg (fun hh => hw hh.2.2), if_neg hw]; rfl
  · rw [if_neg h, if_neg (fun hh => h ⟨hh.1, hh.2.1⟩)]
end Go.Proofs.YtfklmopnifkieaaGreatDoor
