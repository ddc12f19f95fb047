import Derived.Test.YtnnlpkbopeiefaaGreatDoorQuoE
import Derived.Test.YtnnlpkbopeiefaaGreatDoorEncD
/-! PLAIN: what Quote writes (quoteL), and what readL makes of it. -/
namespace Go.Proofs.YtnnlpkbopeiefaaGreatDoor
set_option linter.unusedSimpArgs false
set_option linter.unusedVariables false
open Go.Lib
def hexd (n : UInt8) : UInt8 := if n < 10 then 48 + n else 87 + n
/-- What Quote writes for a byte. -/
def qB (c : UInt8) : List UInt8 :=
  if c = 34 ∨ c = 92 then [92, c] else if c = 8 then [92, 98] else if c = 12 then [92, 102] else if c = 10 then [92, 110] else if c = 13 then [92, 114] else if c = 9 then [92, 116]
  else if c < 32 then [92, 117, 48, 48, hexd (c / 16), hexd (c % 16)] else [c]
def qBs (l : List UInt8) : List UInt8 := l.flatMap qB
def quoteL (l : List UInt8) : List UInt8 × Int := if validD l then (34 :: (qBs l ++ [34]), 0) else ([], 2)
theorem qBs_append (a b : List UInt8) : qBs (a ++ b) = qBs a ++ qBs b := by unfold qBs; rw [List.flatMap_append]
theorem qB_high (c : UInt8) (h : 128 ≤ c.toNat) : qB c = [c] := by
  have : ∀ n : Fin 256, 128 ≤ n.val → qB (UInt8.ofNat n.val) = [UInt8.ofNat n.val] := by decide +kernel
  have h2 := this ⟨c.toNat, c.toNat_lt⟩ h
  simpa using h2
theorem qBs_high : ∀ (l : List UInt8), (∀ c ∈ l, 128 ≤ c.toNat) → qBs l = l
  | [], _ => rfl
  | c :: t, h => by
    show qB c ++ qBs t = c :: t
    rw [qB_high c (h c (by simp)), qBs_high t (fun d hd => h d (by simp [hd]))]; rfl
/-- The three kinds of bytes below 128. -/
theorem qB_low : ∀ n : Fin 128,
    (qB (UInt8.ofNat n.val) = [UInt8.ofNat n.val] ∧ n.val ≠ 92 ∧ n.val ≠ 34 ∧ 32 ≤ n.val) ∨
    (qB (UInt8.ofNat n.val) = [92, (qB (UInt8.ofNat n.val)).getD 1 0] ∧ meantI ((qB (UInt8.ofNat n.val)).getD 1 0).toNat = ((n.val : Int), true)) ∨
    (qB (UInt8.ofNat n.val) = [92, 117, 48, 48, (qB (UInt8.ofNat n.val)).getD 4 0, (qB (UInt8.ofNat n.val)).getD 5 0] ∧ hexGo 0 [48, 48, (qB (UInt8.ofNat n.val)).getD 4 0, (qB (UInt8.ofNat n.val)).getD 5 0] = some n.val ∧ n.val < 32) := by decide +kernel
theorem part_qB (c : UInt8) (hc : c.toNat < 128) (t : List UInt8) : partL (qB c ++ t) = ((c.toNat : Int), ((qB c).length : Int)) ∧ (qB c ++ t).head? ≠ some 34 ∧ 0 < (qB c).length := by
  have h := qB_low ⟨c.toNat, hc⟩
  simp only [UInt8.ofNat_toNat] at h
  obtain ⟨Q, hQ⟩ : ∃ Q, qB c = Q := ⟨_, rfl⟩
  rw [hQ] at h ⊢
  rcases h with ⟨h, h1, h2, h3⟩ | ⟨h, h1⟩ | ⟨h, h1, h2⟩
  · rw [h]
    have e92 : ¬ c = 92 := fun e => h1 (by rw [e]; rfl)
    have e34 : ¬ c = 34 := fun e => h2 (by rw [e]; rfl)
    refine ⟨?_, by simpa using e34, by simp⟩
    unfold partL
    rw [if_neg (by simpa using e92)]
    rw [show [c] ++ t = c :: t from rfl, decodeL_ascii c t hc, if_neg]
    · simp
    · unfold plainB
      simp only [Bool.or_eq_true, decide_eq_true_eq, Bool.and_eq_true, beq_iff_eq]
      omega
  · obtain ⟨x, hx⟩ : ∃ x, Q.getD 1 0 = x := ⟨_, rfl⟩
    rw [hx] at h h1
    rw [h]
    refine ⟨?_, by simp, by simp⟩
    unfold partL
    rw [if_pos (by simp)]
    unfold escL
    simp only [List.cons_append, List.nil_append, List.getElem?_cons_succ, List.getElem?_cons_zero, h1, if_true]
    rfl
  · obtain ⟨x, hx⟩ : ∃ x, Q.getD 4 0 = x := ⟨_, rfl⟩
    obtain ⟨y, hy⟩ : ∃ y, Q.getD 5 0 = y := ⟨_, rfl⟩
    rw [hx, hy] at h h1
    rw [h]
    refine ⟨?_, by simp, by simp⟩
    unfold partL
    rw [if_pos (by simp)]
    unfold escL
    have hm : (meantI ((117 : UInt8).toNat : Int)).2 = false := by decide
    simp only [List.cons_append, List.nil_append, List.getElem?_cons_succ, List.getElem?_cons_zero]
    rw [hm, if_neg (by simp), if_pos (by rfl)]
    have hf : fourL ((92 :: 117 :: 48 :: 48 :: x :: y :: t).drop 2) = some c.toNat := by
      unfold fourL
      rw [if_neg (by simp), ← h1]
      rfl
    unfold uniL
    rw [hf]
    simp only []
    rw [if_neg (by omega), if_pos (by omega)]
    rfl
theorem part_rune (r : Int) (hr : okRune r) (h : 128 ≤ r) (t : List UInt8) : partL (encodeRune r ++ t) = (r, ((encodeRune r).length : Int)) ∧ (encodeRune r ++ t).head? ≠ some 34 ∧ 0 < (encodeRune r).length := by
  have hh := encode_high r hr h
  have hl := encode_len r hr h
  have hd := decode_encode r hr t
  obtain ⟨E, hE⟩ : ∃ E, encodeRune r = E := ⟨_, rfl⟩
  rw [hE] at hh hl hd ⊢
  cases E with
  | nil => simp at hl
  | cons c u =>
    have h1 := hh c (by simp)
    have e92 : ¬ c = 92 := fun e => by rw [e] at h1; exact absurd h1 (by decide)
    have e34 : ¬ c = 34 := fun e => by rw [e] at h1; exact absurd h1 (by decide)
    refine ⟨?_, by simpa using e34, by simp⟩
    unfold partL
    rw [if_neg (by simpa using e92), hd, if_neg]
    · simp only []
      rw [Int.toNat_of_nonneg hr.1]
    · unfold plainB
      have := hr.1
      simp only [Bool.or_eq_true, decide_eq_true_eq, Bool.and_eq_true, beq_iff_eq]
      omega
theorem read_bd : ∀ (f : Nat) (l : List UInt8) (i : Nat) (acc : List UInt8), 
    ((i : Int) ≤ (readGo f l i acc).2.1 ∧ (readGo f l i acc).2.1 ≤ i + l.length) ∧ ((readGo f l i acc).2.2 = 0 ∨ ((readGo f l i acc).2.2 = 2 ∧ (readGo f l i acc).1 = []))
  | 0, _, _, _ => ⟨by simp [readGo]; omega, .inr ⟨rfl, rfl⟩⟩
  | _ + 1, [], _, _ => ⟨by simp [readGo], .inr ⟨rfl, rfl⟩⟩
  | f + 1, c :: r, i, acc => by
    unfold readGo
    split
    · exact ⟨by simp; omega, .inl rfl⟩
    · split
      · exact ⟨by simp; omega, .inr ⟨rfl, rfl⟩⟩
      · rename_i h2
        have hp := partL_bd (c :: r) (List.cons_ne_nil _ _)
        obtain ⟨P, hP⟩ : ∃ P, partL (c :: r) = P := ⟨_, rfl⟩
        rw [hP] at hp h2 ⊢
        have := read_bd f ((c :: r).drop P.2.toNat) (i + P.2.toNat) (acc ++ encodeRune P.1)
        rw [List.length_drop] at this
        refine ⟨?_, this.2⟩
        have h3 := this.1
        simp only [List.length_cons] at h3 hp ⊢
        omega
/-- No byte below 32; a quote stands at the ends, or behind a backslash. -/
theorem qB_shape : ∀ n : Fin 256, (∀ x ∈ qB (UInt8.ofNat n.val), 32 ≤ x.toNat) ∧ ((qB (UInt8.ofNat n.val)).head? ≠ some 34) ∧
    (∀ j : Fin 5, (qB (UInt8.ofNat n.val))[j.val + 1]? = some 34 → (qB (UInt8.ofNat n.val))[j.val]? = some 92) ∧ 1 ≤ (qB (UInt8.ofNat n.val)).length ∧ (qB (UInt8.ofNat n.val)).length ≤ 6 := by decide +kernel
theorem qB_is (c : UInt8) : (∀ x ∈ qB c, 32 ≤ x.toNat) ∧ ((qB c).head? ≠ some 34) ∧ (∀ j : Nat, (qB c)[j + 1]? = some 34 → (qB c)[j]? = some 92) ∧ 1 ≤ (qB c).length ∧ (qB c).length ≤ 6 := by
  have h := qB_shape ⟨c.toNat, c.toNat_lt⟩
  simp only [UInt8.ofNat_toNat] at h
  refine ⟨h.1, h.2.1, fun j hj => ?_, h.2.2.2⟩
  have hl := (List.getElem?_eq_some_iff.1 hj).1
  exact h.2.2.1 ⟨j, by have := h.2.2.2.2; omega⟩ hj
theorem qBs_len : ∀ l : List UInt8, l.length ≤ (qBs l).length ∧ (qBs l).length ≤ 6 * l.length
  | [] => by simp [qBs]
  | c :: t => by
    have hq := qB_is c
    have := qBs_len t
    change (c :: t).length ≤ (qB c ++ qBs t).length ∧ (qB c ++ qBs t).length ≤ 6 * (c :: t).length
    rw [List.length_append, List.length_cons]
    omega
end Go.Proofs.YtnnlpkbopeiefaaGreatDoor
