import Derived.Test.YtnnlpkbopeiefaaGreatDoorQuoE
import Derived.Test.YtnnlpkbopeiefaaGreatDoorEncD
/-! PLAIN: what Quote writes (quoteL), and what readL makes of it. -/
namespace Go.Proofs.YtnnlpkbopeiefaaGreatDoor
set_option linter.unusedSimpArgs false
set_option linter.unusedVariables false
open Go.Lib
def hexd (n : UInt8) : UInt8 := if n < 10 then 48 + n else 87 + n
/-- What Quote writes for a byte. -/
def qB (c : UInt8) : List UInt8 :=
  if c = 34 ∨ c = 92 then [92, c] else if c = 8 then [92, 98] else if c = 12 then [92, 102] else if c = 10 then [92, 110] else if c = 13 then [92, 114] else if c = 9 then [92, 116]
  else if c < 32 then [92, 117, 48, 48, hexd (c / 16), hexd (c % 16)] else [c]
def qBs (l : List UInt8) : List UInt8 := l.flatMap qB
def quoteL (l : List UInt8) : List UInt8 × Int := if validD l then (34 :: (qBs l ++ [34]), 0) else ([], 2)
theorem qBs_append (a b : List UInt8) : qBs (a ++ b) = qBs a ++ qBs b := by unfold qBs; rw [List.flatMap_append]
theorem qB_high (c : UInt8) (h : 128 ≤ c.toNat) : qB c = [c] := by
  have : ∀ n : Fin 256, 128 ≤ n.val → qB (UInt8.ofNat n.val) = [UInt8.ofNat n.val] := by decide +kernel
  have h2 := this ⟨c.toNat, c.toNat_lt⟩ h
  simpa using h2
theorem qBs_high : ∀ (l : List UInt8), (∀ c ∈ l, 128 ≤ c.toNat) → qBs l = l
  | [], _ => rfl
  | c :: t, h => by
    show qB c ++ qBs t = c :: t
    rw [qB_high c (h c (by simp)), qBs_high t (fun d hd => h d (by simp [hd]))]; rfl
/-- No byte below 32; a quote stands at the ends, or behind a backslash. -/
theorem qB_shape : ∀ n : Fin 256, (∀ x ∈ qB (UInt8.ofNat n.val), 32 ≤ x.toNat) ∧ ((qB (UInt8.ofNat n.val)).head? ≠ some 34) ∧
    (∀ j : Fin 5, (qB (UInt8.ofNat n.val))[j.val + 1]? = some 34 → (qB (UInt8.ofNat n.val))[j.val]? = some 92) ∧ 1 ≤ (qB (UInt8.ofNat n.val)).length ∧ (qB (UInt8.ofNat n.val)).length ≤ 6 := by decide +kernel
theorem qB_is (c : UInt8) : (∀ x ∈ qB c, 32 ≤ x.toNat) ∧ ((qB c).head? ≠ some 34) ∧ (∀ j : Nat, (qB c)[j + 1]? = some 34 → (qB c)[j]? = some 92) ∧ 1 ≤ (qB c).length ∧ (qB c).length ≤ 6 := by
  have h := qB_shape ⟨c.toNat, c.toNat_lt⟩
  simp only [UInt8.ofNat_toNat] at h
  refine ⟨h.1, h.2.1, fun j hj => ?_, h.2.2.2⟩
  have hl := (List.getElem?_eq_some_iff.1 hj).1
  exact h.2.2.1 ⟨j, by have := h.2.2.2.2; omega⟩ hj
theorem qBs_len : ∀ l : List UInt8, l.length ≤ (qBs l).length ∧ (qBs l).length ≤ 6 * l.length
  | [] => by simp [qBs]
  | c :: t => by
    have hq := qB_is c
    have := qBs_len t
    change (c :: t).length ≤ (qB c ++ qBs t).length ∧ (qB c ++ qBs t).length ≤ 6 * (c :: t).length
    rw [List.length_append, List.length_cons]
    omega
end Go.Proofs.YtnnlpkbopeiefaaGreatDoor
