import Derived.Test.YtbdognlebkagpaaDoorRunesB
import Derived.Lib.TrimUEq
import Derived.Lib.RuneCountTail
namespace Go.Proofs.YtbdognlebkagpaaDoor
open Go.RowKit Go.Lib

/-! PLAIN: the reference's Next is the model's own decoder. -/
def tailV (b1 b2 b3 : Int) : Nat → Int → Option Int
  | 0, v => some v
  | 1, v => if b1 < 128 ∨ 191 < b1 then none else some (64 * v + b1 - 128)
  | 2, v => if b1 < 128 ∨ 191 < b1 then none else if b2 < 128 ∨ 191 < b2 then none else some (64 * (64 * v + b1 - 128) + b2 - 128)
  | _, v => if b1 < 128 ∨ 191 < b1 then none else if b2 < 128 ∨ 191 < b2 then none else if b3 < 128 ∨ 191 < b3 then none else some (64 * (64 * (64 * v + b1 - 128) + b2 - 128) + b3 - 128)
theorem refTail_V (s : ByteArray) (k j : Nat) (v : Int) (h : j ≤ 3) : refTail s j k v = tailV (byteAt s k) (byteAt s (k + 1)) (byteAt s (k + 2)) j v := by
  rcases (show j = 0 ∨ j = 1 ∨ j = 2 ∨ j = 3 by omega) with rfl | rfl | rfl | rfl <;> rfl
def refN (n b0 b1 b2 b3 : Int) : Int × Int :=
  if b0 < 128 then (if n < 1 then (65533, 1) else (b0, 1)) else
  if 194 ≤ b0 ∧ b0 ≤ 223 then (if n < 2 then (65533, 1) else if b1 < 128 ∨ 191 < b1 then (65533, 1) else (64 * (b0 - 192) + b1 - 128, 2)) else
  if 224 ≤ b0 ∧ b0 ≤ 239 then (if n < 3 then (65533, 1) else if b1 < 128 ∨ 191 < b1 then (65533, 1) else if b2 < 128 ∨ 191 < b2 then (65533, 1) else
    if 64 * (64 * (b0 - 224) + b1 - 128) + b2 - 128 < 2048 ∨ 55296 ≤ 64 * (64 * (b0 - 224) + b1 - 128) + b2 - 128 ∧ 64 * (64 * (b0 - 224) + b1 - 128) + b2 - 128 < 57344 then (65533, 1) else (64 * (64 * (b0 - 224) + b1 - 128) + b2 - 128, 3)) else
  if 240 ≤ b0 ∧ b0 ≤ 244 then (if n < 4 then (65533, 1) else if b1 < 128 ∨ 191 < b1 then (65533, 1) else if b2 < 128 ∨ 191 < b2 then (65533, 1) else if b3 < 128 ∨ 191 < b3 then (65533, 1) else
    if 64 * (64 * (64 * (b0 - 240) + b1 - 128) + b2 - 128) + b3 - 128 < 65536 ∨ 1114111 < 64 * (64 * (64 * (b0 - 240) + b1 - 128) + b2 - 128) + b3 - 128 then (65533, 1) else (64 * (64 * (64 * (b0 - 240) + b1 - 128) + b2 - 128) + b3 - 128, 4)) else (65533, 1)
theorem refN_decodeN (n b0 b1 b2 b3 : Nat) (h0 : b0 < 256) (h1 : b1 < 256) (h2 : b2 < 256) (h3 : b3 < 256) (hn : 1 ≤ n) :
    refN n b0 b1 b2 b3 = (((decodeN n b0 b1 b2 b3).1 : Int), ((decodeN n b0 b1 b2 b3).2 : Int)) := by
  by_cases c1 : b0 < 128
  · have : ¬ (n : Int) < 1 := by omega
    simp [refN, decodeN, c1, show (b0 : Int) < 128 by omega, this]
  by_cases c2 : 194 ≤ b0 ∧ b0 ≤ 223
  · simp only [refN, decodeN, c1, show ¬ (b0 : Int) < 128 by omega, show (194 ≤ (b0 : Int) ∧ (b0 : Int) ≤ 223) by omega, if_false, if_true, and_self, show b0 / 32 = 6 by omega, true_and, show ¬ b0 / 16 = 14 by omega, show ¬ b0 / 8 = 30 by omega, false_and]
    repeat' split
    all_goals first | rfl | (exfalso; omega) | (apply Prod.ext <;> simp <;> omega)
  by_cases c3 : 224 ≤ b0 ∧ b0 ≤ 239
  · simp only [refN, decodeN, c1, show ¬ (b0 : Int) < 128 by omega, show ¬ (194 ≤ (b0 : Int) ∧ (b0 : Int) ≤ 223) by omega, show (224 ≤ (b0 : Int) ∧ (b0 : Int) ≤ 239) by omega, if_false, if_true, and_self, show ¬ b0 / 32 = 6 by omega, true_and, show b0 / 16 = 14 by omega, show ¬ b0 / 8 = 30 by omega, false_and]
    repeat' split
    all_goals first | rfl | (exfalso; omega) | (apply Prod.ext <;> simp <;> omega)
  by_cases c4 : 240 ≤ b0 ∧ b0 ≤ 244
  · simp only [refN, decodeN, c1, show ¬ (b0 : Int) < 128 by omega, show ¬ (194 ≤ (b0 : Int) ∧ (b0 : Int) ≤ 223) by omega, show ¬ (224 ≤ (b0 : Int) ∧ (b0 : Int) ≤ 239) by omega, show (240 ≤ (b0 : Int) ∧ (b0 : Int) ≤ 244) by omega, if_false, if_true, and_self, show ¬ b0 / 32 = 6 by omega, true_and, show ¬ b0 / 16 = 14 by omega, show b0 / 8 = 30 by omega, false_and]
    repeat' split
    all_goals first | rfl | (exfalso; omega) | (apply Prod.ext <;> simp <;> omega)
  · rw [show refN n b0 b1 b2 b3 = (65533, 1) by
      unfold refN
      rw [if_neg (by omega), if_neg (by omega), if_neg (by omega), if_neg (by omega)]]
    simp only [decodeN, c1, if_false, show ¬ b0 / 16 = 14 by omega, false_and]
    repeat' split
    all_goals first | rfl | (exfalso; omega)
theorem refNext_refN (s : ByteArray) (i : Nat) : refNext s i = refN ((s.size : Int) - i) (byteAt s i) (byteAt s (i + 1)) (byteAt s (i + 2)) (byteAt s (i + 3)) := by
  have hb := byteAt_bd s i
  have e2 : i + 1 + 1 = i + 2 := rfl
  have e3 : i + 1 + 2 = i + 3 := rfl
  unfold refNext
  generalize byteAt s i = b0 at *
  generalize (s.size : Int) - i = n
  by_cases c1 : b0 < 128
  · simp only [refWide, refN, c1, if_true]
    by_cases hn : n < 1
    · rw [if_pos (by omega), if_pos hn]
    · rw [if_neg (by omega), if_neg hn]
      have hh : refHead b0 1 = b0 := by simp [refHead]
      simp only [show (1 : Int).toNat - 1 = 0 from rfl, refTail, hh]
      rw [if_neg]
      simp [refBad]; omega
  by_cases c2 : 194 ≤ b0 ∧ b0 ≤ 223
  · simp only [refWide, refN, c1, if_false, c2, and_self, if_true]
    by_cases hn : n < 2
    · rw [if_pos (by omega), if_pos hn]
    · rw [if_neg (by omega), if_neg hn]
      rw [refTail_V _ _ _ _ (by decide), e2, e3]
      simp only [show (2 : Int).toNat - 1 = 1 from rfl, tailV, refHead, if_true]
      have hb1 := byteAt_bd s (i + 1)
      generalize byteAt s (i + 1) = b1 at *
      by_cases h1 : b1 < 128 ∨ 191 < b1
      · simp only [if_pos h1]
      · simp only [if_neg h1]
        rw [if_neg]; simp [refBad]; omega
  by_cases c3 : 224 ≤ b0 ∧ b0 ≤ 239
  · simp only [refWide, refN, c1, if_false, c2, c3, and_self, if_true]
    by_cases hn : n < 3
    · rw [if_pos (by omega), if_pos hn]
    · rw [if_neg (by omega), if_neg hn]
      rw [refTail_V _ _ _ _ (by decide), e2, e3]
      simp only [show (3 : Int).toNat - 1 = 2 from rfl, tailV, refHead, if_true]
      rw [if_neg (show ¬ (3 : Int) = 2 by decide)]
      have hb1 := byteAt_bd s (i + 1); have hb2 := byteAt_bd s (i + 2)
      generalize byteAt s (i + 1) = b1 at *
      generalize byteAt s (i + 2) = b2 at *
      by_cases h1 : b1 < 128 ∨ 191 < b1
      · simp only [if_pos h1]
      by_cases h2 : b2 < 128 ∨ 191 < b2
      · simp only [if_neg h1, if_pos h2]
      simp only [if_neg h1, if_neg h2]
      generalize hV : 64 * (64 * (b0 - 224) + b1 - 128) + b2 - 128 = V
      by_cases hc : V < 2048 ∨ 55296 ≤ V ∧ V < 57344
      · rw [if_pos hc, if_pos]; simp [refBad]; omega
      · rw [if_neg hc, if_neg]; simp [refBad]; omega
  by_cases c4 : 240 ≤ b0 ∧ b0 ≤ 244
  · simp only [refWide, refN, c1, if_false, c2, c3, c4, and_self, if_true]
    by_cases hn : n < 4
    · rw [if_pos (by omega), if_pos hn]
    · rw [if_neg (by omega), if_neg hn]
      rw [refTail_V _ _ _ _ (by decide), e2, e3]
      simp only [show (4 : Int).toNat - 1 = 3 from rfl, tailV, refHead, if_true]
      rw [if_neg (show ¬ (4 : Int) = 2 by decide), if_neg (show ¬ (4 : Int) = 3 by decide)]
      have hb1 := byteAt_bd s (i + 1); have hb2 := byteAt_bd s (i + 2); have hb3 := byteAt_bd s (i + 3)
      generalize byteAt s (i + 1) = b1 at *
      generalize byteAt s (i + 2) = b2 at *
      generalize byteAt s (i + 3) = b3 at *
      by_cases h1 : b1 < 128 ∨ 191 < b1
      · simp only [if_pos h1]
      by_cases h2 : b2 < 128 ∨ 191 < b2
      · simp only [if_neg h1, if_pos h2]
      by_cases h3 : b3 < 128 ∨ 191 < b3
      · simp only [if_neg h1, if_neg h2, if_pos h3]
      simp only [if_neg h1, if_neg h2, if_neg h3]
      generalize hV : 64 * (64 * (64 * (b0 - 240) + b1 - 128) + b2 - 128) + b3 - 128 = V
      by_cases hc : V < 65536 ∨ 1114111 < V
      · rw [if_pos hc, if_pos]; simp [refBad]; omega
      · rw [if_neg hc, if_neg]; simp [refBad]; omega
  · simp only [refWide, refN, c1, if_false, c2, c3, c4]
    simp
theorem refNext_eq (s : ByteArray) (i : Nat) (hi : i < s.size) : refNext s i = (((Utf8.decode s i).1 : Int), ((Utf8.decode s i).2 : Int)) := by
  rw [refNext_refN, decode_N, ← refN_decodeN _ _ _ _ _ (UInt8.toNat_lt _) (UInt8.toNat_lt _) (UInt8.toNat_lt _) (UInt8.toNat_lt _) (by have : s.data.toList.length = s.size := rfl; omega)]
  have : s.data.toList.length = s.size := rfl
  rw [this]
  unfold byteAt
  congr 1
  omega
end Go.Proofs.YtbdognlebkagpaaDoor
