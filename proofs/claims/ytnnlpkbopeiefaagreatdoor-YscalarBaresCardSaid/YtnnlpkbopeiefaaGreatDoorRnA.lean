import Derived.Test.YtnnlpkbopeiefaaGreatDoorBase
import Derived.Lib.TrimUEq
import Derived.Lib.RuneCountTail
import Derived.Lib.ValidU
/-! PLAIN: the rune at a place, texts that are UTF-8. No program. -/
namespace Go.Proofs.YtnnlpkbopeiefaaGreatDoor
open Go.RowKit
open Go.Lib
def refWide (c : Int) : Int := if c < 128 then 1 else if 194 ≤ c ∧ c ≤ 223 then 2 else if 224 ≤ c ∧ c ≤ 239 then 3 else if 240 ≤ c ∧ c ≤ 244 then 4 else 0
def byteAt (s : ByteArray) (k : Nat) : Int := ((s.data.toList.getD k 0).toNat : Int)
theorem byteAt_eq (s : ByteArray) (k : Nat) (h : k < s.size) : ((s[k]'h).toNat : Int) = byteAt s k := by
  unfold byteAt
  rw [List.getD_eq_getElem?_getD, Array.getElem?_toList, Array.getElem?_eq_getElem h]; rfl
theorem byteAt_bd (s : ByteArray) (k : Nat) : 0 ≤ byteAt s k ∧ byteAt s k ≤ 255 := by
  unfold byteAt; have := (s.data.toList.getD k 0).toNat_lt; omega
/-- The loop of the reference's Next: j bytes still to come, the next one at k. -/
def refTail (s : ByteArray) : Nat → Nat → Int → Option Int
  | 0, _, v => some v
  | j + 1, k, v => if byteAt s k < 128 ∨ 191 < byteAt s k then none else refTail s j (k + 1) (64 * v + byteAt s k - 128)
def refHead (b n : Int) : Int := if n = 2 then b - 192 else if n = 3 then b - 224 else if n = 4 then b - 240 else b
def refBad (n v : Int) : Bool := decide (n = 3 ∧ v < 2048 ∨ n = 4 ∧ v < 65536 ∨ 1114111 < v ∨ 55296 ≤ v ∧ v < 57344)
def refNext (s : ByteArray) (i : Nat) : Int × Int :=
  let n := refWide (byteAt s i)
  if n = 0 ∨ (s.size : Int) - i < n then (65533, 1) else
  match refTail s (n.toNat - 1) (i + 1) (refHead (byteAt s i) n) with
  | none => (65533, 1)
  | some v => if refBad n v then (65533, 1) else (v, n)
def bnd (j : Nat) : Int := if j ≤ 1 then 256 else if j = 2 then 16384 else if j = 3 then 1048576 else 67108864
theorem bnd_le (j : Nat) (h : j ≤ 3) : bnd j ≤ 1048576 := by unfold bnd; (repeat split) <;> omega
theorem bnd_step (j : Nat) (V b : Int) (hV : V < bnd j) (h1 : 1 ≤ j) (h3 : j ≤ 3) (hb : b ≤ 191) : 64 * V + b - 128 < bnd (j + 1) := by
  have : j = 1 ∨ j = 2 ∨ j = 3 := by omega
  rcases this with rfl | rfl | rfl <;> simp [bnd] at hV ⊢ <;> omega
theorem refWide_cases (c : Int) : refWide c = 0 ∨ refWide c = 1 ∨ refWide c = 2 ∨ refWide c = 3 ∨ refWide c = 4 := by
  unfold refWide; repeat' split
  all_goals omega
theorem refHead_bd (c n : Int) (h : refWide c = n) (h0 : 0 ≤ c) (h255 : c ≤ 255) : 0 ≤ refHead c n ∧ refHead c n < 256 := by
  subst h; unfold refHead refWide; (repeat split) <;> omega
def tailOf (s : ByteArray) (i : Nat) (n : Int) : Int × Int :=
  match refTail s (n.toNat - 1) (i + 1) (refHead (byteAt s i) n) with
  | none => (65533, 1)
  | some v => if refBad n v then (65533, 1) else (v, n)
theorem refHead_is (b n : Int) : (n = 1 → refHead b n = b) ∧ (n = 2 → refHead b n = b - 192) ∧ (n = 3 → refHead b n = b - 224) ∧ (n = 4 → refHead b n = b - 240) := by
  unfold refHead
  refine ⟨?_, ?_, ?_, ?_⟩ <;> rintro rfl <;> simp
/-- One step of the loop. -/
theorem refTail_more (s : ByteArray) (n : Int) (i j : Nat) (V : Int) (hj : (j : Int) < n) : refTail s (n.toNat - j) (i + j) V = if byteAt s (i + j) < 128 ∨ 191 < byteAt s (i + j) then none else refTail s (n.toNat - (j + 1)) (i + (j + 1)) (64 * V + byteAt s (i + j) - 128) := by
  rw [show n.toNat - j = (n.toNat - (j + 1)) + 1 by omega]; rfl
theorem tail_bad {s : ByteArray} {i j : Nat} {n V : Int} {R : Int × Int} (HR : Hid (tailOf s i n = R)) (HT : Hid (refTail s (n.toNat - 1) (i + 1) (refHead (byteAt s i) n) = refTail s (n.toNat - j) (i + j) V)) (hj : (j : Int) < n)
    (hlt : i + j < s.size) (hb : ((s[i + j]'hlt).toNat : Int) < 128 ∨ 191 < ((s[i + j]'hlt).toNat : Int)) : R = (65533, 1) := by
  rw [byteAt_eq] at hb
  have h := HT.out
  rw [refTail_more s n i j V hj, if_pos hb] at h
  rw [← HR.out, tailOf, h]
theorem tail_end {s : ByteArray} {i j : Nat} {n V : Int} {R : Int × Int} (HR : Hid (tailOf s i n = R)) (HT : Hid (refTail s (n.toNat - 1) (i + 1) (refHead (byteAt s i) n) = refTail s (n.toNat - j) (i + j) V)) (hj : n ≤ (j : Int)) :
    R = if refBad n V then (65533, 1) else (V, n) := by
  have h := HT.out
  rw [show n.toNat - j = 0 by omega] at h
  rw [← HR.out, tailOf, h]; rfl
theorem tail_next {s : ByteArray} {i j : Nat} {n V : Int} (HT : Hid (refTail s (n.toNat - 1) (i + 1) (refHead (byteAt s i) n) = refTail s (n.toNat - j) (i + j) V)) (hj : (j : Int) < n)
    (hlt : i + j < s.size) (h1 : 128 ≤ ((s[i + j]'hlt).toNat : Int)) (h2 : ((s[i + j]'hlt).toNat : Int) ≤ 191) : Hid (refTail s (n.toNat - 1) (i + 1) (refHead (byteAt s i) n) = refTail s (n.toNat - (j + 1)) (i + (j + 1)) (64 * V + ((s[i + j]'hlt).toNat : Int) - 128)) := by
  rw [byteAt_eq] at h1 h2 ⊢
  have h := HT.out
  rw [refTail_more s n i j V hj, if_neg (by omega)] at h
  exact h
theorem pair_ret {a b : Int} {R : Int × Int} (h : R = (a, b)) : Ending.returned (.tuple #[.int .i32 a, .int .i64 b]) = .returned (.tuple #[.int .i32 R.1, .int .i64 R.2]) := by subst h; rfl
def tailV (b1 b2 b3 : Int) : Nat → Int → Option Int
  | 0, v => some v
  | 1, v => if b1 < 128 ∨ 191 < b1 then none else some (64 * v + b1 - 128)
  | 2, v => if b1 < 128 ∨ 191 < b1 then none else if b2 < 128 ∨ 191 < b2 then none else some (64 * (64 * v + b1 - 128) + b2 - 128)
  | _, v => if b1 < 128 ∨ 191 < b1 then none else if b2 < 128 ∨ 191 < b2 then none else if b3 < 128 ∨ 191 < b3 then none else some (64 * (64 * (64 * v + b1 - 128) + b2 - 128) + b3 - 128)
theorem refTail_V (s : ByteArray) (k j : Nat) (v : Int) (h : j ≤ 3) : refTail s j k v = tailV (byteAt s k) (byteAt s (k + 1)) (byteAt s (k + 2)) j v := by
  rcases (show j = 0 ∨ j = 1 ∨ j = 2 ∨ j = 3 by omega) with rfl | rfl | rfl | rfl <;> rfl
def refN (n b0 b1 b2 b3 : Int) : Int × Int :=
  if b0 < 128 then (if n < 1 then (65533, 1) else (b0, 1)) else
  if 194 ≤ b0 ∧ b0 ≤ 223 then (if n < 2 then (65533, 1) else if b1 < 128 ∨ 191 < b1 then (65533, 1) else (64 * (b0 - 192) + b1 - 128, 2)) else
  if 224 ≤ b0 ∧ b0 ≤ 239 then (if n < 3 then (65533, 1) else if b1 < 128 ∨ 191 < b1 then (65533, 1) else if b2 < 128 ∨ 191 < b2 then (65533, 1) else
    if 64 * (64 * (b0 - 224) + b1 - 128) + b2 - 128 < 2048 ∨ 55296 ≤ 64 * (64 * (b0 - 224) + b1 - 128) + b2 - 128 ∧ 64 * (64 * (b0 - 224) + b1 - 128) + b2 - 128 < 57344 then (65533, 1) else (64 * (64 * (b0 - 224) + b1 - 128) + b2 - 128, 3)) else
  if 240 ≤ b0 ∧ b0 ≤ 244 then (if n < 4 then (65533, 1) else if b1 < 128 ∨ 191 < b1 then (65533, 1) else if b2 < 128 ∨ 191 < b2 then (65533, 1) else if b3 < 128 ∨ 191 < b3 then (65533, 1) else
    if 64 * (64 * (64 * (b0 - 240) + b1 - 128) + b2 - 128) + b3 - 128 < 65536 ∨ 1114111 < 64 * (64 * (64 * (b0 - 240) + b1 - 128) + b2 - 128) + b3 - 128 then (65533, 1) else (64 * (64 * (64 * (b0 - 240) + b1 - 128) + b2 - 128) + b3 - 128, 4)) else (65533, 1)
theorem refN_decodeN (n b0 b1 b2 b3 : Nat) (h0 : b0 < 256) (h1 : b1 < 256) (h2 : b2 < 256) (h3 : b3 < 256) (hn : 1 ≤ n) :
    refN n b0 b1 b2 b3 = (((decodeN n b0 b1 b2 b3).1 : Int), ((decodeN n b0 b1 b2 b3).2 : Int)) := by
  by_cases c1 : b0 < 128
  · have : ¬ (n : Int) < 1 := by omega
    simp [refN, decodeN, c1, show (b0 : Int) < 128 by omega, this]
  by_cases c2 : 194 ≤ b0 ∧ b0 ≤ 223
  · simp only [refN, decodeN, c1, show ¬ (b0 : Int) < 128 by omega, show (194 ≤ (b0 : Int) ∧ (b0 : Int) ≤ 223) by omega, if_false, if_true, and_self, show b0 / 32 = 6 by omega, true_and, show ¬ b0 / 16 = 14 by omega, show ¬ b0 / 8 = 30 by omega, false_and]
    repeat' split
    all_goals first | rfl | (exfalso; omega) | (apply Prod.ext <;> simp <;> omega)
  by_cases c3 : 224 ≤ b0 ∧ b0 ≤ 239
  · simp only [refN, decodeN, c1, show ¬ (b0 : Int) < 128 by omega, show ¬ (194 ≤ (b0 : Int) ∧ (b0 : Int) ≤ 223) by omega, show (224 ≤ (b0 : Int) ∧ (b0 : Int) ≤ 239) by omega, if_false, if_true, and_self, show ¬ b0 / 32 = 6 by omega, true_and, show b0 / 16 = 14 by omega, show ¬ b0 / 8 = 30 by omega, false_and]
    repeat' split
    all_goals first | rfl | (exfalso; omega) | (apply Prod.ext <;> simp <;> omega)
  by_cases c4 : 240 ≤ b0 ∧ b0 ≤ 244
  · simp only [refN, decodeN, c1, show ¬ (b0 : Int) < 128 by omega, show ¬ (194 ≤ (b0 : Int) ∧ (b0 : Int) ≤ 223) by omega, show ¬ (224 ≤ (b0 : Int) ∧ (b0 : Int) ≤ 239) by omega, show (240 ≤ (b0 : Int) ∧ (b0 : Int) ≤ 244) by omega, if_false, if_true, and_self, show ¬ b0 / 32 = 6 by omega, true_and, show ¬ b0 / 16 = 14 by omega, show b0 / 8 = 30 by omega, false_and]
    repeat' split
    all_goals first | rfl | (exfalso; omega) | (apply Prod.ext <;> simp <;> omega)
  · rw [show refN n b0 b1 b2 b3 = (65533, 1) by
      unfold refN
      rw [if_neg (by omega), if_neg (by omega), if_neg (by omega), if_neg (by omega)]]
    simp only [decodeN, c1, if_false, show ¬ b0 / 16 = 14 by omega, false_and]
    repeat' split
    all_goals first | rfl | (exfalso; omega)
theorem refNext_refN (s : ByteArray) (i : Nat) : refNext s i = refN ((s.size : Int) - i) (byteAt s i) (byteAt s (i + 1)) (byteAt s (i + 2)) (byteAt s (i + 3)) := by
  have hb := byteAt_bd s i
  have e2 : i + 1 + 1 = i + 2 := rfl
  have e3 : i + 1 + 2 = i + 3 := rfl
  unfold refNext
  generalize byteAt s i = b0 at *
  generalize (s.size : Int) - i = n
  by_cases c1 : b0 < 128
  · simp only [refWide, refN, c1, if_true]
    by_cases hn : n < 1
    · rw [if_pos (by omega), if_pos hn]
    · rw [if_neg (by omega), if_neg hn]
      have hh : refHead b0 1 = b0 := by simp [refHead]
      simp only [show (1 : Int).toNat - 1 = 0 from rfl, refTail, hh]
      rw [if_neg]
      simp [refBad]; omega
  by_cases c2 : 194 ≤ b0 ∧ b0 ≤ 223
  · simp only [refWide, refN, c1, if_false, c2, and_self, if_true]
    by_cases hn : n < 2
    · rw [if_pos (by omega), if_pos hn]
    · rw [if_neg (by omega), if_neg hn]
      rw [refTail_V _ _ _ _ (by decide), e2, e3]
      simp only [show (2 : Int).toNat - 1 = 1 from rfl, tailV, refHead, if_true]
      have hb1 := byteAt_bd s (i + 1)
      generalize byteAt s (i + 1) = b1 at *
      by_cases h1 : b1 < 128 ∨ 191 < b1
      · simp only [if_pos h1]
      · simp only [if_neg h1]
        rw [if_neg]; simp [refBad]; omega
  by_cases c3 : 224 ≤ b0 ∧ b0 ≤ 239
  · simp only [refWide, refN, c1, if_false, c2, c3, and_self, if_true]
    by_cases hn : n < 3
    · rw [if_pos (by omega), if_pos hn]
    · rw [if_neg (by omega), if_neg hn]
      rw [refTail_V _ _ _ _ (by decide), e2, e3]
      simp only [show (3 : Int).toNat - 1 = 2 from rfl, tailV, refHead, if_true]
      rw [if_neg (show ¬ (3 : Int) = 2 by decide)]
      have hb1 := byteAt_bd s (i + 1); have hb2 := byteAt_bd s (i + 2)
      generalize byteAt s (i + 1) = b1 at *
      generalize byteAt s (i + 2) = b2 at *
      by_cases h1 : b1 < 128 ∨ 191 < b1
      · simp only [if_pos h1]
      by_cases h2 : b2 < 128 ∨ 191 < b2
      · simp only [if_neg h1, if_pos h2]
      simp only [if_neg h1, if_neg h2]
      generalize hV : 64 * (64 * (b0 - 224) + b1 - 128) + b2 - 128 = V
      by_cases hc : V < 2048 ∨ 55296 ≤ V ∧ V < 57344
      · rw [if_pos hc, if_pos]; simp [refBad]; omega
      · rw [if_neg hc, if_neg]; simp [refBad]; omega
  by_cases c4 : 240 ≤ b0 ∧ b0 ≤ 244
  · simp only [refWide, refN, c1, if_false, c2, c3, c4, and_self, if_true]
    by_cases hn : n < 4
    · rw [if_pos (by omega), if_pos hn]
    · rw [if_neg (by omega), if_neg hn]
      rw [refTail_V _ _ _ _ (by decide), e2, e3]
      simp only [show (4 : Int).toNat - 1 = 3 from rfl, tailV, refHead, if_true]
      rw [if_neg (show ¬ (4 : Int) = 2 by decide), if_neg (show ¬ (4 : Int) = 3 by decide)]
      have hb1 := byteAt_bd s (i + 1); have hb2 := byteAt_bd s (i + 2); have hb3 := byteAt_bd s (i + 3)
      generalize byteAt s (i + 1) = b1 at *
      generalize byteAt s (i + 2) = b2 at *
      generalize byteAt s (i + 3) = b3 at *
      by_cases h1 : b1 < 128 ∨ 191 < b1
      · simp only [if_pos h1]
      by_cases h2 : b2 < 128 ∨ 191 < b2
      · simp only [if_neg h1, if_pos h2]
      by_cases h3 : b3 < 128 ∨ 191 < b3
      · simp only [if_neg h1, if_neg h2, if_pos h3]
      simp only [if_neg h1, if_neg h2, if_neg h3]
      generalize hV : 64 * (64 * (64 * (b0 - 240) + b1 - 128) + b2 - 128) + b3 - 128 = V
      by_cases hc : V < 65536 ∨ 1114111 < V
      · rw [if_pos hc, if_pos]; simp [refBad]; omega
      · rw [if_neg hc, if_neg]; simp [refBad]; omega
  · simp only [refWide, refN, c1, if_false, c2, c3, c4]
    simp
theorem refNext_eq (s : ByteArray) (i : Nat) (hi : i < s.size) : refNext s i = (((Utf8.decode s i).1 : Int), ((Utf8.decode s i).2 : Int)) := by
  rw [refNext_refN, decode_N, ← refN_decodeN _ _ _ _ _ (UInt8.toNat_lt _) (UInt8.toNat_lt _) (UInt8.toNat_lt _) (UInt8.toNat_lt _) (by have : s.data.toList.length = s.size := rfl; omega)]
  have : s.data.toList.length = s.size := rfl
  rw [this]
  unfold byteAt
  congr 1
  omega
def runeI (s : ByteArray) (i : Nat) : Int := ((Utf8.decode s i).1 : Int)
def widN (s : ByteArray) (i : Nat) : Nat := (Utf8.decode s i).2
theorem runeI_bd (s : ByteArray) (i : Nat) : 0 ≤ runeI s i ∧ runeI s i ≤ 1114111 := by
  unfold runeI; have := rune_le s i; omega
theorem decodeN_4 (n b0 b1 b2 b3 : Nat) (hn : 1 ≤ n) : (decodeN n b0 b1 b2 b3).2 ≤ 4 ∧ (decodeN n b0 b1 b2 b3).2 ≤ n := by
  unfold decodeN; repeat' split
  all_goals (simp only []; omega)
theorem widN_bd (s : ByteArray) (i : Nat) (hi : i < s.size) : 1 ≤ widN s i ∧ widN s i ≤ 4 ∧ i + widN s i ≤ s.size := by
  unfold widN
  have h1 := width_pos s i
  rw [decode_at] at *
  have := decodeN_4 (s.size - i) (s.get! i).toNat (s.get! (i + 1)).toNat (s.get! (i + 2)).toNat (s.get! (i + 3)).toNat (by omega)
  omega
def goodB (s : ByteArray) (i : Nat) : Bool := !(runeI s i == 65533 && ((widN s i : Nat) : Int) == 1)
theorem cell_lt {w : World} {b o : Nat} {v : Value} (h : w.cell? ⟨b, o, none⟩ = some v) : b < w.heap.size := World.block_lt_of_cell? w _ h
/-- Where the first rune begins that is none, from a place on. -/
def badFrom (s : ByteArray) : Nat → Nat → Option Nat
  | 0, _ => none
  | f + 1, pos => if pos < s.size then (if goodB s pos then badFrom s f (pos + widN s pos) else some pos) else none
def badAt (s : ByteArray) : Option Nat := badFrom s s.size 0
def validRes (s : ByteArray) : Int × Bool := match badAt s with | some p => (p, false) | none => (s.size, true)
theorem badFrom_end (s : ByteArray) (f pos : Nat) (h : s.size ≤ pos) : badFrom s f pos = none := by
  cases f
  · rfl
  · unfold badFrom; rw [if_neg (by omega)]
theorem badFrom_good (s : ByteArray) (f pos : Nat) (h : pos < s.size) (hg : goodB s pos = true) (hf : s.size ≤ f + pos) : ∃ g, badFrom s f pos = badFrom s g (pos + widN s pos) ∧ s.size ≤ g + (pos + widN s pos) := by
  obtain ⟨g, rfl⟩ : ∃ g, f = g + 1 := ⟨f - 1, by omega⟩
  have := widN_bd s pos h
  refine ⟨g, ?_, by omega⟩
  show (if pos < s.size then (if goodB s pos then badFrom s g (pos + widN s pos) else some pos) else none) = _
  rw [if_pos h, if_pos hg]
theorem badFrom_bad (s : ByteArray) (f pos : Nat) (h : pos < s.size) (hg : goodB s pos = false) (hf : s.size ≤ f + pos) : badFrom s f pos = some pos := by
  obtain ⟨g, rfl⟩ : ∃ g, f = g + 1 := ⟨f - 1, by omega⟩
  show (if pos < s.size then (if goodB s pos then badFrom s g (pos + widN s pos) else some pos) else none) = _
  rw [if_pos h, hg]; rfl
/-- A round's word: what is still to come. -/
def Bads (s : ByteArray) (pos : Nat) : Prop := ∃ f, badAt s = badFrom s f pos ∧ s.size ≤ f + pos
theorem Bads.zero (s : ByteArray) : Bads s 0 := ⟨s.size, rfl, by omega⟩
theorem Bads.next {s : ByteArray} {pos : Nat} (h : Bads s pos) (hp : pos < s.size) (hg : goodB s pos = true) : Bads s (pos + widN s pos) := by
  obtain ⟨f, h1, h2⟩ := h
  obtain ⟨g, h3, h4⟩ := badFrom_good s f pos hp hg h2
  exact ⟨g, h1.trans h3, h4⟩
theorem Bads.bad {s : ByteArray} {pos : Nat} (h : Bads s pos) (hp : pos < s.size) (hg : goodB s pos = false) : validRes s = ((pos : Int), false) := by
  obtain ⟨f, h1, h2⟩ := h
  unfold validRes; rw [h1, badFrom_bad s f pos hp hg h2]
theorem Bads.fin {s : ByteArray} {pos : Nat} (h : Bads s pos) (hp : s.size ≤ pos) : validRes s = ((s.size : Int), true) := by
  obtain ⟨f, h1, h2⟩ := h
  unfold validRes; rw [h1, badFrom_end s f pos hp]
theorem decodeL_drop (s : ByteArray) (pos : Nat) : decodeL (s.data.toList.drop pos) = Utf8.decode s pos := by
  rw [decodeL_N, decode_N]
  simp only [List.length_drop, List.getD_eq_getElem?_getD, List.getElem?_drop, Nat.add_zero]
theorem goodB_iff (s : ByteArray) (pos : Nat) : goodB s pos = decide (¬ ((Utf8.decode s pos).1 = 65533 ∧ (Utf8.decode s pos).2 = 1)) := by
  unfold goodB runeI widN
  rw [Bool.eq_iff_iff]
  simp
  omega
theorem validGo_badFrom (s : ByteArray) : ∀ f pos, s.size ≤ f + pos → validGoD f (s.data.toList.drop pos) = (badFrom s f pos).isNone
  | 0, pos, h => by simp [validGoD, badFrom]
  | f + 1, pos, h => by
    have hl : s.data.toList.length = s.size := rfl
    unfold validGoD badFrom
    by_cases hp : pos < s.size
    · have hne : ¬ (s.data.toList.drop pos = []) := by rw [List.drop_eq_nil_iff]; omega
      have hw := widN_bd s pos hp
      rw [if_neg hne, if_pos hp, decodeL_drop, goodB_iff]
      by_cases hb : (Utf8.decode s pos).1 = 65533 ∧ (Utf8.decode s pos).2 = 1
      · rw [if_pos hb]; simp [hb]
      · rw [if_neg hb, List.drop_drop]
        have ih := validGo_badFrom s f (pos + widN s pos) (by omega)
        unfold widN at ih hw ⊢
        rw [ih, decide_eq_true hb]; rfl
    · have hne : s.data.toList.drop pos = [] := by rw [List.drop_eq_nil_iff]; omega
      rw [if_pos hne, if_neg hp]; rfl
theorem validD_bad (s : ByteArray) : Lib.validD s.data.toList = (badAt s).isNone := by
  unfold Lib.validD badAt
  have := validGo_badFrom s s.size 0 (by omega)
  simpa using this
theorem validRes_yes {s : ByteArray} (h : Lib.validD s.data.toList = true) : validRes s = ((s.size : Int), true) := by
  rw [validD_bad, Option.isNone_iff_eq_none] at h
  unfold validRes; rw [h]
theorem ret_vb {R : Int × Bool} {a : Int} {b : Bool} (h : R = (a, b)) : Ending.returned (.tuple #[.int .i64 a, .bool b]) = .returned (.tuple #[.int .i64 R.1, .bool R.2]) := by subst h; rfl
theorem goodB_rune {s : ByteArray} {pos : Nat} (h : runeI s pos ≠ 65533) : goodB s pos = true := by
  unfold goodB; rw [beq_eq_false_iff_ne.2 h]; rfl
theorem goodB_wide {s : ByteArray} {pos : Nat} (h : widN s pos ≠ 1) : goodB s pos = true := by
  unfold goodB; rw [show (((widN s pos : Nat) : Int) == 1) = false from beq_eq_false_iff_ne.2 (by omega)]; simp
theorem goodB_no {s : ByteArray} {pos : Nat} (h : runeI s pos = 65533) (h1 : widN s pos = 1) : goodB s pos = false := by
  unfold goodB; rw [h, h1]; rfl
theorem cell_it {w : World} {k : Nat} {o : Obj} (h : w.heap[k]? = some o) : k < w.heap.size := (Array.getElem?_eq_some_iff.1 h).1
end Go.Proofs.YtnnlpkbopeiefaaGreatDoor
