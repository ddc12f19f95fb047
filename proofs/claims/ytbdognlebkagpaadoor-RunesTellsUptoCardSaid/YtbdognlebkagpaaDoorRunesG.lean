import Derived.Test.YtbdognlebkagpaaDoorRunesF
import Derived.Lib.LastIndexByte
namespace Go.Proofs.YtbdognlebkagpaaDoor
open Go.RowKit
open Go.Lib hiding intOf

/-! PLAIN: lines, their beginnings, columns. -/
def nls (l : List UInt8) : Nat := l.count 10
def startOf : List UInt8 → Nat → Nat → Nat → Nat
  | [], k, _, _ => k
  | c :: t, k, pos, q => if q ≤ pos then k else if c = 10 then startOf t (pos + 1) (pos + 1) q else startOf t k (pos + 1) q
def scanL : List (Nat × Nat) → Nat → Nat × Nat
  | [], _ => (0, 0)
  | x :: t, q => if t ≠ [] ∧ x.2 ≤ q then ((scanL t q).1 + 1, (scanL t q).2) else (0, x.1)
theorem linesL_ne (l : List UInt8) (k pos : Nat) : linesL l k pos ≠ [] := by
  intro h; have := (linesL_len l k pos).2; rw [h] at this; simp at this
theorem scanL_none : ∀ (l : List UInt8) (k pos q : Nat), q < pos → scanL (linesL l k pos) q = (0, k)
  | [], k, pos, q, _ => by simp [linesL, scanL]
  | c :: t, k, pos, q, h => by
    unfold linesL
    split
    · rw [scanL, if_neg (by simp only []; omega)]
    · exact scanL_none t k (pos + 1) q (by omega)
theorem scanL_lines : ∀ (l : List UInt8) (k pos q : Nat), pos ≤ q → scanL (linesL l k pos) q = (nls (l.take (q - pos)), startOf l k pos q)
  | [], k, pos, q, _ => by simp [linesL, scanL, nls, startOf]
  | c :: t, k, pos, q, h => by
    by_cases he : q = pos
    · subst he
      rw [startOf, if_pos (Nat.le_refl _), Nat.sub_self, List.take_zero]
      unfold linesL
      split
      · rw [scanL, if_neg (by simp only []; omega)]; rfl
      · exact scanL_none t k (q + 1) q (by omega)
    · have e1 : q - pos = (q - (pos + 1)) + 1 := by omega
      rw [startOf, if_neg (by omega), e1, List.take_succ_cons]
      unfold linesL
      split
      · rename_i hc
        rw [scanL, if_pos ⟨linesL_ne _ _ _, by simp only []; omega⟩, scanL_lines t (pos + 1) (pos + 1) q (by omega)]
        subst hc
        simp [nls]
      · rename_i hc
        rw [scanL_lines t k (pos + 1) q (by omega)]
        simp [nls, hc]
theorem startOf_char : ∀ (l : List UInt8) (k pos q : Nat), q ≤ pos + l.length → (startOf l k pos q = k ∨ (pos < startOf l k pos q ∧ startOf l k pos q ≤ q ∧ l[startOf l k pos q - 1 - pos]? = some 10)) ∧ ∀ j, pos ≤ j → startOf l k pos q ≤ j → j < q → l[j - pos]? ≠ some 10
  | [], k, pos, q, h => by
    refine ⟨.inl rfl, fun j h1 _ h3 => ?_⟩
    simp at h; omega
  | c :: t, k, pos, q, h => by
    unfold startOf
    by_cases hq : q ≤ pos
    · rw [if_pos hq]; exact ⟨.inl rfl, fun j h1 _ h3 => by omega⟩
    rw [if_neg hq]
    have hl : q ≤ pos + 1 + t.length := by simp at h; omega
    by_cases hc : c = 10
    · rw [if_pos hc]
      obtain ⟨h1, h2⟩ := startOf_char t (pos + 1) (pos + 1) q hl
      generalize startOf t (pos + 1) (pos + 1) q = r at *
      have hr : pos < r := by omega
      refine ⟨.inr ⟨hr, by omega, ?_⟩, fun j hj1 hj2 hj3 => ?_⟩
      · rcases h1 with h1 | ⟨h1, _, h3⟩
        · subst h1; simp [hc]
        · rw [show r - 1 - pos = (r - 1 - (pos + 1)) + 1 by omega, List.getElem?_cons_succ]; exact h3
      · rw [show j - pos = (j - (pos + 1)) + 1 by omega, List.getElem?_cons_succ]; exact h2 j (by omega) hj2 hj3
    · rw [if_neg hc]
      obtain ⟨h1, h2⟩ := startOf_char t k (pos + 1) q hl
      generalize startOf t k (pos + 1) q = r at *
      refine ⟨?_, fun j hj1 hj2 hj3 => ?_⟩
      · rcases h1 with h1 | ⟨h1, h3, h4⟩
        · exact .inl h1
        · refine .inr ⟨by omega, h3, ?_⟩
          rw [show r - 1 - pos = (r - 1 - (pos + 1)) + 1 by omega, List.getElem?_cons_succ]; exact h4
      · by_cases hjp : j = pos
        · subst hjp; simp [hc]
        · rw [show j - pos = (j - (pos + 1)) + 1 by omega, List.getElem?_cons_succ]; exact h2 j (by omega) hj2 hj3
/-- Where the line of a place begins. -/
def lineStart (s : ByteArray) (q : Nat) : Nat := startOf s.data.toList 0 0 q
theorem lineStart_char (s : ByteArray) (q : Nat) (hq : q ≤ s.size) : lineStart s q ≤ q ∧ (lineStart s q = 0 ∨ s.data.toList[lineStart s q - 1]? = some 10) ∧ ∀ j, lineStart s q ≤ j → j < q → s.data.toList[j]? ≠ some 10 := by
  have hl : s.data.toList.length = s.size := rfl
  obtain ⟨h1, h2⟩ := startOf_char s.data.toList 0 0 q (by omega)
  unfold lineStart
  generalize startOf s.data.toList 0 0 q = r at *
  refine ⟨by omega, ?_, fun j hj hq => h2 j (by omega) hj hq⟩
  rcases h1 with h1 | ⟨_, _, h3⟩
  · exact .inl h1
  · exact .inr h3
theorem getE_ten (s : ByteArray) (i j : Nat) (hij : i < j) (hj : j ≤ s.size) : (((s.extract 0 j).data[i]!).toNat : Int) = 10 ↔ s.data.toList[i]? = some 10 := by
  have hs : i < s.data.size := by have : s.data.size = s.size := rfl; omega
  have h1 : (s.extract 0 j).data[i]! = s.data[i] := by
    have hz : i < (s.extract 0 j).data.size := by
      have h2 : (s.extract 0 j).data.size = (s.extract 0 j).size := rfl
      rw [h2, ByteArray.size_extract]; omega
    rw [getElem!_pos _ i hz]
    simp [ByteArray.data_extract]
  rw [h1, Array.getElem?_toList, Array.getElem?_eq_getElem hs]
  constructor
  · intro h; congr 1; apply UInt8.toNat_inj.1; rw [show (10 : UInt8).toNat = 10 from rfl]; omega
  · intro h; rw [Option.some.inj h]; rfl
theorem lastIdx_start (s : ByteArray) (q : Nat) (hq : q ≤ s.size) : Lib.lastIndexByte (s.extract 0 q) 10 + 1 = (lineStart s q : Int) := by
  obtain ⟨h1, h2, h3⟩ := lineStart_char s q hq
  have hz : (s.extract 0 q).size = q := by rw [ByteArray.size_extract]; omega
  have hsp := Lib.lastIdx_spec (s.extract 0 q) 10 q
  unfold Lib.lastIndexByte
  rw [hz]
  generalize lineStart s q = r at *
  rcases hsp with ⟨e, hn⟩ | ⟨i, hi, e, hten, hn⟩
  · rw [e]
    rcases h2 with h2 | h2
    · omega
    · rcases Nat.eq_zero_or_pos r with h0 | h0
      · omega
      · exact absurd ((getE_ten s (r - 1) q (by omega) hq).2 h2) (hn (r - 1) (by omega))
  · rw [e]
    rw [getE_ten s i q hi hq] at hten
    have hr : i + 1 = r := by
      rcases Nat.lt_trichotomy (i + 1) r with hlt | heq | hgt
      · have h0 : r ≠ 0 := by omega
        rcases h2 with h2 | h2
        · omega
        · exact absurd ((getE_ten s (r - 1) q (by omega) hq).2 h2) (hn (r - 1) (by omega) (by omega))
      · exact heq
      · exact absurd hten (h3 i (by omega) hi)
    omega

/-- How many runes from a place on end at q or ahead of it. -/
def colFrom (s : ByteArray) (q : Nat) : Nat → Nat → Nat
  | 0, _ => 0
  | f + 1, pos => if pos < s.size ∧ pos + widN s pos ≤ q then colFrom s q f (pos + widN s pos) + 1 else 0
def colOf (s : ByteArray) (q : Nat) : Nat := colFrom s q s.size (lineStart s q) + 1
theorem colFrom_hit (s : ByteArray) (q f pos : Nat) (h : pos < s.size) (hq : pos + widN s pos ≤ q) (hf : s.size ≤ f + pos) : ∃ g, colFrom s q f pos = colFrom s q g (pos + widN s pos) + 1 ∧ s.size ≤ g + (pos + widN s pos) := by
  obtain ⟨g, rfl⟩ : ∃ g, f = g + 1 := ⟨f - 1, by omega⟩
  have := widN_bd s pos h
  refine ⟨g, ?_, by omega⟩
  rw [colFrom, if_pos ⟨h, hq⟩]
theorem colFrom_stop (s : ByteArray) (q f pos : Nat) (h : s.size ≤ pos ∨ q < pos + widN s pos) : colFrom s q f pos = 0 := by
  cases f
  · rfl
  · rw [colFrom, if_neg (by omega)]
/-- A round's word. -/
def Cols (s : ByteArray) (q c pos : Nat) : Prop := ∃ f, colOf s q = c + colFrom s q f pos ∧ s.size ≤ f + pos
theorem Cols.zero (s : ByteArray) (q : Nat) : Cols s q 1 (lineStart s q) := ⟨s.size, by unfold colOf; omega, by omega⟩
theorem Cols.next {s : ByteArray} {q c pos : Nat} (h : Cols s q c pos) (hp : pos < s.size) (hq : pos + widN s pos ≤ q) : Cols s q (c + 1) (pos + widN s pos) := by
  obtain ⟨f, h1, h2⟩ := h
  obtain ⟨g, h3, h4⟩ := colFrom_hit s q f pos hp hq h2
  exact ⟨g, by omega, h4⟩
theorem Cols.fin {s : ByteArray} {q c pos : Nat} (h : Cols s q c pos) (hq : s.size ≤ pos ∨ q < pos + widN s pos) : colOf s q = c := by
  obtain ⟨f, h1, h2⟩ := h
  rw [colFrom_stop s q f pos hq] at h1; exact h1

/-- A good rune's bytes. -/
theorem runeLen_wid (s : ByteArray) (i : Nat) (h : goodB s i = true) : Lib.runeLen (runeI s i) = (widN s i : Int) := by
  rw [goodB_iff] at h
  have h := of_decide_eq_true h
  unfold runeI widN
  rw [decode_N] at *
  revert h
  generalize (s.data.toList.getD i 0).toNat = b0
  generalize (s.data.toList.getD (i + 1) 0).toNat = b1
  generalize (s.data.toList.getD (i + 2) 0).toNat = b2
  generalize (s.data.toList.getD (i + 3) 0).toNat = b3
  generalize s.data.toList.length - i = n
  unfold decodeN
  repeat' split
  all_goals intro h
  all_goals first | (exfalso; exact h ⟨rfl, rfl⟩) | skip
  all_goals
    unfold Lib.runeLen
    simp only []
    repeat' split
    all_goals first | rfl | omega
end Go.Proofs.YtbdognlebkagpaaDoor
