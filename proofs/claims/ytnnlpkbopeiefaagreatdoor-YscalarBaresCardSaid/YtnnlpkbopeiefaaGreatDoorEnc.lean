import Derived.Test.YtnnlpkbopeiefaaGreatDoorRnA
import Derived.Test.YtnnlpkbopeiefaaGreatDoorNumA
import Derived.Lib.RuneBytes
/-! PLAIN: runes as bytes. -/
namespace Go.Proofs.YtnnlpkbopeiefaaGreatDoor
set_option linter.unusedSimpArgs false
set_option linter.unusedVariables false
open Go.Lib
theorem encode_rune (r : Int) : (Utf8.encode r).data.toList = Lib.encodeRune r := by
  unfold Lib.encodeRune
  by_cases hv : Utf8.valid r = true
  · have hv' := hv
    simp [Utf8.valid] at hv'
    obtain ⟨m, rfl⟩ : ∃ m : Nat, r = m := ⟨r.toNat, by omega⟩
    unfold Utf8.encode
    simp only [hv, if_true, Int.toNat_natCast]
    by_cases h1 : m < 128
    · rw [Lib.encodeRuneZ_one (by omega) (by omega), if_pos h1]; rfl
    rw [if_neg h1]
    by_cases h2 : m < 2048
    · rw [Lib.encodeRuneZ_two (by omega) (by omega), if_pos h2]
      simp only [List.map_cons, List.map_nil]
      rw [show (192 + (m : Int) / 64).toNat = 192 + m / 64 by omega, show (128 + (m : Int) % 64).toNat = 128 + m % 64 by omega]
    rw [if_neg h2]
    by_cases h3 : m < 65536
    · rw [Lib.encodeRuneZ_three (by omega), if_pos h3]
      simp only [List.map_cons, List.map_nil]
      rw [show (224 + (m : Int) / 4096).toNat = 224 + m / 4096 by omega, show (128 + (m : Int) / 64 % 64).toNat = 128 + m / 64 % 64 by omega, show (128 + (m : Int) % 64).toNat = 128 + m % 64 by omega]
    have e4 : Lib.encodeRuneZ (m : Int) = [240 + (m : Int) / 262144, 128 + (m : Int) / 4096 % 64, 128 + (m : Int) / 64 % 64, 128 + (m : Int) % 64] := by
      unfold Lib.encodeRuneZ
      rw [if_neg (by omega), if_neg (by omega), if_neg (by omega), if_pos (by omega)]
    rw [if_neg h3, e4]
    simp only [List.map_cons, List.map_nil]
    rw [show (240 + (m : Int) / 262144).toNat = 240 + m / 262144 by omega, show (128 + (m : Int) / 4096 % 64).toNat = 128 + m / 4096 % 64 by omega, show (128 + (m : Int) / 64 % 64).toNat = 128 + m / 64 % 64 by omega, show (128 + (m : Int) % 64).toNat = 128 + m % 64 by omega]
  · have hv' := hv
    simp [Utf8.valid] at hv'
    have e : Utf8.valid r = false := by simpa using hv
    have e5 : Lib.encodeRuneZ r = [239, 191, 189] := by
      unfold Lib.encodeRuneZ
      rw [if_neg (by omega), if_neg (by omega), if_neg (by omega), if_neg (by omega)]
    rw [e5]
    unfold Utf8.encode
    simp only [e, Utf8.runeError, Bool.false_eq_true, if_false]
    decide
/-- A rune beyond ASCII: its bytes, the last of which is none of ASCII's. -/
theorem enc_far (r : Int) (h1 : 128 ≤ r) (h2 : r ≤ 1114111) (h3 : r < 55296 ∨ 57343 < r) :
    ∃ n, (2 ≤ n ∧ n ≤ 4) ∧ (Utf8.encode r).size = n ∧ ∀ h : n - 1 < (Utf8.encode r).size, 128 ≤ ((Utf8.encode r)[n - 1]'h).toNat := by
  have he := encode_rune r
  have hx : ∀ x : Int, 0 ≤ x → (128 + x % 64).toNat.toUInt8.toNat = (128 + x % 64).toNat := fun x hx => by
    rw [show (128 + x % 64).toNat.toUInt8 = UInt8.ofNat (128 + x % 64).toNat from rfl, UInt8.toNat_ofNat']
    exact Nat.mod_eq_of_lt (by omega)
  have key : ∀ (l : List UInt8) (n : Nat), (Utf8.encode r).data.toList = l → l.length = n → (∀ c, l[n - 1]? = some c → 128 ≤ c.toNat) → (Utf8.encode r).size = n ∧ ∀ h : n - 1 < (Utf8.encode r).size, 128 ≤ ((Utf8.encode r)[n - 1]'h).toNat := by
    intro l n hl hn hc
    have hs : (Utf8.encode r).size = n := by rw [← hn, ← hl]; rfl
    refine ⟨hs, fun h => hc _ ?_⟩
    have hd : n - 1 < (Utf8.encode r).data.size := h
    rw [← hl, Array.getElem?_toList, Array.getElem?_eq_getElem hd]; rfl
  by_cases g2 : r ≤ 2047
  · refine ⟨2, by omega, key _ 2 he ?_ ?_⟩
    · unfold Lib.encodeRune; rw [Lib.encodeRuneZ_two h1 g2]; rfl
    · unfold Lib.encodeRune; rw [Lib.encodeRuneZ_two h1 g2]
      intro c hc
      simp only [List.map_cons, List.map_nil] at hc
      have : c = (128 + r % 64).toNat.toUInt8 := by simpa using hc.symm
      rw [this, hx r (by omega)]; omega
  by_cases g3 : r ≤ 65535
  · refine ⟨3, by omega, key _ 3 he ?_ ?_⟩
    · unfold Lib.encodeRune; rw [Lib.encodeRuneZ_three (by omega)]; rfl
    · unfold Lib.encodeRune; rw [Lib.encodeRuneZ_three (by omega)]
      intro c hc
      simp only [List.map_cons, List.map_nil] at hc
      have : c = (128 + r % 64).toNat.toUInt8 := by simpa using hc.symm
      rw [this, hx r (by omega)]; omega
  · have e4 : Lib.encodeRuneZ r = [240 + r / 262144, 128 + r / 4096 % 64, 128 + r / 64 % 64, 128 + r % 64] := by
      unfold Lib.encodeRuneZ
      rw [if_neg (by omega), if_neg (by omega), if_neg (by omega), if_pos (by omega)]
    refine ⟨4, by omega, key _ 4 he ?_ ?_⟩
    · unfold Lib.encodeRune; rw [e4]; rfl
    · unfold Lib.encodeRune; rw [e4]
      intro c hc
      simp only [List.map_cons, List.map_nil] at hc
      have : c = (128 + r % 64).toNat.toUInt8 := by simpa using hc.symm
      rw [this, hx r (by omega)]; omega
end Go.Proofs.YtnnlpkbopeiefaaGreatDoor
