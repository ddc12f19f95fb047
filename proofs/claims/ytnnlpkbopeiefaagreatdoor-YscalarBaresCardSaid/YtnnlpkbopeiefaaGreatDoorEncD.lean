import Derived.Lib.MapLaws
import Derived.Lib.ValidLaws
import Derived.Lib.RuneBytes
import Derived.Lib.TrimAscii
/-! PLAIN: what a rune's bytes decode to, whatever follows; valid texts one behind another. -/
namespace Go.Proofs.YtnnlpkbopeiefaaGreatDoor
set_option linter.unusedSimpArgs false
set_option linter.unusedVariables false
open Go.Lib
theorem byte_toNat (x : Int) (h0 : 0 ≤ x) (h1 : x < 256) : x.toNat.toUInt8.toNat = x.toNat := by
  rw [show x.toNat.toUInt8 = UInt8.ofNat x.toNat from rfl, UInt8.toNat_ofNat']
  exact Nat.mod_eq_of_lt (by omega)
def okRune (r : Int) : Prop := 0 ≤ r ∧ r ≤ 1114111 ∧ (r < 55296 ∨ 57343 < r)
/-- A rune's bytes decode to it, whatever follows. -/
theorem decode_encode (r : Int) (h : okRune r) (t : List UInt8) : decodeL (encodeRune r ++ t) = (r.toNat, (encodeRune r).length) := by
  obtain ⟨h0, h1, h2⟩ := h
  rw [decodeL_N]
  unfold encodeRune
  by_cases g1 : r ≤ 127
  · rw [encodeRuneZ_one h0 g1]
    simp only [List.map_cons, List.map_nil, List.length_cons, List.length_nil, List.cons_append, List.nil_append, List.getD_cons_zero]
    rw [byte_toNat r h0 (by omega)]
    unfold decodeN
    rw [if_pos (by omega)]
  by_cases g2 : r ≤ 2047
  · rw [encodeRuneZ_two (by omega) g2]
    simp only [List.map_cons, List.map_nil, List.length_cons, List.length_nil, List.cons_append, List.nil_append, List.getD_cons_zero, List.getD_cons_succ]
    rw [byte_toNat _ (by omega) (by omega), byte_toNat (128 + r % 64) (by omega) (by omega)]
    unfold decodeN
    rw [if_neg (by omega), if_pos ⟨by omega, by omega, by omega⟩, if_pos (by omega)]
    congr 1
    omega
  by_cases g3 : r ≤ 65535
  · rw [encodeRuneZ_three (by omega)]
    simp only [List.map_cons, List.map_nil, List.length_cons, List.length_nil, List.cons_append, List.nil_append, List.getD_cons_zero, List.getD_cons_succ]
    rw [byte_toNat _ (by omega) (by omega), byte_toNat (128 + r / 64 % 64) (by omega) (by omega), byte_toNat (128 + r % 64) (by omega) (by omega)]
    unfold decodeN
    rw [if_neg (by omega), if_neg (by omega), if_pos ⟨by omega, ⟨by omega, by omega⟩, by omega, by omega⟩, if_pos ⟨by omega, by omega⟩]
    congr 1
    omega
  · rw [encodeRuneZ_four (by omega) h1]
    simp only [List.map_cons, List.map_nil, List.length_cons, List.length_nil, List.cons_append, List.nil_append, List.getD_cons_zero, List.getD_cons_succ]
    rw [byte_toNat _ (by omega) (by omega), byte_toNat (128 + r / 4096 % 64) (by omega) (by omega), byte_toNat (128 + r / 64 % 64) (by omega) (by omega), byte_toNat (128 + r % 64) (by omega) (by omega)]
    unfold decodeN
    rw [if_neg (by omega), if_neg (by omega), if_neg (by omega), if_pos ⟨by omega, ⟨by omega, by omega⟩, ⟨by omega, by omega⟩, by omega, by omega⟩, if_pos ⟨by omega, by omega⟩]
    congr 1
    omega
theorem encode_len (r : Int) (h : okRune r) (hr : 128 ≤ r) : 2 ≤ (encodeRune r).length := by
  obtain ⟨h0, h1, h2⟩ := h
  unfold encodeRune
  rw [List.length_map]
  by_cases g2 : r ≤ 2047
  · rw [encodeRuneZ_two (by omega) g2]; simp
  by_cases g3 : r ≤ 65535
  · rw [encodeRuneZ_three (by omega)]; simp
  · rw [encodeRuneZ_four (by omega) h1]; simp
theorem encode_high (r : Int) (h : okRune r) (hr : 128 ≤ r) : ∀ c ∈ encodeRune r, 128 ≤ c.toNat := by
  obtain ⟨h0, h1, h2⟩ := h
  have key : ∀ l : List Int, (∀ x ∈ l, 128 ≤ x ∧ x < 256) → ∀ c ∈ l.map (fun x => x.toNat.toUInt8), 128 ≤ c.toNat := by
    intro l hl c hc
    obtain ⟨x, hx, rfl⟩ := List.mem_map.1 hc
    have := hl x hx
    rw [byte_toNat x (by omega) (by omega)]
    omega
  refine key _ ?_
  by_cases g2 : r ≤ 2047
  · rw [encodeRuneZ_two (by omega) g2]
    intro x hx
    simp only [List.mem_cons, List.not_mem_nil, or_false] at hx
    omega
  by_cases g3 : r ≤ 65535
  · rw [encodeRuneZ_three (by omega)]
    intro x hx
    simp only [List.mem_cons, List.not_mem_nil, or_false] at hx
    omega
  · rw [encodeRuneZ_four (by omega) h1]
    intro x hx
    simp only [List.mem_cons, List.not_mem_nil, or_false] at hx
    omega
theorem decode_okRune (l : List UInt8) : okRune ((decodeL l).1 : Int) := by
  rw [decodeL_N]
  have k0 := (l.getD 0 0).toNat_lt
  rcases decodeN_shape l.length (l.getD 0 0).toNat (l.getD 1 0).toNat (l.getD 2 0).toNat (l.getD 3 0).toNat with ⟨c, e⟩ | ⟨c1, c2, c3, cv, e⟩ | ⟨c1, c2, c3, c4, cv, cs, e⟩ | ⟨c1, c2, c3, c4, c5, cv, cw, e⟩ | e
  all_goals
    rw [e]
    unfold okRune
    dsimp only
    omega
theorem encode_ne (r : Int) : encodeRune r ≠ [] := by
  intro h
  have := (encodeRuneZ_length r).1
  unfold encodeRune at h
  rw [List.map_eq_nil_iff] at h
  rw [h] at this
  simp at this
theorem encode_one (c : UInt8) (h : c.toNat < 128) : encodeRune (c.toNat : Int) = [c] := by
  unfold encodeRune
  rw [encodeRuneZ_one (by omega) (by omega)]
  simp
/-- A valid text begins with a rune's bytes; the rest is valid. -/
theorem valid_cut (l : List UInt8) (hne : l ≠ []) (h : validD l = true) : ∃ r t, okRune r ∧ l = encodeRune r ++ t ∧ validD t = true ∧ decodeL l = (r.toNat, (encodeRune r).length) := by
  rw [validD_step l hne] at h
  by_cases hb : (decodeL l).1 = 65533 ∧ (decodeL l).2 = 1
  · rw [if_pos hb] at h; cases h
  · rw [if_neg hb] at h
    have he := encode_decode l hne hb
    have hle := decodeL_le l hne
    refine ⟨((decodeL l).1 : Int), l.drop (decodeL l).2, decode_okRune l, by rw [he, List.take_append_drop], h, ?_⟩
    rw [he, List.length_take, Int.toNat_natCast, Nat.min_eq_left hle]
theorem validD_rune (r : Int) (h : okRune r) (t : List UInt8) : validD (encodeRune r ++ t) = validD t := by
  rw [validD_step _ (by simp [encode_ne]), decode_encode r h t, if_neg, List.drop_left]
  rintro ⟨a, b⟩
  simp only at a b
  have h0 := h.1
  have := encode_len r h (by omega)
  omega
theorem validD_app (s t : List UInt8) (hs : validD s = true) : validD (s ++ t) = validD t := by
  obtain ⟨n, hn⟩ : ∃ n, s.length ≤ n := ⟨_, Nat.le_refl _⟩
  induction n generalizing s with
  | zero =>
    obtain rfl : s = [] := List.eq_nil_of_length_eq_zero (by omega)
    rfl
  | succ n ih =>
    by_cases hne : s = []
    · subst hne; rfl
    · obtain ⟨r, u, hr, rfl, hu, _⟩ := valid_cut s hne hs
      have := List.length_pos_iff.2 (encode_ne r)
      rw [List.append_assoc, validD_rune r hr]
      exact ih u hu (by rw [List.length_append] at hn; omega)
theorem decodeN_far (n b0 b1 b2 b3 : Nat) (h : 128 ≤ b0) (h0 : b0 < 256) : 128 ≤ (decodeN n b0 b1 b2 b3).1 := by
  unfold decodeN
  repeat' split
  all_goals simp at *
  all_goals omega
theorem rune_lt32 (l : List UInt8) (c : UInt8) : (decodeL (c :: l)).1 < 32 ↔ c.toNat < 32 := by
  by_cases h : c.toNat < 128
  · rw [decodeL_ascii c l h]
  · rw [decodeL_N]
    have := decodeN_far (c :: l).length ((c :: l).getD 0 0).toNat ((c :: l).getD 1 0).toNat ((c :: l).getD 2 0).toNat ((c :: l).getD 3 0).toNat (by simp; omega) (UInt8.toNat_lt _)
    omega
end Go.Proofs.YtnnlpkbopeiefaaGreatDoor
