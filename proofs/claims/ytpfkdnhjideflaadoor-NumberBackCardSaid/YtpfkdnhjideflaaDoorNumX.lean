import Derived.Test.YtpfkdnhjideflaaDoorNumE
import Derived.Lib.ParseIntB
/-! PLAIN: ints of decimals. -/
namespace Go.Proofs.YtpfkdnhjideflaaDoor
set_option linter.unusedSimpArgs false
set_option linter.unusedVariables false
open Go.Lib (parseUintM parseUintB parseIntB NumEnd)

/-- A number as an int, where it is one. -/
def intL (n : Num) : Int × Bool :=
  if rightB n = false ∨ n.exp < 0 ∨ 19 < topOf n then (0, false) else
  if -9223372036854775808 ≤ (if n.neg then - mag n else mag n) ∧ (if n.neg then - mag n else mag n) ≤ 9223372036854775807 then (if n.neg then - mag n else mag n, true) else (0, false)
theorem decV_nat (l : List UInt8) (h : l.all isDig = true) : ∃ D : Nat, decV l = D ∧ D < 10 ^ l.length := by
  obtain ⟨h1, h2⟩ := decV_bd l h
  refine ⟨(decV l).toNat, by omega, ?_⟩
  have hp : (10 : Int) ^ l.length = ((10 ^ l.length : Nat) : Int) := by simp
  omega
theorem parseUintM_dig : ∀ (l : List UInt8) (acc D : Nat), l.all isDig = true → acc ≤ 18446744073709551615 → decV l = D →
    parseUintM 18446744073709551615 acc l = if acc * 10 ^ l.length + D ≤ 18446744073709551615 then .ok (acc * 10 ^ l.length + D) else .range
  | [], acc, D, _, h, hD => by
    have : D = 0 := by simp [decV] at hD; omega
    subst this
    simp [parseUintM, h]
  | c :: t, acc, D, hd, h, hD => by
    obtain ⟨h1, h2, h3⟩ := dig_of hd
    obtain ⟨E, hE, hb⟩ := decV_nat t h3
    have hc := decV_cons c t
    rw [hE, hD] at hc
    obtain ⟨d, hdd⟩ : ∃ d, c.toNat - 48 = d := ⟨_, rfl⟩
    have hdI : (c.toNat : Int) - 48 = (d : Int) := by omega
    have hp : (10 : Int) ^ t.length = ((10 ^ t.length : Nat) : Int) := by simp
    rw [hdI, hp] at hc
    have hDn : D = d * 10 ^ t.length + E := by
      have : ((D : Nat) : Int) = ((d * 10 ^ t.length + E : Nat) : Int) := by rw [hc]; simp
      exact_mod_cast this
    have hP : 1 ≤ 10 ^ t.length := Nat.pow_pos (by decide)
    have htot : acc * 10 ^ (c :: t).length + D = (acc * 10 + d) * 10 ^ t.length + E := by
      rw [hDn, List.length_cons, Nat.pow_succ, Nat.add_mul, Nat.mul_comm (10 ^ t.length) 10, ← Nat.mul_assoc]; omega
    have hge : acc * 10 + d ≤ (acc * 10 + d) * 10 ^ t.length := Nat.le_mul_of_pos_right _ hP
    rw [htot]
    unfold parseUintM
    rw [if_pos ⟨h1, h2⟩, hdd]
    by_cases g1 : 1844674407370955162 ≤ acc
    · rw [if_pos g1, if_neg (by omega)]
    · rw [if_neg g1]
      by_cases g2 : 18446744073709551615 < acc * 10 + d
      · rw [if_pos g2, if_neg (by omega)]
      · rw [if_neg g2, parseUintM_dig t (acc * 10 + d) E h3 (by omega) hE]
theorem parseUintB_dig (l : List UInt8) (D : Nat) (h : allDig l = true) (hD : decV l = D) : parseUintB 64 l = if D ≤ 18446744073709551615 then .ok D else .range := by
  obtain ⟨hne, hall⟩ := allDig_ne h
  unfold parseUintB
  rw [if_neg hne]
  have := parseUintM_dig l 0 D hall (by decide) hD
  simpa using this
theorem parseIntB_dig (l : List UInt8) (D : Nat) (h : allDig l = true) (hD : decV l = D) : parseIntB 64 l = if D ≤ 9223372036854775807 then .ok (D : Int) else .range := by
  have hu := parseUintB_dig l D h hD
  obtain ⟨hne, hall⟩ := allDig_ne h
  cases l with
  | nil => exact absurd rfl hne
  | cons c r =>
    obtain ⟨h1, h2, _⟩ := dig_of hall
    unfold parseIntB
    simp only []
    rw [if_neg (by omega), hu]
    by_cases g : D ≤ 18446744073709551615
    · rw [if_pos g]
      simp only []
      have hn45 : ¬ c.toNat = 45 := by omega
      simp only [hn45, not_false_eq_true, true_and, false_and, if_false]
      by_cases g2 : D ≤ 9223372036854775807
      · rw [if_neg (by omega), if_pos g2]
      · rw [if_pos (by omega), if_neg g2]
    · rw [if_neg g, if_neg (by omega)]
theorem parseIntB_neg (l : List UInt8) (D : Nat) (h : allDig l = true) (hD : decV l = D) : parseIntB 64 (45 :: l) = if D ≤ 9223372036854775808 then .ok (-(D : Int)) else .range := by
  have hu := parseUintB_dig l D h hD
  unfold parseIntB
  simp only []
  rw [if_pos (by decide), hu]
  by_cases g : D ≤ 18446744073709551615
  · rw [if_pos g]
    simp only []
    rw [if_neg (by simp)]
    by_cases g2 : D ≤ 9223372036854775808
    · rw [if_neg (by simp; omega), if_pos g2]; simp
    · rw [if_pos (by simp; omega), if_neg g2]
  · rw [if_neg g, if_neg (by omega)]
end Go.Proofs.YtpfkdnhjideflaaDoor
