import Derived.Test.YtmghlaajocgoaaaGreatDoorNumA
/-! PLAIN: how two decimals stand. -/
namespace Go.Proofs.YtmghlaajocgoaaaGreatDoor
set_option linter.unusedSimpArgs false
set_option linter.unusedVariables false
open Go.Lib (compareBytes)

theorem cb_range : ∀ a b : List UInt8, compareBytes a b = -1 ∨ compareBytes a b = 0 ∨ compareBytes a b = 1
  | [], [] => by simp [compareBytes]
  | [], _ :: _ => by simp [compareBytes]
  | _ :: _, [] => by simp [compareBytes]
  | a :: as, b :: bs => by
    unfold compareBytes
    have := cb_range as bs
    split
    · simp
    · split
      · simp
      · exact this
theorem cb_neg : ∀ a b : List UInt8, compareBytes b a = - compareBytes a b
  | [], [] => by simp [compareBytes]
  | [], _ :: _ => by simp [compareBytes]
  | _ :: _, [] => by simp [compareBytes]
  | a :: as, b :: bs => by
    have := cb_neg as bs
    unfold compareBytes
    rcases Nat.lt_trichotomy a.toNat b.toNat with h | h | h
    · have h1 : a < b := h
      have h2 : ¬ b < a := fun h' => by have : b.toNat < a.toNat := h'; omega
      rw [if_neg h2, if_pos h1, if_pos h1]; try rfl
    · have h1 : ¬ a < b := fun h' => by have : a.toNat < b.toNat := h'; omega
      have h2 : ¬ b < a := fun h' => by have : b.toNat < a.toNat := h'; omega
      rw [if_neg h2, if_neg h1, if_neg h1, if_neg h2]; exact this
    · have h1 : ¬ a < b := fun h' => by have : a.toNat < b.toNat := h'; omega
      have h2 : b < a := h
      rw [if_pos h2, if_neg h1, if_pos h2]; try rfl
theorem cb_zero : ∀ a b : List UInt8, compareBytes a b = 0 → a = b
  | [], [], _ => rfl
  | [], _ :: _, h => by simp [compareBytes] at h
  | _ :: _, [], h => by simp [compareBytes] at h
  | a :: as, b :: bs, h => by
    unfold compareBytes at h
    split at h
    · omega
    · split at h
      · omega
      · rename_i h1 h2
        have e : a = b := by
          apply UInt8.toNat_inj.1
          have h1' : ¬ a.toNat < b.toNat := h1
          have h2' : ¬ b.toNat < a.toNat := h2
          omega
        rw [e, cb_zero as bs h]
theorem cb_self : ∀ a : List UInt8, compareBytes a a = 0
  | [] => rfl
  | a :: as => by
    unfold compareBytes
    have h : ¬ a < a := fun h' => by have : a.toNat < a.toNat := h'; omega
    rw [if_neg h, if_neg h]; exact cb_self as
theorem cb_trans : ∀ a b c : List UInt8, compareBytes a b ≤ 0 → compareBytes b c ≤ 0 → compareBytes a c ≤ 0
  | [], _, [], _, _ => by simp [compareBytes]
  | [], _, _ :: _, _, _ => by simp [compareBytes]
  | _ :: _, [], _, h, _ => by simp [compareBytes] at h
  | _ :: _, _ :: _, [], _, h => by simp [compareBytes] at h
  | a :: as, b :: bs, c :: cs, h1, h2 => by
    unfold compareBytes at h1 h2 ⊢
    have ih := cb_trans as bs cs
    by_cases hab : a.toNat < b.toNat
    · by_cases hbc : c.toNat < b.toNat
      · have e1 : ¬ b < c := fun h' => by have : b.toNat < c.toNat := h'; omega
        have e2 : c < b := hbc
        rw [if_neg e1, if_pos e2] at h2; omega
      · have e : a < c := by show a.toNat < c.toNat; omega
        rw [if_pos e]; decide
    · by_cases hba : b.toNat < a.toNat
      · have e1 : ¬ a < b := hab
        have e2 : b < a := hba
        rw [if_neg e1, if_pos e2] at h1; omega
      · have e1 : ¬ a < b := hab
        have e2 : ¬ b < a := hba
        rw [if_neg e1, if_neg e2] at h1
        by_cases hbc : b.toNat < c.toNat
        · have e : a < c := by show a.toNat < c.toNat; omega
          rw [if_pos e]; decide
        · by_cases hcb : c.toNat < b.toNat
          · have e3 : ¬ b < c := hbc
            have e4 : c < b := hcb
            rw [if_neg e3, if_pos e4] at h2; omega
          · have e3 : ¬ b < c := hbc
            have e4 : ¬ c < b := hcb
            rw [if_neg e3, if_neg e4] at h2
            have e5 : ¬ a < c := fun h' => by have : a.toNat < c.toNat := h'; omega
            have e6 : ¬ c < a := fun h' => by have : c.toNat < a.toNat := h'; omega
            rw [if_neg e5, if_neg e6]; exact ih h1 h2

def topOf (n : Num) : Int := (n.dig.length : Int) + n.exp
def sgn (n : Num) : Int := if n.dig = [] then 0 else if n.neg then -1 else 1
def farL (a b : Num) : Int := if topOf a < topOf b then -1 else if topOf b < topOf a then 1 else compareBytes a.dig b.dig
def cmpL (a b : Num) : Int :=
  if rightB a = false ∧ rightB b = false then 0 else if rightB a = false then -1 else if rightB b = false then 1 else
  if sgn a < sgn b then -1 else if sgn b < sgn a then 1 else if sgn a = 0 then 0 else sgn a * farL a b
theorem farL_range (a b : Num) : farL a b = -1 ∨ farL a b = 0 ∨ farL a b = 1 := by
  unfold farL; have := cb_range a.dig b.dig
  split
  · simp
  · split
    · simp
    · exact this
theorem farL_neg (a b : Num) : farL b a = - farL a b := by
  unfold farL
  by_cases h1 : topOf a < topOf b
  · rw [if_neg (by omega), if_pos h1, if_pos h1]; try rfl
  · by_cases h2 : topOf b < topOf a
    · rw [if_pos h2, if_neg h1, if_pos h2]; try rfl
    · rw [if_neg h2, if_neg h1, if_neg h1, if_neg h2]; exact cb_neg _ _
theorem farL_trans (a b c : Num) (h1 : farL a b ≤ 0) (h2 : farL b c ≤ 0) : farL a c ≤ 0 := by
  have ht := cb_trans a.dig b.dig c.dig
  unfold farL at *
  by_cases hab : topOf a < topOf b
  · by_cases hbc : topOf b < topOf c
    · rw [if_pos (by omega)]; decide
    · by_cases hcb : topOf c < topOf b
      · rw [if_neg hbc, if_pos hcb] at h2; omega
      · rw [if_pos (by omega)]; decide
  · by_cases hba : topOf b < topOf a
    · rw [if_neg hab, if_pos hba] at h1; omega
    · rw [if_neg hab, if_neg hba] at h1
      by_cases hbc : topOf b < topOf c
      · rw [if_pos (by omega)]; decide
      · by_cases hcb : topOf c < topOf b
        · rw [if_neg hbc, if_pos hcb] at h2; omega
        · rw [if_neg hbc, if_neg hcb] at h2
          rw [if_neg (by omega), if_neg (by omega)]
          exact ht h1 h2
theorem sgn_range (n : Num) : sgn n = -1 ∨ sgn n = 0 ∨ sgn n = 1 := by
  unfold sgn; split
  · simp
  · split <;> simp
theorem cmpL_range (a b : Num) : -1 ≤ cmpL a b ∧ cmpL a b ≤ 1 := by
  have h1 := sgn_range a
  have h2 := farL_range a b
  unfold cmpL
  repeat' split
  all_goals first | omega | skip
  rcases h1 with h | h | h <;> rcases h2 with k | k | k <;> rw [h, k] <;> decide
theorem cmpL_neg (a b : Num) : cmpL b a = - cmpL a b := by
  have hf := farL_neg a b
  unfold cmpL
  cases ha : rightB a <;> cases hb : rightB b <;> simp
  by_cases h1 : sgn a < sgn b
  · rw [if_neg (by omega), if_pos h1, if_pos h1]; try rfl
  · by_cases h2 : sgn b < sgn a
    · rw [if_pos h2, if_neg h1, if_pos h2]; try rfl
    · rw [if_neg h2, if_neg h1, if_neg h1, if_neg h2]
      have e : sgn b = sgn a := by omega
      rw [e]
      split
      · rfl
      · rw [hf, Int.mul_neg]
theorem farL_self (a : Num) : farL a a = 0 := by
  unfold farL; rw [if_neg (by omega), if_neg (by omega)]; exact cb_self _
theorem cmpL_self (a : Num) : cmpL a a = 0 := by
  unfold cmpL
  cases ha : rightB a <;> simp [farL_self]
theorem cmpL_trans (a b c : Num) (h1 : cmpL a b ≤ 0) (h2 : cmpL b c ≤ 0) : cmpL a c ≤ 0 := by
  have t1 := farL_trans a b c
  have t2 := farL_trans c b a
  have n1 := farL_neg a b
  have n2 := farL_neg b c
  have n3 := farL_neg a c
  have r1 := sgn_range a
  have r2 := sgn_range b
  have r3 := sgn_range c
  unfold cmpL at *
  cases ha : rightB a <;> cases hb : rightB b <;> cases hc : rightB c <;> simp [ha, hb, hc] at h1 h2 ⊢
  generalize farL a b = fab at *
  generalize farL b c = fbc at *
  generalize farL a c = fac at *
  generalize farL b a = fba at *
  generalize farL c b = fcb at *
  generalize farL c a = fca at *
  rcases r1 with r1 | r1 | r1 <;> rcases r2 with r2 | r2 | r2 <;> rcases r3 with r3 | r3 | r3 <;> simp [r1, r2, r3] at h1 h2 ⊢
  all_goals omega
theorem cmpL_eq (a b : Num) (ha : rightB a = true) (hb : rightB b = true) : cmpL a b = 0 ↔ a = b := by
  constructor
  · intro h
    unfold cmpL at h
    simp [ha, hb] at h
    by_cases h1 : sgn a < sgn b
    · rw [if_pos h1] at h; omega
    by_cases h2 : sgn b < sgn a
    · rw [if_neg h1, if_pos h2] at h; omega
    rw [if_neg h1, if_neg h2] at h
    have he : sgn a = sgn b := by omega
    have hno : ∀ n : Num, rightB n = true → n.dig = [] → n = nought := by
      intro n hn hd
      rcases of_decide_eq_true hn with h | h
      · exact h
      · have := h.1; rw [hd] at this; simp [allDig] at this
    by_cases h0 : sgn a = 0
    · have za : a.dig = [] := by unfold sgn at h0; split at h0 <;> first | assumption | (split at h0 <;> omega)
      have zb : b.dig = [] := by rw [he] at h0; unfold sgn at h0; split at h0 <;> first | assumption | (split at h0 <;> omega)
      rw [hno a ha za, hno b hb zb]
    · rw [if_neg h0] at h
      have hf : farL a b = 0 := by
        rcases sgn_range a with r | r | r
        · rw [r] at h; omega
        · exact absurd r h0
        · rw [r] at h; omega
      unfold farL at hf
      by_cases t1 : topOf a < topOf b
      · rw [if_pos t1] at hf; omega
      by_cases t2 : topOf b < topOf a
      · rw [if_neg t1, if_pos t2] at hf; omega
      rw [if_neg t1, if_neg t2] at hf
      have hd := cb_zero _ _ hf
      have hx : a.exp = b.exp := by unfold topOf at t1 t2; rw [hd] at t1 t2; omega
      have hn : a.neg = b.neg := by
        unfold sgn at he h0
        rw [hd] at he h0
        by_cases hbn : b.dig = []
        · rw [if_pos hbn] at h0; omega
        · rw [if_neg hbn, if_neg hbn] at he
          revert he
          cases a.neg <;> cases b.neg <;> simp
      cases a; cases b; simp_all
  · rintro rfl; exact cmpL_self a
end Go.Proofs.YtmghlaajocgoaaaGreatDoor
