import Derived.Test.YtnnlpkbopeiefaaGreatDoorNumA
/-! PLAIN: how two decimals stand. -/
namespace Go.Proofs.YtnnlpkbopeiefaaGreatDoor
set_option linter.unusedSimpArgs false
set_option linter.unusedVariables false
open Go.Lib (compareBytes)
theorem cb_range : ∀ a b : List UInt8, compareBytes a b = -1 ∨ compareBytes a b = 0 ∨ compareBytes a b = 1
  | [], [] => by simp [compareBytes]
  | [], _ :: _ => by simp [compareBytes]
  | _ :: _, [] => by simp [compareBytes]
  | a :: as, b :: bs => by
    unfold compareBytes
    have := cb_range as bs
    split
    · simp
    · split
      · simp
      · exact this
theorem cb_neg : ∀ a b : List UInt8, compareBytes b a = - compareBytes a b
  | [], [] => by simp [compareBytes]
  | [], _ :: _ => by simp [compareBytes]
  | _ :: _, [] => by simp [compareBytes]
  | a :: as, b :: bs => by
    have := cb_neg as bs
    unfold compareBytes
    rcases Nat.lt_trichotomy a.toNat b.toNat with h | h | h
    · have h1 : a < b := h
      have h2 : ¬ b < a := fun h' => by have : b.toNat < a.toNat := h'; omega
      rw [if_neg h2, if_pos h1, if_pos h1]; try rfl
    · have h1 : ¬ a < b := fun h' => by have : a.toNat < b.toNat := h'; omega
      have h2 : ¬ b < a := fun h' => by have : b.toNat < a.toNat := h'; omega
      rw [if_neg h2, if_neg h1, if_neg h1, if_neg h2]; exact this
    · have h1 : ¬ a < b := fun h' => by have : a.toNat < b.toNat := h'; omega
      have h2 : b < a := h
      rw [if_pos h2, if_neg h1, if_pos h2]; try rfl
theorem cb_zero : ∀ a b : List UInt8, compareBytes a b = 0 → a = b
  | [], [], _ => rfl
  | [], _ :: _, h => by simp [compareBytes] at h
  | _ :: _, [], h => by simp [compareBytes] at h
  | a :: as, b :: bs, h => by
    unfold compareBytes at h
    split at h
    · omega
    · split at h
      · omega
      · rename_i h1 h2
        have e : a = b := by
          apply UInt8.toNat_inj.1
          have h1' : ¬ a.toNat < b.toNat := h1
          have h2' : ¬ b.toNat < a.toNat := h2
          omega
        rw [e, cb_zero as bs h]
theorem cb_self : ∀ a : List UInt8, compareBytes a a = 0
  | [] => rfl
  | a :: as => by
    unfold compareBytes
    have h : ¬ a < a := fun h' => by have : a.toNat < a.toNat := h'; omega
    rw [if_neg h, if_neg h]; exact cb_self as
theorem cb_trans : ∀ a b c : List UInt8, compareBytes a b ≤ 0 → compareBytes b c ≤ 0 → compareBytes a c ≤ 0
  | [], _, [], _, _ => by simp [compareBytes]
  | [], _, _ :: _, _, _ => by simp [compareBytes]
  | _ :: _, [], _, h, _ => by simp [compareBytes] at h
  | _ :: _, _ :: _, [], _, h => by simp [compareBytes] at h
  | a :: as, b :: bs, c :: cs, h1, h2 => by
    unfold compareBytes at h1 h2 ⊢
    have ih := cb_trans as bs cs
    by_cases hab : a.toNat < b.toNat
    · by_cases hbc : c.toNat < b.toNat
      · have e1 : ¬ b < c := fun h' => by have : b.toNat < c.toNat := h'; omega
        have e2 : c < b := hbc
        rw [if_neg e1, if_pos e2] at h2; omega
      · have e : a < c := by show a.toNat < c.toNat; omega
        rw [if_pos e]; decide
    · by_cases hba : b.toNat < a.toNat
      · have e1 : ¬ a < b := hab
        have e2 : b < a := hba
        rw [if_neg e1, if_pos e2] at h1; omega
      · have e1 : ¬ a < b := hab
        have e2 : ¬ b < a := hba
        rw [if_neg e1, if_neg e2] at h1
        by_cases hbc : b.toNat < c.toNat
        · have e : a < c := by show a.toNat < c.toNat; omega
          rw [if_pos e]; decide
        · by_cases hcb : c.toNat < b.toNat
          · have e3 : ¬ b < c := hbc
            have e4 : c < b := hcb
            rw [if_neg e3, if_pos e4] at h2; omega
          · have e3 : ¬ b < c := hbc
            have e4 : ¬ c < b := hcb
            rw [if_neg e3, if_neg e4] at h2
            have e5 : ¬ a < c := fun h' => by have : a.toNat < c.toNat := h'; omega
            have e6 : ¬ c < a := fun h' => by have : c.toNat < a.toNat := h'; omega
            rw [if_neg e5, if_neg e6]; exact ih h1 h2
def topOf (n : Num) : Int := (n.dig.length : Int) + n.exp
def sgn (n : Num) : Int := if n.dig = [] then 0 else if n.neg then -1 else 1
def farL (a b : Num) : Int := if topOf a < topOf b then -1 else if topOf b < topOf a then 1 else compareBytes a.dig b.dig
def cmpL (a b : Num) : Int :=
  if rightB a = false ∧ rightB b = false then 0 else if rightB a = false then -1 else if rightB b = false then 1 else
  if sgn a < sgn b then -1 else if sgn b < sgn a then 1 else if sgn a = 0 then 0 else sgn a * farL a b
theorem farL_range (a b : Num) : farL a b = -1 ∨ farL a b = 0 ∨ farL a b = 1 := by
  unfold farL; have := cb_range a.dig b.dig
  split
  · simp
  · split
    · simp
    · exact this
theorem farL_neg (a b : Num) : farL b a = - farL a b := by
  unfold farL
  by_cases h1 : topOf a < topOf b
  · rw [if_neg (by omega), if_pos h1, if_pos h1]; try rfl
  · by_cases h2 : topOf b < topOf a
    · rw [if_pos h2, if_neg h1, if_pos h2]; try rfl
    · rw [if_neg h2, if_neg h1, if_neg h1, if_neg h2]; exact cb_neg _ _
theorem farL_trans (a b c : Num) (h1 : farL a b ≤ 0) (h2 : farL b c ≤ 0) : farL a c ≤ 0 := by
  have ht := cb_trans a.dig b.dig c.dig
  unfold farL at *
  by_cases hab : topOf a < topOf b
  · by_cases hbc : topOf b < topOf c
    · rw [if_pos (by omega)]; decide
    · by_cases hcb : topOf c < topOf b
      · rw [if_neg hbc, if_pos hcb] at h2; omega
      · rw [if_pos (by omega)]; decide
  · by_cases hba : topOf b < topOf a
    · rw [if_neg hab, if_pos hba] at h1; omega
    · rw [if_neg hab, if_neg hba] at h1
      by_cases hbc : topOf b < topOf c
      · rw [if_pos (by omega)]; decide
      · by_cases hcb : topOf c < topOf b
        · rw [if_neg hbc, if_pos hcb] at h2; omega
        · rw [if_neg hbc, if_neg hcb] at h2
          rw [if_neg (by omega), if_neg (by omega)]
          exact ht h1 h2
theorem sgn_range (n : Num) : sgn n = -1 ∨ sgn n = 0 ∨ sgn n = 1 := by
  unfold sgn; split
  · simp
  · split <;> simp
theorem cmpL_range (a b : Num) : -1 ≤ cmpL a b ∧ cmpL a b ≤ 1 := by
  have h1 := sgn_range a
  have h2 := farL_range a b
  unfold cmpL
  repeat' split
  all_goals first | omega | skip
  rcases h1 with h | h | h <;> rcases h2 with k | k | k <;> rw [h, k] <;> decide
theorem cmpL_neg (a b : Num) : cmpL b a = - cmpL a b := by
  have hf := farL_neg a b
  unfold cmpL
  cases ha : rightB a <;> cases hb : rightB b <;> simp
  by_cases h1 : sgn a < sgn b
  · rw [if_neg (by omega), if_pos h1, if_pos h1]; try rfl
  · by_cases h2 : sgn b < sgn a
    · rw [if_pos h2, if_neg h1, if_pos h2]; try rfl
    · rw [if_neg h2, if_neg h1, if_neg h1, if_neg h2]
      have e : sgn b = sgn a := by omega
      rw [e]
      split
      · rfl
      · rw [hf, Int.mul_neg]
theorem farL_self (a : Num) : farL a a = 0 := by
  unfold farL; rw [if_neg (by omega), if_neg (by omega)]; exact cb_self _
theorem cmpL_self (a : Num) : cmpL a a = 0 := by
  unfold cmpL
  cases ha : rightB a <;> simp [farL_self]
theorem cmpL_trans (a b c : Num) (h1 : cmpL a b ≤ 0) (h2 : cmpL b c ≤ 0) : cmpL a c ≤ 0 := by
  have t1 := farL_trans a b c
  have t2 := farL_trans c b a
  have n1 := farL_neg a b
  have n2 := farL_neg b c
  have n3 := farL_neg a c
  have r1 := sgn_range a
  have r2 := sgn_range b
  have r3 := sgn_range c
  unfold cmpL at *
  cases ha : rightB a <;> cases hb : rightB b <;> cases hc : rightB c <;> simp [ha, hb, hc] at h1 h2 ⊢
  generalize farL a b = fab at *
  generalize farL b c = fbc at *
  generalize farL a c = fac at *
  generalize farL b a = fba at *
  generalize farL c b = fcb at *
  generalize farL c a = fca at *
  rcases r1 with r1 | r1 | r1 <;> rcases r2 with r2 | r2 | r2 <;> rcases r3 with r3 | r3 | r3 <;> simp [r1, r2, r3] at h1 h2 ⊢
  all_goals omega
theorem cmpL_eq (a b : Num) (ha : rightB a = true) (hb : rightB b = true) : cmpL a b = 0 ↔ a = b := by
  constructor
  · intro h
    unfold cmpL at h
    simp [ha, hb] at h
    by_cases h1 : sgn a < sgn b
    · rw [if_pos h1] at h; omega
    by_cases h2 : sgn b < sgn a
    · rw [if_neg h1, if_pos h2] at h; omega
    rw [if_neg h1, if_neg h2] at h
    have he : sgn a = sgn b := by omega
    have hno : ∀ n : Num, rightB n = true → n.dig = [] → n = nought := by
      intro n hn hd
      rcases of_decide_eq_true hn with h | h
      · exact h
      · have := h.1; rw [hd] at this; simp [allDig] at this
    by_cases h0 : sgn a = 0
    · have za : a.dig = [] := by unfold sgn at h0; split at h0 <;> first | assumption | (split at h0 <;> omega)
      have zb : b.dig = [] := by rw [he] at h0; unfold sgn at h0; split at h0 <;> first | assumption | (split at h0 <;> omega)
      rw [hno a ha za, hno b hb zb]
    · rw [if_neg h0] at h
      have hf : farL a b = 0 := by
        rcases sgn_range a with r | r | r
        · rw [r] at h; omega
        · exact absurd r h0
        · rw [r] at h; omega
      unfold farL at hf
      by_cases t1 : topOf a < topOf b
      · rw [if_pos t1] at hf; omega
      by_cases t2 : topOf b < topOf a
      · rw [if_neg t1, if_pos t2] at hf; omega
      rw [if_neg t1, if_neg t2] at hf
      have hd := cb_zero _ _ hf
      have hx : a.exp = b.exp := by unfold topOf at t1 t2; rw [hd] at t1 t2; omega
      have hn : a.neg = b.neg := by
        unfold sgn at he h0
        rw [hd] at he h0
        by_cases hbn : b.dig = []
        · rw [if_pos hbn] at h0; omega
        · rw [if_neg hbn, if_neg hbn] at he
          revert he
          cases a.neg <;> cases b.neg <;> simp
      cases a; cases b; simp_all
  · rintro rfl; exact cmpL_self a
end Go.Proofs.YtnnlpkbopeiefaaGreatDoor
/-! PLAIN: decimals and their values. -/
namespace Go.Proofs.YtnnlpkbopeiefaaGreatDoor
set_option linter.unusedSimpArgs false
set_option linter.unusedVariables false
open Go.Lib (compareBytes compareInt)
/-- Digits one by one, noughts behind the last one. -/
def padCmp : List UInt8 → List UInt8 → Int
  | [], [] => 0
  | [], d :: t => if 48 < d.toNat then -1 else if d.toNat < 48 then 1 else padCmp [] t
  | c :: s, [] => if c.toNat < 48 then -1 else if 48 < c.toNat then 1 else padCmp s []
  | c :: s, d :: t => if c.toNat < d.toNat then -1 else if d.toNat < c.toNat then 1 else padCmp s t
theorem padCmp_left : ∀ t : List UInt8, t.all isDig = true → t ≠ [] → t.getLast? ≠ some 48 → padCmp [] t = -1
  | [], _, h, _ => absurd rfl h
  | d :: t, hd, _, hl => by
    rw [List.all_cons, Bool.and_eq_true] at hd
    have h1 : 48 ≤ d.toNat ∧ d.toNat ≤ 57 := of_decide_eq_true hd.1
    unfold padCmp
    by_cases h : 48 < d.toNat
    · rw [if_pos h]
    · have e : d = 48 := by apply UInt8.toNat_inj.1; rw [show (48 : UInt8).toNat = 48 from rfl]; omega
      rw [if_neg h, if_neg (by omega)]
      have hne : t ≠ [] := by rintro rfl; subst e; simp at hl
      refine padCmp_left t hd.2 hne ?_
      rw [List.getLast?_cons] at hl
      intro hc; apply hl; rw [hc]; rfl
theorem padCmp_neg : ∀ a b : List UInt8, padCmp b a = - padCmp a b
  | [], [] => by simp [padCmp]
  | [], d :: t => by
    have := padCmp_neg [] t
    unfold padCmp
    by_cases h : 48 < d.toNat
    · rw [if_pos h, if_neg (by omega), if_pos h]; rfl
    · by_cases h2 : d.toNat < 48
      · rw [if_pos h2, if_neg h, if_pos h2]
      · rw [if_neg h2, if_neg h, if_neg h, if_neg h2]; exact this
  | c :: s, [] => by
    have := padCmp_neg s []
    unfold padCmp
    by_cases h : 48 < c.toNat
    · rw [if_pos h, if_neg (by omega), if_pos h]
    · by_cases h2 : c.toNat < 48
      · rw [if_pos h2, if_neg h, if_pos h2]; rfl
      · rw [if_neg h2, if_neg h, if_neg h, if_neg h2]; exact this
  | c :: s, d :: t => by
    have := padCmp_neg s t
    unfold padCmp
    by_cases h : c.toNat < d.toNat
    · rw [if_pos h, if_neg (by omega), if_pos h]; rfl
    · by_cases h2 : d.toNat < c.toNat
      · rw [if_pos h2, if_neg h, if_pos h2]
      · rw [if_neg h2, if_neg h, if_neg h, if_neg h2]; exact this
/-- Of digits that do not end with nought it is the order of the texts. -/
theorem padCmp_bytes : ∀ a b : List UInt8, a.all isDig = true → b.all isDig = true → a.getLast? ≠ some 48 → b.getLast? ≠ some 48 → padCmp a b = compareBytes a b
  | [], [], _, _, _, _ => by simp [padCmp, compareBytes]
  | [], d :: t, _, hb, _, lb => by rw [padCmp_left _ hb (by simp) lb]; rfl
  | c :: s, [], ha, _, la, _ => by rw [padCmp_neg, padCmp_left _ ha (by simp) la]; rfl
  | c :: s, d :: t, ha, hb, la, lb => by
    rw [List.all_cons, Bool.and_eq_true] at ha hb
    unfold padCmp compareBytes
    have e1 : (c < d) = (c.toNat < d.toNat) := rfl
    have e2 : (d < c) = (d.toNat < c.toNat) := rfl
    simp only [e1, e2]
    by_cases h : c.toNat < d.toNat
    · rw [if_pos h, if_pos h]
    · by_cases h2 : d.toNat < c.toNat
      · rw [if_neg h, if_neg h, if_pos h2, if_pos h2]
      · rw [if_neg h, if_neg h, if_neg h2, if_neg h2]
        have hl : ∀ (x : UInt8) (l : List UInt8), (x :: l).getLast? ≠ some 48 → l = [] ∨ l.getLast? ≠ some 48 := by
          intro x l hx
          by_cases hn : l = []
          · exact .inl hn
          · right; intro hc; apply hx; rw [List.getLast?_cons, hc]; rfl
        rcases hl c s la with rfl | la' <;> rcases hl d t lb with rfl | lb'
        · simp [padCmp, compareBytes]
        · exact padCmp_bytes [] t rfl hb.2 (by simp) lb'
        · exact padCmp_bytes s [] ha.2 rfl la' (by simp)
        · exact padCmp_bytes s t ha.2 hb.2 la' lb'
theorem padCmp_zeros : ∀ (m : Nat) (b : List UInt8), padCmp (List.replicate m 48) b = padCmp [] b
  | 0, b => rfl
  | m + 1, [] => by
    have ih := padCmp_zeros m []
    have e : padCmp (48 :: List.replicate m 48) [] = padCmp (List.replicate m 48) [] := by rw [padCmp]; simp
    rw [List.replicate_succ, e, ih]
  | m + 1, d :: t => by
    rw [List.replicate_succ]
    unfold padCmp
    rw [padCmp_zeros m t]
    simp
theorem padCmp_tail : ∀ (a b : List UInt8) (m : Nat), padCmp (a ++ List.replicate m 48) b = padCmp a b
  | [], b, m => by rw [List.nil_append]; exact padCmp_zeros m b
  | c :: s, [], m => by
    rw [List.cons_append]
    unfold padCmp
    rw [padCmp_tail s [] m]
  | c :: s, d :: t, m => by
    rw [List.cons_append]
    unfold padCmp
    rw [padCmp_tail s t m]
theorem padCmp_tails (a b : List UInt8) (m n : Nat) : padCmp (a ++ List.replicate m 48) (b ++ List.replicate n 48) = padCmp a b := by
  rw [padCmp_tail, padCmp_neg, padCmp_tail, ← padCmp_neg]
theorem decV_cons (c : UInt8) (t : List UInt8) : decV (c :: t) = ((c.toNat : Int) - 48) * 10 ^ t.length + decV t := by
  have := decV_append [c] t
  rw [List.singleton_append] at this
  rw [this]
  unfold decV; simp
theorem dig_of {l : List UInt8} {c : UInt8} (h : (c :: l).all isDig = true) : 48 ≤ c.toNat ∧ c.toNat ≤ 57 ∧ l.all isDig = true := by
  rw [List.all_cons, Bool.and_eq_true] at h
  have := of_decide_eq_true h.1
  exact ⟨this.1, this.2, h.2⟩
/-- Of as many digits the order is that of the numbers. -/
theorem padCmp_val : ∀ a b : List UInt8, a.length = b.length → a.all isDig = true → b.all isDig = true → padCmp a b = compareInt (decV a) (decV b)
  | [], [], _, _, _ => by simp [padCmp, compareInt]
  | [], _ :: _, h, _, _ => by simp at h
  | _ :: _, [], h, _, _ => by simp at h
  | c :: s, d :: t, hl, ha, hb => by
    obtain ⟨c1, c2, hs⟩ := dig_of ha
    obtain ⟨d1, d2, ht⟩ := dig_of hb
    have hl' : s.length = t.length := by simpa using hl
    have b1 := decV_bd s hs
    have b2 := decV_bd t ht
    have ih := padCmp_val s t hl' hs ht
    unfold padCmp
    rw [decV_cons, decV_cons, hl']
    rw [hl'] at b1
    have hp : (0 : Int) < 10 ^ t.length := Int.pow_pos (by decide)
    generalize (10 : Int) ^ t.length = P at *
    obtain ⟨u, hu⟩ : ∃ u : Int, u = (c.toNat : Int) - 48 := ⟨_, rfl⟩
    obtain ⟨v, hv⟩ : ∃ v : Int, v = (d.toNat : Int) - 48 := ⟨_, rfl⟩
    rw [← hu, ← hv]
    unfold compareInt at ih ⊢
    rcases Int.lt_trichotomy u v with h | h | h
    · have hm : u * P + P ≤ v * P := by
        have : (u + 1) * P ≤ v * P := Int.mul_le_mul_of_nonneg_right (by omega) (by omega)
        rw [Int.add_mul, Int.one_mul] at this; exact this
      rw [if_pos (by omega), if_pos (by omega)]
    · subst h
      rw [if_neg (by omega), if_neg (by omega), ih]
      by_cases k1 : decV s < decV t
      · rw [if_pos k1, if_pos (by omega)]
      · by_cases k2 : decV s > decV t
        · rw [if_neg k1, if_pos k2, if_neg (by omega), if_pos (by omega)]
        · rw [if_neg k1, if_neg k2, if_neg (by omega), if_neg (by omega)]
    · have hm : v * P + P ≤ u * P := by
        have : (v + 1) * P ≤ u * P := Int.mul_le_mul_of_nonneg_right (by omega) (by omega)
        rw [Int.add_mul, Int.one_mul] at this; exact this
      rw [if_neg (by omega), if_pos (by omega), if_neg (by omega), if_pos (by omega)]
theorem decV_zeros : ∀ m : Nat, decV (List.replicate m 48) = 0
  | 0 => rfl
  | m + 1 => by rw [List.replicate_succ, decV_cons, decV_zeros m]; simp
theorem all_zeros (m : Nat) : (List.replicate m (48 : UInt8)).all isDig = true := by
  rw [List.all_eq_true]; intro x hx; rw [List.eq_of_mem_replicate hx]; rfl
/-- The value of a number that has no digits behind the point. -/
def mag (n : Num) : Int := decV n.dig * 10 ^ n.exp.toNat
theorem mag_pad (n : Num) : decV (n.dig ++ List.replicate n.exp.toNat 48) = mag n := by
  rw [decV_append, decV_zeros, List.length_replicate]; unfold mag; omega
theorem mag_bd (n : Num) (h : rightP n) (he : 0 ≤ n.exp) : (10 : Int) ^ ((topOf n).toNat - 1) ≤ mag n ∧ mag n < 10 ^ (topOf n).toNat := by
  obtain ⟨hd, _, hh, _, _, _⟩ := h
  have hd2 : n.dig ≠ [] ∧ n.dig.all isDig = true := by
    unfold allDig at hd
    rw [Bool.and_eq_true] at hd
    exact ⟨by intro e; rw [e] at hd; simp at hd, hd.2⟩
  rw [← mag_pad]
  have hlen : (n.dig ++ List.replicate n.exp.toNat (48 : UInt8)).length = (topOf n).toNat := by
    rw [List.length_append, List.length_replicate]; unfold topOf; omega
  have hall : (n.dig ++ List.replicate n.exp.toNat (48 : UInt8)).all isDig = true := by
    rw [List.all_append, Bool.and_eq_true]; exact ⟨hd2.2, all_zeros _⟩
  have hb := decV_bd _ hall
  rw [hlen] at hb
  refine ⟨?_, hb.2⟩
  cases hc : n.dig with
  | nil => exact absurd hc hd2.1
  | cons c t =>
    rw [hc] at hall hlen hh
    rw [List.cons_append] at hall hlen ⊢
    obtain ⟨c1, c2, ht⟩ := dig_of hall
    have hc48 : c.toNat ≠ 48 := fun e => hh (by rw [List.head?_cons]; congr 1; exact UInt8.toNat_inj.1 e)
    have hb2 := decV_bd _ ht
    rw [decV_cons, ← hlen, List.length_cons, Nat.add_sub_cancel]
    have hp : (0 : Int) < 10 ^ (t ++ List.replicate n.exp.toNat (48 : UInt8)).length := Int.pow_pos (by decide)
    generalize (10 : Int) ^ (t ++ List.replicate n.exp.toNat (48 : UInt8)).length = P at *
    have : 1 * P ≤ ((c.toNat : Int) - 48) * P := Int.mul_le_mul_of_nonneg_right (by omega) (by omega)
    omega
theorem farL_val (a b : Num) (ha : rightP a) (hb : rightP b) (ea : 0 ≤ a.exp) (eb : 0 ≤ b.exp) : farL a b = compareInt (mag a) (mag b) := by
  have ba := mag_bd a ha ea
  have bb := mag_bd b hb eb
  have hda := ha.1; have hdb := hb.1
  have da : a.dig.all isDig = true ∧ 1 ≤ a.dig.length := by
    unfold allDig at hda; rw [Bool.and_eq_true] at hda
    refine ⟨hda.2, ?_⟩
    cases hc : a.dig with
    | nil => rw [hc] at hda; simp at hda
    | cons _ _ => simp
  have db : b.dig.all isDig = true ∧ 1 ≤ b.dig.length := by
    unfold allDig at hdb; rw [Bool.and_eq_true] at hdb
    refine ⟨hdb.2, ?_⟩
    cases hc : b.dig with
    | nil => rw [hc] at hdb; simp at hdb
    | cons _ _ => simp
  have mono : ∀ i j : Nat, i ≤ j → (10 : Int) ^ i ≤ 10 ^ j := fun i j hij => by
    obtain ⟨k, rfl⟩ := Nat.exists_eq_add_of_le hij
    rw [Int.pow_add]
    have h1 : (0 : Int) < 10 ^ i := Int.pow_pos (by decide)
    have h2 : (0 : Int) < 10 ^ k := Int.pow_pos (by decide)
    have : (10 : Int) ^ i * 1 ≤ 10 ^ i * 10 ^ k := Int.mul_le_mul_of_nonneg_left (by omega) (by omega)
    omega
  unfold farL compareInt
  by_cases h1 : topOf a < topOf b
  · have := mono (topOf a).toNat ((topOf b).toNat - 1) (by unfold topOf at *; omega)
    rw [if_pos h1, if_pos (by omega)]
  · by_cases h2 : topOf b < topOf a
    · have := mono (topOf b).toNat ((topOf a).toNat - 1) (by unfold topOf at *; omega)
      rw [if_neg h1, if_pos h2, if_neg (by omega), if_pos (by omega)]
    · rw [if_neg h1, if_neg h2, ← padCmp_bytes _ _ da.1 db.1 ha.2.2.2.1 hb.2.2.2.1, ← padCmp_tails a.dig b.dig a.exp.toNat b.exp.toNat,
        padCmp_val _ _ (by rw [List.length_append, List.length_append, List.length_replicate, List.length_replicate]; unfold topOf at *; omega)
          (by rw [List.all_append, Bool.and_eq_true]; exact ⟨da.1, all_zeros _⟩) (by rw [List.all_append, Bool.and_eq_true]; exact ⟨db.1, all_zeros _⟩), mag_pad, mag_pad]
      rfl
end Go.Proofs.YtnnlpkbopeiefaaGreatDoor
/-! PLAIN: texts, ints and decimals. -/
namespace Go.Proofs.YtnnlpkbopeiefaaGreatDoor
set_option linter.unusedSimpArgs false
set_option linter.unusedVariables false
open Go.Lib (compareBytes compareInt itoa decDigits nDigits)
theorem dropWhile_none (p : UInt8 → Bool) : ∀ l : List UInt8, (∀ c ∈ l, p c = true) → l.dropWhile p = []
  | [], _ => rfl
  | c :: t, h => by rw [List.dropWhile_cons, if_pos (h c List.mem_cons_self)]; exact dropWhile_none p t fun x hx => h x (List.mem_cons_of_mem _ hx)
theorem decDigits_zero : decDigits 0 = [48] := by rw [decDigits, dif_pos (by decide)]; rfl
theorem cutAt_none (p : UInt8 → Bool) (l : List UInt8) (h : ∀ c ∈ l, p c = false) : cutAt p l = (l, [], false) := by
  unfold cutAt
  rw [dropWhile_none _ l fun c hc => by simp [h c hc]]
theorem cutAt_some (p : UInt8 → Bool) : ∀ (a : List UInt8) (b : UInt8) (t : List UInt8), (∀ c ∈ a, p c = false) → p b = true → cutAt p (a ++ b :: t) = (a, t, true)
  | [], b, t, _, hb => by simp [cutAt, hb]
  | c :: a, b, t, h, hb => by
    have ih := cutAt_some p a b t (fun x hx => h x (List.mem_cons_of_mem _ hx)) hb
    have hc := h c (List.mem_cons_self)
    unfold cutAt at ih ⊢
    rw [List.cons_append, List.dropWhile_cons, List.takeWhile_cons, hc]
    simp only [Bool.not_false, if_true]
    cases hd : (a ++ b :: t).dropWhile (fun c => !p c) with
    | nil => rw [hd] at ih; simp at ih
    | cons y r => rw [hd] at ih; simp at ih ⊢; exact ih
theorem decDigits_dig (u : Nat) : (decDigits u).all isDig = true ∧ decDigits u ≠ [] ∧ decV (decDigits u) = (u : Int) := by
  induction u using Nat.strongRecOn with
  | _ u ih =>
    have hd : ∀ k : Nat, k < 10 → isDig (UInt8.ofNat (48 + k)) = true ∧ ((UInt8.ofNat (48 + k)).toNat : Int) = 48 + k := by
      intro k hk
      have : (UInt8.ofNat (48 + k)).toNat = 48 + k := by rw [UInt8.toNat_ofNat']; omega
      refine ⟨decide_eq_true (by rw [this]; omega), by rw [this]; omega⟩
    by_cases h : u < 10
    · rw [decDigits, dif_pos h]
      refine ⟨by rw [List.all_cons, (hd u h).1]; rfl, by simp, ?_⟩
      unfold decV; simp only [List.foldl_cons, List.foldl_nil]; rw [(hd u h).2]; omega
    · rw [decDigits, dif_neg h]
      obtain ⟨h1, h2, h3⟩ := ih (u / 10) (by omega)
      refine ⟨?_, by simp, ?_⟩
      · rw [List.all_append, Bool.and_eq_true]; exact ⟨h1, by rw [List.all_cons, (hd (u % 10) (by omega)).1]; rfl⟩
      · rw [decV_snoc, h3, (hd (u % 10) (by omega)).2]; omega
theorem decDigits_head (u : Nat) (hu : u ≠ 0) : (decDigits u).head? ≠ some 48 := by
  induction u using Nat.strongRecOn with
  | _ u ih =>
    by_cases h : u < 10
    · rw [decDigits, dif_pos h, List.head?_cons]
      intro e
      have := congrArg (fun x => x.map UInt8.toNat) e
      simp at this
      omega
    · rw [decDigits, dif_neg h]
      have h2 := (decDigits_dig (u / 10)).2.1
      have := ih (u / 10) (by omega) (by omega)
      cases hc : decDigits (u / 10) with
      | nil => exact absurd hc h2
      | cons x t => rw [hc] at this; exact this
theorem decDigits_len (u : Nat) : ∀ k, u < 10 ^ k → 1 ≤ k → (decDigits u).length ≤ k := by
  induction u using Nat.strongRecOn with
  | _ u ih =>
    intro k hk h1
    by_cases h : u < 10
    · rw [decDigits, dif_pos h]; exact h1
    · rw [decDigits, dif_neg h, List.length_append]
      obtain ⟨m, rfl⟩ : ∃ m, k = m + 1 := ⟨k - 1, by omega⟩
      rw [Nat.pow_succ] at hk
      rcases Nat.eq_zero_or_pos m with h0 | h0
      · subst h0; simp at hk; omega
      · have := ih (u / 10) (by omega) m (by omega) h0
        simp; omega
theorem noTail_split (l : List UInt8) : l = noTail l ++ List.replicate (l.length - (noTail l).length) 48 := by
  unfold noTail
  have h := List.takeWhile_append_dropWhile (p := fun x : UInt8 => x == 48) (l := l.reverse)
  have h1 : (l.reverse.takeWhile (· == 48)) = List.replicate (l.reverse.takeWhile (· == 48)).length 48 := by
    rw [List.eq_replicate_iff]
    refine ⟨rfl, fun b hb => ?_⟩
    have := List.all_eq_true.1 (List.all_takeWhile (p := fun x : UInt8 => x == 48) (l := l.reverse)) b hb
    simpa using this
  have h2 : l = (l.reverse.dropWhile (· == 48)).reverse ++ (l.reverse.takeWhile (· == 48)).reverse := by
    rw [← List.reverse_append, h, List.reverse_reverse]
  have h3 : l.length - (l.reverse.dropWhile (· == 48)).reverse.length = (l.reverse.takeWhile (· == 48)).length := by
    have := congrArg List.length h2
    rw [List.length_append, List.length_reverse (as := l.reverse.takeWhile (· == 48))] at this
    omega
  rw [h3, ← List.reverse_replicate, ← h1]
  exact h2
theorem noTail_last (l : List UInt8) : (noTail l).getLast? ≠ some 48 := by
  unfold noTail
  rw [List.getLast?_reverse]
  intro h
  have := List.head?_dropWhile_not (p := fun x : UInt8 => x == 48) (l := l.reverse)
  rw [h] at this
  simp at this
theorem noTail_same {l : List UInt8} (h : l.getLast? ≠ some 48) : noTail l = l := by
  unfold noTail
  rw [List.getLast?_eq_head?_reverse] at h
  cases hc : l.reverse with
  | nil => simp at hc; subst hc; rfl
  | cons x t =>
    rw [hc] at h
    have hx : ¬ (x == 48) = true := by
      intro hx; apply h; rw [List.head?_cons]; congr 1; simpa using hx
    rw [List.dropWhile_cons, if_neg hx, ← hc, List.reverse_reverse]
theorem noZeros_same {l : List UInt8} (h : l.head? ≠ some 48) : noZeros l = l := by
  unfold noZeros
  cases l with
  | nil => rfl
  | cons x t =>
    have hx : ¬ (x == 48) = true := by
      intro hx; apply h; rw [List.head?_cons]; congr 1; simpa using hx
    rw [List.dropWhile_cons, if_neg hx]
theorem dig_not (l : List UInt8) (h : l.all isDig = true) : (∀ c ∈ l, isE c = false) ∧ (∀ c ∈ l, isDot c = false) ∧ l.head? ≠ some 45 ∧ l.head? ≠ some 43 := by
  have hc : ∀ c ∈ l, 48 ≤ c.toNat ∧ c.toNat ≤ 57 := fun c hc => of_decide_eq_true (List.all_eq_true.1 h c hc)
  have hno : ∀ c ∈ l, ∀ k : UInt8, (k.toNat < 48 ∨ 57 < k.toNat) → c ≠ k := fun c hm k hk e => by have := hc c hm; rw [e] at this; omega
  refine ⟨fun c hm => ?_, fun c hm => ?_, fun e => ?_, fun e => ?_⟩
  · unfold isE; rw [Bool.or_eq_false_iff]; exact ⟨by simpa using hno c hm 101 (by decide), by simpa using hno c hm 69 (by decide)⟩
  · unfold isDot; simpa using hno c hm 46 (by decide)
  · exact hno 45 (List.mem_of_mem_head? e) 45 (by decide) rfl
  · exact hno 43 (List.mem_of_mem_head? e) 43 (by decide) rfl
/-- A whole number's literal. -/
theorem litOf_itoa (i : Int) : litOf (itoa i) = some ⟨decide (i < 0), decDigits i.natAbs, [], false, []⟩ := by
  obtain ⟨h1, h2, h3⟩ := decDigits_dig i.natAbs
  obtain ⟨n1, n2, n3, n4⟩ := dig_not _ h1
  have hu : unsign (itoa i) = decDigits i.natAbs ∧ ((itoa i).head? == some 45) = decide (i < 0) := by
    unfold itoa unsign
    by_cases hi : i < 0
    · rw [if_pos hi]; simp [hi]
    · rw [if_neg hi, show i.toNat = i.natAbs by omega, if_neg n3]
      refine ⟨rfl, ?_⟩
      rw [decide_eq_false hi, beq_eq_false_iff_ne]; exact n3
  unfold litOf
  simp only [hu.1, hu.2, cutAt_none isE _ n1, cutAt_none isDot _ n2]
  have hok : litOk false false [] (decDigits i.natAbs) [] = true := by
    unfold litOk allDig
    have : (decDigits i.natAbs).isEmpty = false := by
      cases hc : decDigits i.natAbs with
      | nil => exact absurd hc h2
      | cons _ _ => rfl
    simp only [this, h1]
    by_cases h0 : i.natAbs = 0
    · rw [h0, decDigits_zero]; decide
    · simp [decDigits_head _ h0]
  simp [hok]
def ofInt (i : Int) : Num := (parseL (itoa i)).1
theorem parse_itoa (i : Int) (hi : i.natAbs < 10 ^ 20) : parseL (itoa i) = if i = 0 then (nought, 0) else (⟨decide (i < 0), noTail (decDigits i.natAbs), ((decDigits i.natAbs).length : Int) - (noTail (decDigits i.natAbs)).length⟩, 0) := by
  have hl := decDigits_len i.natAbs 20 hi (by decide)
  have hs := congrArg List.length (noTail_split (decDigits i.natAbs))
  rw [List.length_append] at hs
  unfold parseL
  rw [litOf_itoa]
  simp only [parseLit, List.append_nil, List.length_nil]
  rw [if_neg (by omega), if_neg (by simp [noZeros])]
  by_cases h0 : i = 0
  · subst h0; rw [if_pos rfl, show Int.natAbs 0 = 0 from rfl, decDigits_zero]; rfl
  · rw [if_neg h0, noZeros_same (decDigits_head _ (by omega)), if_neg (decDigits_dig _).2.1]
    have e0 : decV [] = 0 := rfl
    simp only [e0, Bool.false_eq_true, if_false]
    rw [if_neg (by omega)]
    congr 2
    omega
theorem ofInt_zero : ofInt 0 = nought := by unfold ofInt; rw [parse_itoa 0 (by decide), if_pos rfl]
theorem ofInt_right (i : Int) (hi : i.natAbs < 10 ^ 20) (h0 : i ≠ 0) : rightP (ofInt i) ∧ 0 ≤ (ofInt i).exp ∧ (ofInt i).neg = decide (i < 0) ∧ mag (ofInt i) = i.natAbs ∧ (ofInt i).exp ≤ 20 := by
  obtain ⟨h1, h2, h3⟩ := decDigits_dig i.natAbs
  have hsp := noTail_split (decDigits i.natAbs)
  have hl := decDigits_len i.natAbs 20 hi (by decide)
  have hlen := congrArg List.length hsp
  rw [List.length_append, List.length_replicate] at hlen
  have hh := decDigits_head i.natAbs (by omega)
  unfold ofInt
  rw [parse_itoa i hi, if_neg h0]
  have hne : noTail (decDigits i.natAbs) ≠ [] := by
    intro e
    rw [e, List.nil_append] at hsp
    cases hc : decDigits i.natAbs with
    | nil => exact h2 hc
    | cons x t =>
      rw [hc] at hsp hh
      simp only [List.length_cons, List.length_nil, Nat.sub_zero, List.replicate_succ] at hsp
      injection hsp with hx _
      apply hh; rw [hx]; rfl
  refine ⟨⟨?_, ?_, ?_, noTail_last _, ?_, ?_⟩, ?_, rfl, ?_, ?_⟩
  · unfold allDig
    rw [hsp, List.all_append, Bool.and_eq_true] at h1
    rw [h1.1, Bool.and_true]
    cases hc : noTail (decDigits i.natAbs) with
    | nil => exact absurd hc hne
    | cons _ _ => rfl
  · show (noTail (decDigits i.natAbs)).length ≤ 1000; omega
  · show (noTail (decDigits i.natAbs)).head? ≠ some 48
    rw [hsp] at hh
    cases hc : noTail (decDigits i.natAbs) with
    | nil => exact absurd hc hne
    | cons x t => rw [hc] at hh; exact hh
  · show (-1000000 : Int) ≤ _; simp only []; omega
  · show _ ≤ (1000000 : Int); simp only []; omega
  · simp only []; omega
  · unfold mag
    simp only []
    rw [← h3, show (((decDigits i.natAbs).length : Int) - (noTail (decDigits i.natAbs)).length).toNat = (decDigits i.natAbs).length - (noTail (decDigits i.natAbs)).length by omega]
    have := decV_append (noTail (decDigits i.natAbs)) (List.replicate ((decDigits i.natAbs).length - (noTail (decDigits i.natAbs)).length) 48)
    rw [← hsp, decV_zeros, List.length_replicate] at this
    omega
  · simp only []; omega
theorem ofInt_rightB (i : Int) (hi : i.natAbs < 10 ^ 20) : rightB (ofInt i) = true := by
  by_cases h0 : i = 0
  · subst h0; rw [ofInt_zero]; rfl
  · exact decide_eq_true (.inr (ofInt_right i hi h0).1)
theorem sgn_ofInt (i : Int) (hi : i.natAbs < 10 ^ 20) : sgn (ofInt i) = if i < 0 then -1 else if i = 0 then 0 else 1 := by
  by_cases h0 : i = 0
  · subst h0; rw [ofInt_zero]; rfl
  · obtain ⟨h1, _, h3, _, _⟩ := ofInt_right i hi h0
    have hne : (ofInt i).dig ≠ [] := by intro e; have := h1.1; rw [e] at this; simp [allDig] at this
    unfold sgn
    rw [if_neg hne, h3]
    by_cases hn : i < 0
    · simp [hn]
    · simp [hn, h0]
/-- Of ints the order is that of ints. -/
theorem cmpL_ofInt (i k : Int) (hi : i.natAbs < 10 ^ 20) (hk : k.natAbs < 10 ^ 20) : cmpL (ofInt i) (ofInt k) = compareInt i k := by
  unfold cmpL
  simp only [ofInt_rightB i hi, ofInt_rightB k hk, sgn_ofInt i hi, sgn_ofInt k hk]
  simp only [Bool.true_eq_false, false_and, if_false]
  unfold compareInt
  rcases Int.lt_trichotomy i 0 with h | h | h
  · rcases Int.lt_trichotomy k 0 with g | g | g
    · obtain ⟨p1, p2, _, p4, _⟩ := ofInt_right i hi (by omega)
      obtain ⟨q1, q2, _, q4, _⟩ := ofInt_right k hk (by omega)
      have := farL_val _ _ p1 q1 p2 q2
      rw [p4, q4] at this
      unfold compareInt at this
      rw [this]
      simp only [h, g, if_true]
      by_cases c : i < k
      · simp [c]; omega
      · by_cases d : k < i
        · simp [c, d]; omega
        · simp [c, d]; omega
    · subst g; simp [h]
    · simp [h, show ¬ k < 0 by omega, show ¬ k = 0 by omega]; omega
  · subst h
    rcases Int.lt_trichotomy k 0 with g | g | g
    · simp [g]; omega
    · subst g; simp
    · simp [show ¬ k < 0 by omega, show ¬ k = 0 by omega, g]
  · rcases Int.lt_trichotomy k 0 with g | g | g
    · simp [show ¬ i < 0 by omega, show ¬ i = 0 by omega, g]; omega
    · subst g; simp [show ¬ i < 0 by omega, show ¬ i = 0 by omega, h]
    · obtain ⟨p1, p2, _, p4, _⟩ := ofInt_right i hi (by omega)
      obtain ⟨q1, q2, _, q4, _⟩ := ofInt_right k hk (by omega)
      have := farL_val _ _ p1 q1 p2 q2
      rw [p4, q4] at this
      unfold compareInt at this
      rw [this]
      simp only [show ¬ i < 0 by omega, show ¬ i = 0 by omega, show ¬ k < 0 by omega, show ¬ k = 0 by omega, if_false]
      by_cases c : i < k
      · simp [c]; omega
      · by_cases d : k < i
        · simp [c, d]; omega
        · simp [c, d]; omega
end Go.Proofs.YtnnlpkbopeiefaaGreatDoor
/-! PLAIN: texts of decimals. -/
namespace Go.Proofs.YtnnlpkbopeiefaaGreatDoor
set_option linter.unusedSimpArgs false
set_option linter.unusedVariables false
open Go.Lib (compareBytes compareInt itoa decDigits nDigits)
def textL (n : Num) : List UInt8 :=
  if rightB n = false then [] else if n.dig = [] then [48] else
  (if n.neg then [45] else []) ++ (n.dig ++ (if n.exp ≠ 0 then 101 :: itoa n.exp else []))
theorem cutAt_no {p : UInt8 → Bool} {l a b : List UInt8} (h : cutAt p l = (a, b, false)) : a = l ∧ b = [] := by
  unfold cutAt at h
  split at h
  · injection h with h1 h2; injection h2 with h3 _; exact ⟨h1.symm, h3.symm⟩
  · injection h with h1 h2; injection h2 with h3 h4; cases h4
theorem allDig_ne {l : List UInt8} (h : allDig l = true) : l ≠ [] ∧ l.all isDig = true := by
  unfold allDig at h
  rw [Bool.and_eq_true] at h
  exact ⟨by intro e; rw [e] at h; simp at h, h.2⟩
theorem allDig_mk {l : List UInt8} (h : l ≠ []) (h2 : l.all isDig = true) : allDig l = true := by
  unfold allDig
  rw [h2, Bool.and_true]
  cases l with
  | nil => exact absurd rfl h
  | cons _ _ => rfl
theorem noTail_head {l : List UInt8} (h : l.head? ≠ some 48) (hne : l ≠ []) : noTail l ≠ [] ∧ (noTail l).head? ≠ some 48 := by
  have hsp := noTail_split l
  have hn : noTail l ≠ [] := by
    intro e
    rw [e, List.nil_append] at hsp
    cases hc : l with
    | nil => exact hne hc
    | cons x t =>
      rw [hc] at hsp h
      simp only [List.length_cons, List.length_nil, Nat.sub_zero, List.replicate_succ] at hsp
      injection hsp with hx _
      apply h; rw [hx]; rfl
  refine ⟨hn, ?_⟩
  rw [hsp] at h
  cases hc : noTail l with
  | nil => exact absurd hc hn
  | cons x t => rw [hc] at h; exact h
theorem noZeros_head (l : List UInt8) : (noZeros l).head? ≠ some 48 := by
  unfold noZeros
  intro h
  have := List.head?_dropWhile_not (p := fun x : UInt8 => x == 48) (l := l)
  rw [h] at this
  simp at this
theorem noZeros_all {l : List UInt8} (h : l.all isDig = true) : (noZeros l).all isDig = true := by
  rw [List.all_eq_true] at h ⊢
  intro x hx
  exact h x ((List.dropWhile_sublist _).subset hx)
theorem noTail_all {l : List UInt8} (h : l.all isDig = true) : (noTail l).all isDig = true := by
  rw [noTail_split l, List.all_append, Bool.and_eq_true] at h
  exact h.1
theorem litOf_parts {l : List UInt8} {x : Lit} (h : litOf l = some x) : allDig x.whole = true ∧ x.rest.all isDig = true ∧ x.exp.all isDig = true := by
  unfold litOf at h
  simp only [] at h
  have hx0 : (cutAt isE (unsign l)).2.2 = false → (if (cutAt isE (unsign l)).2.2 = true then unplus (cutAt isE (unsign l)).2.1 else []) = [] := fun e => by rw [e]; rfl
  generalize (if (cutAt isE (unsign l)).2.2 = true then unplus (cutAt isE (unsign l)).2.1 else []) = xx at h hx0
  split at h
  · rename_i hok
    injection h with h
    subst h
    unfold litOk at hok
    simp only [Bool.and_eq_true, Bool.or_eq_true, Bool.not_eq_true'] at hok
    obtain ⟨⟨h1, h2, h3⟩, _⟩ := hok
    refine ⟨h2, ?_, ?_⟩
    · rcases h3 with h3 | h3
      · have := (cutAt_no (p := isDot) (l := (cutAt isE (unsign l)).1) (a := (cutAt isDot (cutAt isE (unsign l)).1).1) (b := (cutAt isDot (cutAt isE (unsign l)).1).2.1) (by rw [← h3])).2
        rw [this]; rfl
      · exact (allDig_ne h3).2
    · rcases h1 with h1 | h1
      · rw [hx0 h1]; rfl
      · exact (allDig_ne h1).2
  · cases h
theorem parseLit_right {x : Lit} {n : Num} (h1 : allDig x.whole = true) (h2 : x.rest.all isDig = true) (h : parseLit x = (n, 0)) : rightB n = true := by
  unfold parseLit at h
  split at h
  · injection h with _ h; cases h
  rename_i hlen
  split at h
  · injection h with _ h; cases h
  simp only [] at h
  generalize (if x.low = true then - decV x.exp else decV x.exp) = ee at h
  split at h
  · injection h with h _; subst h; rfl
  rename_i hd
  split at h
  · injection h with _ h; cases h
  rename_i hk
  injection h with h _
  subst h
  have hall : (noZeros (x.whole ++ x.rest)).all isDig = true := noZeros_all (by rw [List.all_append, Bool.and_eq_true]; exact ⟨(allDig_ne h1).2, h2⟩)
  have hh := noTail_head (noZeros_head _) hd
  have hl1 : (noZeros (x.whole ++ x.rest)).length ≤ x.whole.length + x.rest.length := by
    have := (List.dropWhile_sublist (p := fun c : UInt8 => c == 48) (l := x.whole ++ x.rest)).length_le
    rw [List.length_append] at this; exact this
  have hl2 := congrArg List.length (noTail_split (noZeros (x.whole ++ x.rest)))
  rw [List.length_append] at hl2
  refine decide_eq_true (.inr ⟨allDig_mk hh.1 (noTail_all hall), ?_, hh.2, noTail_last _, ?_, ?_⟩)
  · show (noTail (noZeros (x.whole ++ x.rest))).length ≤ 1000; omega
  · simp only []; omega
  · simp only []; omega
theorem parseL_right {l : List UInt8} {n : Num} (h : parseL l = (n, 0)) : rightB n = true := by
  unfold parseL at h
  cases hl : litOf l with
  | none => rw [hl] at h; injection h with _ h; cases h
  | some x =>
    rw [hl] at h
    obtain ⟨h1, h2, _⟩ := litOf_parts hl
    exact parseLit_right h1 h2 h
theorem textL_ne {n : Num} (h : rightB n = true) : textL n ≠ [] := by
  unfold textL
  rw [h]
  simp only [Bool.true_eq_false, if_false]
  split
  · simp
  · rename_i hd
    intro e
    rw [List.append_eq_nil_iff, List.append_eq_nil_iff] at e
    exact hd e.2.1
/-- Texts and right numbers are each other's. -/
theorem parse_text (n : Num) (h : rightB n = true) : parseL (textL n) = (n, 0) := by
  rcases of_decide_eq_true h with h0 | hr
  · subst h0; rfl
  have hr' := hr
  obtain ⟨hd, hlen, hh, hl, he1, he2⟩ := hr
  obtain ⟨hne, hall⟩ := allDig_ne hd
  obtain ⟨n1, n2, n3, n4⟩ := dig_not _ hall
  have ht : textL n = (if n.neg then [45] else []) ++ (n.dig ++ (if n.exp ≠ 0 then 101 :: itoa n.exp else [])) := by
    unfold textL; rw [h]; simp only [Bool.true_eq_false, if_false]; rw [if_neg hne]
  have hhd : ∀ t : List UInt8, (n.dig ++ t).head? = n.dig.head? := fun t => by
    cases hc : n.dig with
    | nil => exact absurd hc hne
    | cons _ _ => rfl
  have hu : unsign (textL n) = n.dig ++ (if n.exp ≠ 0 then 101 :: itoa n.exp else []) ∧ ((textL n).head? == some 45) = n.neg := by
    rw [ht]; unfold unsign
    cases n.neg with
    | true => simp
    | false =>
      simp only [Bool.false_eq_true, if_false, List.nil_append]
      rw [hhd, if_neg n3]
      exact ⟨rfl, beq_eq_false_iff_ne.2 n3⟩
  have hfin : ∀ x : Lit, x = ⟨n.neg, n.dig, [], decide (n.exp < 0), if n.exp = 0 then [] else decDigits n.exp.natAbs⟩ → parseLit x = (n, 0) := by
    rintro x rfl
    unfold parseLit
    simp only [List.length_nil, Nat.add_zero, List.append_nil]
    rw [if_neg (by omega)]
    have hz : (noZeros (if n.exp = 0 then [] else decDigits n.exp.natAbs)).length ≤ 9 := by
      have h9 := decDigits_len n.exp.natAbs 9 (by omega) (by decide)
      by_cases e0 : n.exp = 0
      · rw [if_pos e0]; simp [noZeros]
      · rw [if_neg e0]; exact Nat.le_trans ((List.dropWhile_sublist _).length_le) h9
    rw [if_neg (by omega), noZeros_same hh, if_neg hne, noTail_same hl]
    have hv : (if decide (n.exp < 0) = true then - decV (if n.exp = 0 then [] else decDigits n.exp.natAbs) else decV (if n.exp = 0 then [] else decDigits n.exp.natAbs)) = n.exp := by
      by_cases e0 : n.exp = 0
      · rw [e0]; rfl
      · rw [if_neg e0, (decDigits_dig _).2.2]
        by_cases e1 : n.exp < 0
        · rw [if_pos (decide_eq_true e1)]; omega
        · rw [if_neg (by simp [e1])]; omega
    rw [hv, if_neg (by omega)]
    cases n
    simp
  unfold parseL
  by_cases e0 : n.exp = 0
  · have hlit : litOf (textL n) = some ⟨n.neg, n.dig, [], decide (n.exp < 0), if n.exp = 0 then [] else decDigits n.exp.natAbs⟩ := by
      unfold litOf
      simp only [hu.1, hu.2, e0, ne_eq, not_true, if_false, List.append_nil, cutAt_none isE _ n1, cutAt_none isDot _ n2]
      have hok : litOk false false [] n.dig [] = true := by
        unfold litOk; rw [hd]; simp [hh]
      simp [hok]
    rw [hlit]; exact hfin _ rfl
  · have hlit : litOf (textL n) = some ⟨n.neg, n.dig, [], decide (n.exp < 0), if n.exp = 0 then [] else decDigits n.exp.natAbs⟩ := by
      obtain ⟨d1, d2, d3⟩ := decDigits_dig n.exp.natAbs
      obtain ⟨_, _, m3, m4⟩ := dig_not _ d1
      have hp : unplus (itoa n.exp) = decDigits n.exp.natAbs ∧ ((itoa n.exp).head? == some 45) = decide (n.exp < 0) := by
        unfold unplus itoa
        by_cases e1 : n.exp < 0
        · rw [if_pos e1]; simp [e1]
        · rw [if_neg e1, show n.exp.toNat = n.exp.natAbs by omega, if_neg (by intro hc; rcases hc with hc | hc; exact m3 hc; exact m4 hc)]
          exact ⟨rfl, by rw [decide_eq_false e1, beq_eq_false_iff_ne]; exact m3⟩
      unfold litOf
      simp only [hu.1, hu.2, ne_eq, e0, not_false_eq_true, if_true, cutAt_some isE _ 101 _ n1 rfl, cutAt_none isDot _ n2, hp.1, hp.2, Bool.true_and, if_false]
      have hok : litOk true false (decDigits n.exp.natAbs) n.dig [] = true := by
        unfold litOk; rw [hd, allDig_mk d2 d1]; simp [hh]
      simp [hok]
    rw [hlit]; exact hfin _ rfl
end Go.Proofs.YtnnlpkbopeiefaaGreatDoor
