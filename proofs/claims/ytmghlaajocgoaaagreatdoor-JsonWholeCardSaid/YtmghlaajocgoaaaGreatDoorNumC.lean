import Derived.Test.YtmghlaajocgoaaaGreatDoorNumB
/-! PLAIN: decimals and their values. -/
namespace Go.Proofs.YtmghlaajocgoaaaGreatDoor
set_option linter.unusedSimpArgs false
set_option linter.unusedVariables false
open Go.Lib (compareBytes compareInt)

/-- Digits one by one, noughts behind the last one. -/
def padCmp : List UInt8 → List UInt8 → Int
  | [], [] => 0
  | [], d :: t => if 48 < d.toNat then -1 else if d.toNat < 48 then 1 else padCmp [] t
  | c :: s, [] => if c.toNat < 48 then -1 else if 48 < c.toNat then 1 else padCmp s []
  | c :: s, d :: t => if c.toNat < d.toNat then -1 else if d.toNat < c.toNat then 1 else padCmp s t
theorem padCmp_left : ∀ t : List UInt8, t.all isDig = true → t ≠ [] → t.getLast? ≠ some 48 → padCmp [] t = -1
  | [], _, h, _ => absurd rfl h
  | d :: t, hd, _, hl => by
    rw [List.all_cons, Bool.and_eq_true] at hd
    have h1 : 48 ≤ d.toNat ∧ d.toNat ≤ 57 := of_decide_eq_true hd.1
    unfold padCmp
    by_cases h : 48 < d.toNat
    · rw [if_pos h]
    · have e : d = 48 := by apply UInt8.toNat_inj.1; rw [show (48 : UInt8).toNat = 48 from rfl]; omega
      rw [if_neg h, if_neg (by omega)]
      have hne : t ≠ [] := by rintro rfl; subst e; simp at hl
      refine padCmp_left t hd.2 hne ?_
      rw [List.getLast?_cons] at hl
      intro hc; apply hl; rw [hc]; rfl
theorem padCmp_neg : ∀ a b : List UInt8, padCmp b a = - padCmp a b
  | [], [] => by simp [padCmp]
  | [], d :: t => by
    have := padCmp_neg [] t
    unfold padCmp
    by_cases h : 48 < d.toNat
    · rw [if_pos h, if_neg (by omega), if_pos h]; rfl
    · by_cases h2 : d.toNat < 48
      · rw [if_pos h2, if_neg h, if_pos h2]
      · rw [if_neg h2, if_neg h, if_neg h, if_neg h2]; exact this
  | c :: s, [] => by
    have := padCmp_neg s []
    unfold padCmp
    by_cases h : 48 < c.toNat
    · rw [if_pos h, if_neg (by omega), if_pos h]
    · by_cases h2 : c.toNat < 48
      · rw [if_pos h2, if_neg h, if_pos h2]; rfl
      · rw [if_neg h2, if_neg h, if_neg h, if_neg h2]; exact this
  | c :: s, d :: t => by
    have := padCmp_neg s t
    unfold padCmp
    by_cases h : c.toNat < d.toNat
    · rw [if_pos h, if_neg (by omega), if_pos h]; rfl
    · by_cases h2 : d.toNat < c.toNat
      · rw [if_pos h2, if_neg h, if_pos h2]
      · rw [if_neg h2, if_neg h, if_neg h, if_neg h2]; exact this
/-- Of digits that do not end with nought it is the order of the texts. -/
theorem padCmp_bytes : ∀ a b : List UInt8, a.all isDig = true → b.all isDig = true → a.getLast? ≠ some 48 → b.getLast? ≠ some 48 → padCmp a b = compareBytes a b
  | [], [], _, _, _, _ => by simp [padCmp, compareBytes]
  | [], d :: t, _, hb, _, lb => by rw [padCmp_left _ hb (by simp) lb]; rfl
  | c :: s, [], ha, _, la, _ => by rw [padCmp_neg, padCmp_left _ ha (by simp) la]; rfl
  | c :: s, d :: t, ha, hb, la, lb => by
    rw [List.all_cons, Bool.and_eq_true] at ha hb
    unfold padCmp compareBytes
    have e1 : (c < d) = (c.toNat < d.toNat) := rfl
    have e2 : (d < c) = (d.toNat < c.toNat) := rfl
    simp only [e1, e2]
    by_cases h : c.toNat < d.toNat
    · rw [if_pos h, if_pos h]
    · by_cases h2 : d.toNat < c.toNat
      · rw [if_neg h, if_neg h, if_pos h2, if_pos h2]
      · rw [if_neg h, if_neg h, if_neg h2, if_neg h2]
        have hl : ∀ (x : UInt8) (l : List UInt8), (x :: l).getLast? ≠ some 48 → l = [] ∨ l.getLast? ≠ some 48 := by
          intro x l hx
          by_cases hn : l = []
          · exact .inl hn
          · right; intro hc; apply hx; rw [List.getLast?_cons, hc]; rfl
        rcases hl c s la with rfl | la' <;> rcases hl d t lb with rfl | lb'
        · simp [padCmp, compareBytes]
        · exact padCmp_bytes [] t rfl hb.2 (by simp) lb'
        · exact padCmp_bytes s [] ha.2 rfl la' (by simp)
        · exact padCmp_bytes s t ha.2 hb.2 la' lb'
theorem padCmp_zeros : ∀ (m : Nat) (b : List UInt8), padCmp (List.replicate m 48) b = padCmp [] b
  | 0, b => rfl
  | m + 1, [] => by
    have ih := padCmp_zeros m []
    have e : padCmp (48 :: List.replicate m 48) [] = padCmp (List.replicate m 48) [] := by rw [padCmp]; simp
    rw [List.replicate_succ, e, ih]
  | m + 1, d :: t => by
    rw [List.replicate_succ]
    unfold padCmp
    rw [padCmp_zeros m t]
    simp
theorem padCmp_tail : ∀ (a b : List UInt8) (m : Nat), padCmp (a ++ List.replicate m 48) b = padCmp a b
  | [], b, m => by rw [List.nil_append]; exact padCmp_zeros m b
  | c :: s, [], m => by
    rw [List.cons_append]
    unfold padCmp
    rw [padCmp_tail s [] m]
  | c :: s, d :: t, m => by
    rw [List.cons_append]
    unfold padCmp
    rw [padCmp_tail s t m]
theorem padCmp_tails (a b : List UInt8) (m n : Nat) : padCmp (a ++ List.replicate m 48) (b ++ List.replicate n 48) = padCmp a b := by
  rw [padCmp_tail, padCmp_neg, padCmp_tail, ← padCmp_neg]

theorem decV_cons (c : UInt8) (t : List UInt8) : decV (c :: t) = ((c.toNat : Int) - 48) * 10 ^ t.length + decV t := by
  have := decV_append [c] t
  rw [List.singleton_append] at this
  rw [this]
  unfold decV; simp
theorem dig_of {l : List UInt8} {c : UInt8} (h : (c :: l).all isDig = true) : 48 ≤ c.toNat ∧ c.toNat ≤ 57 ∧ l.all isDig = true := by
  rw [List.all_cons, Bool.and_eq_true] at h
  have := of_decide_eq_true h.1
  exact ⟨this.1, this.2, h.2⟩
/-- Of as many digits the order is that of the numbers. -/
theorem padCmp_val : ∀ a b : List UInt8, a.length = b.length → a.all isDig = true → b.all isDig = true → padCmp a b = compareInt (decV a) (decV b)
  | [], [], _, _, _ => by simp [padCmp, compareInt]
  | [], _ :: _, h, _, _ => by simp at h
  | _ :: _, [], h, _, _ => by simp at h
  | c :: s, d :: t, hl, ha, hb => by
    obtain ⟨c1, c2, hs⟩ := dig_of ha
    obtain ⟨d1, d2, ht⟩ := dig_of hb
    have hl' : s.length = t.length := by simpa using hl
    have b1 := decV_bd s hs
    have b2 := decV_bd t ht
    have ih := padCmp_val s t hl' hs ht
    unfold padCmp
    rw [decV_cons, decV_cons, hl']
    rw [hl'] at b1
    have hp : (0 : Int) < 10 ^ t.length := Int.pow_pos (by decide)
    generalize (10 : Int) ^ t.length = P at *
    obtain ⟨u, hu⟩ : ∃ u : Int, u = (c.toNat : Int) - 48 := ⟨_, rfl⟩
    obtain ⟨v, hv⟩ : ∃ v : Int, v = (d.toNat : Int) - 48 := ⟨_, rfl⟩
    rw [← hu, ← hv]
    unfold compareInt at ih ⊢
    rcases Int.lt_trichotomy u v with h | h | h
    · have hm : u * P + P ≤ v * P := by
        have : (u + 1) * P ≤ v * P := Int.mul_le_mul_of_nonneg_right (by omega) (by omega)
        rw [Int.add_mul, Int.one_mul] at this; exact this
      rw [if_pos (by omega), if_pos (by omega)]
    · subst h
      rw [if_neg (by omega), if_neg (by omega), ih]
      by_cases k1 : decV s < decV t
      · rw [if_pos k1, if_pos (by omega)]
      · by_cases k2 : decV s > decV t
        · rw [if_neg k1, if_pos k2, if_neg (by omega), if_pos (by omega)]
        · rw [if_neg k1, if_neg k2, if_neg (by omega), if_neg (by omega)]
    · have hm : v * P + P ≤ u * P := by
        have : (v + 1) * P ≤ u * P := Int.mul_le_mul_of_nonneg_right (by omega) (by omega)
        rw [Int.add_mul, Int.one_mul] at this; exact this
      rw [if_neg (by omega), if_pos (by omega), if_neg (by omega), if_pos (by omega)]
theorem decV_zeros : ∀ m : Nat, decV (List.replicate m 48) = 0
  | 0 => rfl
  | m + 1 => by rw [List.replicate_succ, decV_cons, decV_zeros m]; simp
theorem all_zeros (m : Nat) : (List.replicate m (48 : UInt8)).all isDig = true := by
  rw [List.all_eq_true]; intro x hx; rw [List.eq_of_mem_replicate hx]; rfl
/-- The value of a number that has no digits behind the point. -/
def mag (n : Num) : Int := decV n.dig * 10 ^ n.exp.toNat
theorem mag_pad (n : Num) : decV (n.dig ++ List.replicate n.exp.toNat 48) = mag n := by
  rw [decV_append, decV_zeros, List.length_replicate]; unfold mag; omega
theorem mag_bd (n : Num) (h : rightP n) (he : 0 ≤ n.exp) : (10 : Int) ^ ((topOf n).toNat - 1) ≤ mag n ∧ mag n < 10 ^ (topOf n).toNat := by
  obtain ⟨hd, _, hh, _, _, _⟩ := h
  have hd2 : n.dig ≠ [] ∧ n.dig.all isDig = true := by
    unfold allDig at hd
    rw [Bool.and_eq_true] at hd
    exact ⟨by intro e; rw [e] at hd; simp at hd, hd.2⟩
  rw [← mag_pad]
  have hlen : (n.dig ++ List.replicate n.exp.toNat (48 : UInt8)).length = (topOf n).toNat := by
    rw [List.length_append, List.length_replicate]; unfold topOf; omega
  have hall : (n.dig ++ List.replicate n.exp.toNat (48 : UInt8)).all isDig = true := by
    rw [List.all_append, Bool.and_eq_true]; exact ⟨hd2.2, all_zeros _⟩
  have hb := decV_bd _ hall
  rw [hlen] at hb
  refine ⟨?_, hb.2⟩
  cases hc : n.dig with
  | nil => exact absurd hc hd2.1
  | cons c t =>
    rw [hc] at hall hlen hh
    rw [List.cons_append] at hall hlen ⊢
    obtain ⟨c1, c2, ht⟩ := dig_of hall
    have hc48 : c.toNat ≠ 48 := fun e => hh (by rw [List.head?_cons]; congr 1; exact UInt8.toNat_inj.1 e)
    have hb2 := decV_bd _ ht
    rw [decV_cons, ← hlen, List.length_cons, Nat.add_sub_cancel]
    have hp : (0 : Int) < 10 ^ (t ++ List.replicate n.exp.toNat (48 : UInt8)).length := Int.pow_pos (by decide)
    generalize (10 : Int) ^ (t ++ List.replicate n.exp.toNat (48 : UInt8)).length = P at *
    have : 1 * P ≤ ((c.toNat : Int) - 48) * P := Int.mul_le_mul_of_nonneg_right (by omega) (by omega)
    omega
theorem farL_val (a b : Num) (ha : rightP a) (hb : rightP b) (ea : 0 ≤ a.exp) (eb : 0 ≤ b.exp) : farL a b = compareInt (mag a) (mag b) := by
  have ba := mag_bd a ha ea
  have bb := mag_bd b hb eb
  have hda := ha.1; have hdb := hb.1
  have da : a.dig.all isDig = true ∧ 1 ≤ a.dig.length := by
    unfold allDig at hda; rw [Bool.and_eq_true] at hda
    refine ⟨hda.2, ?_⟩
    cases hc : a.dig with
    | nil => rw [hc] at hda; simp at hda
    | cons _ _ => simp
  have db : b.dig.all isDig = true ∧ 1 ≤ b.dig.length := by
    unfold allDig at hdb; rw [Bool.and_eq_true] at hdb
    refine ⟨hdb.2, ?_⟩
    cases hc : b.dig with
    | nil => rw [hc] at hdb; simp at hdb
    | cons _ _ => simp
  have mono : ∀ i j : Nat, i ≤ j → (10 : Int) ^ i ≤ 10 ^ j := fun i j hij => by
    obtain ⟨k, rfl⟩ := Nat.exists_eq_add_of_le hij
    rw [Int.pow_add]
    have h1 : (0 : Int) < 10 ^ i := Int.pow_pos (by decide)
    have h2 : (0 : Int) < 10 ^ k := Int.pow_pos (by decide)
    have : (10 : Int) ^ i * 1 ≤ 10 ^ i * 10 ^ k := Int.mul_le_mul_of_nonneg_left (by omega) (by omega)
    omega
  unfold farL compareInt
  by_cases h1 : topOf a < topOf b
  · have := mono (topOf a).toNat ((topOf b).toNat - 1) (by unfold topOf at *; omega)
    rw [if_pos h1, if_pos (by omega)]
  · by_cases h2 : topOf b < topOf a
    · have := mono (topOf b).toNat ((topOf a).toNat - 1) (by unfold topOf at *; omega)
      rw [if_neg h1, if_pos h2, if_neg (by omega), if_pos (by omega)]
    · rw [if_neg h1, if_neg h2, ← padCmp_bytes _ _ da.1 db.1 ha.2.2.2.1 hb.2.2.2.1, ← padCmp_tails a.dig b.dig a.exp.toNat b.exp.toNat,
        padCmp_val _ _ (by rw [List.length_append, List.length_append, List.length_replicate, List.length_replicate]; unfold topOf at *; omega)
          (by rw [List.all_append, Bool.and_eq_true]; exact ⟨da.1, all_zeros _⟩) (by rw [List.all_append, Bool.and_eq_true]; exact ⟨db.1, all_zeros _⟩), mag_pad, mag_pad]
      rfl
end Go.Proofs.YtmghlaajocgoaaaGreatDoor
