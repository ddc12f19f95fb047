import Derived.Test.YtmghlaajocgoaaaGreatDoorLexA
/-! PLAIN: the laws of tokens: one behind another they are the text; each alone; two texts with a comma between them. -/
namespace Go.Proofs.YtmghlaajocgoaaaGreatDoor
set_option linter.unusedSimpArgs false
set_option linter.unusedVariables false
open Go.Lib

theorem toksGo_cons (f : Nat) (c : UInt8) (r : List UInt8) (i : Nat) : toksGo (f + 1) (c :: r) i = if (tokR (c :: r)).2.2 = 0 then (⟨(tokR (c :: r)).1, i, i + (tokR (c :: r)).2.1⟩ :: (toksGo f ((c :: r).drop (tokR (c :: r)).2.1) (i + (tokR (c :: r)).2.1)).1, (toksGo f ((c :: r).drop (tokR (c :: r)).2.1) (i + (tokR (c :: r)).2.1)).2) else ([], some (i + (tokR (c :: r)).2.1, (tokR (c :: r)).2.2)) := rfl
theorem toksGo_nil (f i : Nat) : toksGo f [] i = ([], none) := by cases f <;> rfl
theorem toksGo_fuel : ∀ (f g : Nat) (l : List UInt8) (i : Nat), l.length ≤ f → l.length ≤ g → toksGo f l i = toksGo g l i
  | f, g, [], i, _, _ => by rw [toksGo_nil, toksGo_nil]
  | 0, _, _ :: _, _, h, _ => by simp at h
  | _, 0, _ :: _, _, _, h => by simp at h
  | f + 1, g + 1, c :: r, i, hf, hg => by
    rw [toksGo_cons, toksGo_cons]
    by_cases h : (tokR (c :: r)).2.2 = 0
    · have hok := (tokR_ok (c :: r) (List.cons_ne_nil _ _)).2 h
      have hlc : (c :: r).length = r.length + 1 := rfl
      rw [if_pos h, if_pos h, toksGo_fuel f g _ _ (by rw [List.length_drop]; omega) (by rw [List.length_drop]; omega)]
    · rw [if_neg h, if_neg h]
/-- Tokens one behind another, from a byte to a byte. -/
def Chain : List Tok → Nat → Nat → Prop
  | [], a, b => a = b
  | t :: ts, a, b => t.sf = a ∧ t.sf < t.st ∧ 1 ≤ t.kind ∧ t.kind ≤ 12 ∧ Chain ts t.st b
theorem Chain.le : ∀ {ts : List Tok} {a b : Nat}, Chain ts a b → a ≤ b
  | [], _, _, h => Nat.le_of_eq h
  | _ :: ts, _, _, ⟨h1, h2, _, _, h3⟩ => by have := Chain.le h3; omega
theorem toks_chain : ∀ (f : Nat) (l : List UInt8) (i : Nat), l.length ≤ f → (toksGo f l i).2 = none → Chain (toksGo f l i).1 i (i + l.length)
  | f, [], i, _, _ => by rw [toksGo_nil]; rfl
  | 0, _ :: _, _, h, _ => by simp at h
  | f + 1, c :: r, i, hf, h => by
    rw [toksGo_cons] at h ⊢
    by_cases h0 : (tokR (c :: r)).2.2 = 0
    · rw [if_pos h0] at h ⊢
      have hle := (tokR_ok (c :: r) (List.cons_ne_nil _ _)).1
      have hok := (tokR_ok (c :: r) (List.cons_ne_nil _ _)).2 h0
      have hlc : (c :: r).length = r.length + 1 := rfl
      have := toks_chain f _ _ (by rw [List.length_drop]; omega) h
      rw [List.length_drop] at this
      refine ⟨rfl, by simp only []; omega, hok.1, hok.2.1, ?_⟩
      rw [show i + (c :: r).length = i + (tokR (c :: r)).2.1 + ((c :: r).length - (tokR (c :: r)).2.1) by omega]
      exact this
    · rw [if_neg h0] at h; cases h
theorem toks_err : ∀ (f : Nat) (l : List UInt8) (i p : Nat) (e : Int), l.length ≤ f → (toksGo f l i).2 = some (p, e) → i ≤ p ∧ p ≤ i + l.length ∧ e ≠ 0
  | f, [], i, _, _, _, h => by rw [toksGo_nil] at h; cases h
  | 0, _ :: _, _, _, _, h, _ => by simp at h
  | f + 1, c :: r, i, p, e, hf, h => by
    rw [toksGo_cons] at h
    have hle := (tokR_ok (c :: r) (List.cons_ne_nil _ _)).1
    by_cases h0 : (tokR (c :: r)).2.2 = 0
    · rw [if_pos h0] at h
      have hok := (tokR_ok (c :: r) (List.cons_ne_nil _ _)).2 h0
      have hlc : (c :: r).length = r.length + 1 := rfl
      have := toks_err f _ _ p e (by rw [List.length_drop]; omega) h
      rw [List.length_drop] at this
      omega
    · rw [if_neg h0] at h
      simp only [Option.some.injEq, Prod.mk.injEq] at h
      obtain ⟨rfl, rfl⟩ := h
      exact ⟨by omega, by omega, h0⟩
/-- A token's kind is the blanks' where its first byte is one. -/
theorem tokR_blank (c : UInt8) (r : List UInt8) (h0 : (tokR (c :: r)).2.2 = 0) : ((tokR (c :: r)).1 = 1 ↔ isBlank c = true) := by
  unfold tokR at h0 ⊢
  simp only [] at h0 ⊢
  cases hs : signI c with
  | some k =>
    simp only []
    have hn : isBlank c = false := by
      have : ∀ n : Fin 256, (signI (UInt8.ofNat n.val)).isSome = true → isBlank (UInt8.ofNat n.val) = false := by decide +kernel
      have := this ⟨c.toNat, c.toNat_lt⟩
      simp only [UInt8.ofNat_toNat, hs] at this
      exact this rfl
    rw [hn]
    simp; omega
  | none =>
    rw [hs] at h0
    simp only [] at h0 ⊢
    by_cases hb : isBlank c = true
    · rw [if_pos hb, hb]; simp
    · rw [if_neg hb] at h0 ⊢
      have hbf : isBlank c = false := by simpa using hb
      rw [hbf]
      by_cases h34 : c = 34
      · rw [if_pos h34]; split <;> simp
      rw [if_neg h34]
      by_cases hd : c = 45 ∨ isDig c = true
      · rw [if_pos hd]; split <;> simp
      rw [if_neg hd]
      have hw := wordL_cases ((c :: r).take (runL isSmall (c :: r)))
      split
      · simp
      · simp only []
        constructor
        · intro h; omega
        · intro h; cases h
theorem runL_next (p : UInt8 → Bool) : ∀ (l : List UInt8) (c : UInt8), (l.drop (runL p l)).head? = some c → p c = false
  | [], c, h => by simp at h
  | d :: l, c, h => by
    rw [runL_cons] at h
    by_cases hd : p d = true
    · rw [if_pos hd, List.drop_succ_cons] at h; exact runL_next p l c h
    · rw [if_neg hd] at h
      simp at h
      rw [← h]; simpa using hd
/-- No two blanks side by side. -/
def NoBB : List Tok → Prop
  | [] => True
  | [_] => True
  | a :: b :: ts => ¬ (a.kind = 1 ∧ b.kind = 1) ∧ NoBB (b :: ts)
theorem toks_first (f : Nat) (l : List UInt8) (i : Nat) (t : Tok) (ts : List Tok) (h : (toksGo f l i).1 = t :: ts) : ∃ c r, l = c :: r ∧ (tokR l).2.2 = 0 ∧ t.kind = (tokR l).1 := by
  cases l with
  | nil => rw [toksGo_nil] at h; cases h
  | cons c r =>
    cases f with
    | zero => cases h
    | succ f =>
      rw [toksGo_cons] at h
      by_cases h0 : (tokR (c :: r)).2.2 = 0
      · rw [if_pos h0] at h
        simp only [List.cons.injEq] at h
        exact ⟨c, r, rfl, h0, by rw [← h.1]⟩
      · rw [if_neg h0] at h; cases h
theorem toks_noBB : ∀ (f : Nat) (l : List UInt8) (i : Nat), NoBB (toksGo f l i).1
  | f, [], i => by rw [toksGo_nil]; trivial
  | 0, _ :: _, _ => trivial
  | f + 1, c :: r, i => by
    rw [toksGo_cons]
    by_cases h0 : (tokR (c :: r)).2.2 = 0
    · rw [if_pos h0]
      have ih := toks_noBB f ((c :: r).drop (tokR (c :: r)).2.1) (i + (tokR (c :: r)).2.1)
      simp only []
      cases hT : (toksGo f ((c :: r).drop (tokR (c :: r)).2.1) (i + (tokR (c :: r)).2.1)).1 with
      | nil => trivial
      | cons t ts =>
        rw [hT] at ih
        refine ⟨fun ⟨h1, h2⟩ => ?_, ih⟩
        simp only [] at h1
        have hb := (tokR_blank c r h0).1 h1
        obtain ⟨d, u, hd, hd0, hk⟩ := toks_first _ _ _ _ _ hT
        have hn : (tokR (c :: r)).2.1 = runL isBlank (c :: r) := by
          unfold tokR
          have hs : signI c = none := by
            have : ∀ n : Fin 256, isBlank (UInt8.ofNat n.val) = true → signI (UInt8.ofNat n.val) = none := by decide +kernel
            have := this ⟨c.toNat, c.toNat_lt⟩
            simp only [UInt8.ofNat_toNat] at this
            exact this hb
          simp only [hs, if_pos hb]
        rw [hn] at hd hd0 hk
        rw [hd] at hd0 hk
        have hdb := (tokR_blank d u hd0).1 (by rw [← hk]; exact h2)
        have := runL_next isBlank (c :: r) d (by rw [hd]; rfl)
        rw [hdb] at this
        cases this
    · rw [if_neg h0]; trivial
/-- A token alone. -/
theorem toks_alone (l : List UInt8) (hne : l ≠ []) (h : (tokR l).2.2 = 0) (f i : Nat) (hf : (tokR l).2.1 ≤ f) : toksGo f (l.take (tokR l).2.1) i = ([⟨(tokR l).1, i, i + (tokR l).2.1⟩], none) := by
  have ha := tokR_alone l hne h
  have hok := tokR_ok l hne
  have h3 := hok.2 h
  have hlen : (l.take (tokR l).2.1).length = (tokR l).2.1 := by rw [List.length_take, Nat.min_eq_left hok.1]
  obtain ⟨X, hX⟩ : ∃ X, l.take (tokR l).2.1 = X := ⟨_, rfl⟩
  rw [hX] at ha hlen ⊢
  cases X with
  | nil => simp at hlen; omega
  | cons c r =>
    obtain ⟨g, rfl⟩ : ∃ g, f = g + 1 := ⟨f - 1, by omega⟩
    rw [toksGo_cons, ha, if_pos h, List.drop_of_length_le (by omega), toksGo_nil]
/-- Of the tokens of a text each is that of what stands there. -/
theorem toks_each : ∀ (f : Nat) (s l : List UInt8) (i : Nat), l.length ≤ f → s.drop i = l → ∀ t ∈ (toksGo f l i).1, (tokR (s.drop t.sf)).2.2 = 0 ∧ t.kind = (tokR (s.drop t.sf)).1 ∧ t.st = t.sf + (tokR (s.drop t.sf)).2.1 ∧ s.drop t.sf ≠ []
  | f, _, [], i, _, _, t, ht => by rw [toksGo_nil] at ht; cases ht
  | 0, _, _ :: _, _, h, _, _, _ => by simp at h
  | f + 1, s, c :: r, i, hf, hs, t, ht => by
    rw [toksGo_cons] at ht
    by_cases h0 : (tokR (c :: r)).2.2 = 0
    · rw [if_pos h0] at ht
      rcases List.mem_cons.1 ht with rfl | ht
      · simp only []
        rw [hs]
        exact ⟨h0, rfl, rfl, List.cons_ne_nil _ _⟩
      · have hok := (tokR_ok (c :: r) (List.cons_ne_nil _ _)).2 h0
        have hlc : (c :: r).length = r.length + 1 := rfl
        exact toks_each f s _ _ (by rw [List.length_drop]; omega) (by rw [← List.drop_drop, hs]) t ht
    · rw [if_neg h0] at ht; cases ht
def moveT (n : Nat) (t : Tok) : Tok := ⟨t.kind, t.sf + n, t.st + n⟩
theorem toks_off : ∀ (f : Nat) (l : List UInt8) (i k : Nat), toksGo f l (i + k) = ((toksGo f l i).1.map (moveT k), (toksGo f l i).2.map fun x => (x.1 + k, x.2))
  | f, [], i, k => by rw [toksGo_nil, toksGo_nil]; rfl
  | 0, _ :: _, _, _ => rfl
  | f + 1, c :: r, i, k => by
    rw [toksGo_cons, toksGo_cons]
    by_cases h0 : (tokR (c :: r)).2.2 = 0
    · rw [if_pos h0, if_pos h0, show i + k + (tokR (c :: r)).2.1 = (i + (tokR (c :: r)).2.1) + k by omega, toks_off f _ _ k]
      simp only [List.map_cons, Prod.mk.injEq, and_true, List.cons.injEq]
      simp only [moveT, Tok.mk.injEq, and_true, true_and]
    · rw [if_neg h0, if_neg h0]
      simp only [List.map_nil, Option.map_some, Option.some.injEq, Prod.mk.injEq, true_and, and_true]
      omega
/-- Two texts with a comma between them. -/
theorem toks_join : ∀ (f g : Nat) (a b : List UInt8) (i : Nat), a.length ≤ f → (toksGo f a i).2 = none → a.length + 1 + b.length ≤ g →
    toksGo g (a ++ 44 :: b) i = ((toksGo f a i).1 ++ ⟨6, i + a.length, i + a.length + 1⟩ :: (toksGo b.length b (i + a.length + 1)).1, (toksGo b.length b (i + a.length + 1)).2)
  | f, g, [], b, i, _, _, hg => by
    obtain ⟨g, rfl⟩ : ∃ k, g = k + 1 := ⟨g - 1, by simp at hg; omega⟩
    rw [toksGo_nil, List.nil_append, toksGo_cons, tokR_comma_self, if_pos rfl]
    simp only [List.drop_succ_cons, List.drop_zero, List.length_nil, Nat.add_zero, List.nil_append]
    rw [toksGo_fuel g b.length b _ (by simp at hg; omega) (Nat.le_refl _)]
  | 0, _, _ :: _, _, _, h, _, _ => by simp at h
  | f + 1, g, c :: r, b, i, hf, h, hg => by
    have hlc : (c :: r).length = r.length + 1 := rfl
    obtain ⟨g, rfl⟩ : ∃ k, g = k + 1 := ⟨g - 1, by omega⟩
    rw [toksGo_cons] at h
    rw [toksGo_cons, List.cons_append, toksGo_cons]
    by_cases h0 : (tokR (c :: r)).2.2 = 0
    · have hc := tokR_comma (c :: r) b (List.cons_ne_nil _ _) h0
      rw [List.cons_append] at hc
      rw [if_pos h0] at h
      have hle := (tokR_ok (c :: r) (List.cons_ne_nil _ _)).1
      have hok := (tokR_ok (c :: r) (List.cons_ne_nil _ _)).2 h0
      have hd : (c :: (r ++ 44 :: b)).drop (tokR (c :: r)).2.1 = (c :: r).drop (tokR (c :: r)).2.1 ++ 44 :: b := by
        rw [← List.cons_append, List.drop_append_of_le_length hle]
      have hdl : ((c :: r).drop (tokR (c :: r)).2.1).length = (c :: r).length - (tokR (c :: r)).2.1 := List.length_drop
      have ih := toks_join f g ((c :: r).drop (tokR (c :: r)).2.1) b (i + (tokR (c :: r)).2.1) (by omega) h (by omega)
      rw [hc, if_pos h0, if_pos h0, hd, ih, hdl]
      rw [show i + (tokR (c :: r)).2.1 + ((c :: r).length - (tokR (c :: r)).2.1) = i + (c :: r).length by omega]
      rfl
    · rw [if_neg h0] at h; cases h
end Go.Proofs.YtmghlaajocgoaaaGreatDoor
