import Derived.Test.YtbbjgdnbekoaeaaGreatDoorYlA
/-! PLAIN: lines of YAML: what a line's text is (coreL), its parts, and blanks ahead of it. -/
namespace Go.Proofs.YtbbjgdnbekoaeaaGreatDoor
set_option linter.unusedSimpArgs false
set_option linter.unusedVariables false
open Go.Lib

def spL (l : List UInt8) : Nat := (l.takeWhile (· == 32)).length
def trL (l : List UInt8) : Nat := l.length - spL l.reverse
theorem spL_le (l : List UInt8) : spL l ≤ l.length := (List.takeWhile_sublist _).length_le
theorem spL_cons (c : UInt8) (l : List UInt8) : spL (c :: l) = if c = 32 then spL l + 1 else 0 := by
  unfold spL
  rw [List.takeWhile_cons]
  by_cases h : c = 32
  · rw [if_pos (by simp [h]), if_pos h]; rfl
  · rw [if_neg (by simp [h]), if_neg h]; rfl
theorem spL_at : ∀ (l : List UInt8) (i : Nat), i < spL l → l[i]? = some 32
  | [], i, h => by simp [spL] at h
  | c :: l, i, h => by
    rw [spL_cons] at h
    by_cases hc : c = 32
    · rw [if_pos hc] at h
      cases i with
      | zero => rw [hc]; rfl
      | succ i => rw [List.getElem?_cons_succ]; exact spL_at l i (by omega)
    · rw [if_neg hc] at h; omega
theorem spL_end : ∀ (l : List UInt8), l[spL l]? ≠ some 32
  | [] => by simp
  | c :: l => by
    rw [spL_cons]
    by_cases hc : c = 32
    · rw [if_pos hc, List.getElem?_cons_succ]; exact spL_end l
    · rw [if_neg hc]; simpa using hc
theorem trL_le (l : List UInt8) : trL l ≤ l.length := Nat.sub_le _ _
theorem trL_at (l : List UInt8) (i : Nat) (h : trL l ≤ i) (hi : i < l.length) : l[i]? = some 32 := by
  have h1 := spL_le l.reverse
  rw [List.length_reverse] at h1
  unfold trL at h
  have h2 := spL_at l.reverse (l.length - 1 - i) (by omega)
  rw [List.getElem?_reverse (by omega)] at h2
  rw [show l.length - 1 - (l.length - 1 - i) = i by omega] at h2
  exact h2
theorem trL_end (l : List UInt8) (h : 0 < trL l) : l[trL l - 1]? ≠ some 32 := by
  have h1 := spL_le l.reverse
  rw [List.length_reverse] at h1
  have h2 := spL_end l.reverse
  unfold trL at h ⊢
  rw [List.getElem?_reverse (by omega)] at h2
  rw [show l.length - spL l.reverse - 1 = l.length - 1 - spL l.reverse by omega]
  exact h2
def noteGo (t : List UInt8) : Nat → Nat → Nat
  | 0, _ => t.length
  | f + 1, i => if t.length ≤ i then t.length else if t[i]? = some 35 ∧ t[i - 1]? = some 32 then i else noteGo t f (i + 1)
/-- Where the comment begins, from a byte on; the length: there is none. -/
def noteL (t : List UInt8) (a : Nat) : Nat := noteGo t (t.length + 1) (max a 1)
theorem noteGo_spec (t : List UInt8) : ∀ (f i : Nat), t.length < i + f → noteGo t f i ≤ t.length ∧ (noteGo t f i < t.length → i ≤ noteGo t f i ∧ t[noteGo t f i]? = some 35 ∧ t[noteGo t f i - 1]? = some 32) ∧ (∀ j, i ≤ j → j < noteGo t f i → ¬ (t[j]? = some 35 ∧ t[j - 1]? = some 32))
  | 0, i, h => ⟨Nat.le_refl _, fun h => absurd h (Nat.lt_irrefl _), fun j h1 h2 => by simp [noteGo] at h2; omega⟩
  | f + 1, i, h => by
    unfold noteGo
    by_cases h1 : t.length ≤ i
    · rw [if_pos h1]
      exact ⟨Nat.le_refl _, fun h => absurd h (Nat.lt_irrefl _), fun j h2 h3 => by omega⟩
    · rw [if_neg h1]
      by_cases h2 : t[i]? = some 35 ∧ t[i - 1]? = some 32
      · rw [if_pos h2]
        exact ⟨by omega, fun _ => ⟨Nat.le_refl _, h2⟩, fun j h3 h4 => by omega⟩
      · rw [if_neg h2]
        obtain ⟨g1, g2, g3⟩ := noteGo_spec t f (i + 1) (by omega)
        refine ⟨g1, fun h => ⟨by have := (g2 h).1; omega, (g2 h).2⟩, fun j h3 h4 => ?_⟩
        by_cases hj : j = i
        · rw [hj]; exact h2
        · exact g3 j (by omega) h4
theorem noteL_spec (t : List UInt8) (a : Nat) : noteL t a ≤ t.length ∧ (noteL t a < t.length → max a 1 ≤ noteL t a ∧ t[noteL t a]? = some 35 ∧ t[noteL t a - 1]? = some 32) ∧ (∀ j, max a 1 ≤ j → j < noteL t a → ¬ (t[j]? = some 35 ∧ t[j - 1]? = some 32)) :=
  noteGo_spec t (t.length + 1) (max a 1) (by omega)
theorem noteL_unique (t : List UInt8) (a k : Nat) (h1 : k ≤ t.length) (h2 : k < t.length → max a 1 ≤ k ∧ t[k]? = some 35 ∧ t[k - 1]? = some 32) (h3 : ∀ j, max a 1 ≤ j → j < k → ¬ (t[j]? = some 35 ∧ t[j - 1]? = some 32)) : noteL t a = k := by
  obtain ⟨g1, g2, g3⟩ := noteL_spec t a
  rcases Nat.lt_trichotomy (noteL t a) k with h | h | h
  · have := g2 (by omega)
    exact absurd this.2 (h3 _ this.1 h)
  · exact h
  · have := h2 (by omega)
    exact absurd this.2 (g3 _ this.1 h)
theorem rep_at (n i : Nat) (u : List UInt8) (h : i < n) : (List.replicate n (32 : UInt8) ++ u)[i]? = some 32 := by
  rw [List.getElem?_append_left (by rw [List.length_replicate]; exact h), List.getElem?_replicate, if_pos h]
theorem rep_far (n i : Nat) (u : List UInt8) : (List.replicate n (32 : UInt8) ++ u)[n + i]? = u[i]? := by
  rw [List.getElem?_append_right (by rw [List.length_replicate]; omega), List.length_replicate]
  congr 1; omega
/-- Blanks ahead of a text that does not begin with #. -/
theorem noteL_shift (n a : Nat) (u : List UInt8) (h0 : u.head? ≠ some 35) : noteL (List.replicate n 32 ++ u) (n + a) = n + noteL u a := by
  obtain ⟨g1, g2, g3⟩ := noteL_spec u a
  have hlen : (List.replicate n (32 : UInt8) ++ u).length = n + u.length := by rw [List.length_append, List.length_replicate]
  refine noteL_unique _ _ _ (by rw [hlen]; omega) (fun h => ?_) (fun j h1 h2 => ?_)
  · rw [hlen] at h
    obtain ⟨k1, k2, k3⟩ := g2 (by omega)
    refine ⟨by omega, by rw [rep_far]; exact k2, ?_⟩
    rw [show n + noteL u a - 1 = n + (noteL u a - 1) by omega, rep_far]; exact k3
  · obtain ⟨i, rfl⟩ : ∃ i, j = n + i := ⟨j - n, by omega⟩
    rw [rep_far]
    rintro ⟨e1, e2⟩
    cases i with
    | zero => rw [List.head?_eq_getElem?] at h0; exact h0 e1
    | succ i =>
      rw [show n + (i + 1) - 1 = n + i by omega, rep_far] at e2
      exact g3 (i + 1) (by omega) (by omega) ⟨e1, e2⟩
def signL (t : List UInt8) (k : Nat) (c : UInt8) : Bool := t[k]? == some c && (t[k + 1]? == none || t[k + 1]? == some 32)
/-- How many bytes the string in quotes has with which a text begins; 0: it begins with none. -/
def qdL (t : List UInt8) : Nat :=
  if t.head? = some 34 then (if (endL t 0).2 = 0 then (endL t 0).1.toNat else 0) else if t.head? = some 39 then (if (sqL t 0).2.2 = 0 then (sqL t 0).2.1.toNat else 0) else 0
def colGo (t : List UInt8) (c : Nat) : Nat → Nat → Nat × Nat
  | 0, _ => (5, 0)
  | f + 1, k => if c ≤ k then (5, 0) else if signL t k 58 then (4, k) else colGo t c f (k + 1)
def headL (t : List UInt8) : Nat × Nat :=
  if signL t 0 45 then (3, 0) else if t.head? = some 34 ∨ t.head? = some 39 then (if signL t (qdL t) 58 then (4, qdL t) else (5, 0)) else if t.head? = some 91 ∨ t.head? = some 123 then (5, 0) else colGo t (noteL t 0) t.length 1
structure Core where
  kind : Nat
  key : Nat
  rf : Nat
  rt : Nat
  nf : Option Nat
def fromL (h : Nat × Nat) : Nat := if h.1 = 3 then 1 else if h.1 = 4 then h.2 + 1 else 0
def restL (u : List UInt8) (h : Nat × Nat) (f2 : Nat) (tw : Nat) : Core := ⟨h.1, h.2, f2, f2 + trL ((u.take tw).drop f2), if tw < u.length then some tw else none⟩
def behindL (u : List UInt8) (f : Nat) : Nat := f + spL (u.drop f)
def coreL (u : List UInt8) : Option Core :=
  if u = [] then some ⟨1, 0, 0, 0, none⟩ else if u.head? = some 35 then some ⟨2, 0, 0, 0, some 0⟩ else if (u.head? = some 34 ∨ u.head? = some 39) ∧ qdL u = 0 then none else
    some (restL u (headL u) (behindL u (fromL (headL u))) (noteL u (behindL u (fromL (headL u)) + qdL (u.drop (behindL u (fromL (headL u)))))))
theorem signL_at {t : List UInt8} {k : Nat} {c : UInt8} (h : signL t k c = true) : t[k]? = some c ∧ k < t.length := by
  unfold signL at h
  rw [Bool.and_eq_true, beq_iff_eq] at h
  exact ⟨h.1, (List.getElem?_eq_some_iff.1 h.1).1⟩
theorem colGo_spec (t : List UInt8) (c : Nat) : ∀ (f k : Nat), colGo t c f k = (5, 0) ∨ ∃ j, colGo t c f k = (4, j) ∧ k ≤ j ∧ j < c ∧ signL t j 58 = true
  | 0, _ => .inl rfl
  | f + 1, k => by
    unfold colGo
    split
    · exact .inl rfl
    · split
      · exact .inr ⟨k, rfl, Nat.le_refl _, by omega, by assumption⟩
      · rcases colGo_spec t c f (k + 1) with h | ⟨j, h1, h2, h3⟩
        · exact .inl h
        · exact .inr ⟨j, h1, by omega, h3⟩
theorem headL_spec (u : List UInt8) (hq : ¬ ((u.head? = some 34 ∨ u.head? = some 39) ∧ qdL u = 0)) :
    (headL u = (3, 0) ∧ u[0]? = some 45) ∨ headL u = (5, 0) ∨ ∃ k, headL u = (4, k) ∧ 1 ≤ k ∧ k < u.length ∧ u[k]? = some 58 := by
  unfold headL
  split
  · exact .inl ⟨rfl, (signL_at (by assumption)).1⟩
  · split
    · rename_i hh
      split
      · rename_i hs
        have := signL_at hs
        exact .inr (.inr ⟨_, rfl, by have : qdL u ≠ 0 := fun h => hq ⟨hh, h⟩; omega, this.2, this.1⟩)
      · exact .inr (.inl rfl)
    · split
      · exact .inr (.inl rfl)
      · rcases colGo_spec u (noteL u 0) u.length 1 with h | ⟨j, h1, h2, h3, h4⟩
        · exact .inr (.inl h)
        · have := signL_at h4
          exact .inr (.inr ⟨j, h1, h2, this.2, this.1⟩)
/-- THE STAGE'S THEOREM, plain: what is known of a line's parts. -/
structure Parts (u : List UInt8) (c : Core) : Prop where
  kind : 1 ≤ c.kind ∧ c.kind ≤ 5
  key : c.kind = 4 → 1 ≤ c.key ∧ c.key < u.length ∧ u[c.key]? = some 58
  item : c.kind = 3 → u[0]? = some 45
  ord : fromL (c.kind, c.key) ≤ c.rf ∧ c.rf ≤ c.rt ∧ c.rt ≤ u.length
  ahead : ∀ i, fromL (c.kind, c.key) ≤ i → i < c.rf → u[i]? = some 32
  note : ∀ k, c.nf = some k → c.rt ≤ k ∧ k < u.length ∧ u[k]? = some 35
  behind : ∀ i, c.rt ≤ i → i < c.nf.getD u.length → u[i]? = some 32
  ends : c.rf = c.rt ∨ (u[c.rf]? ≠ some 32 ∧ u[c.rt - 1]? ≠ some 32)
theorem behindL_spec (u : List UInt8) (f : Nat) (hf : f ≤ u.length) : f ≤ behindL u f ∧ behindL u f ≤ u.length ∧ (∀ i, f ≤ i → i < behindL u f → u[i]? = some 32) ∧ u[behindL u f]? ≠ some 32 := by
  have h1 := spL_le (u.drop f)
  rw [List.length_drop] at h1
  unfold behindL
  refine ⟨by omega, by omega, fun i h2 h3 => ?_, ?_⟩
  · have := spL_at (u.drop f) (i - f) (by omega)
    rw [List.getElem?_drop, show f + (i - f) = i by omega] at this
    exact this
  · have := spL_end (u.drop f)
    rw [List.getElem?_drop] at this
    exact this
theorem core_parts (u : List UInt8) (c : Core) (h : coreL u = some c) : Parts u c := by
  unfold coreL at h
  split at h
  · rename_i hu
    subst hu
    injection h with h
    subst h
    exact ⟨by simp, fun h => (by cases h), fun h => (by cases h), by simp [fromL], fun i h1 h2 => (by simp at h2), fun k hk => (by cases hk), fun i h1 h2 => (by simp at h2), .inl rfl⟩
  · rename_i hu
    split at h
    · rename_i h35
      injection h with h
      subst h
      rw [List.head?_eq_getElem?] at h35
      have := (List.getElem?_eq_some_iff.1 h35).1
      exact ⟨by simp, fun h => (by cases h), fun h => (by cases h), by simp [fromL], fun i h1 h2 => (by simp at h2), fun k hk => (by injection hk with hk; subst hk; exact ⟨Nat.le_refl _, this, h35⟩), fun i h1 h2 => (by simp at h2), .inl rfl⟩
    · rename_i h35
      split at h
      · cases h
      · rename_i hq
        injection h with h
        have hs := headL_spec u hq
        obtain ⟨H, hH⟩ : ∃ H, headL u = H := ⟨_, rfl⟩
        rw [hH] at h hs
        have hul : 0 < u.length := List.length_pos_iff.2 hu
        have hf : fromL H ≤ u.length := by
          unfold fromL
          rcases hs with ⟨rfl, _⟩ | rfl | ⟨k, rfl, _, hk, _⟩
          · simp; omega
          · simp
          · simp; omega
        obtain ⟨b1, b2, b3, b4⟩ := behindL_spec u (fromL H) hf
        obtain ⟨f2, hf2⟩ : ∃ f2, behindL u (fromL H) = f2 := ⟨_, rfl⟩
        rw [hf2] at h b1 b2 b3 b4
        obtain ⟨n1, n2, _⟩ := noteL_spec u (f2 + qdL (u.drop f2))
        obtain ⟨tw, hto⟩ : ∃ tw, noteL u (f2 + qdL (u.drop f2)) = tw := ⟨_, rfl⟩
        rw [hto] at h n1 n2
        have hft : f2 ≤ tw := by
          by_cases hl : tw < u.length
          · have := (n2 hl).1; omega
          · omega
        subst h
        obtain ⟨M, hM⟩ : ∃ M, (u.take tw).drop f2 = M := ⟨_, rfl⟩
        have hMl : M.length = tw - f2 := by rw [← hM, List.length_drop, List.length_take, Nat.min_eq_left n1]
        have hMi : ∀ i, i < tw - f2 → M[i]? = u[f2 + i]? := fun i hi => by
          rw [← hM, List.getElem?_drop, List.getElem?_take, if_pos (by omega)]
        have t1 := trL_le M
        unfold restL
        rw [hM]
        refine ⟨?_, ?_, ?_, ?_, b3, ?_, ?_, ?_⟩
        · rcases hs with ⟨rfl, _⟩ | rfl | ⟨k, rfl, _, hk, _⟩ <;> simp
        · intro h4
          rcases hs with ⟨rfl, _⟩ | rfl | ⟨k, rfl, hk1, hk, hk3⟩
          · cases h4
          · cases h4
          · exact ⟨hk1, hk, hk3⟩
        · intro h3
          rcases hs with ⟨rfl, h0⟩ | rfl | ⟨k, rfl, hk1, hk, hk3⟩
          · exact h0
          · cases h3
          · cases h3
        · exact ⟨b1, by simp only []; omega, by simp only []; omega⟩
        · intro k hk
          simp only [] at hk ⊢
          split at hk
          · rename_i hl
            injection hk with hk
            subst hk
            exact ⟨by omega, hl, (n2 hl).2.1⟩
          · cases hk
        · intro i h1 h2
          simp only [] at h1 h2
          have hto2 : i < tw := by
            split at h2
            · simpa using h2
            · simp at h2; omega
          have := trL_at M (i - f2) (by omega) (by omega)
          rw [hMi _ (by omega), show f2 + (i - f2) = i by omega] at this
          exact this
        · by_cases ht : trL M = 0
          · left; simp only []; omega
          · right
            simp only []
            have := trL_end M (by omega)
            rw [hMi _ (by omega)] at this
            exact ⟨b4, by rw [show f2 + trL M - 1 = f2 + (trL M - 1) by omega]; exact this⟩
/-- A line: its kind and parts, at the span from a tw b of a text. -/
structure LineR where
  kind : Int
  sf : Int
  st : Int
  ind : Int
  kf : Int
  kt : Int
  rf : Int
  rt : Int
  nf : Int
  nt : Int
def noLine : LineR := ⟨0, 0, 0, 0, 0, 0, 0, 0, 0, 0⟩
def lineOf (a b : Int) (n : Nat) (c : Core) : LineR :=
  ⟨c.kind, a, b, n, if c.kind = 4 then a + n else 0, if c.kind = 4 then a + n + c.key else 0, a + n + c.rf, a + n + c.rt, match c.nf with | some k => a + n + k | none => 0, match c.nf with | some _ => b | none => 0⟩
def lineL (s : List UInt8) (a b : Int) : LineR × Int × Int :=
  if a < 0 ∨ b < a ∨ (s.length : Int) < b then (noLine, 0, 1) else
  let t := (s.drop a.toNat).take (b - a).toNat
  if t.contains 10 then (noLine, 0, 1) else
  if wrL true t < t.length then (noLine, a + wrL true t, 2) else
  match coreL (t.drop (spL t)) with
  | none => (noLine, a + spL t, 2)
  | some c => (lineOf a b (spL t) c, b, 0)
theorem spL_rep (n : Nat) (s : List UInt8) : spL (List.replicate n 32 ++ s) = n + spL s := by
  induction n with
  | zero => simp
  | succ n ih => rw [List.replicate_succ, List.cons_append, spL_cons, if_pos rfl, ih]; omega
theorem wrL_rep (del : Bool) (n : Nat) (s : List UInt8) : wrL del (List.replicate n 32 ++ s) = n + wrL del s := by
  induction n with
  | zero => simp
  | succ n ih =>
    rw [List.replicate_succ, List.cons_append]
    unfold wrL at ih ⊢
    rw [List.length_cons, wrGo_cons]
    have hd : decodeL (32 :: (List.replicate n 32 ++ s)) = (32, 1) := decodeL_ascii 32 _ (by decide)
    rw [hd]
    have hpl : (plainB (32, 1) || (del && (32 : UInt8) == 127)) = false := by cases del <;> decide
    rw [hpl, if_neg (by simp)]
    have h1 := wrGo_off del (List.replicate n 32 ++ s).length (List.replicate n 32 ++ s) 0 1
    show wrGo del (List.replicate n 32 ++ s).length (List.replicate n 32 ++ s) (0 + 1) = _
    rw [h1, ih]; omega
/-- THE LAW of YlineIndents: what n blanks ahead of a line change. -/
def shiftR (n : Nat) (x : LineR) : LineR :=
  ⟨x.kind, x.sf, x.st + n, x.ind + n, if x.kf = 0 ∧ x.kt = 0 then x.kf else x.kf + n, if x.kf = 0 ∧ x.kt = 0 then x.kt else x.kt + n, x.rf + n, x.rt + n, if x.nf = 0 ∧ x.nt = 0 then x.nf else x.nf + n, if x.nf = 0 ∧ x.nt = 0 then x.nt else x.nt + n⟩
theorem line_shift (n : Nat) (s : List UInt8) :
    (lineL (List.replicate n 32 ++ s) 0 ((List.replicate n (32 : UInt8) ++ s).length : Int)).2.2 = (lineL s 0 (s.length : Int)).2.2 ∧
    ((lineL s 0 (s.length : Int)).2.2 ≠ 1 → (lineL (List.replicate n 32 ++ s) 0 ((List.replicate n (32 : UInt8) ++ s).length : Int)).2.1 = (lineL s 0 (s.length : Int)).2.1 + n) ∧
    ((lineL s 0 (s.length : Int)).2.2 = 0 → (lineL (List.replicate n 32 ++ s) 0 ((List.replicate n (32 : UInt8) ++ s).length : Int)).1 = shiftR n (lineL s 0 (s.length : Int)).1) := by
  have hlen : (List.replicate n (32 : UInt8) ++ s).length = n + s.length := by rw [List.length_append, List.length_replicate]
  have key : ∀ l : List UInt8, lineL l 0 (l.length : Int) = (if l.contains 10 then (noLine, 0, 1) else if wrL true l < l.length then (noLine, (wrL true l : Int), 2) else match coreL (l.drop (spL l)) with | none => (noLine, (spL l : Int), 2) | some c => (lineOf 0 l.length (spL l) c, (l.length : Int), 0) : LineR × Int × Int) := by
    intro l
    unfold lineL
    rw [if_neg (by omega)]
    simp only [Int.toNat_zero, List.drop_zero, Int.sub_zero, Int.toNat_natCast, List.take_length, Int.zero_add]
  rw [key, key]
  have hc : (List.replicate n (32 : UInt8) ++ s).contains 10 = s.contains 10 := by
    rw [Bool.eq_iff_iff]
    simp
  rw [hc, wrL_rep, spL_rep, hlen]
  have hd : (List.replicate n (32 : UInt8) ++ s).drop (n + spL s) = s.drop (spL s) := by
    rw [List.drop_append, List.length_replicate, List.drop_of_length_le (by rw [List.length_replicate]; omega), List.nil_append]
    congr 1; omega
  rw [hd]
  by_cases h1 : s.contains 10 = true
  · rw [if_pos h1, if_pos h1]; exact ⟨rfl, fun h => absurd rfl h, fun h => by cases h⟩
  · rw [if_neg h1, if_neg h1]
    by_cases h2 : wrL true s < s.length
    · rw [if_pos h2, if_pos (by omega)]
      exact ⟨rfl, fun _ => by simp only []; omega, fun h => by cases h⟩
    · rw [if_neg h2, if_neg (by omega)]
      cases hco : coreL (s.drop (spL s)) with
      | none => exact ⟨rfl, fun _ => by simp only []; omega, fun h => by cases h⟩
      | some c =>
        refine ⟨rfl, fun _ => by simp only []; omega, fun _ => ?_⟩
        have hp := core_parts _ _ hco
        have hk := hp.key
        have hnt := hp.note
        rw [List.length_drop] at hk hnt
        unfold lineOf shiftR
        simp only []
        have e1 : (0 : Int) + ((n + spL s : Nat) : Int) = 0 + (spL s : Int) + n := by omega
        congr 1
        · omega
        · omega
        · by_cases h4 : c.kind = 4
          · rw [if_pos h4, if_pos h4, if_pos h4, if_neg (by have := (hk h4).1; omega)]; omega
          · rw [if_neg h4, if_neg h4, if_neg h4, if_pos ⟨rfl, rfl⟩]
        · by_cases h4 : c.kind = 4
          · rw [if_pos h4, if_pos h4, if_pos h4, if_neg (by have := (hk h4).1; omega)]; omega
          · rw [if_neg h4, if_neg h4, if_neg h4, if_pos ⟨rfl, rfl⟩]
        · omega
        · omega
        · cases hn : c.nf with
          | none => simp
          | some k =>
            have := hnt k hn
            simp only []
            rw [if_neg (by omega)]; omega
        · cases hn : c.nf with
          | none => simp
          | some k =>
            have := hnt k hn
            simp only []
            rw [if_neg (by omega)]; omega
end Go.Proofs.YtbbjgdnbekoaeaaGreatDoor
