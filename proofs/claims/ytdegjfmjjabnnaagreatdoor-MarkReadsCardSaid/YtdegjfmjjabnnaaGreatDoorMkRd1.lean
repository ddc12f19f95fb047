import Derived.Test.YtdegjfmjjabnnaaGreatDoorMkFd
import Derived.Test.YtdegjfmjjabnnaaGreatDoorNumRb
/-! PLAIN: what the reference's Decode finds. -/
namespace Go.Proofs.YtdegjfmjjabnnaaGreatDoor
set_option linter.unusedSimpArgs false
set_option linter.unusedVariables false
open Go.Lib (index cut occAt index_spec index_first index_none NoOcc occAt_room)

/-- From place p on stands r. -/
def PosF (s : List UInt8) (p : Nat) (r : List UInt8) : Prop := s.drop p = r ∧ p ≤ s.length
theorem PosF.len {s : List UInt8} {p : Nat} {r : List UInt8} (h : PosF s p r) : p + r.length = s.length := by
  have := congrArg List.length h.1
  rw [List.length_drop] at this
  have := h.2
  omega
theorem PosF.hit {s r a b sep : List UInt8} {p : Nat} (h : PosF s p r) (hc : cut r sep = (a, b, true)) : PosF s (p + a.length + sep.length) b ∧ (bs s).extract p (p + a.length) = bs a ∧ findI s sep p = ((p + a.length : Nat) : Int) := by
  have hs := cut_size r sep (by rw [hc])
  rw [hc] at hs
  simp only [] at hs
  have hl := congrArg List.length hs
  simp only [List.length_append] at hl
  have h0 := h.len
  refine ⟨⟨?_, by omega⟩, ?_, ?_⟩
  · rw [show p + a.length + sep.length = p + (a.length + sep.length) by omega, ← List.drop_drop, h.1, hs, List.drop_left' (by simp)]
  · rw [bs_extract, bs_data, h.1, show p + a.length - p = a.length by omega, hs, List.append_assoc, List.take_left']
    rfl
  · unfold findI
    rw [h.1, hc]
    rfl
theorem PosF.miss {s r a b sep : List UInt8} {p : Nat} (h : PosF s p r) (hc : cut r sep = (a, b, false)) : findI s sep p = -1 := by
  unfold findI
  rw [h.1, hc]
  rfl
theorem PosF.rest {s r : List UInt8} {p : Nat} (h : PosF s p r) : (bs s).extract p s.length = bs r := by
  rw [bs_extract, bs_data, h.1, List.take_of_length_le]
  have := h.len
  omega
theorem parseL_rb (l : List UInt8) : rightB (parseL l).1 = true := by
  by_cases h : (parseL l).2 = 0
  · exact parseL_right (l := l) (Prod.ext rfl h)
  · have key : ∀ x : Lit, (parseLit x).2 ≠ 0 → (parseLit x).1 = nought := by
      intro x hx
      unfold parseLit at hx ⊢
      by_cases c1 : 1000 < x.whole.length + x.rest.length
      · rw [if_pos c1]
      rw [if_neg c1] at hx ⊢
      by_cases c2 : 9 < (noZeros x.exp).length
      · rw [if_pos c2]
      rw [if_neg c2] at hx ⊢
      dsimp only at hx ⊢
      generalize (if x.low = true then -decV x.exp else decV x.exp) = ev at hx ⊢
      split
      · rfl
      · rename_i c3
        rw [if_neg c3] at hx
        split
        · rfl
        · rename_i c4
          rw [if_neg c4] at hx
          exact absurd rfl hx
    have hn : (parseL l).1 = nought := by
      unfold parseL at h ⊢
      cases hl : litOf l with
      | none => rfl
      | some x =>
        rw [hl] at h
        exact key x h
    rw [hn]
    decide
theorem itoa_ne (n : Nat) : 0 < (Go.Lib.itoa (n : Int)).length := by
  rw [Go.Lib.itoa_nonneg]
  exact List.length_pos_iff.2 (decDigits_dig n).2.1
def preM : List UInt8 := [35, 109, 97, 114, 107, 115, 32]
/-- The head of a text of marks: all that the reference asks of it. -/
theorem good_front {s pre body : List UInt8} {l : List Part} (h : Good s l) (f : Bool) (hc : cut s [10] = (pre, body, f)) :
    f = true ∧ pre = preM ++ Go.Lib.itoa (widthM l : Int) ∧ body = bodyM (widthM l) l ∧ 7 ≤ widthM l ∧ widthM l ≤ s.length ∧ coreM (widthM l) (body.length + 1) body = some l := by
  obtain ⟨h1, h2, h3, h4⟩ := good_shape h
  have e := head_cut (widthM l) (bodyM (widthM l) l)
  rw [← h2, hc] at e
  obtain ⟨rfl, e2⟩ := Prod.mk.inj e
  obtain ⟨rfl, rfl⟩ := Prod.mk.inj e2
  exact ⟨rfl, rfl, rfl, h3, h4, good_core h _ (Nat.lt_succ_self _)⟩
/-- The number of a marked text's head. -/
theorem good_num (n : Nat) (hn : n ≤ 1073741824) : (parseL (Go.Lib.itoa (n : Int))).2 = 0 ∧ intL (parseL (Go.Lib.itoa (n : Int))).1 = ((n : Int), true) := by
  constructor
  · rw [parse_itoa (n : Int) (by omega)]
    split <;> rfl
  · exact intL_ofInt (n : Int) (by omega)
theorem decP_none {s : List UInt8} (hs : s.length ≤ 1073741824) (h : ∀ l, ¬ Good s l) : decP s = none := by
  cases hd : decP s with
  | none => rfl
  | some l => exact absurd ((decP_good s l (by omega)).1 hd) (h l)
theorem decP_some {s : List UInt8} {l : List Part} (hs : s.length ≤ 1073741824) (h : Good s l) : decP s = some l := (decP_good s l (by omega)).2 h
/-- Where the head is refused no parts are told. -/
theorem front_bad {s pre body : List UInt8} {f : Bool} (hs : s.length ≤ 1073741824) (hc : cut s [10] = (pre, body, f)) (hbad : f = false ∨ pre.length < 8 ∨ s.take 7 ≠ preM) : decP s = none := by
  refine decP_none hs (fun l hg => ?_)
  obtain ⟨rfl, rfl, h3, _⟩ := good_front hg f hc
  rcases hbad with h | h | h
  · cases h
  · have := itoa_ne (widthM l)
    rw [List.length_append] at h
    have : preM.length = 7 := rfl
    omega
  · have := cut_size s [10] (by rw [hc])
    rw [hc] at this
    simp only [] at this
    refine h ?_
    rw [this, List.append_assoc]
    rfl
theorem num_bad {s pre body : List UInt8} (hs : s.length ≤ 1073741824) (hc : cut s [10] = (pre, body, true)) (hbad : (parseL (pre.drop 7)).2 ≠ 0 ∨ (intL (parseL (pre.drop 7)).1).2 = false ∨ (intL (parseL (pre.drop 7)).1).1 < 7 ∨ (s.length : Int) < (intL (parseL (pre.drop 7)).1).1) : decP s = none := by
  refine decP_none hs (fun l hg => ?_)
  obtain ⟨_, rfl, _, h7, hl, _⟩ := good_front hg true hc
  have e : (preM ++ Go.Lib.itoa (widthM l : Int)).drop 7 = Go.Lib.itoa (widthM l : Int) := rfl
  rw [e] at hbad
  obtain ⟨g1, g2⟩ := good_num (widthM l) (by omega)
  rw [g2] at hbad
  rcases hbad with h | h | h | h
  · exact h g1
  · cases h
  · simp only [] at h; omega
  · simp only [] at h; omega
/-- What is found is told where it is encoded as the text. -/
theorem ref_fin {s pre body : List UInt8} {n : Nat} (hs : s.length ≤ 1073741824) (hc : cut s [10] = (pre, body, true)) (hn : (intL (parseL (pre.drop 7)).1).1 = (n : Int)) :
    (coreM n (body.length + 1) body = none → decP s = none) ∧ ∀ out, coreM n (body.length + 1) body = some out → decP s = if encM out = (s, 0) ∧ 0 < hunksM out then some out else none := by
  have hg : ∀ l, Good s l → coreM n (body.length + 1) body = some l := fun l hg => by
    obtain ⟨_, rfl, _, h7, hl, h6⟩ := good_front hg true hc
    have e : (preM ++ Go.Lib.itoa (widthM l : Int)).drop 7 = Go.Lib.itoa (widthM l : Int) := rfl
    rw [e, (good_num (widthM l) (by omega)).2] at hn
    simp only [] at hn
    obtain rfl : widthM l = n := by omega
    exact h6
  refine ⟨fun h => decP_none hs (fun l h2 => ?_), fun out h => ?_⟩
  · rw [hg l h2] at h; cases h
  · by_cases hq : encM out = (s, 0) ∧ 0 < hunksM out
    · rw [if_pos hq]
      exact decP_some hs ⟨hq.1, by rw [any_hunks]; exact decide_eq_true hq.2⟩
    · rw [if_neg hq]
      refine decP_none hs (fun l h2 => hq ?_)
      rw [hg l h2] at h
      obtain rfl := Option.some.inj h
      refine ⟨h2.1, ?_⟩
      have := h2.2
      rw [any_hunks] at this
      exact of_decide_eq_true this
end Go.Proofs.YtdegjfmjjabnnaaGreatDoor
