import Derived.Test.YtdegjfmjjabnnaaGreatDoorMkA
import Derived.Test.YtdegjfmjjabnnaaGreatDoorNumD
import Derived.Lib.ItoaMem
/-! PLAIN: what is encoded is decoded: which texts are marked ones. -/
namespace Go.Proofs.YtdegjfmjjabnnaaGreatDoor
set_option linter.unusedSimpArgs false
set_option linter.unusedVariables false
open Go.Lib (index cut occAt index_spec index_first index_none NoOcc occAt_room)

theorem cut_size (s sep : List UInt8) (h : (cut s sep).2.2 = true) : s = (cut s sep).1 ++ sep ++ (cut s sep).2.1 := by
  unfold cut at h ⊢
  by_cases h0 : 0 ≤ index s sep
  · rw [if_pos h0] at h ⊢
    simp only []
    rcases index_spec s sep with ⟨h1, _⟩ | ⟨i, h1, h2, h3, _⟩
    · omega
    · rw [h1, Int.toNat_natCast]
      obtain ⟨q, hq⟩ := List.isPrefixOf_iff_prefix.1 h3
      have e2 : s.drop (i + sep.length) = q := by rw [← List.drop_drop, ← hq, List.drop_left]
      rw [e2]
      conv => lhs; rw [← List.take_append_drop i s, ← hq]
      rw [List.append_assoc]
  · rw [if_neg h0] at h
    cases h
theorem cut_lt (s sep : List UInt8) (h : (cut s sep).2.2 = true) : (cut s sep).1.length + sep.length + (cut s sep).2.1.length = s.length := by
  have := congrArg List.length (cut_size s sep h)
  rw [List.length_append, List.length_append] at this
  exact this.symm
theorem cut_miss (s sep : List UInt8) (h : (cut s sep).2.2 = false) : cut s sep = (s, [], false) := by
  unfold cut at h ⊢
  by_cases h0 : 0 ≤ index s sep
  · rw [if_pos h0] at h; cases h
  · rw [if_neg h0]
theorem coreM_fuel (n : Nat) : ∀ (f g : Nat) (s : List UInt8), s.length < f → s.length < g → coreM n f s = coreM n g s := by
  intro f
  induction f with
  | zero => intro g s h; omega
  | succ f ih =>
    intro g s h1 h2
    obtain ⟨g, rfl⟩ : ∃ k, g = k + 1 := ⟨g - 1, by omega⟩
    rw [coreM, coreM]
    by_cases hs : s = []
    · rw [if_pos hs, if_pos hs]
    rw [if_neg hs, if_neg hs]
    by_cases k1 : (cut s (mark 60 n)).2.2 = false
    · rw [if_pos k1, if_pos k1]
    rw [if_neg k1, if_neg k1]
    by_cases k2 : (cut (cut s (mark 60 n)).2.1 (mark 124 n)).2.2 = false
    · rw [if_pos k2, if_pos k2]
    rw [if_neg k2, if_neg k2]
    by_cases k3 : (cut (cut (cut s (mark 60 n)).2.1 (mark 124 n)).2.1 (mark 61 n)).2.2 = false
    · rw [if_pos k3, if_pos k3]
    rw [if_neg k3, if_neg k3]
    by_cases k4 : (cut (cut (cut (cut s (mark 60 n)).2.1 (mark 124 n)).2.1 (mark 61 n)).2.1 (mark 62 n)).2.2 = false
    · rw [if_pos k4, if_pos k4]
    rw [if_neg k4, if_neg k4]
    have l1 := cut_lt _ _ (by simpa using k1)
    have l2 := cut_lt _ _ (by simpa using k2)
    have l3 := cut_lt _ _ (by simpa using k3)
    have l4 := cut_lt _ _ (by simpa using k4)
    rw [mark_len] at l1 l2 l3 l4
    rw [ih g _ (by omega) (by omega)]
/-- The first line of a marked text. -/
def headM (n : Nat) : List UInt8 := [35, 109, 97, 114, 107, 115, 32] ++ Go.Lib.itoa n ++ [10]
def encM (l : List Part) : List UInt8 × Int := if rightM l then ((if anyHunk l then headM (widthM l) else []) ++ bodyM (widthM l) l, 0) else ([], 1)
/-- A text that is a marked one of parts, a hunk among them. -/
def Good (s : List UInt8) (l : List Part) : Prop := encM l = (s, 0) ∧ anyHunk l = true
theorem bodyM_len (n : Nat) : ∀ (l : List Part) (p : Bool), rightGo p l = true → l.length ≤ (bodyM n l).length
  | [], _, _ => Nat.zero_le _
  | x :: l, p, h => by
    rw [rightGo, Bool.and_eq_true] at h
    have ih := bodyM_len n l x.hunk h.2
    have e : bodyM n (x :: l) = (if x.hunk then hunkL n x else x.text) ++ bodyM n l := by unfold bodyM; rw [List.flatMap_cons]
    rw [e, List.length_append, List.length_cons]
    cases hh : x.hunk with
    | true =>
      rw [if_pos rfl]
      have : 1 ≤ (hunkL n x).length := by unfold hunkL; rw [List.length_append, mark_len]; omega
      omega
    | false =>
      have := List.length_pos_iff.2 (part_text x p h.1 hh).2.1
      simp only [Bool.false_eq_true, if_false]
      omega
theorem bodyM_mark (n : Nat) : ∀ (l : List Part), anyHunk l = true → ∃ a b, bodyM n l = a ++ (10 :: (List.replicate n 60 ++ b))
  | [], h => by cases h
  | x :: l, h => by
    have e : bodyM n (x :: l) = (if x.hunk then hunkL n x else x.text) ++ bodyM n l := by unfold bodyM; rw [List.flatMap_cons]
    cases hh : x.hunk with
    | true =>
      rw [e, hh, if_pos rfl]
      refine ⟨[], [10] ++ (x.s1 ++ (mark 124 n ++ (x.s0 ++ (mark 61 n ++ (x.s2 ++ mark 62 n)))) ++ bodyM n l), ?_⟩
      unfold hunkL
      conv => lhs; unfold mark
      simp [mark]
    | false =>
      unfold anyHunk at h
      rw [List.any_cons, hh, Bool.false_or] at h
      obtain ⟨a, b, h2⟩ := bodyM_mark n l h
      rw [e, h2]
      exact ⟨_, b, (List.append_assoc _ _ _).symm⟩
theorem good_shape {s : List UInt8} {l : List Part} (h : Good s l) : rightM l = true ∧ s = headM (widthM l) ++ bodyM (widthM l) l ∧ 7 ≤ widthM l ∧ widthM l ≤ s.length := by
  obtain ⟨h1, h2⟩ := h
  unfold encM at h1
  by_cases hr : rightM l = true
  · rw [if_pos hr, if_pos h2] at h1
    have e := (Prod.mk.inj h1).1
    obtain ⟨a, b, hm⟩ := bodyM_mark (widthM l) l h2
    refine ⟨hr, e.symm, (width_ge l 7).1, ?_⟩
    rw [← e, hm]
    simp only [List.length_append, List.length_cons, List.length_replicate]
    omega
  · rw [if_neg hr] at h1
    exact absurd (Prod.mk.inj h1).2 (by decide)
theorem right_go {l : List Part} (h : rightM l = true) : rightGo true l = true ∧ l.length ≤ 4096 := by
  unfold rightM at h
  rw [Bool.and_eq_true] at h
  exact ⟨h.1, of_decide_eq_true h.2⟩
theorem good_core {s : List UInt8} {l : List Part} (h : Good s l) (f : Nat) (hf : (bodyM (widthM l) l).length < f) : coreM (widthM l) f (bodyM (widthM l) l) = some l := by
  obtain ⟨hr, _⟩ := good_shape h
  have hg := (right_go hr).1
  exact coreM_body _ l f true hg (width_ge l 7).2 (by have := bodyM_len (widthM l) l true hg; omega) (by omega)
theorem itoa_no10 (n : Nat) : ∀ c ∈ Go.Lib.itoa (n : Int), c ≠ 10 := by
  intro c hc
  rw [Go.Lib.itoa_nonneg] at hc
  have := List.all_eq_true.1 (decDigits_dig n).1 c hc
  rintro rfl
  exact absurd this (by decide)
theorem index_one (a r : List UInt8) (c : UInt8) (h : ∀ d ∈ a, d ≠ c) : index (a ++ c :: r) [c] = (a.length : Int) := by
  refine index_first (by simp) ?_ (fun j hj => ?_)
  · unfold occAt
    rw [List.drop_left]
    simp
  · unfold occAt
    rw [List.drop_append_of_le_length (by omega), List.drop_eq_getElem_cons hj]
    have := h _ (List.getElem_mem hj)
    rw [List.cons_append]
    show (c == a[j] && _) = false
    rw [beq_eq_false_iff_ne.2 (Ne.symm this)]
    rfl
theorem cut_line (a r : List UInt8) (h : ∀ d ∈ a, d ≠ 10) : cut (a ++ 10 :: r) [10] = (a, r, true) := by
  unfold cut
  rw [index_one a r 10 h, if_pos (by omega), Int.toNat_natCast, List.take_left]
  simp
/-- The head of a text tells a width, if any. -/
theorem head_cut (n : Nat) (r : List UInt8) : cut (headM n ++ r) [10] = ([35, 109, 97, 114, 107, 115, 32] ++ Go.Lib.itoa n, r, true) := by
  have e : headM n ++ r = ([35, 109, 97, 114, 107, 115, 32] ++ Go.Lib.itoa n) ++ 10 :: r := by unfold headM; simp
  rw [e]
  refine cut_line _ _ (fun d hd => ?_)
  rcases List.mem_append.1 hd with hd | hd
  · simp only [List.mem_cons, List.not_mem_nil, or_false] at hd
    rcases hd with rfl | rfl | rfl | rfl | rfl | rfl | rfl <;> decide
  · exact itoa_no10 n d hd
/-- Two texts of parts that are the same. -/
theorem good_one {s : List UInt8} {a b : List Part} (ha : Good s a) (hb : Good s b) (hab : widthM a = widthM b) : a = b := by
  have h1 := good_core ha _ (Nat.lt_succ_self _)
  have h2 := good_core hb _ (Nat.lt_succ_self _)
  have e1 := (good_shape ha).2.1
  have e2 := (good_shape hb).2.1
  rw [e1, hab] at e2
  rw [hab, List.append_cancel_left e2] at h1
  rw [h1] at h2
  exact Option.some.inj h2
end Go.Proofs.YtdegjfmjjabnnaaGreatDoor
