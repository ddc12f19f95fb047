import Derived.Test.YtdegjfmjjabnnaaDoorMkL1
/-! PLAIN: the marks' lines counted line by line. -/
namespace Go.Proofs.YtdegjfmjjabnnaaDoor
set_option linter.unusedSimpArgs false
set_option linter.unusedVariables false

/-- Is the rest of a line one sign? -/
def remB (c : UInt8) (s : List UInt8) (j i : Nat) : Bool := ((s.drop j).take (i - j)).all (· == c)
theorem remB_step (c : UInt8) (s : List UInt8) {j i : Nat} {d : UInt8} (h : j < i) (hd : s[j]? = some d) : remB c s j i = ((d == c) && remB c s (j + 1) i) := by
  unfold remB
  rw [drop_at hd, show i - j = (i - (j + 1)) + 1 by omega, List.take_succ_cons, List.all_cons]
theorem remB_end (c : UInt8) (s : List UInt8) {j i : Nat} (h : i ≤ j) : remB c s j i = true := by
  unfold remB
  rw [show i - j = 0 by omega]
  rfl
theorem seg_is (c : UInt8) (n : Nat) (s : List UInt8) {f i : Nat} (h1 : f ≤ i) (h2 : i ≤ s.length) : ((s.drop f).take (i - f) = List.replicate n c) ↔ ((((i - f : Nat) : Int) == (n : Int)) && remB c s f i) = true := by
  have hl : ((s.drop f).take (i - f)).length = i - f := by rw [List.length_take, List.length_drop]; omega
  rw [List.eq_replicate_iff, hl, Bool.and_eq_true, beq_iff_eq]
  unfold remB
  rw [List.all_eq_true]
  constructor
  · rintro ⟨a, b⟩
    exact ⟨by omega, fun x hx => beq_iff_eq.2 (b x hx)⟩
  · rintro ⟨a, b⟩
    exact ⟨by omega, fun x hx => beq_iff_eq.1 (b x hx)⟩
def oneB (b : Bool) : Nat := if b then 1 else 0
theorem cnt_nil (c : UInt8) (n : Nat) (hn : 0 < n) : cntM c n [] = 0 := by
  unfold cntM
  rw [segs_plain [] (fun d hd => by cases hd), List.count_eq_zero]
  intro h
  rw [List.mem_singleton] at h
  have := congrArg List.length h
  rw [List.length_replicate] at this
  simp at this
  omega
theorem cnt_seg (c : UInt8) (n : Nat) (g : List UInt8) (h : ∀ d ∈ g, d ≠ 10) : cntM c n g = if g = List.replicate n c then 1 else 0 := by
  unfold cntM
  rw [segs_plain g h, List.count_singleton]
  by_cases hg : g = List.replicate n c
  · rw [if_pos hg, if_pos (by simpa using hg)]
  · rw [if_neg hg, if_neg (by simpa using hg)]
theorem line_step (c : UInt8) (n : Nat) (hn : 0 < n) (s : List UInt8) {f i : Nat} (h1 : f ≤ i) (h2 : i ≤ s.length) (h3 : ∀ j, f ≤ j → j < i → s[j]? ≠ some 10) (h4 : i = s.length ∨ s[i]? = some 10) :
    cntM c n (s.drop f) = oneB ((((i - f : Nat) : Int) == (n : Int)) && remB c s f i) + cntM c n (s.drop (i + 1)) := by
  have hg : ∀ d ∈ (s.drop f).take (i - f), d ≠ 10 := by
    intro d hd
    obtain ⟨k, hk, rfl⟩ := List.getElem_of_mem hd
    rw [List.length_take, List.length_drop] at hk
    rw [List.getElem_take, List.getElem_drop]
    have := h3 (f + k) (by omega) (by omega)
    rw [List.getElem?_eq_getElem (by omega)] at this
    exact fun h => this (by rw [h])
  have e1 : cntM c n ((s.drop f).take (i - f)) = oneB ((((i - f : Nat) : Int) == (n : Int)) && remB c s f i) := by
    rw [cnt_seg c n _ hg]
    unfold oneB
    have := seg_is c n s h1 h2
    by_cases hq : ((((i - f : Nat) : Int) == (n : Int)) && remB c s f i) = true
    · rw [if_pos (this.2 hq), if_pos hq]
    · rw [if_neg (fun h => hq (this.1 h)), if_neg hq]
  rcases h4 with rfl | h4
  · rw [List.drop_of_length_le (i := s.length + 1) (by omega), cnt_nil c n hn, ← e1, List.take_of_length_le (by rw [List.length_drop]; exact Nat.le_refl _)]
    rfl
  · have e2 : s.drop f = (s.drop f).take (i - f) ++ 10 :: s.drop (i + 1) := by
      conv => lhs; rw [← List.take_append_drop (i - f) (s.drop f)]
      rw [List.drop_drop, show f + (i - f) = i by omega, drop_at h4]
    conv => lhs; rw [e2]
    rw [cnt_append, e1]
/-- What is left to be counted. -/
def LeftC (c : UInt8) (n H : Nat) (s : List UInt8) (f k : Nat) : Prop := H = k + cntM c n (s.drop f)
theorem LeftC.start {c : UInt8} {n H : Nat} {s : List UInt8} (h : cntM c n s = H) : LeftC c n H s 0 0 := by unfold LeftC; rw [List.drop_zero, h]; omega
theorem LeftC.next {c : UInt8} {n H : Nat} {s : List UInt8} {f i k : Nat} (h : LeftC c n H s f k) (hn : 0 < n) (h1 : f ≤ i) (h2 : i ≤ s.length) (h3 : ∀ j, f ≤ j → j < i → s[j]? ≠ some 10) (h4 : i = s.length ∨ s[i]? = some 10) :
    LeftC c n H s (i + 1) (k + oneB ((((i - f : Nat) : Int) == (n : Int)) && remB c s f i)) := by
  unfold LeftC at *
  rw [line_step c n hn s h1 h2 h3 h4] at h
  omega
theorem LeftC.done {c : UInt8} {n H : Nat} {s : List UInt8} {f k : Nat} (h : LeftC c n H s f k) (hn : 0 < n) (hf : s.length ≤ f) : k = H := by
  unfold LeftC at h
  rw [List.drop_of_length_le hf, cnt_nil c n hn] at h
  omega
theorem LeftC.le {c : UInt8} {n H : Nat} {s : List UInt8} {f k : Nat} (h : LeftC c n H s f k) : k ≤ H := by unfold LeftC at h; omega
end Go.Proofs.YtdegjfmjjabnnaaDoor
