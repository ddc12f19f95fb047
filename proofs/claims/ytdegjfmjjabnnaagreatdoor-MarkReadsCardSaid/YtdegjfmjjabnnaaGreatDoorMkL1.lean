import Derived.Test.YtdegjfmjjabnnaaGreatDoorMkZ
/-! PLAIN: how large what the laws encode is. -/
namespace Go.Proofs.YtdegjfmjjabnnaaGreatDoor
set_option linter.unusedSimpArgs false
set_option linter.unusedVariables false

theorem totP_mem : ∀ (l : List Part) (x : Part), x ∈ l → x.text.length + x.s0.length + x.s1.length + x.s2.length ≤ totP l
  | y :: l, x, h => by
    rw [totP_cons]
    rcases List.mem_cons.1 h with rfl | h
    · omega
    · have := totP_mem l x h
      omega
theorem totM_le : ∀ l : List Part, totM l ≤ totP l
  | [] => Nat.le_refl _
  | x :: l => by
    have := totM_le l
    rw [totM_cons, totP_cons]
    split <;> omega
theorem hunksM_le (l : List Part) : hunksM l ≤ l.length := by unfold hunksM; exact List.countP_le_length
theorem tot_len (N : Nat) : ∀ l : List Part, (∀ x ∈ l, x.text.length + x.s0.length + x.s1.length + x.s2.length ≤ N) → totP l ≤ l.length * N
  | [], _ => Nat.zero_le _
  | x :: l, h => by
    have h1 := tot_len N l (fun y hy => h y (List.mem_cons_of_mem _ hy))
    have h2 := h x List.mem_cons_self
    rw [totP_cons, List.length_cons, Nat.add_mul]
    omega
theorem bulk_big {l : List Part} (h : totP l + 5 * l.length ≤ 1048576) : Sz l ∧ (bodyM (widthM l) l).length ≤ 1099511627776 := by
  have hm : ∀ x ∈ l, x.text.length ≤ 1048576 ∧ x.s0.length ≤ 1048576 ∧ x.s1.length ≤ 1048576 ∧ x.s2.length ≤ 1048576 := fun x hx => by
    have := totP_mem l x hx
    exact ⟨by omega, by omega, by omega, by omega⟩
  refine ⟨⟨by omega, fun x hx => ?_⟩, ?_⟩
  · obtain ⟨a, b, c, d⟩ := hm x hx
    exact ⟨by omega, by omega, by omega, by omega⟩
  · rw [body_size]
    have h1 := totM_le l
    have h2 := hunksM_le l
    have h3 := width_le l 1048576 hm (by omega)
    have h4 : hunksM l * (4 * widthM l + 8) ≤ 209715 * (4 * 1048577 + 8) := Nat.mul_le_mul (by omega) (by omega)
    omega
theorem few_len {l : List Part} (h : Few l) : (bodyM (widthM l) l).length ≤ 307920 ∧ widthM l ≤ 1025 := by
  have h1 := totM_le l
  have h2 := hunksM_le l
  have h3 := tot_len 1024 l h.2
  have h5 := h.1
  have h6 := Nat.mul_le_mul_right 1024 h5
  have hw := width_le l 1024 (fun x hx => by have := h.2 x hx; exact ⟨by omega, by omega, by omega, by omega⟩) (by omega)
  refine ⟨?_, hw⟩
  rw [body_size]
  have h4 : hunksM l * (4 * widthM l + 8) ≤ 60 * (4 * 1025 + 8) := Nat.mul_le_mul (by omega) (by omega)
  omega
theorem few_enc {l : List Part} (h : Few l) : (encM l).1.length ≤ 307960 := by
  obtain ⟨h1, h2⟩ := few_len h
  unfold encM
  split
  · have := head_len (widthM l) (by omega)
    rw [List.length_append]
    split
    · omega
    · simp; omega
  · exact Nat.zero_le _
theorem decP_big {s : List UInt8} {l : List Part} (hs : s.length ≤ 2097152) (h : decP s = some l) : Sz l ∧ (bodyM (widthM l) l).length ≤ 1099511627776 := by
  obtain ⟨hwd, hrl⟩ := widthL_bd s
  unfold decP at h
  by_cases h0 : (widthL s).1 = 0
  · rw [if_pos h0] at h; cases h
  rw [if_neg h0] at h
  cases hc : coreM (widthL s).1 ((widthL s).2.length + 1) (widthL s).2 with
  | none => rw [hc] at h; cases h
  | some out =>
    rw [hc] at h
    simp only [] at h
    by_cases he : encM out = (s, 0)
    · rw [if_pos he] at h
      cases h
      exact core_big (by omega) (by omega) hc
    · rw [if_neg he] at h; cases h
theorem enc_right (l : List Part) : ((encM l).2 == 0) = rightM l := by
  unfold encM
  cases rightM l <;> rfl
theorem enc_good {l : List Part} (hr : rightM l = true) (hh : 0 < hunksM l) : Good (encM l).1 l := by
  refine ⟨?_, by rw [any_hunks]; exact decide_eq_true hh⟩
  have := enc_right l
  rw [hr] at this
  exact Prod.ext rfl (by simpa using this)
end Go.Proofs.YtdegjfmjjabnnaaGreatDoor
