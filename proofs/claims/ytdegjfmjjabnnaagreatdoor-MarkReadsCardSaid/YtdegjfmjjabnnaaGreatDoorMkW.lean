import Derived.Test.YtdegjfmjjabnnaaGreatDoorMkV
/-! PLAIN: one round of decoding, and how large what is decoded is. -/
namespace Go.Proofs.YtdegjfmjjabnnaaGreatDoor
set_option linter.unusedSimpArgs false
set_option linter.unusedVariables false
open Go.Lib (index cut)

/-- A hunk, behind its first mark. -/
def takeO (s : List UInt8) (n : Nat) : Option (Part × List UInt8) :=
  if (cut s (mark 124 n)).2.2 = false then none else
  if (cut (cut s (mark 124 n)).2.1 (mark 61 n)).2.2 = false then none else
  if (cut (cut (cut s (mark 124 n)).2.1 (mark 61 n)).2.1 (mark 62 n)).2.2 = false then none else
  some (⟨true, [], (cut (cut s (mark 124 n)).2.1 (mark 61 n)).1, (cut s (mark 124 n)).1, (cut (cut (cut s (mark 124 n)).2.1 (mark 61 n)).2.1 (mark 62 n)).1⟩, (cut (cut (cut s (mark 124 n)).2.1 (mark 61 n)).2.1 (mark 62 n)).2.1)
theorem take_is {s : List UInt8} {n : Nat} {e : Ending} (h : TakeE s n e) :
    (∃ x r, takeO s n = some (x, r) ∧ e = .returned (.tuple #[partV x, .string (bs r), .bool true])) ∨ (takeO s n = none ∧ ∃ y r, e = .returned (.tuple #[partV y, .string (bs r), .bool false])) := by
  rcases h with ⟨h1, h2, h3, rfl⟩ | ⟨h1, h2⟩
  · refine .inl ⟨_, _, ?_, rfl⟩
    unfold takeO
    rw [if_neg (by rw [h1]; simp), if_neg (by rw [h2]; simp), if_neg (by rw [h3]; simp)]
  · refine .inr ⟨?_, h2⟩
    unfold takeO
    by_cases k1 : (cut s (mark 124 n)).2.2 = false
    · rw [if_pos k1]
    rw [if_neg k1]
    by_cases k2 : (cut (cut s (mark 124 n)).2.1 (mark 61 n)).2.2 = false
    · rw [if_pos k2]
    rw [if_neg k2]
    by_cases k3 : (cut (cut (cut s (mark 124 n)).2.1 (mark 61 n)).2.1 (mark 62 n)).2.2 = false
    · rw [if_pos k3]
    rcases h1 with h1 | h1 | h1
    · exact absurd h1 k1
    · exact absurd h1 k2
    · exact absurd h1 k3
theorem takeO_lt {s : List UInt8} {n : Nat} {x : Part} {r : List UInt8} (h : takeO s n = some (x, r)) : x.hunk = true ∧ x.text = [] ∧ x.s0.length + x.s1.length + x.s2.length + r.length + 3 * (n + 2) = s.length := by
  unfold takeO at h
  by_cases k1 : (cut s (mark 124 n)).2.2 = false
  · rw [if_pos k1] at h; cases h
  rw [if_neg k1] at h
  by_cases k2 : (cut (cut s (mark 124 n)).2.1 (mark 61 n)).2.2 = false
  · rw [if_pos k2] at h; cases h
  rw [if_neg k2] at h
  by_cases k3 : (cut (cut (cut s (mark 124 n)).2.1 (mark 61 n)).2.1 (mark 62 n)).2.2 = false
  · rw [if_pos k3] at h; cases h
  rw [if_neg k3] at h
  have l1 := cut_lt _ _ (by simpa using k1)
  have l2 := cut_lt _ _ (by simpa using k2)
  have l3 := cut_lt _ _ (by simpa using k3)
  rw [mark_len] at l1 l2 l3
  obtain ⟨rfl, rfl⟩ := Prod.mk.inj (Option.some.inj h)
  exact ⟨rfl, rfl, by simp only []; omega⟩
theorem core_eq (n f : Nat) (s : List UInt8) : coreM n (f + 1) s = if s = [] then some [] else
    if (cut s (mark 60 n)).2.2 = false then some [textP (cut s (mark 60 n)).1] else
    match takeO (cut s (mark 60 n)).2.1 n with
    | none => none
    | some (x, r) => (coreM n f r).map fun l => (if (cut s (mark 60 n)).1 = [] then [] else [textP (cut s (mark 60 n)).1]) ++ x :: l := by
  rw [coreM]
  by_cases hs : s = []
  · rw [if_pos hs, if_pos hs]
  rw [if_neg hs, if_neg hs]
  by_cases k1 : (cut s (mark 60 n)).2.2 = false
  · rw [if_pos k1, if_pos k1]
  rw [if_neg k1, if_neg k1]
  unfold takeO
  by_cases k2 : (cut (cut s (mark 60 n)).2.1 (mark 124 n)).2.2 = false
  · rw [if_pos k2, if_pos k2]
  rw [if_neg k2, if_neg k2]
  by_cases k3 : (cut (cut (cut s (mark 60 n)).2.1 (mark 124 n)).2.1 (mark 61 n)).2.2 = false
  · rw [if_pos k3, if_pos k3]
  rw [if_neg k3, if_neg k3]
  by_cases k4 : (cut (cut (cut (cut s (mark 60 n)).2.1 (mark 124 n)).2.1 (mark 61 n)).2.1 (mark 62 n)).2.2 = false
  · rw [if_pos k4, if_pos k4]
  rw [if_neg k4, if_neg k4]
/-- What is gathered, and what is still to come. -/
def DcR (n : Nat) (R : Option (List Part)) (acc : List Part) (rest : List UInt8) : Prop := (coreM n (rest.length + 1) rest).map (acc ++ ·) = R
theorem DcR.start (n : Nat) (s : List UInt8) : DcR n (coreM n (s.length + 1) s) [] s := by unfold DcR; simp
theorem DcR.done {n : Nat} {R : Option (List Part)} {acc : List Part} (h : DcR n R acc []) : R = some acc := by unfold DcR at h; rw [← h, core_eq, if_pos rfl]; simp
theorem DcR.last {n : Nat} {R : Option (List Part)} {acc : List Part} {s t b : List UInt8} (h : DcR n R acc s) (hs : s ≠ []) (hc : cut s (mark 60 n) = (t, b, false)) : R = some (acc ++ [textP t]) ∧ t ≠ [] := by
  have hm := cut_miss s (mark 60 n) (by rw [hc])
  rw [hc] at hm
  obtain ⟨rfl, _⟩ := Prod.mk.inj hm
  unfold DcR at h
  rw [← h, core_eq, if_neg hs, hc]
  exact ⟨by simp, hs⟩
theorem DcR.bad {n : Nat} {R : Option (List Part)} {acc : List Part} {s t b : List UInt8} (h : DcR n R acc s) (hs : s ≠ []) (hc : cut s (mark 60 n) = (t, b, true)) (ht : takeO b n = none) : R = none := by
  unfold DcR at h
  rw [← h, core_eq, if_neg hs, hc]
  simp only []
  rw [if_neg (by simp), ht]
  rfl
theorem DcR.next {n : Nat} {R : Option (List Part)} {acc : List Part} {s t b : List UInt8} {x : Part} {r : List UInt8} (h : DcR n R acc s) (hs : s ≠ []) (hc : cut s (mark 60 n) = (t, b, true)) (ht : takeO b n = some (x, r)) :
    DcR n R ((acc ++ if t = [] then [] else [textP t]) ++ [x]) r ∧ r.length + 4 * (n + 2) ≤ s.length := by
  have h1 := cut_lt s (mark 60 n) (by rw [hc])
  have h2 := (takeO_lt ht).2.2
  rw [hc, mark_len] at h1
  simp only [] at h1
  unfold DcR at h ⊢
  rw [core_eq, if_neg hs, hc] at h
  simp only [] at h
  rw [if_neg (by simp), ht] at h
  simp only [] at h
  rw [coreM_fuel n s.length (r.length + 1) r (by omega) (by omega)] at h
  refine ⟨?_, by omega⟩
  rw [← h, Option.map_map]
  congr 1
  funext l
  simp
def totM (l : List Part) : Nat := (l.map fun x => if x.hunk then x.s0.length + x.s1.length + x.s2.length else x.text.length).sum
theorem totM_cons (x : Part) (l : List Part) : totM (x :: l) = (if x.hunk then x.s0.length + x.s1.length + x.s2.length else x.text.length) + totM l := rfl
theorem hunksM_cons (x : Part) (l : List Part) : hunksM (x :: l) = hunksM l + (if x.hunk then 1 else 0) := by unfold hunksM; rw [List.countP_cons]
theorem bodyM_cons (m : Nat) (x : Part) (l : List Part) : bodyM m (x :: l) = (if x.hunk then hunkL m x else x.text) ++ bodyM m l := rfl
theorem body_size (m : Nat) : ∀ l : List Part, (bodyM m l).length = totM l + hunksM l * (4 * m + 8)
  | [] => by simp [bodyM, totM, hunksM]
  | x :: l => by
    have ih := body_size m l
    rw [bodyM_cons, totM_cons, hunksM_cons, List.length_append, ih, Nat.add_mul]
    generalize hunksM l * (4 * m + 8) = k
    cases hx : x.hunk with
    | true =>
      simp only [if_true, hunkL, List.length_append, mark_len]
      omega
    | false => simp; omega
def shapeP (x : Part) : Prop := (x.hunk = true ∧ x.text = []) ∨ (x.hunk = false ∧ x.text ≠ [] ∧ x.s0 = [] ∧ x.s1 = [] ∧ x.s2 = [])
theorem core_shape (n : Nat) : ∀ (f : Nat) (s : List UInt8) (l : List Part), s.length < f → coreM n f s = some l → ∀ x ∈ l, shapeP x := by
  intro f
  induction f with
  | zero => intro s l hf; omega
  | succ f ih =>
    intro s l hf h
    rw [core_eq] at h
    by_cases hs : s = []
    · rw [if_pos hs] at h; cases h; intro x hx; cases hx
    rw [if_neg hs] at h
    by_cases k1 : (cut s (mark 60 n)).2.2 = false
    · rw [if_pos k1, cut_miss _ _ k1] at h
      cases h
      intro x hx
      rw [List.mem_singleton] at hx
      subst hx
      exact .inr ⟨rfl, hs, rfl, rfl, rfl⟩
    rw [if_neg k1] at h
    have l1 := cut_lt _ _ (by simpa using k1)
    cases ht : takeO (cut s (mark 60 n)).2.1 n with
    | none => rw [ht] at h; cases h
    | some p =>
      obtain ⟨x, r⟩ := p
      rw [ht] at h
      simp only [] at h
      obtain ⟨q, hq, rfl⟩ := Option.map_eq_some_iff.1 h
      have h2 := takeO_lt ht
      have hi := ih r q (by omega) hq
      intro y hy
      rw [List.mem_append, List.mem_cons] at hy
      rcases hy with hy | rfl | hy
      · by_cases hn : (cut s (mark 60 n)).1 = []
        · rw [if_pos hn] at hy; cases hy
        · rw [if_neg hn, List.mem_singleton] at hy
          subst hy
          exact .inr ⟨rfl, hn, rfl, rfl, rfl⟩
      · exact .inl ⟨h2.1, h2.2.1⟩
      · exact hi y hy
theorem tot_mem : ∀ (l : List Part) (x : Part), x ∈ l → (if x.hunk then x.s0.length + x.s1.length + x.s2.length else x.text.length) ≤ totM l
  | y :: l, x, h => by
    rw [totM_cons]
    rcases List.mem_cons.1 h with rfl | h
    · omega
    · have := tot_mem l x h
      omega
theorem shape_len : ∀ l : List Part, (∀ x ∈ l, shapeP x) → l.length ≤ totM l + hunksM l
  | [], _ => Nat.zero_le _
  | x :: l, h => by
    have ih := shape_len l (fun y hy => h y (List.mem_cons_of_mem _ hy))
    rw [totM_cons, hunksM_cons, List.length_cons]
    rcases h x List.mem_cons_self with ⟨h1, _⟩ | ⟨h1, h2, _⟩
    · rw [h1]; simp; omega
    · have := List.length_pos_iff.2 h2
      rw [h1]; simp; omega
theorem width_le (l : List Part) (N : Nat) (h : ∀ x ∈ l, x.text.length ≤ N ∧ x.s0.length ≤ N ∧ x.s1.length ≤ N ∧ x.s2.length ≤ N) (hN : 6 ≤ N) : widthM l ≤ N + 1 := by
  have : ∀ (l : List Part) (k : Nat), k ≤ N + 1 → (∀ x ∈ l, runP x ≤ N) → l.foldl (fun n x => max n (runP x + 1)) k ≤ N + 1 := by
    intro l
    induction l with
    | nil => intro k hk _; exact hk
    | cons x l ih => intro k hk h; exact ih _ (by have := h x List.mem_cons_self; show max k (runP x + 1) ≤ _; omega) (fun y hy => h y (List.mem_cons_of_mem _ hy))
  refine this l 7 (by omega) (fun x hx => ?_)
  obtain ⟨z0, z1, z2, z3⟩ := h x hx
  have k0 := runM_le x.text; have k1 := runM_le x.s0; have k2 := runM_le x.s1; have k3 := runM_le x.s2
  unfold runP
  omega
/-- What is decoded may be encoded. -/
theorem core_big {n : Nat} {s : List UInt8} {l : List Part} (hn : 7 ≤ n) (hs : s.length ≤ 2097152) (h : coreM n (s.length + 1) s = some l) : Sz l ∧ (bodyM (widthM l) l).length ≤ 1099511627776 := by
  have hb := core_body n _ s l (Nat.lt_succ_self _) h
  have hsh := core_shape n _ s l (Nat.lt_succ_self _) h
  have h1 := body_size n l
  rw [hb] at h1
  have h2 : hunksM l * 36 ≤ hunksM l * (4 * n + 8) := Nat.mul_le_mul_left _ (by omega)
  have h3 := shape_len l hsh
  have hm : ∀ x ∈ l, x.text.length ≤ 2097152 ∧ x.s0.length ≤ 2097152 ∧ x.s1.length ≤ 2097152 ∧ x.s2.length ≤ 2097152 := by
    intro x hx
    have h4 := tot_mem l x hx
    rcases hsh x hx with ⟨a, b⟩ | ⟨a, b, c, d, e⟩
    · rw [a, if_pos rfl] at h4
      rw [b]
      exact ⟨Nat.zero_le _, by omega, by omega, by omega⟩
    · rw [a, if_neg (by simp)] at h4
      rw [c, d, e]
      exact ⟨by omega, Nat.zero_le _, Nat.zero_le _, Nat.zero_le _⟩
  have hw := width_le l 2097152 hm (by omega)
  refine ⟨⟨by omega, fun x hx => ?_⟩, ?_⟩
  · obtain ⟨a, b, c, d⟩ := hm x hx
    exact ⟨by omega, by omega, by omega, by omega⟩
  · rw [body_size]
    have h5 : hunksM l * (4 * widthM l + 8) ≤ 58254 * (4 * 2097153 + 8) := Nat.mul_le_mul (by omega) (by omega)
    omega
theorem takeO_ok {s : List UInt8} {n : Nat} {x : Part} {r : List UInt8} (h : takeO s n = some (x, r)) (hs : s.length ≤ 1073741824) : x.s0.length ≤ 1073741824 ∧ x.s1.length ≤ 1073741824 ∧ x.s2.length ≤ 1073741824 ∧ r.length ≤ s.length := by
  have := (takeO_lt h).2.2
  exact ⟨by omega, by omega, by omega, by omega⟩
end Go.Proofs.YtdegjfmjjabnnaaGreatDoor
