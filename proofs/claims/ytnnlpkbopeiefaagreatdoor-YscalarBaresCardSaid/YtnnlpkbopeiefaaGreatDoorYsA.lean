import Derived.Test.YtnnlpkbopeiefaaGreatDoorWd
import Derived.Test.YtnnlpkbopeiefaaGreatDoorWa
import Derived.Test.YtnnlpkbopeiefaaGreatDoorTa
/-! PLAIN: what safe makes of a text in quotes is read as the text. -/
namespace Go.Proofs.YtnnlpkbopeiefaaGreatDoor
set_option linter.unusedSimpArgs false
set_option linter.unusedVariables false
open Go.Lib
def lastB : Bool → Stp → Bool
  | p, [] => p
  | _, c :: r => lastB (c == 32) r
theorem safe_app (b : Stp) : ∀ (a : Stp) (p : Bool), safeGo p (a ++ b) = safeGo p a ++ safeGo (lastB p a) b
  | [], p => rfl
  | c :: r, p => by rw [List.cons_append, safeGo, safeGo, safe_app b r, lastB, List.append_assoc]
theorem lastB_app (b : Stp) : ∀ (a : Stp) (p : Bool), lastB p (a ++ b) = lastB (lastB p a) b
  | [], p => rfl
  | c :: r, p => by rw [List.cons_append, lastB, lastB, lastB_app b r]
theorem safe_high : ∀ (l : Stp) (p : Bool), (∀ c ∈ l, 128 ≤ c.toNat) → safeGo p l = l
  | [], p, _ => rfl
  | c :: r, p, h => by
    have h1 := h c (by simp)
    rw [safeGo, if_neg (fun e => by rw [e] at h1; exact absurd h1 (by decide)), if_neg (fun e => by rw [e.1] at h1; exact absurd h1 (by decide)), safe_high r _ (fun d hd => h d (by simp [hd]))]
    rfl
theorem safe_low : ∀ (p : Bool) (n : Fin 128), n.val ≠ 127 → ¬ (n.val = 35 ∧ p = true) → safeGo p (qB (UInt8.ofNat n.val)) = qB (UInt8.ofNat n.val) := by decide +kernel
theorem part_rub (X : Stp) : partL (rubL ++ X) = (127, 6) := by
  unfold partL rubL
  rw [if_pos (by rfl)]
  unfold escL
  have hm : (meantI ((117 : UInt8).toNat : Int)).2 = false := by decide
  simp only [List.cons_append, List.nil_append, List.getElem?_cons_succ, List.getElem?_cons_zero]
  rw [hm, if_neg (by simp), if_pos (by rfl)]
  have hf : fourL ((92 :: 117 :: 48 :: 48 :: 55 :: 102 :: X).drop 2) = some 127 := by
    unfold fourL
    rw [if_neg (by simp)]
    rfl
  unfold uniL
  rw [hf]
  simp only []
  rw [if_neg (by omega), if_pos (by omega)]
  rfl
theorem part_hash (X : Stp) : partL (hash3 ++ X) = (35, 6) := by
  unfold partL hash3
  rw [if_pos (by rfl)]
  unfold escL
  have hm : (meantI ((117 : UInt8).toNat : Int)).2 = false := by decide
  simp only [List.cons_append, List.nil_append, List.getElem?_cons_succ, List.getElem?_cons_zero]
  rw [hm, if_neg (by simp), if_pos (by rfl)]
  have hf : fourL ((92 :: 117 :: 48 :: 48 :: 50 :: 51 :: X).drop 2) = some 35 := by
    unfold fourL
    rw [if_neg (by simp)]
    rfl
  unfold uniL
  rw [hf]
  simp only []
  rw [if_neg (by omega), if_pos (by omega)]
  rfl
/-- The piece that a rune becomes. -/
theorem part_safe (r : Int) (hr : okRune r) (p : Bool) (X : Stp) : partL (safeGo p (qBs (encodeRune r)) ++ X) = (r, ((safeGo p (qBs (encodeRune r))).length : Int)) ∧ (safeGo p (qBs (encodeRune r)) ++ X).head? ≠ some 34 ∧ 0 < (safeGo p (qBs (encodeRune r))).length := by
  by_cases h128 : r < 128
  · have h0 := hr.1
    obtain ⟨c, hc⟩ : ∃ c : UInt8, r = (c.toNat : Int) := ⟨UInt8.ofNat r.toNat, by rw [UInt8.toNat_ofNat']; omega⟩
    subst hc
    rw [encode_one c (by omega), show qBs [c] = qB c by simp [qBs]]
    by_cases h127 : c = 127
    · subst h127
      have e : safeGo p (qB 127) = rubL := by cases p <;> rfl
      rw [e]
      exact ⟨part_rub X, by unfold rubL; simp, by unfold rubL; simp⟩
    · by_cases h35 : c = 35 ∧ p = true
      · obtain ⟨rfl, rfl⟩ := h35
        have e : safeGo true (qB 35) = hash3 := rfl
        rw [e]
        exact ⟨part_hash X, by unfold hash3; simp, by unfold hash3; simp⟩
      · have e := safe_low p ⟨c.toNat, by omega⟩ (fun e => h127 (UInt8.toNat_inj.1 e)) (fun e => h35 ⟨UInt8.toNat_inj.1 e.1, e.2⟩)
        simp only [UInt8.ofNat_toNat] at e
        rw [e]
        exact part_qB c (by omega) X
  · have hq := qBs_high _ (encode_high r hr (by omega))
    rw [hq, safe_high _ _ (encode_high r hr (by omega))]
    exact part_rune r hr (by omega) _
theorem safe_body (rest : Stp) : ∀ (n : Nat) (s : Stp) (p : Bool) (i f : Nat) (acc : Stp), s.length ≤ n → validD s = true → (safeGo p (qBs s)).length < f →
    readGo f (safeGo p (qBs s) ++ 34 :: rest) i acc = (acc ++ s, ((i + (safeGo p (qBs s)).length : Nat) : Int) + 1, 0) := by
  intro n
  induction n with
  | zero =>
    intro s p i f acc hn hv hf
    obtain rfl : s = [] := List.eq_nil_of_length_eq_zero (by omega)
    obtain ⟨g, rfl⟩ : ∃ g, f = g + 1 := ⟨f - 1, by omega⟩
    show readGo (g + 1) (34 :: rest) i acc = _
    unfold readGo
    rw [if_pos rfl]
    simp [qBs, safeGo]
  | succ n ih =>
    intro s p i f acc hn hv hf
    by_cases hne : s = []
    · subst hne
      obtain ⟨g, rfl⟩ : ∃ g, f = g + 1 := ⟨f - 1, by omega⟩
      show readGo (g + 1) (34 :: rest) i acc = _
      unfold readGo
      rw [if_pos rfl]
      simp [qBs, safeGo]
    · obtain ⟨r, t, hr, rfl, ht, _⟩ := valid_cut s hne hv
      have hlr := List.length_pos_iff.2 (encode_ne r)
      rw [qBs_append, safe_app, List.length_append] at hf
      rw [qBs_append, safe_app, List.append_assoc]
      obtain ⟨h1, h2, h3⟩ := part_safe r hr p (safeGo (lastB p (qBs (encodeRune r))) (qBs t) ++ 34 :: rest)
      obtain ⟨p2, hp2⟩ : ∃ q, lastB p (qBs (encodeRune r)) = q := ⟨_, rfl⟩
      rw [hp2] at h1 h2 hf ⊢
      obtain ⟨Q, hQ⟩ : ∃ Q, safeGo p (qBs (encodeRune r)) = Q := ⟨_, rfl⟩
      rw [hQ] at h1 h2 h3 hf ⊢
      obtain ⟨g, rfl⟩ : ∃ g, f = g + 1 := ⟨f - 1, by omega⟩
      have ihs := ih t p2 (i + Q.length) g (acc ++ encodeRune r) (by rw [List.length_append] at hn; omega) ht (by omega)
      obtain ⟨X, hX⟩ : ∃ X, Q ++ (safeGo p2 (qBs t) ++ 34 :: rest) = X := ⟨_, rfl⟩
      have hdrop : X.drop Q.length = safeGo p2 (qBs t) ++ 34 :: rest := by rw [← hX, List.drop_left]
      rw [hX] at h1 h2 ⊢
      cases X with
      | nil => have := congrArg List.length hX; simp at this
      | cons x X' =>
        unfold readGo
        rw [if_neg (by simpa using h2), h1]
        simp only []
        rw [if_neg (by omega), Int.toNat_natCast, hdrop, ihs]
        simp only [List.append_assoc, List.length_append, Prod.mk.injEq, true_and]
        exact ⟨by omega, trivial⟩
/-- A text in quotes, safe. -/
def qS (s : Stp) : Stp := 34 :: (safeGo false (qBs s) ++ [34])
theorem safe_quote (s : Stp) (hv : validD s = true) (p : Bool) : safeGo p (quoteL s).1 = qS s := by
  have hq : (quoteL s).1 = 34 :: (qBs s ++ [34]) := by unfold quoteL; rw [if_pos hv]
  rw [hq, safeGo, if_neg (by decide), if_neg (by simp), safe_app]
  unfold qS
  rw [show ((34 : UInt8) == 32) = false from rfl]
  have e : ∀ q, safeGo q [34] = [34] := by intro q; cases q <;> rfl
  rw [e]
  rfl
theorem qS_reads (s front back : Stp) (hv : validD s = true) : readL (front ++ qS s ++ back) (front.length : Int) = (s, ((front.length + (qS s).length : Nat) : Int), 0) := by
  unfold readL qS
  rw [Int.toNat_natCast, List.append_assoc, if_pos ⟨by omega, by rw [List.getElem?_append_right (Nat.le_refl _)]; simp⟩]
  have hd : (front ++ (34 :: (safeGo false (qBs s) ++ [34]) ++ back)).drop (front.length + 1) = safeGo false (qBs s) ++ 34 :: back := by
    rw [List.drop_append, List.drop_of_length_le (by omega)]
    simp
  rw [hd, safe_body back s.length s false _ _ [] (Nat.le_refl _) hv (by simp; omega)]
  simp only [List.nil_append, List.length_cons, List.length_append, List.length_nil, Prod.mk.injEq, true_and, and_true]
  omega
theorem unq_safe (s : Stp) (hv : validD s = true) : unqL (qS s) = (s, ((qS s).length : Int), 0) := by
  have h := qS_reads s [] [] hv
  simp only [List.nil_append, List.append_nil, List.length_nil, Nat.zero_add] at h
  unfold unqL
  rw [show ((0 : Nat) : Int) = 0 from rfl] at h
  rw [h]
  simp only []
  rw [if_neg (by omega)]
end Go.Proofs.YtnnlpkbopeiefaaGreatDoor
