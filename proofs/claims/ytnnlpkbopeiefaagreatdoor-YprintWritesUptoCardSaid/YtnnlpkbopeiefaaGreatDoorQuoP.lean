import Derived.Test.YtnnlpkbopeiefaaGreatDoorQuoE
import Derived.Test.YtnnlpkbopeiefaaGreatDoorEncD
/-! PLAIN: what Quote writes (quoteL), and what readL makes of it. -/
namespace Go.Proofs.YtnnlpkbopeiefaaGreatDoor
set_option linter.unusedSimpArgs false
set_option linter.unusedVariables false
open Go.Lib
def hexd (n : UInt8) : UInt8 := if n < 10 then 48 + n else 87 + n
/-- What Quote writes for a byte. -/
def qB (c : UInt8) : List UInt8 :=
  if c = 34 ∨ c = 92 then [92, c] else if c = 8 then [92, 98] else if c = 12 then [92, 102] else if c = 10 then [92, 110] else if c = 13 then [92, 114] else if c = 9 then [92, 116]
  else if c < 32 then [92, 117, 48, 48, hexd (c / 16), hexd (c % 16)] else [c]
def qBs (l : List UInt8) : List UInt8 := l.flatMap qB
def quoteL (l : List UInt8) : List UInt8 × Int := if validD l then (34 :: (qBs l ++ [34]), 0) else ([], 2)
theorem qBs_append (a b : List UInt8) : qBs (a ++ b) = qBs a ++ qBs b := by unfold qBs; rw [List.flatMap_append]
theorem qB_high (c : UInt8) (h : 128 ≤ c.toNat) : qB c = [c] := by
  have : ∀ n : Fin 256, 128 ≤ n.val → qB (UInt8.ofNat n.val) = [UInt8.ofNat n.val] := by decide +kernel
  have h2 := this ⟨c.toNat, c.toNat_lt⟩ h
  simpa using h2
theorem qBs_high : ∀ (l : List UInt8), (∀ c ∈ l, 128 ≤ c.toNat) → qBs l = l
  | [], _ => rfl
  | c :: t, h => by
    show qB c ++ qBs t = c :: t
    rw [qB_high c (h c (by simp)), qBs_high t (fun d hd => h d (by simp [hd]))]; rfl
/-- The three kinds of bytes below 128. -/
theorem qB_low : ∀ n : Fin 128,
    (qB (UInt8.ofNat n.val) = [UInt8.ofNat n.val] ∧ n.val ≠ 92 ∧ n.val ≠ 34 ∧ 32 ≤ n.val) ∨
    (qB (UInt8.ofNat n.val) = [92, (qB (UInt8.ofNat n.val)).getD 1 0] ∧ meantI ((qB (UInt8.ofNat n.val)).getD 1 0).toNat = ((n.val : Int), true)) ∨
    (qB (UInt8.ofNat n.val) = [92, 117, 48, 48, (qB (UInt8.ofNat n.val)).getD 4 0, (qB (UInt8.ofNat n.val)).getD 5 0] ∧ hexGo 0 [48, 48, (qB (UInt8.ofNat n.val)).getD 4 0, (qB (UInt8.ofNat n.val)).getD 5 0] = some n.val ∧ n.val < 32) := by decide +kernel
theorem part_qB (c : UInt8) (hc : c.toNat < 128) (t : List UInt8) : partL (qB c ++ t) = ((c.toNat : Int), ((qB c).length : Int)) ∧ (qB c ++ t).head? ≠ some 34 ∧ 0 < (qB c).length := by
  have h := qB_low ⟨c.toNat, hc⟩
  simp only [UInt8.ofNat_toNat] at h
  obtain ⟨Q, hQ⟩ : ∃ Q, qB c = Q := ⟨_, rfl⟩
  rw [hQ] at h ⊢
  rcases h with ⟨h, h1, h2, h3⟩ | ⟨h, h1⟩ | ⟨h, h1, h2⟩
  · rw [h]
    have e92 : ¬ c = 92 := fun e => h1 (by rw [e]; rfl)
    have e34 : ¬ c = 34 := fun e => h2 (by rw [e]; rfl)
    refine ⟨?_, by simpa using e34, by simp⟩
    unfold partL
    rw [if_neg (by simpa using e92)]
    rw [show [c] ++ t = c :: t from rfl, decodeL_ascii c t hc, if_neg]
    · simp
    · unfold plainB
      simp only [Bool.or_eq_true, decide_eq_true_eq, Bool.and_eq_true, beq_iff_eq]
      omega
  · obtain ⟨x, hx⟩ : ∃ x, Q.getD 1 0 = x := ⟨_, rfl⟩
    rw [hx] at h h1
    rw [h]
    refine ⟨?_, by simp, by simp⟩
    unfold partL
    rw [if_pos (by simp)]
    unfold escL
    simp only [List.cons_append, List.nil_append, List.getElem?_cons_succ, List.getElem?_cons_zero, h1, if_true]
    rfl
  · obtain ⟨x, hx⟩ : ∃ x, Q.getD 4 0 = x := ⟨_, rfl⟩
    obtain ⟨y, hy⟩ : ∃ y, Q.getD 5 0 = y := ⟨_, rfl⟩
    rw [hx, hy] at h h1
    rw [h]
    refine ⟨?_, by simp, by simp⟩
    unfold partL
    rw [if_pos (by simp)]
    unfold escL
    have hm : (meantI ((117 : UInt8).toNat : Int)).2 = false := by decide
    simp only [List.cons_append, List.nil_append, List.getElem?_cons_succ, List.getElem?_cons_zero]
    rw [hm, if_neg (by simp), if_pos (by rfl)]
    have hf : fourL ((92 :: 117 :: 48 :: 48 :: x :: y :: t).drop 2) = some c.toNat := by
      unfold fourL
      rw [if_neg (by simp), ← h1]
      rfl
    unfold uniL
    rw [hf]
    simp only []
    rw [if_neg (by omega), if_pos (by omega)]
    rfl
theorem part_rune (r : Int) (hr : okRune r) (h : 128 ≤ r) (t : List UInt8) : partL (encodeRune r ++ t) = (r, ((encodeRune r).length : Int)) ∧ (encodeRune r ++ t).head? ≠ some 34 ∧ 0 < (encodeRune r).length := by
  have hh := encode_high r hr h
  have hl := encode_len r hr h
  have hd := decode_encode r hr t
  obtain ⟨E, hE⟩ : ∃ E, encodeRune r = E := ⟨_, rfl⟩
  rw [hE] at hh hl hd ⊢
  cases E with
  | nil => simp at hl
  | cons c u =>
    have h1 := hh c (by simp)
    have e92 : ¬ c = 92 := fun e => by rw [e] at h1; exact absurd h1 (by decide)
    have e34 : ¬ c = 34 := fun e => by rw [e] at h1; exact absurd h1 (by decide)
    refine ⟨?_, by simpa using e34, by simp⟩
    unfold partL
    rw [if_neg (by simpa using e92), hd, if_neg]
    · simp only []
      rw [Int.toNat_of_nonneg hr.1]
    · unfold plainB
      have := hr.1
      simp only [Bool.or_eq_true, decide_eq_true_eq, Bool.and_eq_true, beq_iff_eq]
      omega
/-- What stands between the quotes is read as the text. -/
theorem read_body (s rest : List UInt8) (i f : Nat) (acc : List UInt8) (hv : validD s = true) (hf : (qBs s).length < f) :
    readGo f (qBs s ++ 34 :: rest) i acc = (acc ++ s, ((i + (qBs s).length : Nat) : Int) + 1, 0) := by
  obtain ⟨n, hn⟩ : ∃ n, s.length ≤ n := ⟨_, Nat.le_refl _⟩
  induction n generalizing s i f acc with
  | zero =>
    obtain rfl : s = [] := List.eq_nil_of_length_eq_zero (by omega)
    obtain ⟨g, rfl⟩ : ∃ g, f = g + 1 := ⟨f - 1, by omega⟩
    show readGo (g + 1) (34 :: rest) i acc = _
    unfold readGo
    rw [if_pos rfl]
    simp [qBs]
  | succ n ih =>
    by_cases hne : s = []
    · subst hne
      obtain ⟨g, rfl⟩ : ∃ g, f = g + 1 := ⟨f - 1, by omega⟩
      show readGo (g + 1) (34 :: rest) i acc = _
      unfold readGo
      rw [if_pos rfl]
      simp [qBs]
    · obtain ⟨r, t, hr, rfl, ht, _⟩ := valid_cut s hne hv
      have hlr := List.length_pos_iff.2 (encode_ne r)
      rw [qBs_append, List.length_append] at hf
      rw [qBs_append, List.append_assoc]
      have hE : partL (qBs (encodeRune r) ++ (qBs t ++ 34 :: rest)) = (r, ((qBs (encodeRune r)).length : Int)) ∧ (qBs (encodeRune r) ++ (qBs t ++ 34 :: rest)).head? ≠ some 34 ∧ 0 < (qBs (encodeRune r)).length := by
        by_cases h128 : r < 128
        · have h0 := hr.1
          obtain ⟨c, hc⟩ : ∃ c : UInt8, r = (c.toNat : Int) := ⟨UInt8.ofNat r.toNat, by rw [UInt8.toNat_ofNat']; omega⟩
          subst hc
          rw [encode_one c (by omega)]
          have := part_qB c (by omega) (qBs t ++ 34 :: rest)
          rw [show qBs [c] = qB c by simp [qBs]]
          exact this
        · have hq := qBs_high _ (encode_high r hr (by omega))
          rw [hq]
          exact part_rune r hr (by omega) _
      obtain ⟨h1, h2, h3⟩ := hE
      obtain ⟨Q, hQ⟩ : ∃ Q, qBs (encodeRune r) = Q := ⟨_, rfl⟩
      rw [hQ] at h1 h2 h3 hf ⊢
      obtain ⟨g, rfl⟩ : ∃ g, f = g + 1 := ⟨f - 1, by omega⟩
      have ihs := ih t (i + Q.length) g (acc ++ encodeRune r) ht (by omega) (by rw [List.length_append] at hn; omega)
      obtain ⟨X, hX⟩ : ∃ X, Q ++ (qBs t ++ 34 :: rest) = X := ⟨_, rfl⟩
      have hdrop : X.drop Q.length = qBs t ++ 34 :: rest := by rw [← hX, List.drop_left]
      rw [hX] at h1 h2 ⊢
      cases X with
      | nil => have := congrArg List.length hX; simp at this
      | cons x X' =>
        unfold readGo
        rw [if_neg (by simpa using h2), h1]
        simp only []
        rw [if_neg (by omega), Int.toNat_natCast, hdrop, ihs]
        simp only [List.append_assoc, List.length_append, Prod.mk.injEq, true_and]
        exact ⟨by omega, trivial⟩
theorem quote_reads (s front back : List UInt8) (hv : validD s = true) :
    readL (front ++ (quoteL s).1 ++ back) (front.length : Int) = (s, ((front.length + (quoteL s).1.length : Nat) : Int), 0) := by
  have hq : (quoteL s).1 = 34 :: (qBs s ++ [34]) := by unfold quoteL; rw [if_pos hv]
  rw [hq]
  unfold readL
  rw [Int.toNat_natCast, List.append_assoc, if_pos ⟨by omega, by rw [List.getElem?_append_right (Nat.le_refl _)]; simp⟩]
  have hd : (front ++ (34 :: (qBs s ++ [34]) ++ back)).drop (front.length + 1) = qBs s ++ 34 :: back := by
    rw [List.drop_append, List.drop_of_length_le (by omega)]
    simp
  rw [hd, read_body s back _ _ [] hv (by simp; omega)]
  simp only [List.nil_append, List.length_cons, List.length_append, List.length_nil, Prod.mk.injEq, true_and, and_true]
  omega
theorem unq_quote (s : List UInt8) (hv : validD s = true) : unqL (quoteL s).1 = (s, ((quoteL s).1.length : Int), 0) := by
  have h := quote_reads s [] [] hv
  simp only [List.nil_append, List.append_nil, List.length_nil, Nat.zero_add] at h
  unfold unqL
  rw [show ((0 : Nat) : Int) = 0 from rfl] at h
  rw [h]
  simp only []
  rw [if_neg (by omega)]
theorem quote_inj (s t : List UInt8) (hs : validD s = true) (ht : validD t = true) (h : (quoteL s).1 = (quoteL t).1) : s = t := by
  have h1 := unq_quote s hs
  have h2 := unq_quote t ht
  rw [h, h2] at h1
  injection h1 with h1 _
  exact h1.symm
theorem end_quote (front s back : List UInt8) (hv : validD s = true) : endL (front ++ (quoteL s).1 ++ back) (front.length : Int) = (((front.length + (quoteL s).1.length : Nat) : Int), 0) := by
  unfold endL
  rw [if_neg (by simp only [List.length_append]; omega), quote_reads s front back hv]
/-- What is read is valid. -/
theorem part_ok (l : List UInt8) (hne : l ≠ []) (h : (partL l).2 ≠ 0) : okRune (partL l).1 := by
  unfold partL at h ⊢
  split
  · rename_i h92
    rw [if_pos h92] at h
    unfold escL at h ⊢
    cases h1 : l[1]? with
    | none => rw [h1] at h; exact absurd rfl h
    | some c =>
      rw [h1] at h
      simp only [] at h ⊢
      split
      · unfold meantI okRune
        repeat' split
        all_goals simp
      · rename_i hm
        rw [if_neg hm] at h
        split
        · rename_i hu
          rw [if_pos hu] at h
          unfold uniL at h ⊢
          cases h2 : fourL (l.drop 2) with
          | none => rw [h2] at h; exact absurd rfl h
          | some hi =>
            rw [h2] at h
            have hb := fourL_lt h2
            simp only [] at h ⊢
            split
            · rename_i g; rw [if_pos g] at h; exact absurd rfl h
            · rename_i g
              rw [if_neg g] at h
              split
              · unfold okRune; simp only []; omega
              · rename_i g2
                rw [if_neg g2] at h
                split
                · rename_i g3; rw [if_pos g3] at h; exact absurd rfl h
                · rename_i g3
                  rw [if_neg g3] at h
                  cases h4 : fourL (l.drop 8) with
                  | none => rw [h4] at h; exact absurd rfl h
                  | some lo =>
                    rw [h4] at h
                    simp only [] at h ⊢
                    split
                    · rename_i g5; rw [if_pos g5] at h; exact absurd rfl h
                    · unfold okRune; simp only []; omega
        · rename_i hu
          rw [if_neg hu] at h
          exact absurd rfl h
  · rename_i h92
    rw [if_neg h92] at h
    split
    · rename_i g; rw [if_pos g] at h; exact absurd rfl h
    · exact decode_okRune l
theorem read_valid : ∀ (f : Nat) (l : List UInt8) (i : Nat) (acc : List UInt8), validD acc = true → validD (readGo f l i acc).1 = true
  | 0, _, _, _, _ => rfl
  | _ + 1, [], _, _, _ => rfl
  | f + 1, c :: r, i, acc, h => by
    unfold readGo
    split
    · exact h
    · split
      · rfl
      · rename_i h2
        refine read_valid f _ _ _ ?_
        rw [validD_app _ _ h]
        exact validD_one _ (part_ok _ (List.cons_ne_nil _ _) h2)
theorem readL_valid (l : List UInt8) (a : Int) : validD (readL l a).1 = true := by
  unfold readL
  split
  · exact read_valid _ _ _ _ rfl
  · rfl
theorem read_bd : ∀ (f : Nat) (l : List UInt8) (i : Nat) (acc : List UInt8), 
    ((i : Int) ≤ (readGo f l i acc).2.1 ∧ (readGo f l i acc).2.1 ≤ i + l.length) ∧ ((readGo f l i acc).2.2 = 0 ∨ ((readGo f l i acc).2.2 = 2 ∧ (readGo f l i acc).1 = []))
  | 0, _, _, _ => ⟨by simp [readGo]; omega, .inr ⟨rfl, rfl⟩⟩
  | _ + 1, [], _, _ => ⟨by simp [readGo], .inr ⟨rfl, rfl⟩⟩
  | f + 1, c :: r, i, acc => by
    unfold readGo
    split
    · exact ⟨by simp; omega, .inl rfl⟩
    · split
      · exact ⟨by simp; omega, .inr ⟨rfl, rfl⟩⟩
      · rename_i h2
        have hp := partL_bd (c :: r) (List.cons_ne_nil _ _)
        obtain ⟨P, hP⟩ : ∃ P, partL (c :: r) = P := ⟨_, rfl⟩
        rw [hP] at hp h2 ⊢
        have := read_bd f ((c :: r).drop P.2.toNat) (i + P.2.toNat) (acc ++ encodeRune P.1)
        rw [List.length_drop] at this
        refine ⟨?_, this.2⟩
        have h3 := this.1
        simp only [List.length_cons] at h3 hp ⊢
        omega
theorem unq_facts (l : List UInt8) : ((unqL l).2.2 ≠ 0 → (unqL l).1 = [] ∧ 0 ≤ (unqL l).2.1 ∧ (unqL l).2.1 ≤ l.length ∧ (unqL l).2.2 = 2) ∧ ((unqL l).2.2 = 0 → (unqL l).2.1 = l.length ∧ validD (unqL l).1 = true) := by
  have hv := readL_valid l 0
  have hb : (0 ≤ (readL l 0).2.1 ∧ (readL l 0).2.1 ≤ l.length) ∧ ((readL l 0).2.2 = 0 ∨ ((readL l 0).2.2 = 2 ∧ (readL l 0).1 = [])) := by
    unfold readL
    split
    · rename_i h
      have hl := (List.getElem?_eq_some_iff.1 h.2).1
      have := read_bd (l.length + 1) (l.drop ((0 : Int).toNat + 1)) ((0 : Int).toNat + 1) []
      rw [List.length_drop] at this
      exact ⟨by have := this.1; simp only [Int.toNat_zero] at *; omega, this.2⟩
    · exact ⟨by simp, .inr ⟨rfl, rfl⟩⟩
  unfold unqL
  obtain ⟨R, hR⟩ : ∃ R, readL l 0 = R := ⟨_, rfl⟩
  rw [hR] at hv hb ⊢
  obtain ⟨s, k, e⟩ := R
  simp only [] at hv hb ⊢
  split
  · rename_i h
    exact ⟨fun _ => ⟨rfl, by simp only []; omega, by simp only []; omega, rfl⟩, fun h2 => absurd h2 (by simp)⟩
  · rename_i h
    refine ⟨fun h2 => ?_, fun h2 => ⟨?_, hv⟩⟩
    · simp only [] at h2
      rcases hb.2 with h3 | h3
      · exact absurd h3 h2
      · exact ⟨h3.2, hb.1.1, hb.1.2, h3.1⟩
    · simp only [] at h2 ⊢
      by_cases hk : k < l.length
      · exact absurd ⟨h2, hk⟩ h
      · omega
/-- No byte below 32; a quote stands at the ends, or behind a backslash. -/
theorem qB_shape : ∀ n : Fin 256, (∀ x ∈ qB (UInt8.ofNat n.val), 32 ≤ x.toNat) ∧ ((qB (UInt8.ofNat n.val)).head? ≠ some 34) ∧
    (∀ j : Fin 5, (qB (UInt8.ofNat n.val))[j.val + 1]? = some 34 → (qB (UInt8.ofNat n.val))[j.val]? = some 92) ∧ 1 ≤ (qB (UInt8.ofNat n.val)).length ∧ (qB (UInt8.ofNat n.val)).length ≤ 6 := by decide +kernel
theorem qB_is (c : UInt8) : (∀ x ∈ qB c, 32 ≤ x.toNat) ∧ ((qB c).head? ≠ some 34) ∧ (∀ j : Nat, (qB c)[j + 1]? = some 34 → (qB c)[j]? = some 92) ∧ 1 ≤ (qB c).length ∧ (qB c).length ≤ 6 := by
  have h := qB_shape ⟨c.toNat, c.toNat_lt⟩
  simp only [UInt8.ofNat_toNat] at h
  refine ⟨h.1, h.2.1, fun j hj => ?_, h.2.2.2⟩
  have hl := (List.getElem?_eq_some_iff.1 hj).1
  exact h.2.2.1 ⟨j, by have := h.2.2.2.2; omega⟩ hj
theorem qBs_low (l : List UInt8) : ∀ x ∈ qBs l, 32 ≤ x.toNat := by
  intro x hx
  unfold qBs at hx
  obtain ⟨c, _, hc⟩ := List.mem_flatMap.1 hx
  exact (qB_is c).1 x hc
theorem qBs_quote : ∀ (l : List UInt8) (k : Nat), (qBs l)[k]? = some 34 → 1 ≤ k ∧ (qBs l)[k - 1]? = some 92
  | [], k, h => by simp [qBs] at h
  | c :: t, k, h => by
    have hq := qB_is c
    change (qB c ++ qBs t)[k]? = some 34 at h
    show 1 ≤ k ∧ (qB c ++ qBs t)[k - 1]? = some 92
    by_cases hk : k < (qB c).length
    · rw [List.getElem?_append_left hk] at h
      cases k with
      | zero => exact absurd (by rw [List.head?_eq_getElem?]; exact h) hq.2.1
      | succ j =>
        refine ⟨by omega, ?_⟩
        rw [Nat.add_sub_cancel, List.getElem?_append_left (by omega)]
        exact hq.2.2.1 j h
    · rw [List.getElem?_append_right (by omega)] at h
      obtain ⟨h1, h2⟩ := qBs_quote t _ h
      refine ⟨by omega, ?_⟩
      rw [List.getElem?_append_right (by omega), show k - 1 - (qB c).length = k - (qB c).length - 1 by omega]
      exact h2
theorem qBs_len : ∀ l : List UInt8, l.length ≤ (qBs l).length ∧ (qBs l).length ≤ 6 * l.length
  | [] => by simp [qBs]
  | c :: t => by
    have hq := qB_is c
    have := qBs_len t
    change (c :: t).length ≤ (qB c ++ qBs t).length ∧ (qB c ++ qBs t).length ≤ 6 * (c :: t).length
    rw [List.length_append, List.length_cons]
    omega
/-- QuoteApart's test of a written byte. -/
theorem quote_at (l : List UInt8) (k : Nat) (c : UInt8) (h : (quoteL l).1[k]? = some c) : 32 ≤ c.toNat ∧ (k = 0 → c = 34) ∧ (k + 1 = (quoteL l).1.length → c = 34) ∧ (c = 34 → k ≠ 0 → k + 1 ≠ (quoteL l).1.length → (quoteL l).1[k - 1]? = some 92) := by
  unfold quoteL at h ⊢
  split at h
  · rename_i hv
    rw [if_pos hv] at ⊢
    simp only [] at h ⊢
    rw [List.length_cons, List.length_append, List.length_singleton]
    cases k with
    | zero =>
      simp only [List.getElem?_cons_zero, Option.some.injEq] at h
      subst h
      exact ⟨by decide, fun _ => rfl, fun _ => rfl, fun _ h => absurd rfl h⟩
    | succ j =>
      rw [List.getElem?_cons_succ] at h
      by_cases hj : j < (qBs l).length
      · rw [List.getElem?_append_left hj] at h
        refine ⟨qBs_low l c (List.mem_of_getElem? h), fun h0 => by omega, fun h0 => by omega, fun hc _ _ => ?_⟩
        subst hc
        obtain ⟨h1, h2⟩ := qBs_quote l j h
        obtain ⟨i, rfl⟩ : ∃ i, j = i + 1 := ⟨j - 1, by omega⟩
        rw [Nat.add_sub_cancel, List.getElem?_cons_succ, List.getElem?_append_left (by omega)]
        exact h2
      · rw [List.getElem?_append_right (by omega)] at h
        have hl := (List.getElem?_eq_some_iff.1 h).1
        rw [List.length_singleton] at hl
        rw [show j - (qBs l).length = 0 by omega] at h
        simp only [List.getElem?_cons_zero, Option.some.injEq] at h
        subst h
        exact ⟨by decide, fun _ => rfl, fun _ => rfl, fun _ _ h => absurd (by omega) h⟩
  · simp at h
end Go.Proofs.YtnnlpkbopeiefaaGreatDoor
