import Derived.Test.YtnnlpkbopeiefaaGreatDoorYsF
/-! PLAIN: what yscalar writes may stand in a line: its bytes, its runes, its ends (P11.4). -/
namespace Go.Proofs.YtnnlpkbopeiefaaGreatDoor
set_option linter.unusedSimpArgs false
set_option linter.unusedVariables false
open Go.Lib hiding intOf
theorem low_rune (r : Int) (hr : okRune r) (h : ∀ c ∈ encodeRune r, lowB c = false) : 32 ≤ r := by
  by_cases h128 : r < 128
  · have h0 := hr.1
    obtain ⟨c, hc⟩ : ∃ c : UInt8, r = (c.toNat : Int) := ⟨UInt8.ofNat r.toNat, by rw [UInt8.toNat_ofNat']; omega⟩
    subst hc
    rw [encode_one c (by omega)] at h
    have := h c (by simp)
    unfold lowB at this
    simp only [Bool.or_eq_false_iff, decide_eq_false_iff_not] at this
    omega
  · omega
/-- A text without a byte below 32 and without 127 may stand in a line. -/
theorem wr_full : ∀ (n : Nat) (s : Stp), s.length ≤ n → validD s = true → (∀ c ∈ s, lowB c = false) → ∀ g, s.length ≤ g → wrGo true g s 0 = s.length
  | 0, s, hn, _, _ => by
    intro g _
    cases s with
    | nil => cases g <;> rfl
    | cons c r => simp at hn
  | n + 1, s, hn, hv, hc => by
    intro g hg
    by_cases hne : s = []
    · subst hne; cases g <;> rfl
    obtain ⟨r, t, hr, rfl, ht, hd⟩ := valid_cut s hne hv
    have h32 := low_rune r hr (fun c h => hc c (by simp [h]))
    have hct : ∀ c ∈ t, lowB c = false := fun c h => hc c (by simp [h])
    obtain ⟨E, hE⟩ : ∃ E, encodeRune r = E := ⟨_, rfl⟩
    have hEne := encode_ne r
    have hpl := (plain_rune r hr h32 t).2
    rw [hE] at hEne
    cases E with
    | nil => exact absurd rfl hEne
    | cons e E' =>
      rw [hE] at hd hn hc hg hpl ⊢
      obtain ⟨g', rfl⟩ : ∃ g0, g = g0 + 1 := ⟨g - 1, by simp at hg; omega⟩
      rw [List.cons_append] at hd hpl
      have e127 : (e == 127) = false := by
        have := hc e (by simp)
        unfold lowB at this
        simp only [Bool.or_eq_false_iff, decide_eq_false_iff_not] at this
        rw [beq_eq_false_iff_ne]
        rintro rfl
        exact this.2 rfl
      have e1 : (e :: (E' ++ t)).drop (e :: E').length = t := by rw [show e :: (E' ++ t) = (e :: E') ++ t from rfl, List.drop_left]
      have ih := wr_full n t (by simp at hn; omega) ht hct g' (by simp at hg; omega)
      rw [List.cons_append, wrGo_cons, hpl, hd, e127, if_neg (by simp), e1]
      have ho := wrGo_off true g' t 0 (e :: E').length
      rw [Nat.zero_add] at ho
      rw [Nat.zero_add, ho, ih]
      simp only [List.length_cons, List.length_append]
      omega
/-- Bytes and runes that may stand in a line. -/
def CmT (t : Stp) : Prop := validD t = true ∧ ∀ c ∈ t, lowB c = false
theorem CmT.app {a b : Stp} (h : CmT a) (h2 : CmT b) : CmT (a ++ b) := ⟨by rw [validD_app a b h.1]; exact h2.1, fun c hc => by
  rcases List.mem_append.1 hc with hc | hc
  · exact h.2 c hc
  · exact h2.2 c hc⟩
theorem CmT.nil : CmT [] := ⟨rfl, fun c h => by cases h⟩
theorem CmT.lit {l : Stp} (h : ∀ c ∈ l, c.toNat < 128 ∧ lowB c = false) : CmT l := ⟨valid_ascii l (fun c hc => (h c hc).1), fun c hc => (h c hc).2⟩
theorem CmT.wr {t : Stp} (h : CmT t) : wrL true t = t.length := wr_full t.length t (Nat.le_refl _) h.1 h.2 t.length (Nat.le_refl _)
theorem CmT.no10 {t : Stp} (h : CmT t) : t.contains 10 = false := by
  cases e : t.contains 10 with
  | false => rfl
  | true =>
    have := h.2 10 (by simpa using e)
    exact absurd this (by decide)
theorem safe_bytes : ∀ (p : Bool) (n : Fin 256), (safeGo p [UInt8.ofNat n.val]).all (fun d => !lowB d || (lowB (UInt8.ofNat n.val) && decide (n.val < 32))) = true := by decide +kernel
theorem qB_bytes : ∀ (n : Fin 256), (qB (UInt8.ofNat n.val)).all (fun d => decide (32 ≤ d.toNat)) = true := by decide +kernel
theorem asc_bytes : ∀ (p : Bool) (n : Fin 128), (safeGo p (qB (UInt8.ofNat n.val))).all (fun d => decide (d.toNat < 128)) = true := by decide +kernel
theorem safe_nolow : ∀ (l : Stp) (p : Bool), (∀ c ∈ l, 32 ≤ c.toNat) → ∀ c ∈ safeGo p l, lowB c = false
  | [], p, _ => fun c hc => by cases hc
  | d :: r, p, h => by
    have e := safe_app r [d] p
    rw [List.singleton_append] at e
    rw [e]
    intro c hc
    rcases List.mem_append.1 hc with hc | hc
    · have := safe_bytes p ⟨d.toNat, d.toNat_lt⟩
      simp only [UInt8.ofNat_toNat] at this
      have := List.all_eq_true.1 this c hc
      simp only [Bool.or_eq_true, Bool.not_eq_true', Bool.and_eq_true, decide_eq_true_eq] at this
      rcases this with h1 | h1
      · exact h1
      · have := h d (by simp); omega
    · exact safe_nolow r _ (fun c hc => h c (by simp [hc])) c hc
theorem qBs_32 (s : Stp) : ∀ c ∈ qBs s, 32 ≤ c.toNat := by
  intro c hc
  unfold qBs at hc
  obtain ⟨d, _, hd⟩ := List.mem_flatMap.1 hc
  have := qB_bytes ⟨d.toNat, d.toNat_lt⟩
  simp only [UInt8.ofNat_toNat] at this
  simpa using List.all_eq_true.1 this c hd
theorem safe_valid : ∀ (n : Nat) (s : Stp) (p : Bool), s.length ≤ n → validD s = true → validD (safeGo p (qBs s)) = true
  | 0, s, p, hn, _ => by
    cases s with
    | nil => rfl
    | cons c r => simp at hn
  | n + 1, s, p, hn, hv => by
    by_cases hne : s = []
    · subst hne; rfl
    obtain ⟨r, t, hr, rfl, ht, hd⟩ := valid_cut s hne hv
    have hl := encode_ne r
    have hl2 : 0 < (encodeRune r).length := List.length_pos_iff.2 hl
    rw [qBs_append, safe_app]
    have ih := safe_valid n t (lastB p (qBs (encodeRune r))) (by rw [List.length_append] at hn; omega) ht
    by_cases h128 : r < 128
    · have h0 := hr.1
      obtain ⟨c, hc⟩ : ∃ c : UInt8, r = (c.toNat : Int) := ⟨UInt8.ofNat r.toNat, by rw [UInt8.toNat_ofNat']; omega⟩
      subst hc
      rw [encode_one c (by omega), show qBs [c] = qB c by simp [qBs]] at ih ⊢
      have ha := asc_bytes p ⟨c.toNat, by omega⟩
      simp only [UInt8.ofNat_toNat] at ha
      rw [validD_app _ _ (valid_ascii _ (fun d hd => by simpa using List.all_eq_true.1 ha d hd))]
      exact ih
    · have hh := encode_high r hr (by omega)
      rw [qBs_high _ hh] at ih ⊢
      rw [safe_high _ _ hh, validD_rune r hr]
      exact ih
theorem CmT.qS {s : Stp} (hv : validD s = true) : CmT (qS s) := by
  unfold Go.Proofs.YtnnlpkbopeiefaaGreatDoor.qS
  have h1 : CmT (safeGo false (qBs s)) := ⟨safe_valid s.length s false (Nat.le_refl _) hv, safe_nolow _ _ (qBs_32 s)⟩
  exact (CmT.lit (l := [34]) (by decide)).app (h1.app (CmT.lit (l := [34]) (by decide)))
theorem itT_cm : ∀ {l : List VT}, (∀ x ∈ l, CmT (cmpS x)) → CmT (itT l)
  | [], _ => by rw [itT]; exact CmT.nil
  | x :: l, h => by
    rw [itT]
    exact (CmT.lit (l := [44]) (by decide)).app ((h x (by simp)).app (itT_cm (fun y hy => h y (by simp [hy]))))
theorem mbT_cm : ∀ {l : List VT} {ks : List Stp}, (∀ x ∈ l, CmT (cmpS x)) → ks.length = l.length → (∀ k ∈ ks, validD k = true) → CmT (mbT l ks)
  | [], ks, _, _, _ => by rw [mbT]; exact CmT.nil
  | x :: l, [], _, hk, _ => by simp at hk
  | x :: l, k :: ks, h, hk, hv => by
    rw [mbT]
    exact (CmT.lit (l := [44]) (by decide)).app ((CmT.qS (hv k (by simp))).app ((CmT.lit (l := [58]) (by decide)).app ((h x (by simp)).app (mbT_cm (fun y hy => h y (by simp [hy])) (by simpa using hk) (fun z hz => hv z (List.mem_cons_of_mem _ hz))))))
theorem num_cm {c : UInt8} (h : isDig c = true ∨ c = 45 ∨ c = 101) : c.toNat < 128 ∧ lowB c = false := by
  have := num_byte h
  exact ⟨this.2.2.2.1, this.1⟩
/-- The ends of a text that is written for another kind than a string: no blank, no sign of a string, none of a comment. -/
def EndsT (t : Stp) : Prop := ∃ c r, t = c :: r ∧ c ≠ 32 ∧ c ≠ 34 ∧ c ≠ 39 ∧ c ≠ 35 ∧ t.getLast? ≠ some 32
theorem num_end : ∀ n : Fin 256, (isDig (UInt8.ofNat n.val) = true ∨ UInt8.ofNat n.val = 45 ∨ UInt8.ofNat n.val = 101) → UInt8.ofNat n.val ≠ 32 ∧ UInt8.ofNat n.val ≠ 34 ∧ UInt8.ofNat n.val ≠ 39 ∧ UInt8.ofNat n.val ≠ 35 := by decide +kernel
theorem cm_comp (t : VT) (h : everyB rnodeB t = true) : CmT (cmpS t) ∧ (t.kind ≠ 4 → EndsT (cmpS t)) := by
  induction t using VT.ind with
  | h k s ks l ih =>
    obtain ⟨h1, h2⟩ := every_kids h
    have hl : ∀ x ∈ l, CmT (cmpS x) := fun x hx => (ih x hx (h2 x hx)).1
    unfold rnodeB nodeB nodeF at h1
    simp only [Bool.and_eq_true, decide_eq_true_eq] at h1
    obtain ⟨h7, h1⟩ := h1
    change (if k = 5 then !decide (0 < ks.length) && s.isEmpty else if k = 6 then keyedB ks l.length && s.isEmpty else if (decide (0 < ks.length) || decide (0 < l.length)) = true then false else if k = 1 then s.isEmpty else if k = 2 then decide (s = trueL) || decide (s = falseL) else if k = 3 then decB s else if k = 4 then validD s else false) = true at h1
    rw [cmpS]
    change CmT _ ∧ (k ≠ 4 → EndsT _)
    by_cases e1 : k = 1
    · rw [if_pos e1]; exact ⟨CmT.lit (by decide), fun _ => ⟨_, _, rfl, by decide, by decide, by decide, by decide, by decide⟩⟩
    rw [if_neg e1]
    by_cases e4 : k = 4
    · rw [if_pos e4]
      subst e4
      refine ⟨CmT.qS ?_, fun h => absurd rfl h⟩
      rw [if_neg (by decide), if_neg (by decide)] at h1
      split at h1
      · cases h1
      · simpa using h1
    rw [if_neg e4]
    by_cases h5 : k = 5
    · rw [if_pos h5]
      refine ⟨?_, fun _ => ⟨_, _, rfl, by decide, by decide, by decide, by decide, by
        rw [show (91 :: (itS l ++ [93]) : Stp) = (91 :: itS l) ++ [93] from rfl, List.getLast?_append]; simp⟩⟩
      rw [show (91 :: (itS l ++ [93]) : Stp) = [91] ++ (itS l ++ [93]) from rfl]
      refine (CmT.lit (l := [91]) (by decide)).app (CmT.app ?_ (CmT.lit (l := [93]) (by decide)))
      cases l with
      | nil => rw [itS]; exact CmT.nil
      | cons x l =>
        rw [itS]
        exact (hl x List.mem_cons_self).app (itT_cm (fun y hy => hl y (List.mem_cons_of_mem _ hy)))
    rw [if_neg h5]
    rw [if_neg h5] at h1
    by_cases h6 : k = 6
    · rw [if_pos h6]
      rw [if_pos h6, Bool.and_eq_true] at h1
      have hk := h1.1
      unfold keyedB at hk
      simp only [Bool.and_eq_true, decide_eq_true_eq] at hk
      have hv := keysGo_valid ks [] hk.1
      refine ⟨?_, fun _ => ⟨_, _, rfl, by decide, by decide, by decide, by decide, by
        rw [show (123 :: (mbS l ks ++ [125]) : Stp) = (123 :: mbS l ks) ++ [125] from rfl, List.getLast?_append]; simp⟩⟩
      rw [show (123 :: (mbS l ks ++ [125]) : Stp) = [123] ++ (mbS l ks ++ [125]) from rfl]
      refine (CmT.lit (l := [123]) (by decide)).app (CmT.app ?_ (CmT.lit (l := [125]) (by decide)))
      cases l with
      | nil => rw [mbS]; exact CmT.nil
      | cons x l =>
        cases ks with
        | nil => simp at hk
        | cons q ks =>
          rw [mbS]
          exact (CmT.qS (hv q List.mem_cons_self)).app ((CmT.lit (l := [58]) (by decide)).app ((hl x List.mem_cons_self).app (mbT_cm (fun y hy => hl y (List.mem_cons_of_mem _ hy)) (by simpa using hk.2) (fun z hz => hv z (List.mem_cons_of_mem _ hz)))))
    rw [if_neg h6]
    rw [if_neg h6] at h1
    by_cases he : (decide (0 < ks.length) || decide (0 < l.length)) = true
    · rw [if_pos he] at h1; cases h1
    rw [if_neg he, if_neg e1] at h1
    by_cases e2 : k = 2
    · rw [if_pos e2] at h1
      simp only [Bool.or_eq_true, decide_eq_true_eq] at h1
      rcases h1 with rfl | rfl
      · exact ⟨CmT.lit (by decide), fun _ => ⟨_, _, rfl, by decide, by decide, by decide, by decide, by decide⟩⟩
      · exact ⟨CmT.lit (by decide), fun _ => ⟨_, _, rfl, by decide, by decide, by decide, by decide, by decide⟩⟩
    rw [if_neg e2] at h1
    by_cases e3 : k = 3
    · rw [if_pos e3] at h1
      obtain ⟨hall, c, r, e, hc⟩ := num_chars h1
      have hb : ∀ d ∈ s, d ≠ 32 ∧ d ≠ 34 ∧ d ≠ 39 ∧ d ≠ 35 := fun d hd => by
        have := num_end ⟨d.toNat, d.toNat_lt⟩
        simp only [UInt8.ofNat_toNat] at this
        exact this (hall d hd)
      have h0 := hb c (by rw [e]; simp)
      exact ⟨CmT.lit (fun c hc => num_cm (hall c hc)), fun _ => ⟨c, r, e, h0.1, h0.2.1, h0.2.2.1, h0.2.2.2, fun e => (hb 32 (List.mem_of_getLast? e)).1 rfl⟩⟩
    rw [if_neg e3, if_neg e4] at h1
    cases h1
/-! No comment within. -/
def noH : Bool → Stp → Bool
  | _, [] => true
  | p, c :: r => !(p && c == 35) && noH (c == 32) r
theorem noH_app (b : Stp) : ∀ (a : Stp) (p : Bool), noH p (a ++ b) = (noH p a && noH (lastB p a) b)
  | [], p => rfl
  | c :: r, p => by rw [List.cons_append, noH, noH, lastB, noH_app b r, Bool.and_assoc]
theorem noH_safe : ∀ (l : Stp) (p : Bool), noH p (safeGo p l) = true
  | [], p => rfl
  | c :: r, p => by
    rw [safeGo, noH_app]
    by_cases h127 : c = 127
    · subst h127
      rw [if_pos rfl, show lastB p rubL = ((127 : UInt8) == 32) by cases p <;> rfl, noH_safe r, Bool.and_true]
      cases p <;> rfl
    · rw [if_neg h127]
      by_cases h35 : c = 35 ∧ p = true
      · obtain ⟨rfl, rfl⟩ := h35
        rw [if_pos ⟨rfl, rfl⟩, show lastB true hash3 = ((35 : UInt8) == 32) by rfl, noH_safe r, Bool.and_true]
        rfl
      · rw [if_neg h35, show lastB p [c] = (c == 32) from rfl, noH_safe r, Bool.and_true, noH, noH, Bool.and_true, Bool.not_eq_true']
        cases hp : p with
        | false => rfl
        | true => rw [Bool.true_and, beq_eq_false_iff_ne]; exact fun e => h35 ⟨e, hp⟩
theorem noH_at : ∀ (l : Stp) (p : Bool), noH p l = true → ∀ j, 1 ≤ j → ¬ (l[j]? = some 35 ∧ l[j - 1]? = some 32)
  | [], p, _, j, _ => by simp
  | c :: r, p, h, j, hj => by
    rw [noH, Bool.and_eq_true] at h
    obtain ⟨j, rfl⟩ : ∃ i, j = i + 1 := ⟨j - 1, by omega⟩
    rw [List.getElem?_cons_succ, Nat.add_sub_cancel]
    cases j with
    | zero =>
      rintro ⟨h1, h2⟩
      simp only [List.getElem?_cons_zero, Option.some.injEq] at h2
      subst h2
      cases r with
      | nil => cases h1
      | cons d r =>
        simp only [List.getElem?_cons_zero, Option.some.injEq] at h1
        subst h1
        have := h.2
        rw [noH] at this
        simp at this
    | succ j =>
      have := noH_at r _ h.2 (j + 1) (by omega)
      rw [List.getElem?_cons_succ]
      rwa [Nat.add_sub_cancel] at this
theorem noH_pairs : ∀ (l : Stp), pairsB l = true → noH false l = true
  | [], _ => rfl
  | [c], _ => by rw [noH, noH]; rfl
  | a :: b :: r, h => by
    rw [pairsB, Bool.and_eq_true] at h
    have ih := noH_pairs (b :: r) h.2
    rw [noH, Bool.false_and, Bool.not_false, Bool.true_and]
    rw [noH] at ih ⊢
    rw [Bool.false_and, Bool.not_false, Bool.true_and] at ih
    rw [ih, Bool.and_true]
    have := h.1
    simp only [Bool.not_eq_true', Bool.or_eq_false_iff] at this
    rw [this.2]
    rfl
end Go.Proofs.YtnnlpkbopeiefaaGreatDoor
/-! PLAIN: what yscalar writes stands in a line of its own, behind a key or a sign (P11.4). -/
namespace Go.Proofs.YtnnlpkbopeiefaaGreatDoor
set_option linter.unusedSimpArgs false
set_option linter.unusedVariables false
open Go.Lib hiding intOf
/-- In quotes: the string ends where the text ends, whatever stands behind it, but a '. -/
def QdOk (t : Stp) : Prop := (t.head? = some 34 ∨ t.head? = some 39) ∧ ∀ back : Stp, back.head? ≠ some 39 → qdL (t ++ back) = t.length
def PlOk (t : Stp) : Prop := t.head? ≠ some 34 ∧ t.head? ≠ some 39 ∧ noH false t = true
structure TxOk (t : Stp) : Prop where
  cm : CmT t
  ne : t ≠ []
  h32 : t.head? ≠ some 32
  h35 : t.head? ≠ some 35
  last : t.getLast? ≠ some 32
  q : QdOk t ∨ PlOk t
theorem spL_zero {l : Stp} (h : l.head? ≠ some 32) : spL l = 0 := by
  cases l with
  | nil => rfl
  | cons c r => rw [spL_cons, if_neg (by intro e; subst e; exact h rfl)]
theorem trL_full {l : Stp} (h : l.getLast? ≠ some 32) : trL l = l.length := by
  unfold trL
  rw [spL_zero (by rw [List.head?_reverse]; exact h), Nat.sub_zero]
theorem qd_plain {t : Stp} (h1 : t.head? ≠ some 34) (h2 : t.head? ≠ some 39) : qdL t = 0 := by unfold qdL; rw [if_neg h1, if_neg h2]
theorem colGo_hit (t : Stp) (c m : Nat) (hm : m < c) (hs : signL t m 58 = true) : ∀ (f k : Nat), k ≤ m → m < k + f → (∀ j, k ≤ j → j < m → signL t j 58 = false) → colGo t c f k = (4, m)
  | 0, k, h1, h2, _ => by omega
  | f + 1, k, h1, h2, h3 => by
    unfold colGo
    rw [if_neg (by omega)]
    by_cases hk : k = m
    · subst hk; rw [if_pos hs]
    · rw [h3 k (Nat.le_refl _) (by omega), if_neg (by simp)]
      exact colGo_hit t c m hm hs f (k + 1) (by omega) (by omega) (fun j h4 h5 => h3 j (by omega) h5)
/-- The rest of a line, behind its head and one blank. -/
theorem rest_tx (P T : Stp) (hT : TxOk T) (h : Nat × Nat) (hf : fromL h = P.length) (hP : 1 ≤ P.length) :
    restL (P ++ 32 :: T) h (behindL (P ++ 32 :: T) (fromL h)) (noteL (P ++ 32 :: T) (behindL (P ++ 32 :: T) (fromL h) + qdL ((P ++ 32 :: T).drop (behindL (P ++ 32 :: T) (fromL h))))) = ⟨h.1, h.2, P.length + 1, (P ++ 32 :: T).length, none⟩ := by
  have hb : behindL (P ++ 32 :: T) (fromL h) = P.length + 1 := by
    unfold behindL
    rw [hf, List.drop_left, spL_cons, if_pos rfl, spL_zero hT.h32]
  have hd : (P ++ 32 :: T).drop (P.length + 1) = T := by
    rw [show P ++ 32 :: T = (P ++ [32]) ++ T by simp, show P.length + 1 = (P ++ [32]).length by simp, List.drop_left]
  have hlen : (P ++ 32 :: T).length = P.length + 1 + T.length := by simp; omega
  have hat : ∀ j, (P ++ 32 :: T)[P.length + 1 + j]? = T[j]? := fun j => by
    rw [← List.getElem?_drop, hd]
  rw [hb, hd]
  have hn : noteL (P ++ 32 :: T) (P.length + 1 + qdL T) = (P ++ 32 :: T).length := by
    refine noteL_unique _ _ _ (Nat.le_refl _) (fun h => absurd h (Nat.lt_irrefl _)) (fun j h1 h2 => ?_)
    rcases hT.q with hq | hq
    · have := hq.2 [] (by simp)
      rw [List.append_nil] at this
      rw [this] at h1
      omega
    · rw [qd_plain hq.1 hq.2.1] at h1
      obtain ⟨i, rfl⟩ : ∃ i, j = P.length + 1 + i := ⟨j - (P.length + 1), by omega⟩
      rw [hat]
      cases i with
      | zero =>
        rintro ⟨e, _⟩
        rw [← List.head?_eq_getElem?] at e
        exact hT.h35 e
      | succ i =>
        rw [show P.length + 1 + (i + 1) - 1 = P.length + 1 + i by omega, hat]
        have := noH_at T false hq.2.2 (i + 1) (by omega)
        rwa [Nat.add_sub_cancel] at this
  rw [hn]
  unfold restL
  rw [List.take_length, hd, trL_full hT.last, if_neg (Nat.lt_irrefl _)]
  congr 1
  omega
/-- A line of a head that is known. -/
theorem line_core (n : Nat) (P T : Stp) (h : Nat × Nat) (hT : TxOk T) (hP : 1 ≤ P.length) (hcP : CmT P) (hh : headL (P ++ 32 :: T) = h) (hf : fromL h = P.length) (h32 : P.head? ≠ some 32) (h35 : P.head? ≠ some 35) (hq : ¬ ((P.head? = some 34 ∨ P.head? = some 39) ∧ qdL (P ++ 32 :: T) = 0)) :
    lineL (List.replicate n 32 ++ (P ++ 32 :: T)) 0 ((n + (P.length + 1 + T.length) : Nat) : Int) = (lineOf 0 ((n + (P.length + 1 + T.length) : Nat) : Int) n ⟨h.1, h.2, P.length + 1, P.length + 1 + T.length, none⟩, ((n + (P.length + 1 + T.length) : Nat) : Int), 0) := by
  have hlen : (P ++ 32 :: T).length = P.length + 1 + T.length := by simp; omega
  have hU : (P ++ 32 :: T).head? = P.head? := by
    cases P with
    | nil => simp at hP
    | cons c r => rfl
  have hcU : CmT (P ++ 32 :: T) := hcP.app ((CmT.lit (l := [32]) (by decide)).app hT.cm)
  have hcL : CmT (List.replicate n (32 : UInt8) ++ (P ++ 32 :: T)) := CmT.app (CmT.lit (fun c hc => by rw [(List.mem_replicate.1 hc).2]; decide)) hcU
  have hL : (List.replicate n (32 : UInt8) ++ (P ++ 32 :: T)).length = n + (P.length + 1 + T.length) := by rw [List.length_append, List.length_replicate, hlen]
  have hsp : spL (List.replicate n (32 : UInt8) ++ (P ++ 32 :: T)) = n := by rw [spL_rep, spL_zero (by rw [hU]; exact h32), Nat.add_zero]
  unfold lineL
  rw [if_neg (by rw [hL]; omega)]
  have ht : ((List.replicate n (32 : UInt8) ++ (P ++ 32 :: T)).drop (0 : Int).toNat).take (((n + (P.length + 1 + T.length) : Nat) : Int) - 0).toNat = List.replicate n (32 : UInt8) ++ (P ++ 32 :: T) := by
    rw [show (0 : Int).toNat = 0 from rfl, List.drop_zero]
    exact List.take_of_length_le (by rw [hL]; omega)
  simp only []
  rw [ht, hcL.no10, if_neg (by simp), hcL.wr, if_neg (Nat.lt_irrefl _), hsp]
  have hdr : (List.replicate n (32 : UInt8) ++ (P ++ 32 :: T)).drop n = P ++ 32 :: T := by
    have := List.drop_left (l₁ := List.replicate n (32 : UInt8)) (l₂ := P ++ 32 :: T)
    rwa [List.length_replicate] at this
  rw [hdr]
  have hcore : coreL (P ++ 32 :: T) = some ⟨h.1, h.2, P.length + 1, P.length + 1 + T.length, none⟩ := by
    unfold coreL
    rw [if_neg (by simp), hU, if_neg h35, if_neg hq, hh, rest_tx P T hT h hf hP, hlen]
  rw [hcore]
/-- A key, as it is written. -/
structure KyOk (k : Stp) : Prop where
  cm : CmT k
  ne : k ≠ []
  h32 : k.head? ≠ some 32
  h35 : k.head? ≠ some 35
  q : QdOk k ∨ bareB k = true
theorem pairs_at : ∀ (l : List UInt8), pairsB l = true → ∀ j : Nat, ¬ (l[j]? = some 58 ∧ l[j + 1]? = some 32)
  | [], _, j => by simp
  | [c], _, j => by simp
  | a :: b :: r, h, j => by
    rw [pairsB, Bool.and_eq_true] at h
    cases j with
    | zero =>
      rintro ⟨e1, e2⟩
      simp only [List.getElem?_cons_zero, List.getElem?_cons_succ, Option.some.injEq] at e1 e2
      subst e1 e2
      exact absurd h.1 (by decide)
    | succ j =>
      rw [List.getElem?_cons_succ, List.getElem?_cons_succ]
      exact pairs_at (b :: r) h.2 j
theorem bare_facts {k : Stp} (h : bareB k = true) : CmT k ∧ k ≠ [] ∧ k.head? ≠ some 32 ∧ k.head? ≠ some 35 ∧ k.getLast? ≠ some 32 ∧ k.getLast? ≠ some 58 ∧ k.head? ≠ some 34 ∧ k.head? ≠ some 39 ∧ k.head? ≠ some 91 ∧ k.head? ≠ some 123 ∧ pairsB k = true ∧ ¬ (k[0]? = some 45 ∧ (k[1]? = none ∨ k[1]? = some 32)) := by
  rw [bare_eq] at h
  cases k with
  | nil => cases h
  | cons c r =>
    unfold bareR at h
    simp only [Bool.and_eq_true, Bool.not_eq_true', clean_eq, List.any_eq_false, beq_eq_false_iff_ne, Bool.and_eq_false_iff, Bool.or_eq_false_iff] at h
    obtain ⟨⟨⟨⟨⟨⟨⟨hv, hl⟩, h2⟩, h3⟩, h4⟩, h5⟩, h6⟩, h7⟩ := h
    refine ⟨⟨hv, fun d hd => by simpa using hl d hd⟩, by simp, by simpa using h2, ?_, h3, h4, ?_, ?_, ?_, ?_, h7, ?_⟩
    · intro e; simp only [List.head?_cons, Option.some.injEq] at e; subst e; exact absurd h5 (by decide)
    · intro e; simp only [List.head?_cons, Option.some.injEq] at e; subst e; exact absurd h5 (by decide)
    · intro e; simp only [List.head?_cons, Option.some.injEq] at e; subst e; exact absurd h5 (by decide)
    · intro e; simp only [List.head?_cons, Option.some.injEq] at e; subst e; exact absurd h5 (by decide)
    · intro e; simp only [List.head?_cons, Option.some.injEq] at e; subst e; exact absurd h5 (by decide)
    · rintro ⟨e1, e2⟩
      simp only [List.getElem?_cons_zero, List.getElem?_cons_succ, Option.some.injEq] at e1 e2
      subst e1
      rcases h6 with h6 | h6
      · exact h6 rfl
      · cases r with
        | nil => simp at h6
        | cons d r =>
          simp only [List.getElem?_cons_zero] at e2
          rcases e2 with e2 | e2
          · cases e2
          · injection e2 with e2
            subst e2
            exact h6.2 rfl
/-- The head of an entry's line. -/
theorem head_key (K R : Stp) (hK : KyOk K) : headL (K ++ 58 :: 32 :: R) = (4, K.length) ∧ ¬ ((K.head? = some 34 ∨ K.head? = some 39) ∧ qdL (K ++ 58 :: 32 :: R) = 0) := by
  have hU : (K ++ 58 :: 32 :: R).head? = K.head? := by
    have := hK.ne
    cases K with
    | nil => exact absurd rfl this
    | cons c r => rfl
  have hl1 : (K ++ 58 :: 32 :: R)[K.length]? = some 58 := by rw [List.getElem?_append_right (Nat.le_refl _)]; simp
  have hl2 : (K ++ 58 :: 32 :: R)[K.length + 1]? = some 32 := by rw [List.getElem?_append_right (by omega), show K.length + 1 - K.length = 1 by omega]; rfl
  have hin : ∀ j, j < K.length → (K ++ 58 :: 32 :: R)[j]? = K[j]? := fun j hj => List.getElem?_append_left hj
  have hs : signL (K ++ 58 :: 32 :: R) K.length 58 = true := by unfold signL; rw [hl1, hl2]; rfl
  have h0 : 0 < K.length := List.length_pos_iff.2 hK.ne
  rcases hK.q with hq | hb
  · have hqd := hq.2 (58 :: 32 :: R) (by simp)
    have hh := hq.1
    refine ⟨?_, fun h => by rw [hqd] at h; omega⟩
    unfold headL
    have hn : signL (K ++ 58 :: 32 :: R) 0 45 = false := by
      unfold signL
      rw [hin 0 h0, ← List.head?_eq_getElem?]
      rcases hh with e | e <;> rw [e] <;> rfl
    rw [hn, if_neg (by simp), hU, if_pos hh, hqd, if_pos hs]
  · obtain ⟨b1, b2, b3, b4, b5, b6, b7, b8, b9, b10, b11, b12⟩ := bare_facts hb
    refine ⟨?_, fun h => by rcases h.1 with e | e; exact b7 e; exact b8 e⟩
    unfold headL
    have hn : signL (K ++ 58 :: 32 :: R) 0 45 = false := by
      unfold signL
      rw [hin 0 h0]
      cases e : (K[0]? == some 45) with
      | false => rfl
      | true =>
        rw [beq_iff_eq] at e
        have h1 : K[1]? ≠ none ∧ K[1]? ≠ some 32 := ⟨fun h => b12 ⟨e, .inl h⟩, fun h => b12 ⟨e, .inr h⟩⟩
        have h2 : 1 < K.length := by
          refine Nat.lt_of_not_le (fun h => h1.1 (List.getElem?_eq_none h))
        rw [hin 1 h2, beq_eq_false_iff_ne.2 h1.1, beq_eq_false_iff_ne.2 h1.2]
        rfl
    rw [hn, if_neg (by simp), hU, if_neg (by rintro (e | e); exact b7 e; exact b8 e), if_neg (by rintro (e | e); exact b9 e; exact b10 e)]
    have hnote : K.length < noteL (K ++ 58 :: 32 :: R) 0 := by
      obtain ⟨g1, g2, g3⟩ := noteL_spec (K ++ 58 :: 32 :: R) 0
      refine Nat.lt_of_not_le (fun hle => ?_)
      have hlen : (K ++ 58 :: 32 :: R).length = K.length + (R.length + 2) := by simp
      obtain ⟨k1, k2, k3⟩ := g2 (by omega)
      by_cases he : noteL (K ++ 58 :: 32 :: R) 0 = K.length
      · rw [he, hl1] at k2
        exact absurd k2 (by decide)
      · rw [hin _ (by omega)] at k2 k3
        exact noH_at K false (noH_pairs K b11) _ (by omega) ⟨k2, k3⟩
    refine colGo_hit _ _ _ hnote hs _ 1 (by omega) (by simp; omega) (fun j h1 h2 => ?_)
    unfold signL
    rw [hin j h2]
    cases e : (K[j]? == some 58) with
    | false => rfl
    | true =>
      rw [beq_iff_eq] at e
      have hlast : j + 1 < K.length := by
        refine Nat.lt_of_le_of_ne h2 (fun e2 => b6 ?_)
        rw [List.getLast?_eq_getElem?, ← e2, Nat.add_sub_cancel]; exact e
      rw [hin _ hlast]
      have h3 : K[j + 1]? ≠ some 32 := fun h => pairs_at K b11 j ⟨e, h⟩
      have h4 : K[j + 1]? ≠ none := by rw [Ne, List.getElem?_eq_none_iff]; omega
      rw [beq_eq_false_iff_ne.2 h3, beq_eq_false_iff_ne.2 h4]
      rfl
theorem line_entry (n : Nat) (K T : Stp) (hK : KyOk K) (hT : TxOk T) :
    lineL (List.replicate n 32 ++ (K ++ 58 :: 32 :: T)) 0 ((n + (K.length + 2 + T.length) : Nat) : Int) = (⟨4, 0, ((n + (K.length + 2 + T.length) : Nat) : Int), n, n, ((n + K.length : Nat) : Int), ((n + K.length + 2 : Nat) : Int), ((n + (K.length + 2 + T.length) : Nat) : Int), 0, 0⟩, ((n + (K.length + 2 + T.length) : Nat) : Int), 0) := by
  obtain ⟨h1, h2⟩ := head_key K T hK
  have e : K ++ 58 :: 32 :: T = (K ++ [58]) ++ 32 :: T := by simp
  have hhd : (K ++ [58] : Stp).head? = K.head? := by
    have := hK.ne
    cases K with
    | nil => exact absurd rfl this
    | cons c r => rfl
  have := line_core n (K ++ [58]) T (4, K.length) hT (by simp) (hK.cm.app (CmT.lit (by decide))) (by rw [← e]; exact h1) (by simp [fromL]) (by rw [hhd]; exact hK.h32) (by rw [hhd]; exact hK.h35) (by rw [hhd, ← e]; exact h2)
  rw [e]
  have hl : (K ++ [58] : Stp).length + 1 = K.length + 2 := by simp
  rw [hl] at this
  rw [this]
  unfold lineOf
  simp only []
  congr 1
  congr 1 <;> first | rfl | (simp; done) | (push_cast; omega) | (simp; omega)
theorem line_item (n : Nat) (T : Stp) (hT : TxOk T) :
    lineL (List.replicate n 32 ++ (45 :: 32 :: T)) 0 ((n + (2 + T.length) : Nat) : Int) = (⟨3, 0, ((n + (2 + T.length) : Nat) : Int), n, 0, 0, ((n + 2 : Nat) : Int), ((n + (2 + T.length) : Nat) : Int), 0, 0⟩, ((n + (2 + T.length) : Nat) : Int), 0) := by
  have := line_core n [45] T (3, 0) hT (by simp) (CmT.lit (by decide)) (by unfold headL; rw [if_pos (by rfl)]) (by simp [fromL]) (by decide) (by decide) (by simp)
  simp only [List.length_singleton, List.cons_append, List.nil_append] at this
  rw [show (1 + 1 : Nat) = 2 from rfl] at this
  rw [this]
  unfold lineOf
  simp only []
  congr 1
  congr 1 <;> first | rfl | (simp; done) | (push_cast; omega) | (simp; omega)
end Go.Proofs.YtnnlpkbopeiefaaGreatDoor
/-! PLAIN: written keys and texts stand in their lines (P11.4). -/
namespace Go.Proofs.YtnnlpkbopeiefaaGreatDoor
set_option linter.unusedSimpArgs false
set_option linter.unusedVariables false
open Go.Lib hiding intOf
theorem bare_tx {t : Stp} (h : bareB t = true) : TxOk t := by
  obtain ⟨b1, b2, b3, b4, b5, b6, b7, b8, b9, b10, b11, b12⟩ := bare_facts h
  exact ⟨b1, b2, b3, b4, b5, .inr ⟨b7, b8, noH_pairs t b11⟩⟩
theorem bare_ky {t : Stp} (h : bareB t = true) : KyOk t := by
  obtain ⟨b1, b2, b3, b4, b5, b6, b7, b8, b9, b10, b11, b12⟩ := bare_facts h
  exact ⟨b1, b2, b3, b4, .inr h⟩
theorem dbl_valid : ∀ (n : Nat) (s : Stp), s.length ≤ n → validD s = true → validD (dbl s) = true
  | 0, s, hn, _ => by
    cases s with
    | nil => rfl
    | cons c r => simp at hn
  | n + 1, s, hn, hv => by
    by_cases hne : s = []
    · subst hne; rfl
    obtain ⟨r, t, hr, rfl, ht, hd⟩ := valid_cut s hne hv
    have hl2 : 0 < (encodeRune r).length := List.length_pos_iff.2 (encode_ne r)
    rw [dbl_append]
    have ih := dbl_valid n t (by rw [List.length_append] at hn; omega) ht
    by_cases h39 : r = 39
    · subst h39
      rw [show dbl (encodeRune 39) = [39, 39] from by decide +kernel, validD_app _ _ (by decide)]
      exact ih
    · rw [dbl_same _ (enc_no39 r hr h39), validD_rune r hr]
      exact ih
theorem dbl_mem : ∀ (s : Stp), ∀ c ∈ dbl s, c ∈ s ∨ c = 39 := by
  intro s c hc
  unfold dbl at hc
  obtain ⟨d, h1, h2⟩ := List.mem_flatMap.1 hc
  split at h2
  · simp at h2; exact .inr h2
  · simp at h2; subst h2; exact .inl h1
structure QtOk (t : Stp) : Prop where
  cm : CmT t
  ne : t ≠ []
  h32 : t.head? ≠ some 32
  h35 : t.head? ≠ some 35
  last : t.getLast? ≠ some 32
  q : QdOk t
theorem qS_last (s : Stp) : (qS s).getLast? = some 34 := by
  unfold qS
  rw [show (34 :: (safeGo false (qBs s) ++ [34]) : Stp) = (34 :: safeGo false (qBs s)) ++ [34] from rfl, List.getLast?_append]
  simp
theorem qS_qd (s : Stp) (hv : validD s = true) : QdOk (qS s) := by
  have hh : (qS s).head? = some 34 := rfl
  refine ⟨.inl hh, fun back _ => ?_⟩
  have hr := qS_reads s [] back hv
  simp only [List.nil_append, List.length_nil, Nat.zero_add] at hr
  have hpos : 0 < (qS s ++ back).length := by unfold qS; simp
  have he := endL_at (qS s ++ back) 0 hpos
  rw [List.drop_zero] at he
  change readL (qS s ++ back) 0 = _ at hr
  rw [hr] at he
  change endL (qS s ++ back) 0 = _ at he
  unfold qdL
  have hh2 : (qS s ++ back).head? = some 34 := rfl
  rw [if_pos hh2, he, if_pos rfl]
  simp
theorem sqw_qd (s : Stp) (h : (sqw s).2 = 0) : QdOk (sqw s).1 := by
  obtain ⟨_, r, hr⟩ := text_sqw s h
  refine ⟨.inr (by rw [hr]; rfl), fun back hb => ?_⟩
  have := sqL_back [] s back h hb
  simp only [List.nil_append, List.length_nil, Nat.zero_add] at this
  change sqL ((sqw s).1 ++ back) 0 = _ at this
  have hh : ((sqw s).1 ++ back).head? = some 39 := by rw [hr]; rfl
  unfold qdL
  rw [if_neg (by rw [hh]; decide), if_pos hh, this, if_pos rfl]
  simp
theorem quoted_ok (s : Stp) (hv : validD s = true) : QtOk (quotedY s).1 := by
  unfold quotedY
  by_cases hc : cleanB s = true
  · rw [if_pos hc]
    have h0 := clean_sqw2 hc
    have hq := sqw_qd s h0
    rw [clean_eq, Bool.and_eq_true, Bool.not_eq_true', List.any_eq_false] at hc
    have e : (sqw s).1 = 39 :: (dbl s ++ [39]) := by
      unfold sqw at h0 ⊢
      split at h0
      · cases h0
      · rename_i h; rw [if_neg h]
    have hd : CmT (dbl s) := ⟨dbl_valid s.length s (Nat.le_refl _) hv, fun c hc' => by
      rcases dbl_mem s c hc' with h | h
      · simpa using hc.2 c h
      · subst h; decide⟩
    refine ⟨?_, ?_, ?_, ?_, ?_, hq⟩
    · rw [e]; exact (CmT.lit (l := [39]) (by decide)).app (hd.app (CmT.lit (l := [39]) (by decide)))
    · rw [e]; simp
    · rw [e]; simp
    · rw [e]; simp
    · rw [e, show (39 :: (dbl s ++ [39]) : Stp) = (39 :: dbl s) ++ [39] from rfl, List.getLast?_append]; simp
  · rw [if_neg hc]
    have e : safeL (quoteL s).1 = qS s := by rw [safe_eq]; exact safe_quote s hv false
    simp only []
    rw [e]
    exact ⟨CmT.qS hv, by unfold qS; simp, by unfold qS; simp, by unfold qS; simp, by rw [qS_last]; simp, qS_qd s hv⟩
theorem QtOk.tx {t : Stp} (h : QtOk t) : TxOk t := ⟨h.cm, h.ne, h.h32, h.h35, h.last, .inl h.q⟩
theorem QtOk.ky {t : Stp} (h : QtOk t) : KyOk t := ⟨h.cm, h.ne, h.h32, h.h35, .inl h.q⟩
theorem key_ky (s : Stp) (hv : validD s = true) : KyOk (keyY s).1 := by
  unfold keyY
  rw [if_pos hv]
  by_cases hb : bareB s = true
  · rw [if_pos hb]; exact bare_ky hb
  · rw [if_neg hb]; exact (quoted_ok s hv).ky
theorem write_tx (t : VT) (h : RightB t = true) : TxOk (writeY t).1 := by
  have h2 : everyB rnodeB t = true := by
    unfold RightB at h
    rw [Bool.and_eq_true] at h
    exact h.2
  obtain ⟨c1, c2⟩ := cm_comp t h2
  by_cases h4 : t.kind = 4
  · have hv : validD t.text = true := by
      obtain ⟨k, s, ks, l⟩ := t
      change k = 4 at h4
      subst h4
      obtain ⟨h1, _⟩ := every_kids h2
      unfold rnodeB nodeB nodeF at h1
      simp only [Bool.and_eq_true, decide_eq_true_eq] at h1
      obtain ⟨h7, h1⟩ := h1
      change (if (4 : Int) = 5 then !decide (0 < ks.length) && s.isEmpty else if (4 : Int) = 6 then keyedB ks l.length && s.isEmpty else if (decide (0 < ks.length) || decide (0 < l.length)) = true then false else if (4 : Int) = 1 then s.isEmpty else if (4 : Int) = 2 then decide (s = trueL) || decide (s = falseL) else if (4 : Int) = 3 then decB s else if (4 : Int) = 4 then validD s else false) = true at h1
      rw [if_neg (by decide), if_neg (by decide)] at h1
      split at h1
      · cases h1
      · change validD s = true
        simpa using h1
    unfold writeY
    rw [if_pos h, if_pos h4]
    by_cases hb : (bareB t.text && decide ((resP t.text).1 = 4)) = true
    · rw [if_pos hb]
      rw [Bool.and_eq_true] at hb
      exact bare_tx hb.1
    · rw [if_neg hb]; exact (quoted_ok t.text hv).tx
  · rw [cmp_len t h h4]
    obtain ⟨c, r, e, g1, g2, g3, g4, g5⟩ := c2 h4
    have hn : noH false (cmpS t) = true := by
      rw [← (sf_comp t h2 false).1]
      exact noH_safe _ _
    have hh : (cmpS t).head? = some c := by rw [e]; rfl
    exact ⟨c1, by rw [e]; simp, by rw [hh]; simpa using g1, by rw [hh]; simpa using g4, g5, .inr ⟨by rw [hh]; simpa using g2, by rw [hh]; simpa using g3, hn⟩⟩
/-- What the law looks at. -/
theorem written_entry (n : Nat) (t : VT) (s : Stp) (h : RightB t = true) (hv : validD s = true) :
    lineL (List.replicate n 32 ++ ((keyY s).1 ++ 58 :: 32 :: (writeY t).1)) 0 ((n + ((keyY s).1.length + 2 + (writeY t).1.length) : Nat) : Int) = (⟨4, 0, ((n + ((keyY s).1.length + 2 + (writeY t).1.length) : Nat) : Int), n, n, ((n + (keyY s).1.length : Nat) : Int), ((n + (keyY s).1.length + 2 : Nat) : Int), ((n + ((keyY s).1.length + 2 + (writeY t).1.length) : Nat) : Int), 0, 0⟩, ((n + ((keyY s).1.length + 2 + (writeY t).1.length) : Nat) : Int), 0) :=
  line_entry n _ _ (key_ky s hv) (write_tx t h)
theorem written_item (n : Nat) (t : VT) (h : RightB t = true) :
    lineL (List.replicate n 32 ++ (45 :: 32 :: (writeY t).1)) 0 ((n + (2 + (writeY t).1.length) : Nat) : Int) = (⟨3, 0, ((n + (2 + (writeY t).1.length) : Nat) : Int), n, 0, 0, ((n + 2 : Nat) : Int), ((n + (2 + (writeY t).1.length) : Nat) : Int), 0, 0⟩, ((n + (2 + (writeY t).1.length) : Nat) : Int), 0) :=
  line_item n _ (write_tx t h)
end Go.Proofs.YtnnlpkbopeiefaaGreatDoor
