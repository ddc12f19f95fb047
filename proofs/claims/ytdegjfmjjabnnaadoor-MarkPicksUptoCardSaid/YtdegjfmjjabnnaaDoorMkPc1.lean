import Derived.Test.YtdegjfmjjabnnaaDoorMkL1
/-! PLAIN: one hunk more takes one pick more. -/
namespace Go.Proofs.YtdegjfmjjabnnaaDoor
set_option linter.unusedSimpArgs false
set_option linter.unusedVariables false

theorem rightGo_snoc (x : Part) (hx : x.hunk = true) (ht : x.text = []) : ∀ (l : List Part) (p : Bool), rightGo p l = true → rightGo p (l ++ [x]) = true
  | [], p, _ => by
    show (okPart p x && rightGo x.hunk []) = true
    unfold okPart
    rw [hx, ht]
    rfl
  | y :: l, p, h => by
    rw [rightGo, Bool.and_eq_true] at h
    rw [List.cons_append, rightGo, h.1, rightGo_snoc x hx ht l _ h.2]
    rfl
theorem right_snoc {l : List Part} {x : Part} (h : rightM l = true) (hl : l.length ≤ 60) (hx : x.hunk = true) (ht : x.text = []) : rightM (l ++ [x]) = true := by
  unfold rightM at h ⊢
  rw [Bool.and_eq_true] at h
  rw [rightGo_snoc x hx ht l true h.1, List.length_append]
  exact decide_eq_true (by simp; omega)
theorem pickGo_snoc (x : Part) (hx : x.hunk = true) (i : Int) (hi : 0 ≤ i ∧ i ≤ 2) : ∀ (l : List Part) (ps : List Int) (s : List UInt8), pickGo l ps = some s → pickGo (l ++ [x]) (ps ++ [i]) = some (s ++ sideP x i)
  | [], [], s, h => by
    rw [pickGo] at h
    cases h
    rw [List.nil_append, List.nil_append, pg_hunk _ _ _ hx]
    have e : pickGo [] [] = some [] := by rw [pickGo]
    rw [e]
    unfold sideP
    rcases (show i = 0 ∨ i = 1 ∨ i = 2 by omega) with rfl | rfl | rfl <;> simp
  | [], _ :: _, s, h => by rw [pickGo] at h; cases h
  | y :: l, ps, s, h => by
    cases hy : y.hunk with
    | false =>
      rw [pg_text l ps hy] at h
      rw [List.cons_append, pg_text _ _ hy]
      cases ho : pickGo l ps with
      | none => rw [ho] at h; cases h
      | some t =>
        rw [ho] at h
        cases h
        rw [pickGo_snoc x hx i hi l ps t ho, Option.map_some, List.append_assoc]
    | true =>
      cases ps with
      | nil => rw [pg_short l hy] at h; cases h
      | cons k r =>
        rw [pg_hunk l k r hy] at h
        rw [List.cons_append, List.cons_append, pg_hunk _ _ _ hy]
        cases ho : pickGo l r with
        | none => rw [ho] at h; simp at h
        | some t =>
          rw [ho] at h
          rw [pickGo_snoc x hx i hi l r t ho]
          by_cases h0 : k = 0
          · rw [if_pos h0] at h ⊢; cases h; rw [Option.map_some, List.append_assoc]
          rw [if_neg h0] at h ⊢
          by_cases h1 : k = 1
          · rw [if_pos h1] at h ⊢; cases h; rw [Option.map_some, List.append_assoc]
          rw [if_neg h1] at h ⊢
          by_cases h2 : k = 2
          · rw [if_pos h2] at h ⊢; cases h; rw [Option.map_some, List.append_assoc]
          rw [if_neg h2] at h; cases h
theorem pickGo_less (x : Part) (hx : x.hunk = true) : ∀ (l : List Part) (ps : List Int) (s : List UInt8), pickGo l ps = some s → pickGo (l ++ [x]) ps = none
  | [], [], s, h => by rw [List.nil_append, pg_short _ hx]
  | [], _ :: _, s, h => by rw [pickGo] at h; cases h
  | y :: l, ps, s, h => by
    cases hy : y.hunk with
    | false =>
      rw [pg_text l ps hy] at h
      rw [List.cons_append, pg_text _ _ hy]
      cases ho : pickGo l ps with
      | none => rw [ho] at h; cases h
      | some t => rw [pickGo_less x hx l ps t ho]; rfl
    | true =>
      cases ps with
      | nil => rw [pg_short l hy] at h; cases h
      | cons k r =>
        rw [pg_hunk l k r hy] at h
        rw [List.cons_append, pg_hunk _ _ _ hy]
        cases ho : pickGo l r with
        | none => rw [ho] at h; simp at h
        | some t => rw [pickGo_less x hx l r t ho]; simp
theorem pick_shape {l : List Part} {ps : List Int} {s : List UInt8} (h : pickM l ps = (s, 0)) : rightM l = true ∧ pickGo l ps = some s := by
  unfold pickM at h
  by_cases hr : rightM l = true
  · rw [if_pos hr] at h
    cases ho : pickGo l ps with
    | none => rw [ho] at h; cases h
    | some t => rw [ho] at h; cases h; exact ⟨hr, rfl⟩
  · rw [if_neg hr] at h; cases h
theorem pick_more {l : List Part} {ps : List Int} {s : List UInt8} {x : Part} {i : Int} (h : pickM l ps = (s, 0)) (hl : l.length ≤ 60) (hx : x.hunk = true) (ht : x.text = []) (hi : 0 ≤ i ∧ i ≤ 2) :
    pickM (l ++ [x]) (ps ++ [i]) = (s ++ sideP x i, 0) ∧ pickM (l ++ [x]) ps = ([], 1) := by
  obtain ⟨h1, h2⟩ := pick_shape h
  unfold pickM
  rw [if_pos (right_snoc h1 hl hx ht), if_pos (right_snoc h1 hl hx ht), pickGo_snoc x hx i hi l ps s h2, pickGo_less x hx l ps s h2]
  exact ⟨rfl, rfl⟩
end Go.Proofs.YtdegjfmjjabnnaaDoor
