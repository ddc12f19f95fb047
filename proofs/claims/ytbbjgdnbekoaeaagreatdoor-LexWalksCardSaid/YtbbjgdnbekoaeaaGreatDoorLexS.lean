import Derived.Test.YtbbjgdnbekoaeaaGreatDoorLexG
/-! The walk of scarflaw04.small; what the laws ask of tokens. -/
namespace Go.Proofs.YtbbjgdnbekoaeaaGreatDoor
set_option linter.unusedSimpArgs false
set_option linter.unusedVariables false
open Go.RowKit
open Go.Lib hiding intOf

theorem ls1 : toksL [123, 34, 97, 34, 32, 58, 32, 49, 125] = ([⟨2, 0, 1⟩, ⟨8, 1, 4⟩, ⟨1, 4, 5⟩, ⟨7, 5, 6⟩, ⟨1, 6, 7⟩, ⟨9, 7, 8⟩, ⟨3, 8, 9⟩], 9, 0) := by decide +kernel
theorem ls2 : toksL [91, 49, 44, 120, 93] = ([], 3, 2) := by decide +kernel
theorem ls3 : toksL [48, 49] = ([], 0, 2) := by decide +kernel
set_option maxRecDepth 100000 in
set_option maxHeartbeats 2000000 in
theorem lsmall_any (w : World) (hV : SVar w) (hT : Tabs w) :
    Calls Tryz.prog 7 #[] w fun e w' => e = .returned (.bool true) ∧ Below w.heap.size w w' := by
  have P1 : Hid (∀ w, SVar w → Tabs w → Calls Tryz.prog 12 #[.string ⟨#[123, 34, 97, 34, 32, 58, 32, 49, 125]⟩] w (TokensV _ w)) := Lib.hid (fun w hV hT => tokens_at _ _ ls1 w (by decide) hV hT)
  have P2 : Hid (∀ w, SVar w → Tabs w → Calls Tryz.prog 12 #[.string ⟨#[91, 49, 44, 120, 93]⟩] w (TokensV _ w)) := Lib.hid (fun w hV hT => tokens_at _ _ ls2 w (by decide) hV hT)
  have P3 : Hid (∀ w, SVar w → Tabs w → Calls Tryz.prog 12 #[.string ⟨#[48, 49]⟩] w (TokensV _ w)) := Lib.hid (fun w hV hT => tokens_at _ _ ls3 w (by decide) hV hT)
  have HV := Lib.hid hV; have HT := Lib.hid hT; clear hV hT
  go_enter Tryz.func7, Tryz.ntmps7
  go_wp2_with fail
  with_reducible refine (P1.out _ HV.out HT.out).mono ?_
  rintro e w1 ⟨v, rfl, hv, hb⟩
  dsimp only at hv ⊢
  rcases hv with ⟨h, _⟩ | ⟨g, c, rfl, hg, ha⟩
  · cases h
  have HB1 := Lib.hid hb
  have HA1 := Lib.hid (And.intro hg ha)
  clear hb hg ha
  go_wp2_with fail
  with_reducible refine (P2.out _ (HV.out.keep HB1.out) (HT.out.keep HB1.out)).mono ?_
  rintro e w2 ⟨v2, rfl, _, hb⟩
  dsimp only
  have HB2 := Lib.hid (below_of_new HB1.out hb)
  have HA2 := Lib.hid (And.intro (Nat.lt_of_lt_of_le HA1.out.1 hb.size) (HA1.out.2.keep hb HA1.out.1))
  clear hb HB1 HA1
  go_wp2_with fail
  with_reducible refine (P3.out _ (HV.out.keep HB2.out) (HT.out.keep HB2.out)).mono ?_
  rintro e w3 ⟨v3, rfl, _, hb⟩
  dsimp only
  have HB3 := Lib.hid (below_of_new HB2.out hb)
  have ha := HA2.out.2.keep hb HA2.out.1
  clear hb HB2 HA2
  obtain ⟨a0, a1, a2⟩ := ha 0 ⟨2, 0, 1⟩ rfl
  obtain ⟨b0, b1, b2⟩ := ha 1 ⟨8, 1, 4⟩ rfl
  obtain ⟨c0, c1, c2⟩ := ha 5 ⟨9, 7, 8⟩ rfl
  simp only [Nat.zero_mul, Nat.zero_add, Nat.one_mul, Nat.reduceMul, Nat.reduceAdd] at a0 a1 a2 b0 b1 b2 c0 c1 c2
  clear ha
  go_wp2_with fail
  go_ret
  exact ⟨rfl, HB3.out⟩
/-- What a text's tokens are: all of it, or none, and where it is wrong. -/
theorem toks_cases (l : List UInt8) : ((toksL l).2 = ((l.length : Int), 0) ∧ Chain (toksL l).1 0 l.length ∧ NoBB (toksL l).1) ∨ ((toksL l).2.2 ≠ 0 ∧ (toksL l).1 = [] ∧ 0 ≤ (toksL l).2.1 ∧ (toksL l).2.1 ≤ l.length) := by
  unfold toksL
  by_cases hl : 65536 < l.length
  · right; rw [if_pos hl]; exact ⟨by decide, rfl, by decide, by simp only []; omega⟩
  · rw [if_neg hl]
    cases ho : (toksGo l.length l 0).2 with
    | none =>
      left
      refine ⟨rfl, ?_, toks_noBB _ _ _⟩
      have := toks_chain l.length l 0 (Nat.le_refl _) ho
      rw [Nat.zero_add] at this
      exact this
    | some x =>
      right
      obtain ⟨p, e⟩ := x
      have := toks_err l.length l 0 p e (Nat.le_refl _) ho
      exact ⟨this.2.2, rfl, by simp only []; omega, by simp only []; omega⟩
theorem toks_len (l : List UInt8) : (toksL l).1.length ≤ 65537 := by
  have h := evL_len l
  unfold evL at h
  unfold toksL
  by_cases hl : 65536 < l.length
  · rw [if_pos hl]; simp
  · rw [if_neg hl] at h ⊢
    unfold evFrom at h
    rw [List.length_append, List.length_map] at h
    cases ho : (toksGo l.length l 0).2 with
    | none => simp only []; omega
    | some x => simp
theorem Chain.at_ : ∀ {ts : List Tok} {a b : Nat} (k p : Nat) (t : Tok), Chain ts a b → Chain (ts.drop k) p b → ts[k]? = some t → t.sf = p ∧ t.sf < t.st ∧ t.st ≤ b ∧ 1 ≤ t.kind ∧ t.kind ≤ 12 ∧ Chain (ts.drop (k + 1)) t.st b := by
  intro ts a b k p t _ h ht
  have hk := (List.getElem?_eq_some_iff.1 ht).1
  rw [List.drop_eq_getElem_cons hk] at h
  have e : ts[k] = t := by rw [List.getElem?_eq_getElem hk] at ht; exact Option.some.inj ht
  rw [e] at h
  obtain ⟨h1, h2, h3, h4, h5⟩ := h
  exact ⟨h1, h2, h5.le, h3, h4, h5⟩
theorem NoBB.at_ : ∀ {ts : List Tok} (k : Nat) (t u : Tok), NoBB ts → ts[k]? = some t → ts[k + 1]? = some u → ¬ (t.kind = 1 ∧ u.kind = 1)
  | [], k, t, u, _, h, _ => by simp at h
  | [a], k, t, u, _, _, h => by simp at h
  | a :: b :: ts, 0, t, u, ⟨h1, _⟩, ht, hu => by
    obtain rfl : a = t := by simpa using ht
    obtain rfl : b = u := by simpa using hu
    exact h1
  | a :: b :: ts, k + 1, t, u, ⟨_, h2⟩, ht, hu => by
    rw [List.getElem?_cons_succ] at ht hu
    exact NoBB.at_ k t u h2 ht hu
end Go.Proofs.YtbbjgdnbekoaeaaGreatDoor
