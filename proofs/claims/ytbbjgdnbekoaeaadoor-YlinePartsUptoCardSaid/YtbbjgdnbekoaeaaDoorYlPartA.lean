import Derived.Test.YtbbjgdnbekoaeaaDoorYlS
/-! Plain: what YlineParts asks of a line that is read. -/
namespace Go.Proofs.YtbbjgdnbekoaeaaDoor
set_option linter.unusedSimpArgs false
set_option linter.unusedVariables false
open Go.RowKit
open Go.Lib hiding intOf

theorem lineL_whole (l : List UInt8) : lineL l 0 (l.length : Int) = (if l.contains 10 then (noLine, 0, 1) else if wrL true l < l.length then (noLine, (wrL true l : Int), 2) else match coreL (l.drop (spL l)) with | none => (noLine, (spL l : Int), 2) | some c => (lineOf 0 l.length (spL l) c, (l.length : Int), 0) : LineR × Int × Int) := by
  unfold lineL
  rw [if_neg (by omega)]
  simp only [Int.toNat_zero, List.drop_zero, Int.sub_zero, Int.toNat_natCast, List.take_length, Int.zero_add]
  rfl
structure PF (l : List UInt8) (r : LineR) (n kt va vb F E : Nat) : Prop where
  kd : 1 ≤ r.kind ∧ r.kind ≤ 5
  sf : r.sf = 0
  st : r.st = l.length
  ind : r.ind = n
  nl : n ≤ l.length
  sp : ∀ i, i < n → l[i]? = some 32
  key : r.kind = 4 → r.kf = n ∧ r.kt = kt ∧ n < kt ∧ kt < l.length ∧ l[kt]? = some 58 ∧ F = kt + 1
  nokey : r.kind ≠ 4 → r.kf = 0 ∧ r.kt = 0
  item : r.kind = 3 → n < l.length ∧ l[n]? = some 45 ∧ F = n + 1
  other : r.kind ≠ 4 → r.kind ≠ 3 → F = n
  rf : r.rf = va
  rt : r.rt = vb
  ord : F ≤ va ∧ va ≤ vb ∧ vb ≤ l.length
  ahead : ∀ i, F ≤ i → i < va → l[i]? = some 32
  note : (r.nf = 0 ∧ r.nt = 0 ∧ E = l.length) ∨ (r.nf = E ∧ r.nt = l.length ∧ vb ≤ E ∧ E < l.length ∧ l[E]? = some 35)
  behind : ∀ i, vb ≤ i → i < E → l[i]? = some 32
  ends : va = vb ∨ (l[va]? ≠ some 32 ∧ l[vb - 1]? ≠ some 32)
theorem line_parts (l : List UInt8) (r : LineR) (f er : Int) (h : lineL l 0 (l.length : Int) = (r, f, er)) :
    ((er = 1 ∨ er = 2) ∧ r = noLine ∧ 0 ≤ f ∧ f ≤ l.length) ∨ (er = 0 ∧ f = l.length ∧ ∃ n kt rf rt F E, PF l r n kt rf rt F E) := by
  rw [lineL_whole] at h
  split at h
  · injection h with h1 h; injection h with h2 h3
    subst h1 h2 h3
    exact .inl ⟨.inl rfl, rfl, by omega, by omega⟩
  · split at h
    · injection h with h1 h; injection h with h2 h3
      subst h1 h2 h3
      exact .inl ⟨.inr rfl, rfl, by omega, by omega⟩
    · have hs := spL_le l
      split at h
      · injection h with h1 h; injection h with h2 h3
        subst h1 h2 h3
        exact .inl ⟨.inr rfl, rfl, by omega, by omega⟩
      · rename_i c hc
        injection h with h1 h; injection h with h2 h3
        subst h1 h2 h3
        have hp := core_parts _ _ hc
        have hsp := spL_at l
        obtain ⟨n, hn⟩ : ∃ n, spL l = n := ⟨_, rfl⟩
        rw [hn] at hp hs hsp ⊢
        have hat : ∀ i, (l.drop n)[i]? = l[n + i]? := fun i => List.getElem?_drop
        have hlen : (l.drop n).length = l.length - n := List.length_drop
        obtain ⟨k, ke, it, od, ah, no, be, en⟩ := hp
        simp only [hat, hlen] at k ke it od ah no be en
        refine .inr ⟨rfl, rfl, n, n + c.key, n + c.rf, n + c.rt, n + fromL (c.kind, c.key), n + c.nf.getD (l.length - n), ?_⟩
        refine ⟨?_, rfl, rfl, by simp [lineOf], hs, hsp, fun h4 => ?_, fun h4 => ?_, fun h3 => ?_, fun h4 h3 => ?_, by simp [lineOf], by simp [lineOf], by omega, ?_, ?_, ?_, ?_⟩
        · simp only [lineOf]; omega
        · have h4 : c.kind = 4 := by simp only [lineOf] at h4; omega
          have := ke h4
          refine ⟨by simp [lineOf, h4], by simp [lineOf, h4], by omega, by omega, this.2.2, by simp [fromL, h4]; omega⟩
        · have h4 : ¬ c.kind = 4 := by simp only [lineOf] at h4; omega
          exact ⟨by simp [lineOf, h4], by simp [lineOf, h4]⟩
        · have h3 : c.kind = 3 := by simp only [lineOf] at h3; omega
          have h := it h3
          exact ⟨(List.getElem?_eq_some_iff.1 h).1, h, by simp [fromL, h3]⟩
        · have h4 : ¬ c.kind = 4 := by simp only [lineOf] at h4; omega
          have h3 : ¬ c.kind = 3 := by simp only [lineOf] at h3; omega
          simp [fromL, h3, h4]
        · intro i h1 h2
          have := ah (i - n) (by omega) (by omega)
          rwa [show n + (i - n) = i by omega] at this
        · cases hf : c.nf with
          | none => left; exact ⟨by simp [lineOf, hf], by simp [lineOf, hf], by simp; omega⟩
          | some q =>
            have := no q hf
            right; exact ⟨by simp [lineOf, hf], by simp [lineOf, hf], by simp; omega, by simp; omega, this.2.2⟩
        · intro i h1 h2
          have := be (i - n) (by omega) (by omega)
          rwa [show n + (i - n) = i by omega] at this
        · rcases en with h | ⟨h1, h2⟩
          · left; omega
          · by_cases hr : c.rf = c.rt
            · left; omega
            · right
              refine ⟨h1, ?_⟩
              rw [show n + c.rt - 1 = n + (c.rt - 1) by omega]; exact h2
end Go.Proofs.YtbbjgdnbekoaeaaDoor
