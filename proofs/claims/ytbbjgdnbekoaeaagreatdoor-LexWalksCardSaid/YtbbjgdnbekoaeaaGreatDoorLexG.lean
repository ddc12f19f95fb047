import Derived.Test.YtbbjgdnbekoaeaaGreatDoorLexF
/-! Tokens: how they lie; lex.Text. -/
namespace Go.Proofs.YtbbjgdnbekoaeaaGreatDoor
set_option linter.unusedSimpArgs false
set_option linter.unusedVariables false
open Go.RowKit
open Go.Lib hiding intOf

def TokAt (w : World) (g : Nat) (ts : List Tok) : Prop := ∀ (j : Nat) (t : Tok), ts[j]? = some t → w.cell? ⟨g, j * 3, none⟩ = some (.int .i64 t.kind) ∧ w.cell? ⟨g, j * 3 + 1, none⟩ = some (.int .i64 t.sf) ∧ w.cell? ⟨g, j * 3 + 2, none⟩ = some (.int .i64 t.st)
theorem tokCells_cons (t : Tok) (ts : List Tok) : tokCells (t :: ts) = .int .i64 t.kind :: .int .i64 t.sf :: .int .i64 t.st :: tokCells ts := rfl
theorem tokCells_at : ∀ (ts : List Tok) (j : Nat) (t : Tok), ts[j]? = some t → (tokCells ts)[j * 3]? = some (.int .i64 t.kind) ∧ (tokCells ts)[j * 3 + 1]? = some (.int .i64 t.sf) ∧ (tokCells ts)[j * 3 + 2]? = some (.int .i64 t.st)
  | [], j, t, h => by simp at h
  | u :: ts, 0, t, h => by
    obtain rfl : u = t := by simpa using h
    rw [tokCells_cons]
    exact ⟨rfl, rfl, rfl⟩
  | u :: ts, j + 1, t, h => by
    rw [List.getElem?_cons_succ] at h
    have := tokCells_at ts j t h
    rw [tokCells_cons, show (j + 1) * 3 = j * 3 + 3 by omega]
    exact this
theorem OwnsToks.at_ {B : Nat} {w : World} {v : Value} {ts : List Tok} (h : OwnsToks B w v ts) (hne : ts ≠ []) : ∃ g c, v = .slice (some ⟨g, 0, none⟩) ts.length c ∧ B ≤ g ∧ g < w.heap.size ∧ TokAt w g ts := by
  have hl : 0 < ts.length := List.length_pos_iff.2 hne
  rcases h.2 with ⟨_, h0⟩ | ⟨g, cap, cur, rfl, hb, _⟩
  · omega
  · refine ⟨g, cap, rfl, hb, (h.lt g rfl).2, fun j t hj => ?_⟩
    obtain ⟨a, b, c⟩ := tokCells_at ts j t hj
    have hc := h.cells (g := g) rfl
    have ha : ∀ n, ((⟨g, 0, none⟩ : Addr).add n) = ⟨g, n, none⟩ := fun n => by unfold Addr.add; split <;> simp_all
    exact ⟨by rw [← ha]; exact hc _ _ a, by rw [← ha]; exact hc _ _ b, by rw [← ha]; exact hc _ _ c⟩
theorem TokAt.keep {w w' : World} {g : Nat} {ts : List Tok} (h : TokAt w g ts) (hb : Below w.heap.size w w') (hg : g < w.heap.size) : TokAt w' g ts := fun j t hj => by
  rw [hb.cell (p := ⟨g, j * 3, none⟩) hg, hb.cell (p := ⟨g, j * 3 + 1, none⟩) hg, hb.cell (p := ⟨g, j * 3 + 2, none⟩) hg]; exact h j t hj
/-- What Tokens hands back, opened. -/
def ToksV (w' : World) (v : Value) (ts : List Tok) : Prop := (ts = [] ∧ v = .slice none 0 0) ∨ ∃ g c, v = .slice (some ⟨g, 0, none⟩) ts.length c ∧ g < w'.heap.size ∧ TokAt w' g ts
def TokensV (r : List Tok × Int × Int) (w : World) (e : Ending) (w' : World) : Prop := ∃ v, e = .returned (.tuple #[v, .int .i64 r.2.1, .int .i64 r.2.2]) ∧ ToksV w' v r.1 ∧ Below w.heap.size w w'
theorem tokens_at (l : List UInt8) (r : List Tok × Int × Int) (hr : toksL l = r) (w : World) (hs : l.length ≤ 4611686018427387904) (hV : SVar w) (hT : Tabs w) :
    Calls Tryz.prog 12 #[.string (bs l)] w (TokensV r w) := by
  subst hr
  refine (tokens_any l w hs hV hT).mono fun e w' h => ?_
  obtain ⟨v, he, ho, hn, hb⟩ := h
  refine ⟨v, he, ?_, hb⟩
  by_cases h0 : (toksL l).1 = []
  · exact .inl ⟨h0, hn h0⟩
  · obtain ⟨g, c, h1, _, h2, h3⟩ := ho.at_ h0
    exact .inr ⟨g, c, h1, h2, h3⟩
/-- The bytes of a span. -/
def spanL (l : List UInt8) (a b : Int) : List UInt8 × Bool := if a < 0 ∨ b < a ∨ (l.length : Int) < b then ([], false) else ((l.drop a.toNat).take (b.toNat - a.toNat), true)
set_option maxHeartbeats 1000000 in
theorem ltext_any (l : List UInt8) (k a b : Int) (w : World) (hs : l.length ≤ 4611686018427387904) :
    Calls Tryz.prog 14 #[.string (bs l), .agg #[.int .i64 k, .int .i64 a, .int .i64 b]] w fun e w' => e = .returned (.tuple #[.string (bs (spanL l a b).1), .bool (spanL l a b).2]) ∧ Below w.heap.size w w' := by
  have sl := bs_size l
  obtain ⟨R, hR⟩ : ∃ R, spanL l a b = R := ⟨_, rfl⟩
  rw [hR]
  unfold spanL at hR
  by_cases h1 : a < 0
  · rw [if_pos (.inl h1)] at hR
    subst hR
    go_enter Tryz.func14, Tryz.ntmps14
    go_wp2_with fail
    go_ret2
    exact ⟨rfl, below_alloc1 _ _⟩
  by_cases h2 : b < a
  · rw [if_pos (.inr (.inl h2))] at hR
    subst hR
    go_enter Tryz.func14, Tryz.ntmps14
    go_wp2_with fail
    go_ret2
    exact ⟨rfl, below_alloc1 _ _⟩
  by_cases h3 : (l.length : Int) < b
  · rw [if_pos (.inr (.inr h3))] at hR
    subst hR
    go_enter Tryz.func14, Tryz.ntmps14
    go_wp2_with fail
    go_ret2
    exact ⟨rfl, below_alloc1 _ _⟩
  rw [if_neg (by omega)] at hR
  obtain ⟨x, rfl⟩ : ∃ x : Nat, a = x := ⟨a.toNat, by omega⟩
  obtain ⟨y, rfl⟩ : ∃ y : Nat, b = y := ⟨b.toNat, by omega⟩
  rw [Int.toNat_natCast, Int.toNat_natCast] at hR
  have hex : (bs l).extract x y = bs ((l.drop x).take (y - x)) := by rw [bs_extract, bs_data]
  have d2 : decide (y < x) = false := decide_eq_false (by omega)
  have d3 : decide (l.length < y) = false := decide_eq_false (by omega)
  have hxy : (x : Int) ≤ (y : Int) := by omega
  have hyl : (y : Int) ≤ (l.length : Int) := by omega
  subst hR
  clear h1 h2 h3
  go_enter Tryz.func14, Tryz.ntmps14
  go_wp2_with fail
  go_ret2
  exact ⟨rfl, below_alloc1 _ _⟩
end Go.Proofs.YtbbjgdnbekoaeaaGreatDoor
