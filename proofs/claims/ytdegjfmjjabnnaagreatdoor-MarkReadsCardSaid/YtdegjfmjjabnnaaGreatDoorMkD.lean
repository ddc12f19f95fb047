import Derived.Test.YtdegjfmjjabnnaaGreatDoorMkC
import Derived.Test.YtdegjfmjjabnnaaGreatDoorSm
/-! Parts in memory: rows of them, read and owned. -/
namespace Go.Proofs.YtdegjfmjjabnnaaGreatDoor
set_option linter.unusedSimpArgs false
set_option linter.unusedVariables false
open Go.RowKit
open Go.Lib hiding intOf

theorem Tryz.infoPart : (Tryz.prog.info? 30).map (fun i => (i.zero, i.size, i.bytes)) = some (some (.agg #[.bool false, .string ⟨#[]⟩, .string ⟨#[]⟩, .string ⟨#[]⟩, .string ⟨#[]⟩]), 5, 72) := by kernel_rfl
def partVs (x : Part) : List Value := [.bool x.hunk, .string (bs x.text), .string (bs x.s0), .string (bs x.s1), .string (bs x.s2)]
def partV (x : Part) : Value := .agg #[.bool x.hunk, .string (bs x.text), .string (bs x.s0), .string (bs x.s1), .string (bs x.s2)]
def PCells (w : World) (g o : Nat) (x : Part) : Prop := w.cell? ⟨g, o, none⟩ = some (.bool x.hunk) ∧ w.cell? ⟨g, o + 1, none⟩ = some (.string (bs x.text)) ∧ w.cell? ⟨g, o + 2, none⟩ = some (.string (bs x.s0)) ∧
  w.cell? ⟨g, o + 3, none⟩ = some (.string (bs x.s1)) ∧ w.cell? ⟨g, o + 4, none⟩ = some (.string (bs x.s2))
def PartsAt (w : World) (g o : Nat) (l : List Part) : Prop := ∀ (j : Nat) (x : Part), l[j]? = some x → PCells w g (o + j * 5) x
/-- A value that reads as parts. -/
def PV (w : World) (v : Value) (l : List Part) : Prop := ∃ p c, v = .slice p l.length c ∧ (l = [] ∨ ∃ g o, p = some ⟨g, o, none⟩ ∧ g < w.heap.size ∧ PartsAt w g o l)
theorem PCells.keep {w w' : World} {g o : Nat} {x : Part} (h : PCells w g o x) (hb : Below w.heap.size w w') (hg : g < w.heap.size) : PCells w' g o x := by
  unfold PCells at h ⊢
  rw [hb.cell (p := ⟨g, o, none⟩) hg, hb.cell (p := ⟨g, o + 1, none⟩) hg, hb.cell (p := ⟨g, o + 2, none⟩) hg, hb.cell (p := ⟨g, o + 3, none⟩) hg, hb.cell (p := ⟨g, o + 4, none⟩) hg]
  exact h
theorem PV.keep {w w' : World} {v : Value} {l : List Part} (h : PV w v l) (hb : Below w.heap.size w w') : PV w' v l := by
  obtain ⟨p, c, h1, h2⟩ := h
  refine ⟨p, c, h1, ?_⟩
  rcases h2 with h2 | ⟨g, o, h2, h3, h4⟩
  · exact .inl h2
  · exact .inr ⟨g, o, h2, Nat.lt_of_lt_of_le h3 hb.size, fun j x hx => (h4 j x hx).keep hb h3⟩
def partCells (l : List Part) : List Value := l.flatMap partVs
theorem partCells_cons (x : Part) (l : List Part) : partCells (x :: l) = .bool x.hunk :: .string (bs x.text) :: .string (bs x.s0) :: .string (bs x.s1) :: .string (bs x.s2) :: partCells l := rfl
theorem partCells_at : ∀ (l : List Part) (j : Nat) (x : Part), l[j]? = some x → (partCells l)[j * 5]? = some (.bool x.hunk) ∧ (partCells l)[j * 5 + 1]? = some (.string (bs x.text)) ∧ (partCells l)[j * 5 + 2]? = some (.string (bs x.s0)) ∧ (partCells l)[j * 5 + 3]? = some (.string (bs x.s1)) ∧ (partCells l)[j * 5 + 4]? = some (.string (bs x.s2))
  | [], j, x, h => by simp at h
  | y :: l, 0, x, h => by
    obtain rfl : y = x := by simpa using h
    rw [partCells_cons]
    exact ⟨rfl, rfl, rfl, rfl, rfl⟩
  | y :: l, j + 1, x, h => by
    rw [List.getElem?_cons_succ] at h
    have := partCells_at l j x h
    rw [partCells_cons, show (j + 1) * 5 = j * 5 + 5 by omega]
    exact this
/-- A row of parts that a call has made. -/
def OwnsParts (B : Nat) (w : World) (v : Value) (l : List Part) : Prop := w.ownsRow B 30 5 v l.length (partCells l)
theorem OwnsParts.toPV {B : Nat} {w : World} {v : Value} {l : List Part} (h : OwnsParts B w v l) : PV w v l := by
  have h0 := h
  rcases h.2 with ⟨h1, h2⟩ | ⟨g, cap, cur, rfl, hb, hg, _⟩
  · exact ⟨none, 0, by rw [h1, h2], .inl (List.length_eq_zero_iff.1 h2)⟩
  · refine ⟨_, cap, rfl, .inr ⟨g, 0, rfl, (Array.getElem?_eq_some_iff.1 hg).1, fun j x hx => ?_⟩⟩
    obtain ⟨a, b, c, d, e⟩ := partCells_at l j x hx
    have hc := World.ownsRow.cells h0 (g := g) rfl
    have ha : ∀ n, ((⟨g, 0, none⟩ : Addr).add n) = ⟨g, n, none⟩ := fun n => by unfold Addr.add; split <;> simp_all
    unfold PCells
    rw [Nat.zero_add]
    exact ⟨by rw [← ha]; exact hc _ _ a, by rw [← ha]; exact hc _ _ b, by rw [← ha]; exact hc _ _ c, by rw [← ha]; exact hc _ _ d, by rw [← ha]; exact hc _ _ e⟩
theorem OwnsParts.snoc {B : Nat} {w : World} {v : Value} {l : List Part} {x : Part} {cs : Array Value} (hcs : cs.toList = partVs x) (h : w.ownsRow B 30 5 v (l.length + 1) (partCells l ++ cs.toList)) : OwnsParts B w v (l ++ [x]) := by
  unfold OwnsParts
  have e : partCells (l ++ [x]) = partCells l ++ partVs x := by unfold partCells; simp
  rw [e, List.length_append, ← hcs]
  exact h
/-- Parts of a size that no walk stumbles at. -/
def Sz (l : List Part) : Prop := l.length ≤ 1073741825 ∧ ∀ x ∈ l, x.text.length ≤ 1073741824 ∧ x.s0.length ≤ 1073741824 ∧ x.s1.length ≤ 1073741824 ∧ x.s2.length ≤ 1073741824
theorem Sz.at_ {l : List Part} (h : Sz l) {j : Nat} {x : Part} (hx : l[j]? = some x) : x.text.length ≤ 1073741824 ∧ x.s0.length ≤ 1073741824 ∧ x.s1.length ≤ 1073741824 ∧ x.s2.length ≤ 1073741824 := h.2 x (List.mem_of_getElem? hx)
end Go.Proofs.YtdegjfmjjabnnaaGreatDoor
