import Derived.Test.YtbbjgdnbekoaeaaGreatDoorYlG
import Derived.Deep.RegionHeld3
/-! The walks of yline: whole, rest. -/
namespace Go.Proofs.YtbbjgdnbekoaeaaGreatDoor
set_option linter.unusedSimpArgs false
set_option linter.unusedVariables false
open Go.RowKit
open Go.Lib hiding intOf

theorem blk_cell {w : World} {g : Nat} {t : TypeId} {cs : Array Value} (h : w.heap[g]? = some (.cells cs t (0, 0))) (i : Nat) : w.cell? ⟨g, i, none⟩ = cs[i]? := cell_of_row w g i cs t (0, 0) h
theorem blk_free {w : World} {g : Nat} {t : TypeId} {cs : Array Value} (h : w.heap[g]? = some (.cells cs t (0, 0))) (i : Nat) : w.frozen? ⟨g, i, none⟩ = false := by
  simp [World.frozen?, h]
theorem blk_set {w : World} {g : Nat} {t : TypeId} {cs : Array Value} (h : w.heap[g]? = some (.cells cs t (0, 0))) (i : Nat) (u : Value) : (w.setCell ⟨g, i, none⟩ u).heap[g]? = some (.cells (cs.setIfInBounds i u) t (0, 0)) := by
  simp [World.setCell, Array.getElem?_modify, h]
/-- Block X is a Line. -/
def LineBox (w : World) (X : Nat) (r : LineR) : Prop := w.heap[X]? = some (.cells #[.int .i64 r.kind, .int .i64 r.sf, .int .i64 r.st, .int .i64 r.ind, .int .i64 r.kf, .int .i64 r.kt, .int .i64 r.rf, .int .i64 r.rt, .int .i64 r.nf, .int .i64 r.nt] 42 (0, 0))
abbrev LineCells (w : World) (X : Nat) (r : LineR) : Prop :=
  w.cell? ⟨X, 0, none⟩ = some (.int .i64 r.kind) ∧ w.cell? ⟨X, 1, none⟩ = some (.int .i64 r.sf) ∧ w.cell? ⟨X, 2, none⟩ = some (.int .i64 r.st) ∧ w.cell? ⟨X, 3, none⟩ = some (.int .i64 r.ind) ∧
  w.cell? ⟨X, 4, none⟩ = some (.int .i64 r.kf) ∧ w.cell? ⟨X, 5, none⟩ = some (.int .i64 r.kt) ∧ w.cell? ⟨X, 6, none⟩ = some (.int .i64 r.rf) ∧ w.cell? ⟨X, 7, none⟩ = some (.int .i64 r.rt) ∧
  w.cell? ⟨X, 8, none⟩ = some (.int .i64 r.nf) ∧ w.cell? ⟨X, 9, none⟩ = some (.int .i64 r.nt) ∧
  w.frozen? ⟨X, 0, none⟩ = false ∧ w.frozen? ⟨X, 1, none⟩ = false ∧ w.frozen? ⟨X, 2, none⟩ = false ∧ w.frozen? ⟨X, 3, none⟩ = false ∧ w.frozen? ⟨X, 4, none⟩ = false ∧
  w.frozen? ⟨X, 5, none⟩ = false ∧ w.frozen? ⟨X, 6, none⟩ = false ∧ w.frozen? ⟨X, 7, none⟩ = false ∧ w.frozen? ⟨X, 8, none⟩ = false ∧ w.frozen? ⟨X, 9, none⟩ = false
theorem LineBox.cells {w : World} {X : Nat} {r : LineR} (h : LineBox w X r) : LineCells w X r :=
  ⟨blk_cell h 0, blk_cell h 1, blk_cell h 2, blk_cell h 3, blk_cell h 4, blk_cell h 5, blk_cell h 6, blk_cell h 7, blk_cell h 8, blk_cell h 9,
   blk_free h 0, blk_free h 1, blk_free h 2, blk_free h 3, blk_free h 4, blk_free h 5, blk_free h 6, blk_free h 7, blk_free h 8, blk_free h 9⟩
theorem LineBox.lt {w : World} {X : Nat} {r : LineR} (h : LineBox w X r) : X < w.heap.size := cell_it h
theorem LineBox.keep {w w' : World} {X : Nat} {r : LineR} (h : LineBox w X r) (hb : Below w.heap.size w w') : LineBox w' X r := (hb.block X h.lt).trans h
theorem LineBox.drew {w : World} {X : Nat} {r : LineR} (h : LineBox w X r) : LineBox w.drew X r := h
/-- Only block X, and what is new, has turned. -/
def Only (X : Nat) (a b : World) : Prop := a.grownBy b (some X)
theorem Only.refl (X : Nat) (w : World) : Only X w w := ⟨rfl, rfl, rfl, Nat.le_refl _, fun _ _ _ => rfl⟩
theorem Only.of_below {X : Nat} {a b : World} (h : Below a.heap.size a b) : Only X a b := ⟨h.os, h.tape, h.output, h.size, fun i hi _ => h.block i hi⟩
theorem Only.trans {X : Nat} {a b c : World} (h : Only X a b) (k : Only X b c) : Only X a c :=
  ⟨k.os.trans h.os, k.tape.trans h.tape, k.output.trans h.output, Nat.le_trans h.size k.size, fun i hi hne => (k.block i (Nat.lt_of_lt_of_le hi h.size) hne).trans (h.block i hi hne)⟩
theorem Only.set {X : Nat} {a b : World} (h : Only X a b) (i : Nat) (u : Value) : Only X a (b.setCell ⟨X, i, none⟩ u) :=
  ⟨h.os, h.tape, h.output, by have := h.size; simpa [World.setCell] using this, fun j hj hne => (Below.heap_setCell b ⟨X, i, none⟩ u j (by rintro rfl; exact hne rfl)).trans (h.block j hj hne)⟩
theorem Only.drew {X : Nat} {a b : World} (h : Only X a b) : Only X a b.drew := ⟨h.os, h.tape, h.output, h.size, h.block⟩
def wholeB (l : List UInt8) (a b : Int) : Bool := if a < 0 ∨ b < a ∨ (l.length : Int) < b then false else !((l.drop a.toNat).take (b - a).toNat).contains 10
theorem contains_index (l : List UInt8) (c : UInt8) : decide (0 ≤ Lib.indexByte l c) = l.contains c := (Lib.contains_iff_indexByte l c).symm
set_option maxHeartbeats 1000000 in
theorem whole_any (l : List UInt8) (a b : Int) (w : World) (hs : l.length ≤ 1073741824) :
    Calls Tryz.prog 27 #[.string (bs l), .agg #[.int .i64 a, .int .i64 b]] w fun e w' => e = .returned (.bool (wholeB l a b)) ∧ Below w.heap.size w w' := by
  have sl := bs_size l
  obtain ⟨R, hR⟩ : ∃ R, wholeB l a b = R := ⟨_, rfl⟩
  rw [hR]
  unfold wholeB at hR
  by_cases h1 : a < 0
  · rw [if_pos (.inl h1)] at hR
    subst hR
    go_enter Tryz.func27, Tryz.ntmps27
    go_wp2_with fail
    go_ret
    exact ⟨rfl, below_alloc1 _ _⟩
  by_cases h2 : b < a
  · rw [if_pos (.inr (.inl h2))] at hR
    subst hR
    go_enter Tryz.func27, Tryz.ntmps27
    go_wp2_with fail
    go_ret
    exact ⟨rfl, below_alloc1 _ _⟩
  by_cases h3 : (l.length : Int) < b
  · rw [if_pos (.inr (.inr h3))] at hR
    subst hR
    go_enter Tryz.func27, Tryz.ntmps27
    go_wp2_with fail
    go_ret
    exact ⟨rfl, below_alloc1 _ _⟩
  rw [if_neg (by omega)] at hR
  obtain ⟨x, rfl⟩ : ∃ x : Nat, a = x := ⟨a.toNat, by omega⟩
  obtain ⟨y, rfl⟩ : ∃ y : Nat, b = y := ⟨b.toNat, by omega⟩
  rw [Int.toNat_natCast, show ((y : Int) - (x : Int)).toNat = y - x by omega] at hR
  obtain ⟨B, hB⟩ : ∃ B, ((l.drop x).take (y - x)).contains 10 = B := ⟨_, rfl⟩
  have CC : Hid (∀ w, Calls Tryz.prog 57 #[.string ((bs l).extract x y), .string ⟨#[10]⟩] w fun e w' => e = .returned (.bool B) ∧ w = w') := Lib.hid (fun w => by
    have h := Tryz.strings_Contains_one ((bs l).extract x y) 10 w
    rw [bs_extract, bs_data, bs_data, contains_index, hB] at h
    rw [bs_extract, bs_data]
    exact h.mono fun _ _ ⟨a, b⟩ => ⟨a, b.symm⟩)
  rw [hB] at hR
  have d2 : decide (y < x) = false := decide_eq_false (by omega)
  have d3 : decide (l.length < y) = false := decide_eq_false (by omega)
  have hxy : (x : Int) ≤ (y : Int) := by omega
  have hyl : (y : Int) ≤ (l.length : Int) := by omega
  clear hB h1 h2 h3
  subst hR
  go_enter Tryz.func27, Tryz.ntmps27
  go_wp2_with (go_at_call 57; refine (CC.out _).mono ?_; rintro e w' ⟨rfl, rfl⟩)
  go_ret
  exact ⟨rfl, below_alloc1 _ _⟩
theorem trimLeft_any (l : List UInt8) (w : World) : Calls Tryz.prog 29 #[.string (bs l), .string ⟨#[32]⟩] w fun e w' => e = .returned (.string (bs (l.drop (spL l)))) ∧ w = w' := by
  have h := Tryz.strings_TrimLeft_one (bs l) 32 (by decide) w
  have e : Lib.trimLeftB (bs l).data.toList 32 = l.drop (spL l) := by
    rw [bs_data]
    unfold Lib.trimLeftB spL
    have h := List.takeWhile_append_dropWhile (p := (· == 32)) (l := l)
    conv => rhs; arg 2; rw [← h]
    exact (List.drop_left).symm
  rw [e] at h
  exact h.mono fun _ _ ⟨a, b⟩ => ⟨a, b.symm⟩
theorem trimRight_any (l : List UInt8) (w : World) (hs : l.length ≤ 1073741824) : Calls Tryz.prog 64 #[.string (bs l), .string ⟨#[32]⟩] w fun e w' => e = .returned (.string (bs (l.take (trL l)))) ∧ w = w' := by
  have h := Tryz.strings_TrimRight_one (bs l) 32 (by decide) w (by rw [bs_size]; omega)
  have e : Lib.trimRightB (bs l).data.toList 32 = l.take (trL l) := by
    rw [bs_data]
    unfold Lib.trimRightB trL spL
    have h := List.takeWhile_append_dropWhile (p := (· == 32)) (l := l.reverse)
    have h2 : l.reverse.dropWhile (· == 32) = l.reverse.drop (l.reverse.takeWhile (· == 32)).length := by
      conv => rhs; arg 2; rw [← h]
      exact (List.drop_left).symm
    rw [h2, List.drop_reverse, List.reverse_reverse]
  rw [e] at h
  exact h.mono fun _ _ ⟨a, b⟩ => ⟨a, b.symm⟩
end Go.Proofs.YtbbjgdnbekoaeaaGreatDoor
