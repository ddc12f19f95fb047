import Derived.WalkKit
import Derived.WalkSpells
import Derived.WalkLawsBesides
import Derived.Lib.Hide
import Derived.Lib.OthersKept
/-! Words that are of no program: one step of append, old cells behind a call, slices that read as a list. -/
namespace Go.Proofs.YtnnlpkbopeiefaaGreatDoor
open Go.RowKit
theorem ret_eq {a b : Value} (h : a = b) : Ending.returned a = .returned b := by rw [h]
theorem ret_int {k : IntKind} {a b : Int} (h : a = b) : Ending.returned (.int k a) = .returned (.int k b) := by rw [h]
theorem ret_bool {a b : Bool} (h : a = b) : Ending.returned (.bool a) = .returned (.bool b) := by rw [h]
/-- Behind a call that ends in Below, at the heap's own size: what the walk reads of old cells. -/
theorem bcell {W w1 : World} (hb : Below W.heap.size W w1) : (∀ b o, b < W.heap.size → w1.cell? ⟨b, o, none⟩ = W.cell? ⟨b, o, none⟩) ∧ (∀ b o, b < W.heap.size → w1.frozen? ⟨b, o, none⟩ = W.frozen? ⟨b, o, none⟩) :=
  ⟨fun b o h => hb.cell (p := ⟨b, o, none⟩) h, fun b o h => hb.frozen (p := ⟨b, o, none⟩) h⟩
theorem below_of_new {W w w' : World} (h : Below W.heap.size W w) (h2 : Below w.heap.size w w') : Below W.heap.size W w' := h.trans (h2.mono h.size)
end Go.Proofs.YtnnlpkbopeiefaaGreatDoor
