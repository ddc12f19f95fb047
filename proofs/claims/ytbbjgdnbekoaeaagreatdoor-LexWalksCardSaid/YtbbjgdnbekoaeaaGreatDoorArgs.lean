import Derived.Test.YtbbjgdnbekoaeaaGreatDoorProg
import Derived.ChangeMaps5
import Derived.ChangeArms
import Derived.Lib.SmallJoins
import Derived.KernelRfl
/-! Arguments of the laws that are structs: how they read. -/
namespace Go.Proofs.YtbbjgdnbekoaeaaGreatDoor
open Go.RowKit Go.Joins
section
variable {H : Type} {enc : TypeId × Value → H} {w : World} {base : Nat} {sp : Nat → Bool} {held : Bool}
set_option maxRecDepth 100000 in
theorem open_num {r : Reach} {b0 : Nat} {v : Value} {d : DataW H} {p : List MemPlace} (hv : Value.okWide Tryz.prog w r b0 85 v) (h : DataW.Trod enc Tryz.prog w base sp held 85 v d p) :
    ∃ (ng : Bool) (s : ByteArray) (e : Int), v = .agg #[.bool ng, .string s, .int .i64 e] ∧ d = .agg [.lit (.bool ng), .lit (.string s.data.toList), .lit (.int .i64 e)] ∧ p = [] ∧ s.size ≤ maxLen ∧ (Lit.int .i64 e).wf = true := by
  obtain ⟨c0, c1, c2, y0, y1, y2, m, rfl, rfl, rfl, h0, h1, h2⟩ := open_agg3 Tryz.underlying85 (by kernel_rfl) (by kernel_rfl) hv h
  obtain ⟨ng, e0, rfl⟩ := DataW.trod_bool Tryz.underlying4 h0
  obtain ⟨s, e1, rfl, ws⟩ := DataW.trod_string Tryz.underlying9 h1
  obtain ⟨e, e2, rfl, we⟩ := DataW.trod_int Tryz.underlying3 h2
  simp at e0 e1 e2
  subst e0 e1 e2
  exact ⟨ng, s, e, rfl, rfl, rfl, ws, we⟩
set_option maxRecDepth 100000 in
theorem shut_num {ng : Bool} {s : ByteArray} {e : Int} (hs : s.size ≤ maxLen) (he : (Lit.int .i64 e).wf = true) :
    DataW.Trod enc Tryz.prog w base sp held 85 (.agg #[.bool ng, .string s, .int .i64 e]) (.agg [.lit (.bool ng), .lit (.string s.data.toList), .lit (.int .i64 e)]) [] := by
  have hs2 : decide (s.data.toList.length ≤ maxLen) = true := decide_eq_true hs
  simpa using shut_agg3 (enc := enc) (w := w) (base := base) (spare := sp) (held := held) (y0 := (.lit (.bool ng), [])) (y1 := (.lit (.string s.data.toList), [])) (y2 := (.lit (.int .i64 e), [])) Tryz.underlying85 (by kernel_rfl) (by kernel_rfl)
    ⟨1, by simp [DataW.trod, Tryz.underlying4]⟩ ⟨1, by simp [DataW.trod, Tryz.underlying9, hs]⟩ ⟨1, by simp [DataW.trod, Tryz.underlying3, he]⟩
theorem int_bd {e : Int} (h : (Lit.int .i64 e).wf = true) : -9223372036854775808 ≤ e ∧ e ≤ 9223372036854775807 := by
  simp only [Lit.wf, Bool.and_eq_true, decide_eq_true_eq] at h
  have h1 : IntKind.i64.min = -9223372036854775808 := by decide
  have h2 : IntKind.i64.max = 9223372036854775807 := by decide
  omega
end
end Go.Proofs.YtbbjgdnbekoaeaaGreatDoor
