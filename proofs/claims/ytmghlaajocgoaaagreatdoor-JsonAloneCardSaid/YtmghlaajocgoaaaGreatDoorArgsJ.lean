import Derived.Test.YtmghlaajocgoaaaGreatDoorProg
import Derived.ChangeMaps5
import Derived.ChangeArms
import Derived.Lib.SmallJoins
import Derived.KernelRfl
/-! Arguments of the laws that are spans: how they read. -/
namespace Go.Proofs.YtmghlaajocgoaaaGreatDoor
open Go.RowKit Go.Joins
section
variable {H : Type} {enc : TypeId × Value → H} {w : World} {base : Nat} {sp : Nat → Bool} {held : Bool}
set_option maxRecDepth 100000 in
theorem open_span {r : Reach} {b0 : Nat} {v : Value} {d : DataW H} {p : List MemPlace} (hv : Value.okWide Tryz.prog w r b0 33 v) (h : DataW.Trod enc Tryz.prog w base sp held 33 v d p) :
    ∃ (a e : Int), v = .agg #[.int .i64 a, .int .i64 e] ∧ d = .agg [.lit (.int .i64 a), .lit (.int .i64 e)] ∧ p = [] ∧ (Lit.int .i64 a).wf = true ∧ (Lit.int .i64 e).wf = true := by
  obtain ⟨c0, c1, y0, y1, m, rfl, rfl, rfl, h0, h1⟩ := open_agg2 Tryz.underlying33 (by kernel_rfl) (by kernel_rfl) hv h
  obtain ⟨a, e0, rfl, wa⟩ := DataW.trod_int Tryz.underlying3 h0
  obtain ⟨e, e2, rfl, we⟩ := DataW.trod_int Tryz.underlying3 h1
  simp at e0 e2
  subst e0 e2
  exact ⟨a, e, rfl, rfl, rfl, wa, we⟩
set_option maxRecDepth 100000 in
theorem shut_span {a e : Int} (ha : (Lit.int .i64 a).wf = true) (he : (Lit.int .i64 e).wf = true) :
    DataW.Trod enc Tryz.prog w base sp held 33 (.agg #[.int .i64 a, .int .i64 e]) (.agg [.lit (.int .i64 a), .lit (.int .i64 e)]) [] := by
  simpa using shut_agg2 (enc := enc) (w := w) (base := base) (spare := sp) (held := held) (y0 := (.lit (.int .i64 a), [])) (y1 := (.lit (.int .i64 e), [])) Tryz.underlying33 (by kernel_rfl) (by kernel_rfl)
    ⟨1, by simp [DataW.trod, Tryz.underlying3, ha]⟩ ⟨1, by simp [DataW.trod, Tryz.underlying3, he]⟩
end
theorem int_bd {e : Int} (h : (Lit.int .i64 e).wf = true) : -9223372036854775808 ≤ e ∧ e ≤ 9223372036854775807 := by
  simp only [Lit.wf, Bool.and_eq_true, decide_eq_true_eq] at h
  have h1 : IntKind.i64.min = -9223372036854775808 := by decide
  have h2 : IntKind.i64.max = 9223372036854775807 := by decide
  omega
end Go.Proofs.YtmghlaajocgoaaaGreatDoor
