import Derived.Test.YtbbjgdnbekoaeaaGreatDoorProg
import Derived.ChangeMaps5
import Derived.ChangeArms
import Derived.ChangeSame
import Derived.Lib.SmallJoins
import Derived.KernelRfl
/-! Arguments of the laws that are tokens: how they read. -/
namespace Go.Proofs.YtbbjgdnbekoaeaaGreatDoor
open Go.RowKit Go.Joins Go.ChangeShapes Go.WideShapes
section
variable {H : Type} {enc : TypeId × Value → H} {w : World} {base : Nat} {sp : Nat → Bool} {held : Bool}
theorem cells_int : Tryz.prog.cellsOf 3 = 1 := by kernel_rfl
theorem cells_span : Tryz.prog.cellsOf 32 = 2 := by kernel_rfl
theorem cells_token : Tryz.prog.cellsOf 34 = 3 := by kernel_rfl
set_option maxRecDepth 100000 in
theorem open_token {r : Reach} {b0 : Nat} {v : Value} {d : DataW H} {p : List MemPlace} (hv : Value.okWide Tryz.prog w r b0 34 v) (h : DataW.Trod enc Tryz.prog w base sp held 34 v d p) :
    ∃ (k a e : Int), v = .agg #[.int .i64 k, .int .i64 a, .int .i64 e] ∧ d = .agg [.lit (.int .i64 k), .agg [.lit (.int .i64 a), .lit (.int .i64 e)]] ∧ p = [] ∧ (Lit.int .i64 k).wf = true ∧ (Lit.int .i64 a).wf = true ∧ (Lit.int .i64 e).wf = true := by
  obtain ⟨cs, rfl, hsz⟩ := okWide_struct Tryz.underlying34 hv
  obtain ⟨c0, c1, c2, rfl⟩ := array3 (hsz.trans cells_token)
  obtain ⟨fuel, hf⟩ := h
  obtain ⟨y0, y1, n, hx, _, h0, h1⟩ := trod_struct2 Tryz.underlying34 hf
  obtain ⟨z0, z1, m, hz, _, h2, h3⟩ := trod_struct2 Tryz.underlying32 h1
  simp only [Value.cells, cells_int, cells_span, List.drop_zero, List.drop_succ_cons, List.take_succ_cons, List.take_zero, List.take_nil] at h0 h2 h3
  obtain ⟨k, e0, rfl, wk⟩ := DataW.trod_int Tryz.underlying3 h0
  obtain ⟨a, e1, rfl, wa⟩ := DataW.trod_int Tryz.underlying3 h2
  obtain ⟨e, e2, rfl, we⟩ := DataW.trod_int Tryz.underlying3 h3
  simp at e0 e1 e2
  subst e0 e1 e2
  subst hz
  simp only [Prod.mk.injEq] at hx
  exact ⟨k, a, e, rfl, hx.1, by simpa using hx.2, wk, wa, we⟩
set_option maxRecDepth 100000 in
theorem shut_token {k a e : Int} (hk : (Lit.int .i64 k).wf = true) (ha : (Lit.int .i64 a).wf = true) (he : (Lit.int .i64 e).wf = true) :
    DataW.Trod enc Tryz.prog w base sp held 34 (.agg #[.int .i64 k, .int .i64 a, .int .i64 e]) (.agg [.lit (.int .i64 k), .agg [.lit (.int .i64 a), .lit (.int .i64 e)]]) [] := by
  have t0 := trod_int_mk (enc := enc) (w := w) (base := base) (spare := sp) (held := held) 1 Tryz.underlying3 hk
  have t1 := trod_int_mk (enc := enc) (w := w) (base := base) (spare := sp) (held := held) 0 Tryz.underlying3 ha
  have t2 := trod_int_mk (enc := enc) (w := w) (base := base) (spare := sp) (held := held) 0 Tryz.underlying3 he
  have ts := trod_struct2_mk (enc := enc) (w := w) (base := base) (spare := sp) (held := held) (n := 1) (cs := [.int .i64 a, .int .i64 e]) Tryz.underlying32 (by simp [cells_span]) (by simpa [cells_int] using t1) (by simpa [cells_int] using t2)
  have tt := trod_struct2_mk (enc := enc) (w := w) (base := base) (spare := sp) (held := held) (n := 2) (cs := [.int .i64 k, .int .i64 a, .int .i64 e]) Tryz.underlying34 (by simp [cells_token]) (by simpa [cells_int] using t0) (by simpa [cells_span] using ts)
  exact ⟨_, by simpa [Value.cells] using tt⟩
end
end Go.Proofs.YtbbjgdnbekoaeaaGreatDoor
