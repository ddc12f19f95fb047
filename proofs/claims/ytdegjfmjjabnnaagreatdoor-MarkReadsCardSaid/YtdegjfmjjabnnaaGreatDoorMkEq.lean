import Derived.Test.YtdegjfmjjabnnaaGreatDoorMkF
import Derived.Laws.StructEq
/-! Two arrays of three texts, two parts: how '==' reads. -/
namespace Go.Proofs.YtdegjfmjjabnnaaGreatDoor
set_option linter.unusedSimpArgs false
set_option linter.unusedVariables false
open Go.RowKit
open Go.Lib hiding intOf

theorem eqSides (d : Nat) (a0 a1 a2 b0 b1 b2 : ByteArray) (w : World) : (Op.equalIn (d + 1 + 1) 28 (.agg #[.string a0, .string a1, .string a2]) (.agg #[.string b0, .string b1, .string b2])).run Tryz.prog w = .ok (a0.toList == b0.toList && a1.toList == b1.toList && a2.toList == b2.toList) w := by
  have u := Tryz.underlying9
  have a := Tryz.isAgg9
  have z := Tryz.sizeOf9
  rw [Op.equalIn]
  simp only [Sem.run_bind, run_underlying Tryz.underlying28, Result.andThen_ok]
  simp only [Std.Legacy.Range.forIn_eq_forIn_range', Std.Legacy.Range.size, Nat.sub_zero, Nat.add_sub_cancel, Nat.div_one, List.range'_succ, List.range'_zero, List.forIn_cons, List.forIn_nil]
  go_simp
  by_cases h0 : a0.toList = b0.toList <;> by_cases h1 : a1.toList = b1.toList <;> by_cases h2 : a2.toList = b2.toList <;> simp [h0, h1, h2]
end Go.Proofs.YtdegjfmjjabnnaaGreatDoor
