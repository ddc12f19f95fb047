import Derived.Test.YtbdognlebkagpaaDoorProg
import Derived.Test.YtbdognlebkagpaaDoorBase
namespace Go.Proofs.YtbdognlebkagpaaDoor
open Go.RowKit

/-! The walks of the small functions of runes and scarfref01. -/

def badB (c n : Int) : Bool := c == 65533 && n == 1
set_option maxHeartbeats 400000 in
theorem bad_any (a b : Int) (w : World) :
    Calls Tryd.prog 23 #[.int .i32 a, .int .i64 b] w fun e w' => e = .returned (.bool (badB a b)) ∧ w = w' := by
  go_enter Tryd.func23, Tryd.ntmps23
  go_wp2
  all_goals go_ret
  all_goals (refine ⟨ret_eq (congrArg Value.bool ?_), rfl⟩; unfold badB; simp_all)

def refWide (c : Int) : Int := if c < 128 then 1 else if 194 ≤ c ∧ c ≤ 223 then 2 else if 224 ≤ c ∧ c ≤ 239 then 3 else if 240 ≤ c ∧ c ≤ 244 then 4 else 0
set_option maxHeartbeats 400000 in
theorem wide_any (c : Int) (w : World) :
    Calls Tryd.prog 28 #[.int .i64 c] w fun e w' => e = .returned (.int .i64 (refWide c)) ∧ w = w' := by
  go_enter Tryd.func28, Tryd.ntmps28
  go_wp2
  all_goals go_ret
  all_goals (refine ⟨ret_eq (congrArg (Value.int .i64) ?_), rfl⟩; unfold refWide; (repeat split) <;> first | rfl | omega)
end Go.Proofs.YtbdognlebkagpaaDoor
