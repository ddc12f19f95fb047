import Derived.Test.YtbdognlebkagpaaDoorRunesK
namespace Go.Proofs.YtbdognlebkagpaaDoor
open Go.RowKit
open Go.Lib hiding intOf

/-! The small case that each law begins with. -/
theorem v1 : validRes ⟨#[97, 195, 169]⟩ = (3, true) := by kernel_rfl
theorem v2 : validRes ⟨#[97, 255, 98]⟩ = (1, false) := by kernel_rfl
theorem p1 : lineNo ⟨#[97, 195, 169, 10, 98]⟩ 4 = 1 := by kernel_rfl
theorem p2 : colOf ⟨#[97, 195, 169, 10, 98]⟩ 4 = 1 := by kernel_rfl
theorem a1 : atRes ⟨#[97, 195, 169, 10, 98]⟩ 2 2 = (5, true) := by kernel_rfl
set_option maxHeartbeats 1000000 in
theorem small_any (w : World) (hT : Tabs w) :
    Calls Tryd.prog 8 #[] w fun e w' => e = .returned (.bool true) ∧ Below w.heap.size w w' := by
  have c1 := fun (w : World) hT => valid_any ⟨#[97, 195, 169]⟩ w (by decide) hT
  have c2 := fun (w : World) hT => valid_any ⟨#[97, 255, 98]⟩ w (by decide) hT
  have c3 := fun (w : World) hT => place_at ⟨#[97, 195, 169, 10, 98]⟩ 4 w (by decide) (by decide) hT
  have c4 := fun (w : World) => at_any ⟨#[97, 195, 169, 10, 98]⟩ 2 2 w (by decide)
  rw [v1] at c1; rw [v2] at c2; rw [p1, p2] at c3; rw [a1] at c4
  have C1 := Lib.hid c1; have C2 := Lib.hid c2; have C3 := Lib.hid c3; have C4 := Lib.hid c4
  clear c1 c2 c3 c4
  go_enter Tryd.func8, Tryd.ntmps8
  go_wp2_with fail
  refine (C1.out _ hT).mono ?_
  rintro e w1 ⟨rfl, hb1⟩
  have HB1 := Lib.hid hb1
  have hT1 := hT.keep hb1
  clear hb1
  go_wp2_with fail
  refine (C2.out _ hT1).mono ?_
  rintro e w2 ⟨rfl, hb2⟩
  have HB2 := Lib.hid (below_of_new HB1.out hb2)
  have hT2 := hT1.keep hb2
  clear hb2 hT1
  go_wp2_with fail
  refine (C3.out _ hT2).mono ?_
  rintro e w3 ⟨rfl, hb3⟩
  have HB3 := Lib.hid (below_of_new HB2.out hb3)
  clear hb3 hT2
  go_wp2_with fail
  refine (C4.out _).mono ?_
  rintro e w4 ⟨rfl, hb4⟩
  have HB4 := Lib.hid (below_of_new HB3.out hb4)
  clear hb4
  go_wp2_with fail
  go_ret
  exact ⟨rfl, HB4.out⟩
end Go.Proofs.YtbdognlebkagpaaDoor
