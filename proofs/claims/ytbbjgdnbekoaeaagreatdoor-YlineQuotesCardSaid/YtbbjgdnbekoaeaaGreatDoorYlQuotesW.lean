import Derived.Test.YtbbjgdnbekoaeaaGreatDoorYlS
import Derived.Test.YtbbjgdnbekoaeaaGreatDoorYlE2
import Derived.Test.YtbbjgdnbekoaeaaGreatDoorYlD2
/-! The walk of the law YlineQuotes. -/
namespace Go.Proofs.YtbbjgdnbekoaeaaGreatDoor
set_option linter.unusedSimpArgs false
set_option linter.unusedVariables false
open Go.RowKit
open Go.Lib hiding intOf

set_option maxRecDepth 100000 in
set_option maxHeartbeats 2000000 in
theorem ylineQuotes_any (t : ByteArray) (a : Int) (s : ByteArray) (w : World) (ht : t.size ≤ 140737488351232) (hs : s.size ≤ 140737488351232) (hV : Yv w) :
    Calls Tryz.prog 6 #[.string t, .int .i64 a, .string s] w fun e w' => e = .returned (.bool true) ∧ Below w.heap.size w w' := by
  have C0 := Lib.hid (fun w h => ysmall_any w h)
  have HV0 := Lib.hid hV; clear hV
  obtain ⟨l, rfl⟩ : ∃ l, t = bs l := ⟨t.data.toList, (bs_of t).symm⟩
  obtain ⟨m, rfl⟩ : ∃ m, s = bs m := ⟨s.data.toList, (bs_of s).symm⟩
  have sl := bs_size l
  have sm := bs_size m
  by_cases h1 : 2048 < l.length
  · have d1 : decide (2048 < (l.length : Int)) = true := decide_eq_true (by omega)
    clear h1
    go_enter Tryz.func6, Tryz.ntmps6
    go_wp2_with fail
    with_reducible refine (C0.out _ HV0.out).mono ?_
    rintro e w1 ⟨rfl, hb⟩
    have HB1 := Lib.hid hb; clear hb
    go_wp2_with fail
    go_ret
    exact ⟨rfl, HB1.out⟩
  have d1 : decide (2048 < (l.length : Int)) = false := decide_eq_false (by omega)
  by_cases h2 : 2048 < m.length
  · have d2 : decide (2048 < (m.length : Int)) = true := decide_eq_true (by omega)
    clear h1 h2
    go_enter Tryz.func6, Tryz.ntmps6
    go_wp2_with fail
    with_reducible refine (C0.out _ HV0.out).mono ?_
    rintro e w1 ⟨rfl, hb⟩
    have HB1 := Lib.hid hb; clear hb
    go_wp2_with fail
    go_ret
    exact ⟨rfl, HB1.out⟩
  have d2 : decide (2048 < (m.length : Int)) = false := decide_eq_false (by omega)
  obtain ⟨P, hP⟩ : ∃ P, sqL l a = P := ⟨_, rfl⟩
  obtain ⟨Q, hQ⟩ : ∃ Q, sqw m = Q := ⟨_, rfl⟩
  obtain ⟨p1, p2, p3⟩ := P
  obtain ⟨q1, q2⟩ := Q
  have CS := Lib.hid (fun w h => single_at l p1 a p2 p3 hP w (by omega) h)
  have CQ := Lib.hid (fun w h => quoted_at m q1 q2 hQ w (by omega) h)
  have RS : Hid (∀ w, Calls Tryz.prog 21 #[.string (bs l), .int .i64 a] w fun e w' => e = .returned (.tuple #[.string (bs p1), .int .i64 p2, .int .i64 p3]) ∧ w = w') := Lib.hid (fun w => by
    have := refSingle_any l a w (by omega)
    rw [hP] at this; exact this)
  have RQ : Hid (∀ w, Calls Tryz.prog 23 #[.string (bs m)] w fun e w' => e = .returned (.tuple #[.string (bs q1), .int .i64 q2]) ∧ Below w.heap.size w w') := Lib.hid (fun w => by
    have := refQuoted_any m w (by omega)
    rw [hQ] at this; exact this)
  clear hP hQ h1 h2
  go_enter Tryz.func6, Tryz.ntmps6
  go_wp2_with fail
  with_reducible refine (C0.out _ HV0.out).mono ?_
  rintro e w1 ⟨rfl, hb⟩
  have HB1 := Lib.hid hb; have HV1 := Lib.hid (HV0.out.keep hb); clear hb
  go_wp2_with fail
  with_reducible refine (CS.out _ HV1.out).mono ?_
  rintro e w2 ⟨rfl, hb⟩
  have HB2 := Lib.hid (below_of_new HB1.out hb); have HV2 := Lib.hid (HV1.out.keep hb); clear hb
  go_wp2_with fail
  with_reducible refine (RS.out _).mono ?_
  rintro e w' ⟨rfl, rfl⟩
  go_wp2_with fail
  with_reducible refine (CQ.out _ HV2.out).mono ?_
  rintro e w3 ⟨rfl, hb⟩
  have HB3 := Lib.hid (below_of_new HB2.out hb); clear hb
  go_wp2_with fail
  with_reducible refine (RQ.out _).mono ?_
  rintro e w4 ⟨rfl, hb⟩
  have HB4 := Lib.hid (below_of_new HB3.out hb); clear hb
  go_wp2_with fail
  go_ret
  exact ⟨rfl, HB4.out⟩
end Go.Proofs.YtbbjgdnbekoaeaaGreatDoor
