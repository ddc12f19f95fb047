import Derived.Test.YtdegjfmjjabnnaaGreatDoorMkRd
/-! The walk of MarkReads. -/
namespace Go.Proofs.YtdegjfmjjabnnaaGreatDoor
set_option linter.unusedSimpArgs false
set_option linter.unusedVariables false
open Go.RowKit
open Go.Lib hiding intOf

theorem decE_is {s : List UInt8} {e : Ending} {w' : World} (h : DecE s e w') : ∃ v, e = .returned (.tuple #[v, .bool (decP s).isSome]) ∧ PV w' v ((decP s).getD []) := by
  rcases h with ⟨l, v, h1, h2, h3⟩ | ⟨h1, h2⟩
  · exact ⟨v, by rw [h1]; exact h2, by rw [h1]; exact h3⟩
  · exact ⟨_, by rw [h1]; exact h2, by rw [h1]; exact ⟨none, 0, rfl, .inl rfl⟩⟩
set_option maxRecDepth 100000 in
set_option maxHeartbeats 4000000 in
theorem markReads_any (s : List UInt8) (w : World) (hV : MkV w) (hsl : s.length ≤ 9223372036854775807) :
    Calls Tryz.prog 3 #[.string (bs s)] w fun e w' => e = .returned (.bool true) ∧ Below w.heap.size w w' := by
  have sl := bs_size s
  have HV := Lib.hid hV
  have CS := Lib.hid (fun w hV => small_any w hV)
  by_cases hlong : 2048 < s.length
  · have d1 : decide ((2048 : Int) < (s.length : Int)) = true := decide_eq_true (by omega)
    have d2 : decide (2048 < s.length) = true := decide_eq_true hlong
    clear hlong
    go_enter Tryz.func3, Tryz.ntmps3
    go_wp2_with (go_at_call 4; (with_reducible refine (CS.out _ HV.out).mono ?_); rintro e w1 ⟨rfl, hb⟩; have HB1 := Lib.hid hb; clear hb)
    go_ret
    exact ⟨rfl, HB1.out⟩
  · have d1 : decide ((2048 : Int) < (s.length : Int)) = false := decide_eq_false (by omega)
    have d2 : decide (2048 < s.length) = false := decide_eq_false hlong
    have hln : ((decP s).getD []).length ≤ 1073741825 := by
      cases hd : decP s with
      | none => exact Nat.zero_le _
      | some l => exact (decP_big (by omega) hd).1.1
    have CD : Hid (∀ w, MkV w → Calls Tryz.prog 5 #[.string (bs s)] w fun e w' => (∃ v, e = .returned (.tuple #[v, .bool (decP s).isSome]) ∧ PV w' v ((decP s).getD [])) ∧ Below w.heap.size w w') := Lib.hid (fun w hV => (decode_any s w (by omega) hV).mono fun e w' h => And.intro (decE_is h.1) h.2)
    have CR : Hid (∀ w, Calls Tryz.prog 6 #[.string (bs s)] w fun e w' => (∃ v, e = .returned (.tuple #[v, .bool (decP s).isSome]) ∧ PV w' v ((decP s).getD [])) ∧ Below w.heap.size w w') := Lib.hid (fun w => (refDecode_any s w (by omega)).mono fun e w' h => And.intro (decE_is h.1) h.2)
    obtain ⟨b, hb⟩ : ∃ b, (decP s).isSome = b := ⟨_, rfl⟩
    obtain ⟨l, hl⟩ : ∃ l, (decP s).getD [] = l := ⟨_, rfl⟩
    rw [hb, hl] at CD CR
    rw [hl] at hln
    have CY := Lib.hid (fun u v w h1 h2 => rSame_yes u v l w h1 h2 hln)
    clear hb hl hln hlong
    go_enter Tryz.func3, Tryz.ntmps3
    go_wp2_with (go_at_call 4; (with_reducible refine (CS.out _ HV.out).mono ?_); rintro e w1 ⟨rfl, hb⟩; have HB1 := Lib.hid hb; clear hb)
    with_reducible refine (CD.out _ (HV.out.keep HB1.out)).mono ?_
    rintro e w2 ⟨⟨u, rfl, hu⟩, hb⟩
    have HB2 := Lib.hid (below_of_new HB1.out hb)
    have HU2 := Lib.hid hu
    clear hb hu
    go_wp2_with (go_at_call 6; (with_reducible refine (CR.out _).mono ?_); rintro e w3 ⟨⟨v, rfl, hv⟩, hb⟩; have HB3 := Lib.hid (below_of_new HB2.out hb); have HU3 := Lib.hid (And.intro (HU2.out.keep hb) hv); clear hb hv)
    with_reducible refine (CY.out _ _ _ HU3.out.1 HU3.out.2).mono ?_
    rintro e w4 ⟨rfl, hb⟩
    have HB4 := Lib.hid (below_of_new HB3.out hb)
    clear hb
    go_wp2_with fail
    go_ret
    exact ⟨rfl, HB4.out⟩
end Go.Proofs.YtdegjfmjjabnnaaGreatDoor
