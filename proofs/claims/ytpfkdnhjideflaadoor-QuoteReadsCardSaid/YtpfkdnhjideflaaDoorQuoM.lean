import Derived.Test.YtpfkdnhjideflaaDoorQuoL
/-! The walks of the laws QuoteWrites, QuoteReads. -/
namespace Go.Proofs.YtpfkdnhjideflaaDoor
set_option linter.unusedSimpArgs false
set_option linter.unusedVariables false
open Go.RowKit
open Go.Lib hiding intOf

theorem quoteWrites_any (s : ByteArray) (w : World) (hz : s.size ≤ 140737488351232) (hV : Qv w) :
    Calls Tryd.prog 7 #[.string s] w fun e w' => e = .returned (.bool true) ∧ Below w.heap.size w w' := by
  have C0 := Lib.hid (fun w h => qsmall_any w h)
  have HV := Lib.hid hV; clear hV
  by_cases hl : 2048 < s.size
  · have t1 : decide ((2048 : Int) < (s.size : Int)) = true := decide_eq_true (by omega)
    go_enter Tryd.func7, Tryd.ntmps7
    go_wp2_with fail
    with_reducible refine (C0.out _ HV.out).mono ?_
    rintro e w1 ⟨rfl, hb1⟩
    go_wp2_with fail
    go_ret
    exact ⟨rfl, hb1⟩
  · obtain ⟨l, rfl⟩ : ∃ l, s = bs l := ⟨s.data.toList, (bs_of s).symm⟩
    have sl := bs_size l
    have t1 : decide ((2048 : Int) < (l.length : Int)) = false := decide_eq_false (by omega)
    obtain ⟨R, hR⟩ : ∃ R, quoteL l = R := ⟨_, rfl⟩
    obtain ⟨r, er⟩ := R
    have C1 := Lib.hid (fun w hT hD => quote_any l w (by omega) hT hD)
    have C2 := Lib.hid (fun w => refQuote_any l w (by omega))
    rw [hR] at C1 C2
    unfold QuoteE at C1 C2
    clear hR
    go_enter Tryd.func7, Tryd.ntmps7
    go_wp2_with fail
    with_reducible refine (C0.out _ HV.out).mono ?_
    rintro e w1 ⟨rfl, hb1⟩
    have HB1 := Lib.hid hb1; have HV1 := Lib.hid (HV.out.keep hb1); clear hb1
    go_wp2_with fail
    with_reducible refine (C1.out _ HV1.out.t HV1.out.d).mono ?_
    rintro e w2 ⟨rfl, hb2⟩
    have HB2 := Lib.hid (below_of_new HB1.out hb2); clear hb2
    go_wp2_with fail
    with_reducible refine (C2.out _).mono ?_
    rintro e w3 ⟨rfl, hb3⟩
    have HB3 := Lib.hid (below_of_new HB2.out hb3); clear hb3
    go_wp2_with fail
    go_ret
    exact ⟨rfl, HB3.out⟩
set_option maxRecDepth 100000 in
theorem quoteReads_any (s : ByteArray) (a : Int) (w : World) (hz : s.size ≤ 140737488351232) (hV : Qv w) :
    Calls Tryd.prog 10 #[.string s, .int .i64 a] w fun e w' => e = .returned (.bool true) ∧ Below w.heap.size w w' := by
  have C0 := Lib.hid (fun w h => qsmall_any w h)
  have HV := Lib.hid hV; clear hV
  by_cases hl : 2048 < s.size
  · have t1 : decide ((2048 : Int) < (s.size : Int)) = true := decide_eq_true (by omega)
    go_enter Tryd.func10, Tryd.ntmps10
    go_wp2_with fail
    with_reducible refine (C0.out _ HV.out).mono ?_
    rintro e w1 ⟨rfl, hb1⟩
    go_wp2_with fail
    go_ret
    exact ⟨rfl, hb1⟩
  · obtain ⟨l, rfl⟩ : ∃ l, s = bs l := ⟨s.data.toList, (bs_of s).symm⟩
    have sl := bs_size l
    have t1 : decide ((2048 : Int) < (l.length : Int)) = false := decide_eq_false (by omega)
    obtain ⟨R, hR⟩ : ∃ R, unqL l = R := ⟨_, rfl⟩
    obtain ⟨r, k, er⟩ := R
    obtain ⟨E, hE⟩ : ∃ E, endL l a = E := ⟨_, rfl⟩
    obtain ⟨x, g⟩ := E
    have C1 := Lib.hid (fun w hS hT => unquote_any l w (by omega) hS hT)
    have C2 := Lib.hid (fun w => refUnquote_any l w (by omega))
    have C3 := Lib.hid (fun w hS hT => end_any l a w (by omega) hS hT)
    have C4 := Lib.hid (fun w => refEnd_any l a w (by omega))
    rw [hR] at C1 C2
    rw [hE] at C3 C4
    unfold ReadE at C1 C2
    clear hR hE
    go_enter Tryd.func10, Tryd.ntmps10
    go_wp2_with fail
    with_reducible refine (C0.out _ HV.out).mono ?_
    rintro e w1 ⟨rfl, hb1⟩
    have HB1 := Lib.hid hb1; have HV1 := Lib.hid (HV.out.keep hb1); clear hb1
    go_wp2_with fail
    with_reducible refine (C1.out _ HV1.out.s HV1.out.t).mono ?_
    rintro e w2 ⟨rfl, hb2⟩
    have HB2 := Lib.hid (below_of_new HB1.out hb2); have HV2 := Lib.hid (HV1.out.keep hb2); clear hb2
    go_wp2_with fail
    with_reducible refine (C2.out _).mono ?_
    rintro e w3 ⟨rfl, hb3⟩
    have HB3 := Lib.hid (below_of_new HB2.out hb3); have HV3 := Lib.hid (HV2.out.keep hb3); clear hb3
    go_wp2_with fail
    with_reducible refine (C3.out _ HV3.out.s HV3.out.t).mono ?_
    rintro e w4 ⟨rfl, hb4⟩
    have HB4 := Lib.hid (below_of_new HB3.out hb4); clear hb4
    go_wp2_with fail
    with_reducible refine (C4.out _).mono ?_
    rintro e w5 ⟨rfl, hb5⟩
    have HB5 := Lib.hid (below_of_new HB4.out hb5); clear hb5
    go_wp2_with fail
    go_ret
    exact ⟨rfl, HB5.out⟩
end Go.Proofs.YtpfkdnhjideflaaDoor
