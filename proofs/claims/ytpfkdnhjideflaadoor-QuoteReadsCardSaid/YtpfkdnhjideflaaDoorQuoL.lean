import Derived.Test.YtpfkdnhjideflaaDoorQuoK
/-! The walk of scarflaw03.small. -/
namespace Go.Proofs.YtpfkdnhjideflaaDoor
set_option linter.unusedSimpArgs false
set_option linter.unusedVariables false
open Go.RowKit
open Go.Lib hiding intOf

/-- The variables that quote reads. -/
structure Qv (w : World) : Prop where
  s : SVar w
  t : Tabs w
  d : DTab w
theorem Qv.keep {w w' : World} (h : Qv w) (hb : Below w.heap.size w w') : Qv w' := ⟨h.s.keep hb, h.t.keep hb, h.d.keep hb⟩
theorem quote_at' (l r : List UInt8) (er : Int) (h : quoteL l = (r, er)) (w : World) (hs : l.length ≤ 536870912) (hV : Qv w) :
    Calls Tryd.prog 24 #[.string (bs l)] w fun e w' => e = .returned (.tuple #[.string (bs r), .int .i64 er]) ∧ Below w.heap.size w w' := by
  have := quote_any l w hs hV.t hV.d
  rw [h] at this; exact this
theorem unq_at (l r : List UInt8) (k er : Int) (h : unqL l = (r, k, er)) (w : World) (hs : l.length ≤ 1073741824) (hV : Qv w) :
    Calls Tryd.prog 27 #[.string (bs l)] w fun e w' => e = .returned (.tuple #[.string (bs r), .int .i64 k, .int .i64 er]) ∧ Below w.heap.size w w' := by
  have := unquote_any l w hs hV.s hV.t
  rw [h] at this; exact this
theorem ql1 : quoteL [97, 10, 34] = ([34, 97, 92, 110, 92, 34, 34], 0) := by decide +kernel
theorem ql2 : unqL [34, 92, 117, 100, 56, 51, 100, 92, 117, 100, 101, 48, 48, 34] = ([240, 159, 152, 128], 14, 0) := by decide +kernel
theorem ql3 : unqL [34, 97, 92, 120, 34] = ([], 2, 2) := by decide +kernel
theorem ql4 : unqL [34, 92, 117, 100, 56, 51, 100, 34] = ([], 1, 2) := by decide +kernel
set_option maxRecDepth 100000 in
set_option maxHeartbeats 4000000 in
theorem qsmall_any (w : World) (hV : Qv w) :
    Calls Tryd.prog 23 #[] w fun e w' => e = .returned (.bool true) ∧ Below w.heap.size w w' := by
  have P1 : Hid (∀ w, Qv w → Calls Tryd.prog 24 #[.string ⟨#[97, 10, 34]⟩] w fun e w' => e = .returned (.tuple #[.string ⟨#[34, 97, 92, 110, 92, 34, 34]⟩, .int .i64 0]) ∧ Below w.heap.size w w') := Lib.hid (fun w h => quote_at' _ _ _ ql1 w (by decide) h)
  have P2 : Hid (∀ w, Qv w → Calls Tryd.prog 27 #[.string ⟨#[34, 92, 117, 100, 56, 51, 100, 92, 117, 100, 101, 48, 48, 34]⟩] w fun e w' => e = .returned (.tuple #[.string ⟨#[240, 159, 152, 128]⟩, .int .i64 14, .int .i64 0]) ∧ Below w.heap.size w w') := Lib.hid (fun w h => unq_at _ _ _ _ ql2 w (by decide) h)
  have P3 : Hid (∀ w, Qv w → Calls Tryd.prog 27 #[.string ⟨#[34, 97, 92, 120, 34]⟩] w fun e w' => e = .returned (.tuple #[.string ⟨#[]⟩, .int .i64 2, .int .i64 2]) ∧ Below w.heap.size w w') := Lib.hid (fun w h => unq_at _ _ _ _ ql3 w (by decide) h)
  have P4 : Hid (∀ w, Qv w → Calls Tryd.prog 27 #[.string ⟨#[34, 92, 117, 100, 56, 51, 100, 34]⟩] w fun e w' => e = .returned (.tuple #[.string ⟨#[]⟩, .int .i64 1, .int .i64 2]) ∧ Below w.heap.size w w') := Lib.hid (fun w h => unq_at _ _ _ _ ql4 w (by decide) h)
  have HV := Lib.hid hV; clear hV
  go_enter Tryd.func23, Tryd.ntmps23
  go_wp2_with fail
  with_reducible refine (P1.out _ HV.out).mono ?_
  rintro e w1 ⟨rfl, hb1⟩
  have HB1 := Lib.hid hb1; have HV1 := Lib.hid (HV.out.keep hb1); clear hb1
  go_wp2_with fail
  with_reducible refine (P2.out _ HV1.out).mono ?_
  rintro e w2 ⟨rfl, hb2⟩
  have HB2 := Lib.hid (below_of_new HB1.out hb2); have HV2 := Lib.hid (HV1.out.keep hb2); clear hb2
  go_wp2_with fail
  with_reducible refine (P3.out _ HV2.out).mono ?_
  rintro e w3 ⟨rfl, hb3⟩
  have HB3 := Lib.hid (below_of_new HB2.out hb3); have HV3 := Lib.hid (HV2.out.keep hb3); clear hb3
  go_wp2_with fail
  with_reducible refine (P4.out _ HV3.out).mono ?_
  rintro e w4 ⟨rfl, hb4⟩
  have HB4 := Lib.hid (below_of_new HB3.out hb4); clear hb4
  go_wp2_with fail
  go_ret
  exact ⟨rfl, HB4.out⟩
end Go.Proofs.YtpfkdnhjideflaaDoor
