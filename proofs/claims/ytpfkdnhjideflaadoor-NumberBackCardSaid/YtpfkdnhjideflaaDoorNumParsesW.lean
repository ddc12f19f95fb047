import Derived.Test.YtpfkdnhjideflaaDoorNumR
/-! The walk of NumberParses. -/
namespace Go.Proofs.YtpfkdnhjideflaaDoor
set_option linter.unusedSimpArgs false
set_option linter.unusedVariables false
open Go.RowKit
open Go.Lib hiding intOf

theorem parse_bs (s : ByteArray) (n : Num) (er : Int) (w : World) (hs : s.size ≤ 4294967296) (h : parseL s.data.toList = (n, er)) :
    Calls Tryd.prog 15 #[.string s] w fun e w' => e = .returned (.tuple #[.agg #[.bool n.neg, .string (bs n.dig), .int .i64 n.exp], .int .i64 er]) ∧ Below w.heap.size w w' := by
  have := parse_at s.data.toList n er w hs h
  rw [bs_of] at this; exact this
theorem refParse_bs (s : ByteArray) (n : Num) (er : Int) (w : World) (hs : s.size ≤ 4294967296) (h : parseL s.data.toList = (n, er)) :
    Calls Tryd.prog 16 #[.string s] w fun e w' => e = .returned (.tuple #[.agg #[.bool n.neg, .string (bs n.dig), .int .i64 n.exp], .int .i64 er]) ∧ Below w.heap.size w w' := by
  have := refParse_any s.data.toList w hs
  rw [h, bs_of] at this; exact this
theorem numberParses_walk (s : ByteArray) (w : World) (hs : s.size ≤ 140737488351232) (hT : PTab w) :
    Calls Tryd.prog 3 #[.string s] w fun e w' => e = .returned (.bool true) ∧ Below w.heap.size w w' := by
  by_cases hb : 4096 < s.size
  · go_enter Tryd.func3, Tryd.ntmps3
    go_wp2_with fail
    refine (small_any _ hT).mono ?_
    rintro e w1 ⟨rfl, hb1⟩
    go_wp2_with fail
    go_ret
    exact ⟨rfl, hb1⟩
  · obtain ⟨R, hR⟩ : ∃ R, parseL s.data.toList = R := ⟨_, rfl⟩
    obtain ⟨⟨ng, d, ex⟩, er⟩ := R
    have C1 := Lib.hid (fun w => parse_bs s _ _ w (by omega) hR)
    have C2 := Lib.hid (fun w => refParse_bs s _ _ w (by omega) hR)
    clear hR
    go_enter Tryd.func3, Tryd.ntmps3
    go_wp2_with fail
    refine (small_any _ hT).mono ?_
    rintro e w1 ⟨rfl, hb1⟩
    go_wp2_with fail
    refine (C1.out _).mono ?_
    rintro e w2 ⟨rfl, hb2⟩
    have hb2' := Lib.hid ((hb1.trans (hb2.mono hb1.size)).trans ((below_alloc1 w2 (.cells #[.bool ng, .string (bs d), .int .i64 ex] 24)).mono (Nat.le_trans hb1.size hb2.size)))
    have HN := Lib.hid (NumBox.new w2 ⟨ng, d, ex⟩)
    clear hb1 hb2
    go_wp2_with fail
    refine (C2.out _).mono ?_
    rintro e w3 ⟨rfl, hb3⟩
    have HN3 := Lib.hid (HN.out.keep hb3)
    obtain ⟨c0, c1, c2⟩ := HN3.out.cells
    have HB := Lib.hid (hb2'.out.trans (hb3.mono hb2'.out.size))
    clear hb3
    have hz : w2.heap.size < w3.heap.size := cell_it HN3.out
    go_wp2_with fail
    go_ret
    exact ⟨rfl, HB.out.trans ((below_alloc1 w3 _).mono HB.out.size)⟩
end Go.Proofs.YtpfkdnhjideflaaDoor
