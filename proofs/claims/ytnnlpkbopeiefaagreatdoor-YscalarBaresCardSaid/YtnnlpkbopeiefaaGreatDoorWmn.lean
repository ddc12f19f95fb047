import Derived.Test.YtnnlpkbopeiefaaGreatDoorWa
import Derived.Test.YtnnlpkbopeiefaaGreatDoorNumF
/-! value.Num of 1. -/
namespace Go.Proofs.YtnnlpkbopeiefaaGreatDoor
set_option linter.unusedSimpArgs false
set_option linter.unusedVariables false
open Go.RowKit
open Go.Lib hiding intOf
theorem sm_num1 : textL (ofInt 1) = [49] := by decide +kernel
set_option maxRecDepth 100000 in
set_option maxHeartbeats 1000000 in
theorem vnum1_any (w : World) (hV : YVar w) :
    Calls Tryz.prog 50 #[.int .i64 1] w fun e w' => e = .returned (.agg #[.int .i64 3, .string (bs [49]), .slice none 0 0, .slice none 0 0]) ∧ Below w.heap.size w w' := by
  have ba := below_alloc1 w (.cells #[.int .i64 0, .string (bs []), .slice none 0 0, .slice none 0 0] 25)
  have hB0 := RsBox.new w 0 []
  obtain ⟨W1, hW1⟩ : ∃ W, w.alloc (.cells #[.int .i64 0, .string (bs []), .slice none 0 0, .slice none 0 0] 25) = W := ⟨_, rfl⟩
  rw [hW1] at ba hB0
  have HBa := Lib.hid ba
  have HB0 := Lib.hid hB0
  have HV := Lib.hid (hV.keep ba)
  obtain ⟨y0, y1, y2, y3, f0, f1, f2, f3⟩ := hB0.cells
  have hW1' : w.alloc (.cells #[.int .i64 0, .string ⟨#[]⟩, .slice none 0 0, .slice none 0 0] 25) = W1 := hW1
  have C1 := Lib.hid (of_any 1 W1 (by omega) HV.out.1.2)
  have C2 : Hid (∀ w', YVar w' → Calls Tryz.prog 84 #[.agg #[.bool (ofInt 1).neg, .string (bs (ofInt 1).dig), .int .i64 (ofInt 1).exp]] w' fun e w2 => e = .returned (.string (bs [49])) ∧ Below w'.heap.size w' w2) := Lib.hid (fun w' hv => by
    have := text_any (ofInt 1) w' (by decide +kernel) hv.1.2
    rw [sm_num1] at this
    exact this)
  unfold numV at C1
  obtain ⟨N, hN⟩ : ∃ N, ofInt 1 = N := ⟨_, rfl⟩
  rw [hN] at C1 C2
  clear hV ba hB0 hW1 hN
  go_enter Tryz.func50, Tryz.ntmps50
  go_wp2_with fail
  refine C1.out.mono ?_
  rintro e w2 ⟨rfl, hb2⟩
  have HR2 := Lib.hid (HB0.out.keep hb2)
  have HB2 := Lib.hid (below_of_new HBa.out hb2)
  have HV2 := Lib.hid (HV.out.keep hb2)
  clear hb2 y0 y1 y2 y3 f0 f1 f2 f3
  go_wp2_with fail
  refine (C2.out _ HV2.out).mono ?_
  rintro e w4 ⟨rfl, hb4⟩
  have HR4 := Lib.hid (HR2.out.keep hb4)
  have HB4 := Lib.hid (below_of_new HB2.out hb4)
  clear hb4
  obtain ⟨y0, y1, y2, y3, f0, f1, f2, f3⟩ := HR4.out.cells
  go_wp2_with fail
  clear y0 y1 y2 y3 f0 f1 f2 f3
  have hP := (HR4.out).put (k2 := 3) (t2 := [49])
  have hPB := below_putRs (k := 3) (t := [49]) (HB4.out) (Nat.le_refl w.heap.size)
  obtain ⟨WF, hWF⟩ : ∃ W, putRs w4 w.heap.size 3 [49] = W := ⟨_, rfl⟩
  rw [hWF] at hP hPB
  have hWF' : (((w4.setCell ⟨w.heap.size, 0, none⟩ (.int .i64 3)).setCell ⟨w.heap.size, 1, none⟩ (.string (bs [49]))).setCell ⟨w.heap.size, 2, none⟩ (.slice none 0 0)).setCell ⟨w.heap.size, 3, none⟩ (.slice none 0 0) = WF := hWF
  rw [hWF']
  obtain ⟨d0, d1, d2, d3, _⟩ := hP.cells
  clear hWF hWF'
  refine bodyPost_ret (v := .agg #[.int .i64 3, .string (bs [49]), .slice none 0 0, .slice none 0 0]) ?_ rfl ⟨rfl, hPB⟩
  simp [results, Tryz.results50, go_sem, d0, d1, d2, d3]
end Go.Proofs.YtnnlpkbopeiefaaGreatDoor
