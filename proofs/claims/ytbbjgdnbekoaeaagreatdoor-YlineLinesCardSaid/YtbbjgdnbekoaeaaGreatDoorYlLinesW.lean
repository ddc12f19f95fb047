import Derived.Test.YtbbjgdnbekoaeaaGreatDoorYlS
import Derived.Test.YtbbjgdnbekoaeaaGreatDoorYlL3
/-! The walk of the law YlineLines. Printed by gen_lines.py. -/
namespace Go.Proofs.YtbbjgdnbekoaeaaGreatDoor
set_option linter.unusedSimpArgs false
set_option linter.unusedVariables false
open Go.RowKit
open Go.Lib hiding intOf

set_option maxRecDepth 100000 in
set_option maxHeartbeats 4000000 in
theorem ylineLines_any (s : ByteArray) (a b : Int) (w : World) (hs : s.size ≤ 140737488351232) (hV : Yv w) :
    Calls Tryz.prog 5 #[.string s, .agg #[.int .i64 a, .int .i64 b]] w fun e w' => e = .returned (.bool true) ∧ Below w.heap.size w w' := by
  have C0 := Lib.hid (fun w h => ysmall_any w h)
  have HV := Lib.hid hV; clear hV
  obtain ⟨l, rfl⟩ : ∃ l, s = bs l := ⟨s.data.toList, (bs_of s).symm⟩
  have sl := bs_size l
  have HZ := Lib.hid (And.intro (heap_alloc_new w (.cells #[.int .i64 a, .int .i64 b] 32)) (below_alloc1 w (.cells #[.int .i64 a, .int .i64 b] 32)))
  by_cases h1 : 2048 < l.length
  · have d1 : decide (2048 < (l.length : Int)) = true := decide_eq_true (by omega)
    clear h1
    go_enter Tryz.func5, Tryz.ntmps5
    go_wp2_with fail
    with_reducible refine (C0.out _ (HV.out.keep HZ.out.2)).mono ?_
    rintro e w1 ⟨rfl, hb⟩
    have HB1 := Lib.hid (below_of_new HZ.out.2 hb); clear hb
    go_wp2_with fail
    go_ret
    exact ⟨rfl, HB1.out⟩
  have d1 : decide (2048 < (l.length : Int)) = false := decide_eq_false (by omega)
  obtain ⟨R1, f1, r1, hR1⟩ : ∃ R f er, lineL l a b = (R, f, er) := ⟨_, _, _, rfl⟩
  obtain ⟨R2, f2, r2, hR2⟩ : ∃ R f er, lineL l 0 (l.length : Int) = (R, f, er) := ⟨_, _, _, rfl⟩
  have P1 : Hid (∀ w, Yv w → Calls Tryz.prog 17 #[.string (bs l), .agg #[.int .i64 a, .int .i64 b]] w fun e w' => e = .returned (.tuple #[lineV R1, .int .i64 f1, .int .i64 r1]) ∧ Below w.heap.size w w') := Lib.hid (fun w h => by
    have := line_any l a b w (by omega) h.s h.t h.m
    rw [hR1] at this; exact this)
  have P2 : Hid (∀ w, Yv w → Calls Tryz.prog 18 #[.string (bs l), .agg #[.int .i64 a, .int .i64 b]] w fun e w' => e = .returned (.tuple #[lineV R1, .int .i64 f1, .int .i64 r1]) ∧ Below w.heap.size w w') := Lib.hid (fun w _ => by
    have := refLine_any l a b w (by omega)
    rw [hR1] at this; exact this)
  have P3 := Lib.hid (fun w h => line_at l l.length rfl R2 f2 r2 hR2 w (by omega) h)
  have P4 : Hid (∀ w, Yv w → Calls Tryz.prog 18 #[.string (bs l), .agg #[.int .i64 0, .int .i64 (l.length : Int)]] w fun e w' => e = .returned (.tuple #[lineV R2, .int .i64 f2, .int .i64 r2]) ∧ Below w.heap.size w w') := Lib.hid (fun w _ => by
    have := refLine_any l 0 l.length w (by omega)
    rw [hR2] at this; exact this)
  have A1 := Lib.hid (fun w => yall_any l l.length rfl w (by omega))
  clear hR1 hR2 h1
  go_enter Tryz.func5, Tryz.ntmps5
  go_upto_region 1 with fail
  obtain ⟨V0, hW⟩ : ∃ W, w.alloc (.cells #[.int .i64 a, .int .i64 b] 32) = W := ⟨_, rfl⟩
  rw [hW] at HZ ⊢
  clear hW
  have HS : Hid (SpanBox V0 w.heap.size a b) := Lib.hid HZ.out.1
  have HB := Lib.hid HZ.out.2
  have HV := Lib.hid (HV.out.keep HB.out)
  clear HZ
  go_wp2_with fail
  with_reducible refine (C0.out _ HV.out).mono ?_
  rintro e w1 ⟨rfl, hb⟩
  have HB := Lib.hid (below_of_new HB.out hb); have HV := Lib.hid (HV.out.keep hb); have HS := Lib.hid (HS.out.keep hb); clear hb
  obtain ⟨s0, s1⟩ := HS.out.cells
  go_wp2_with fail
  with_reducible refine (P1.out _ HV.out).mono ?_
  rintro e v1 ⟨rfl, hb⟩
  have HB := Lib.hid (below_of_new HB.out hb); have HV := Lib.hid (HV.out.keep hb); have HS := Lib.hid (HS.out.keep hb)
  clear hb
  clear s0 s1
  dsimp only [lineV]
  go_upto_region 5 with fail
  have hX : LineBox (v1.alloc (.cells #[.int .i64 R1.kind, .int .i64 R1.sf, .int .i64 R1.st, .int .i64 R1.ind, .int .i64 R1.kf, .int .i64 R1.kt, .int .i64 R1.rf, .int .i64 R1.rt, .int .i64 R1.nf, .int .i64 R1.nt] 42)) v1.heap.size R1 := heap_alloc_new v1 _
  have hA := below_alloc1 v1 (.cells #[.int .i64 R1.kind, .int .i64 R1.sf, .int .i64 R1.st, .int .i64 R1.ind, .int .i64 R1.kf, .int .i64 R1.kt, .int .i64 R1.rf, .int .i64 R1.rt, .int .i64 R1.nf, .int .i64 R1.nt] 42)
  obtain ⟨V1, hW⟩ : ∃ W, v1.alloc (.cells #[.int .i64 R1.kind, .int .i64 R1.sf, .int .i64 R1.st, .int .i64 R1.ind, .int .i64 R1.kf, .int .i64 R1.kt, .int .i64 R1.rf, .int .i64 R1.rt, .int .i64 R1.nf, .int .i64 R1.nt] 42) = W := ⟨_, rfl⟩
  rw [hW] at hX hA ⊢
  clear hW
  obtain ⟨X1, hXe⟩ : ∃ X, v1.heap.size = X := ⟨_, rfl⟩
  rw [hXe] at hX ⊢
  clear hXe
  have HB := Lib.hid (below_of_new HB.out hA); have HV := Lib.hid (HV.out.keep hA); have HS := Lib.hid (HS.out.keep hA)
  have HX1 := Lib.hid hX; clear hX hA
  obtain ⟨s0, s1⟩ := HS.out.cells
  go_wp2_with fail
  with_reducible refine (P2.out _ HV.out).mono ?_
  rintro e v2 ⟨rfl, hb⟩
  have HB := Lib.hid (below_of_new HB.out hb); have HV := Lib.hid (HV.out.keep hb); have HS := Lib.hid (HS.out.keep hb)
  have HX1 := Lib.hid (HX1.out.keep hb)
  clear hb
  clear s0 s1
  dsimp only [lineV]
  go_upto_region 6 with fail
  have hX : LineBox (v2.alloc (.cells #[.int .i64 R1.kind, .int .i64 R1.sf, .int .i64 R1.st, .int .i64 R1.ind, .int .i64 R1.kf, .int .i64 R1.kt, .int .i64 R1.rf, .int .i64 R1.rt, .int .i64 R1.nf, .int .i64 R1.nt] 42)) v2.heap.size R1 := heap_alloc_new v2 _
  have hA := below_alloc1 v2 (.cells #[.int .i64 R1.kind, .int .i64 R1.sf, .int .i64 R1.st, .int .i64 R1.ind, .int .i64 R1.kf, .int .i64 R1.kt, .int .i64 R1.rf, .int .i64 R1.rt, .int .i64 R1.nf, .int .i64 R1.nt] 42)
  obtain ⟨V2, hW⟩ : ∃ W, v2.alloc (.cells #[.int .i64 R1.kind, .int .i64 R1.sf, .int .i64 R1.st, .int .i64 R1.ind, .int .i64 R1.kf, .int .i64 R1.kt, .int .i64 R1.rf, .int .i64 R1.rt, .int .i64 R1.nf, .int .i64 R1.nt] 42) = W := ⟨_, rfl⟩
  rw [hW] at hX hA ⊢
  clear hW
  obtain ⟨X2, hXe⟩ : ∃ X, v2.heap.size = X := ⟨_, rfl⟩
  rw [hXe] at hX ⊢
  clear hXe
  have HB := Lib.hid (below_of_new HB.out hA); have HV := Lib.hid (HV.out.keep hA); have HS := Lib.hid (HS.out.keep hA)
  have HX1 := Lib.hid (HX1.out.keep hA)
  have HX2 := Lib.hid hX; clear hX hA
  go_wp2_with fail
  with_reducible refine (A1.out _).mono ?_
  rintro e u3 ⟨rfl, hb⟩
  have HB := Lib.hid (below_of_new HB.out hb); have HV := Lib.hid (HV.out.keep hb); have HS := Lib.hid (HS.out.keep hb)
  have HX1 := Lib.hid (HX1.out.keep hb)
  have HX2 := Lib.hid (HX2.out.keep hb)
  clear hb
  go_wp2_with fail
  with_reducible refine (P3.out _ HV.out).mono ?_
  rintro e v3 ⟨rfl, hb⟩
  have HB := Lib.hid (below_of_new HB.out hb); have HV := Lib.hid (HV.out.keep hb); have HS := Lib.hid (HS.out.keep hb)
  have HX1 := Lib.hid (HX1.out.keep hb)
  have HX2 := Lib.hid (HX2.out.keep hb)
  clear hb
  dsimp only [lineV]
  go_upto_region 7 with fail
  have hX : LineBox (v3.alloc (.cells #[.int .i64 R2.kind, .int .i64 R2.sf, .int .i64 R2.st, .int .i64 R2.ind, .int .i64 R2.kf, .int .i64 R2.kt, .int .i64 R2.rf, .int .i64 R2.rt, .int .i64 R2.nf, .int .i64 R2.nt] 42)) v3.heap.size R2 := heap_alloc_new v3 _
  have hA := below_alloc1 v3 (.cells #[.int .i64 R2.kind, .int .i64 R2.sf, .int .i64 R2.st, .int .i64 R2.ind, .int .i64 R2.kf, .int .i64 R2.kt, .int .i64 R2.rf, .int .i64 R2.rt, .int .i64 R2.nf, .int .i64 R2.nt] 42)
  obtain ⟨V3, hW⟩ : ∃ W, v3.alloc (.cells #[.int .i64 R2.kind, .int .i64 R2.sf, .int .i64 R2.st, .int .i64 R2.ind, .int .i64 R2.kf, .int .i64 R2.kt, .int .i64 R2.rf, .int .i64 R2.rt, .int .i64 R2.nf, .int .i64 R2.nt] 42) = W := ⟨_, rfl⟩
  rw [hW] at hX hA ⊢
  clear hW
  obtain ⟨X3, hXe⟩ : ∃ X, v3.heap.size = X := ⟨_, rfl⟩
  rw [hXe] at hX ⊢
  clear hXe
  have HB := Lib.hid (below_of_new HB.out hA); have HV := Lib.hid (HV.out.keep hA); have HS := Lib.hid (HS.out.keep hA)
  have HX1 := Lib.hid (HX1.out.keep hA)
  have HX2 := Lib.hid (HX2.out.keep hA)
  have HX3 := Lib.hid hX; clear hX hA
  go_wp2_with fail
  with_reducible refine (A1.out _).mono ?_
  rintro e u4 ⟨rfl, hb⟩
  have HB := Lib.hid (below_of_new HB.out hb); have HV := Lib.hid (HV.out.keep hb); have HS := Lib.hid (HS.out.keep hb)
  have HX1 := Lib.hid (HX1.out.keep hb)
  have HX2 := Lib.hid (HX2.out.keep hb)
  have HX3 := Lib.hid (HX3.out.keep hb)
  clear hb
  go_wp2_with fail
  with_reducible refine (P4.out _ HV.out).mono ?_
  rintro e v4 ⟨rfl, hb⟩
  have HB := Lib.hid (below_of_new HB.out hb); have HV := Lib.hid (HV.out.keep hb); have HS := Lib.hid (HS.out.keep hb)
  have HX1 := Lib.hid (HX1.out.keep hb)
  have HX2 := Lib.hid (HX2.out.keep hb)
  have HX3 := Lib.hid (HX3.out.keep hb)
  clear hb
  dsimp only [lineV]
  go_upto_region 8 with fail
  have hX : LineBox (v4.alloc (.cells #[.int .i64 R2.kind, .int .i64 R2.sf, .int .i64 R2.st, .int .i64 R2.ind, .int .i64 R2.kf, .int .i64 R2.kt, .int .i64 R2.rf, .int .i64 R2.rt, .int .i64 R2.nf, .int .i64 R2.nt] 42)) v4.heap.size R2 := heap_alloc_new v4 _
  have hA := below_alloc1 v4 (.cells #[.int .i64 R2.kind, .int .i64 R2.sf, .int .i64 R2.st, .int .i64 R2.ind, .int .i64 R2.kf, .int .i64 R2.kt, .int .i64 R2.rf, .int .i64 R2.rt, .int .i64 R2.nf, .int .i64 R2.nt] 42)
  obtain ⟨V4, hW⟩ : ∃ W, v4.alloc (.cells #[.int .i64 R2.kind, .int .i64 R2.sf, .int .i64 R2.st, .int .i64 R2.ind, .int .i64 R2.kf, .int .i64 R2.kt, .int .i64 R2.rf, .int .i64 R2.rt, .int .i64 R2.nf, .int .i64 R2.nt] 42) = W := ⟨_, rfl⟩
  rw [hW] at hX hA ⊢
  clear hW
  obtain ⟨X4, hXe⟩ : ∃ X, v4.heap.size = X := ⟨_, rfl⟩
  rw [hXe] at hX ⊢
  clear hXe
  have HB := Lib.hid (below_of_new HB.out hA); have HV := Lib.hid (HV.out.keep hA); have HS := Lib.hid (HS.out.keep hA)
  have HX1 := Lib.hid (HX1.out.keep hA)
  have HX2 := Lib.hid (HX2.out.keep hA)
  have HX3 := Lib.hid (HX3.out.keep hA)
  have HX4 := Lib.hid hX; clear hX hA
  obtain ⟨a10, a11, a12, a13, a14, a15, a16, a17, a18, a19, _⟩ := HX1.out.cells
  obtain ⟨a20, a21, a22, a23, a24, a25, a26, a27, a28, a29, _⟩ := HX2.out.cells
  obtain ⟨a30, a31, a32, a33, a34, a35, a36, a37, a38, a39, _⟩ := HX3.out.cells
  obtain ⟨a40, a41, a42, a43, a44, a45, a46, a47, a48, a49, _⟩ := HX4.out.cells
  go_wp2_with fail
  go_ret
  exact ⟨rfl, HB.out⟩
end Go.Proofs.YtbbjgdnbekoaeaaGreatDoor
