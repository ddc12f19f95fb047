import Derived.Test.YtbbjgdnbekoaeaaGreatDoorYlK
/-! The walks of scarflaw10.all and scarflaw10.small. -/
namespace Go.Proofs.YtbbjgdnbekoaeaaGreatDoor
set_option linter.unusedSimpArgs false
set_option linter.unusedVariables false
open Go.RowKit
open Go.Lib hiding intOf

/-- The variables that yline reads. -/
structure Yv (w : World) : Prop where
  s : SVar w
  t : Tabs w
  m : MVar w
theorem Yv.keep {w w' : World} (h : Yv w) (hb : Below w.heap.size w w') : Yv w' := ⟨h.s.keep hb, h.t.keep hb, h.m.keep hb⟩
set_option maxRecDepth 100000 in
set_option maxHeartbeats 4000000 in
theorem yall_any (l : List UInt8) (n : Nat) (hn : l.length = n) (w : World) (hs : l.length ≤ 1073741824) :
    Calls Tryz.prog 19 #[.string (bs l)] w fun e w' => e = .returned (.agg #[.int .i64 0, .int .i64 n]) ∧ Below w.heap.size w w' := by
  have sl := bs_size l
  subst hn
  go_enter Tryz.func19, Tryz.ntmps19
  go_wp2_with fail
  have hb := below_alloc1 w (.cells #[.int .i64 0, .int .i64 l.length] 32)
  have hS : SpanBox (w.alloc (.cells #[.int .i64 0, .int .i64 l.length] 32)) w.heap.size 0 l.length := heap_alloc_new w _
  obtain ⟨W, hW⟩ : ∃ W, w.alloc (.cells #[.int .i64 0, .int .i64 l.length] 32) = W := ⟨_, rfl⟩
  rw [hW] at hb hS ⊢
  clear hW
  obtain ⟨c0, c1⟩ := hS.cells
  refine bodyPost_ret (v := .agg #[.int .i64 0, .int .i64 l.length]) ?_ rfl ⟨rfl, hb⟩
  simp [results, Tryz.results19, go_sem, c0, c1]
theorem line_at (l : List UInt8) (n : Nat) (hn : l.length = n) (r : LineR) (f er : Int) (h : lineL l 0 n = (r, f, er)) (w : World) (hs : l.length ≤ 1073741824) (hV : Yv w) :
    Calls Tryz.prog 17 #[.string (bs l), .agg #[.int .i64 0, .int .i64 n]] w fun e w' => e = .returned (.tuple #[lineV r, .int .i64 f, .int .i64 er]) ∧ Below w.heap.size w w' := by
  have := line_any l 0 n w hs hV.s hV.t hV.m
  rw [h] at this; exact this
theorem single_at (l r : List UInt8) (a k er : Int) (h : sqL l a = (r, k, er)) (w : World) (hs : l.length ≤ 1073741824) (hV : Yv w) :
    Calls Tryz.prog 20 #[.string (bs l), .int .i64 a] w fun e w' => e = .returned (.tuple #[.string (bs r), .int .i64 k, .int .i64 er]) ∧ Below w.heap.size w w' := by
  have := single_any l a w hs hV.t
  rw [h] at this; exact this
theorem quoted_at (l r : List UInt8) (er : Int) (h : sqw l = (r, er)) (w : World) (hs : l.length ≤ 268435456) (hV : Yv w) :
    Calls Tryz.prog 22 #[.string (bs l)] w fun e w' => e = .returned (.tuple #[.string (bs r), .int .i64 er]) ∧ Below w.heap.size w w' := by
  have := quoted_any l w hs hV.t hV.m
  rw [h] at this; exact this
theorem ys1 : lineL [32, 32, 97, 58, 32, 98, 32, 35, 32, 99] 0 10 = (⟨4, 0, 10, 2, 2, 3, 5, 6, 7, 10⟩, 10, 0) := by kernel_rfl
theorem ys2 : lineL [45, 32, 39, 120, 32, 35, 32, 121, 39, 32, 35, 32, 122] 0 13 = (⟨3, 0, 13, 0, 0, 0, 2, 9, 10, 13⟩, 13, 0) := by kernel_rfl
theorem ys3 : lineL [97, 58, 98] 0 3 = (⟨5, 0, 3, 0, 0, 0, 0, 3, 0, 0⟩, 3, 0) := by kernel_rfl
theorem ys4 : sqL [39, 105, 116, 39, 39, 115, 39] 0 = ([105, 116, 39, 115], 7, 0) := by decide +kernel
theorem ys5 : sqw [105, 116, 39, 115] = ([39, 105, 116, 39, 39, 115, 39], 0) := by decide +kernel
set_option maxRecDepth 100000 in
set_option maxHeartbeats 4000000 in
theorem ysmall_any (w : World) (hV : Yv w) :
    Calls Tryz.prog 16 #[] w fun e w' => e = .returned (.bool true) ∧ Below w.heap.size w w' := by
  have A1 : Hid (∀ w, Calls Tryz.prog 19 #[.string ⟨#[32, 32, 97, 58, 32, 98, 32, 35, 32, 99]⟩] w fun e w' => e = .returned (.agg #[.int .i64 0, .int .i64 10]) ∧ Below w.heap.size w w') := Lib.hid (fun w => yall_any _ 10 rfl w (by decide))
  have A2 : Hid (∀ w, Calls Tryz.prog 19 #[.string ⟨#[45, 32, 39, 120, 32, 35, 32, 121, 39, 32, 35, 32, 122]⟩] w fun e w' => e = .returned (.agg #[.int .i64 0, .int .i64 13]) ∧ Below w.heap.size w w') := Lib.hid (fun w => yall_any _ 13 rfl w (by decide))
  have A3 : Hid (∀ w, Calls Tryz.prog 19 #[.string ⟨#[97, 58, 98]⟩] w fun e w' => e = .returned (.agg #[.int .i64 0, .int .i64 3]) ∧ Below w.heap.size w w') := Lib.hid (fun w => yall_any _ 3 rfl w (by decide))
  have P1 : Hid (∀ w, Yv w → Calls Tryz.prog 17 #[.string ⟨#[32, 32, 97, 58, 32, 98, 32, 35, 32, 99]⟩, .agg #[.int .i64 0, .int .i64 10]] w fun e w' => e = .returned (.tuple #[lineV ⟨4, 0, 10, 2, 2, 3, 5, 6, 7, 10⟩, .int .i64 10, .int .i64 0]) ∧ Below w.heap.size w w') := Lib.hid (fun w h => line_at _ 10 rfl _ _ _ ys1 w (by decide) h)
  have P2 : Hid (∀ w, Yv w → Calls Tryz.prog 17 #[.string ⟨#[45, 32, 39, 120, 32, 35, 32, 121, 39, 32, 35, 32, 122]⟩, .agg #[.int .i64 0, .int .i64 13]] w fun e w' => e = .returned (.tuple #[lineV ⟨3, 0, 13, 0, 0, 0, 2, 9, 10, 13⟩, .int .i64 13, .int .i64 0]) ∧ Below w.heap.size w w') := Lib.hid (fun w h => line_at _ 13 rfl _ _ _ ys2 w (by decide) h)
  have P3 : Hid (∀ w, Yv w → Calls Tryz.prog 17 #[.string ⟨#[97, 58, 98]⟩, .agg #[.int .i64 0, .int .i64 3]] w fun e w' => e = .returned (.tuple #[lineV ⟨5, 0, 3, 0, 0, 0, 0, 3, 0, 0⟩, .int .i64 3, .int .i64 0]) ∧ Below w.heap.size w w') := Lib.hid (fun w h => line_at _ 3 rfl _ _ _ ys3 w (by decide) h)
  have P4 : Hid (∀ w, Yv w → Calls Tryz.prog 20 #[.string ⟨#[39, 105, 116, 39, 39, 115, 39]⟩, .int .i64 0] w fun e w' => e = .returned (.tuple #[.string ⟨#[105, 116, 39, 115]⟩, .int .i64 7, .int .i64 0]) ∧ Below w.heap.size w w') := Lib.hid (fun w h => single_at _ _ _ _ _ ys4 w (by decide) h)
  have P5 : Hid (∀ w, Yv w → Calls Tryz.prog 22 #[.string ⟨#[105, 116, 39, 115]⟩] w fun e w' => e = .returned (.tuple #[.string ⟨#[39, 105, 116, 39, 39, 115, 39]⟩, .int .i64 0]) ∧ Below w.heap.size w w') := Lib.hid (fun w h => quoted_at _ _ _ ys5 w (by decide) h)
  have HV := Lib.hid hV; clear hV
  have HB0 := Lib.hid (Below.refl w.heap.size w)
  go_enter Tryz.func16, Tryz.ntmps16
  go_wp2_with fail
  with_reducible refine (A1.out _).mono ?_
  rintro e w1 ⟨rfl, hb⟩
  have HV1 := Lib.hid (HV.out.keep hb); have HB1 := Lib.hid (below_of_new HB0.out hb); clear hb HV HB0
  go_wp2_with fail
  with_reducible refine (P1.out _ HV1.out).mono ?_
  rintro e w2 ⟨rfl, hb⟩
  have HV2 := Lib.hid (HV1.out.keep hb); have HB2 := Lib.hid (below_of_new HB1.out hb); clear hb HV1 HB1
  dsimp only [lineV]
  go_wp2_with fail
  have hX : LineBox (w2.alloc (.cells #[.int .i64 4, .int .i64 0, .int .i64 10, .int .i64 2, .int .i64 2, .int .i64 3, .int .i64 5, .int .i64 6, .int .i64 7, .int .i64 10] 42)) w2.heap.size ⟨4, 0, 10, 2, 2, 3, 5, 6, 7, 10⟩ := heap_alloc_new w2 _
  have hA := below_alloc1 w2 (.cells #[.int .i64 4, .int .i64 0, .int .i64 10, .int .i64 2, .int .i64 2, .int .i64 3, .int .i64 5, .int .i64 6, .int .i64 7, .int .i64 10] 42)
  obtain ⟨W2, hW⟩ : ∃ W, w2.alloc (.cells #[.int .i64 4, .int .i64 0, .int .i64 10, .int .i64 2, .int .i64 2, .int .i64 3, .int .i64 5, .int .i64 6, .int .i64 7, .int .i64 10] 42) = W := ⟨_, rfl⟩
  rw [hW] at hX hA ⊢
  clear hW
  obtain ⟨X1, hXe⟩ : ∃ X, w2.heap.size = X := ⟨_, rfl⟩
  rw [hXe] at hX ⊢
  clear hXe
  have HW2 := Lib.hid (HV2.out.keep hA); have HC2 := Lib.hid (below_of_new HB2.out hA)
  have HX1 := Lib.hid hX; clear hX hA HV2 HB2
  with_reducible refine (A2.out _).mono ?_
  rintro e w3 ⟨rfl, hb⟩
  have HV3 := Lib.hid (HW2.out.keep hb); have HB3 := Lib.hid (below_of_new HC2.out hb)
  have HX1 := Lib.hid (HX1.out.keep hb)
  clear hb HW2 HC2
  go_wp2_with fail
  with_reducible refine (P2.out _ HV3.out).mono ?_
  rintro e w4 ⟨rfl, hb⟩
  have HV4 := Lib.hid (HV3.out.keep hb); have HB4 := Lib.hid (below_of_new HB3.out hb)
  have HX1 := Lib.hid (HX1.out.keep hb)
  clear hb HV3 HB3
  dsimp only [lineV]
  go_wp2_with fail
  have hX : LineBox (w4.alloc (.cells #[.int .i64 3, .int .i64 0, .int .i64 13, .int .i64 0, .int .i64 0, .int .i64 0, .int .i64 2, .int .i64 9, .int .i64 10, .int .i64 13] 42)) w4.heap.size ⟨3, 0, 13, 0, 0, 0, 2, 9, 10, 13⟩ := heap_alloc_new w4 _
  have hA := below_alloc1 w4 (.cells #[.int .i64 3, .int .i64 0, .int .i64 13, .int .i64 0, .int .i64 0, .int .i64 0, .int .i64 2, .int .i64 9, .int .i64 10, .int .i64 13] 42)
  obtain ⟨W4, hW⟩ : ∃ W, w4.alloc (.cells #[.int .i64 3, .int .i64 0, .int .i64 13, .int .i64 0, .int .i64 0, .int .i64 0, .int .i64 2, .int .i64 9, .int .i64 10, .int .i64 13] 42) = W := ⟨_, rfl⟩
  rw [hW] at hX hA ⊢
  clear hW
  obtain ⟨X2, hXe⟩ : ∃ X, w4.heap.size = X := ⟨_, rfl⟩
  rw [hXe] at hX ⊢
  clear hXe
  have HW4 := Lib.hid (HV4.out.keep hA); have HC4 := Lib.hid (below_of_new HB4.out hA)
  have HX1 := Lib.hid (HX1.out.keep hA)
  have HX2 := Lib.hid hX; clear hX hA HV4 HB4
  with_reducible refine (A3.out _).mono ?_
  rintro e w5 ⟨rfl, hb⟩
  have HV5 := Lib.hid (HW4.out.keep hb); have HB5 := Lib.hid (below_of_new HC4.out hb)
  have HX1 := Lib.hid (HX1.out.keep hb)
  have HX2 := Lib.hid (HX2.out.keep hb)
  clear hb HW4 HC4
  go_wp2_with fail
  with_reducible refine (P3.out _ HV5.out).mono ?_
  rintro e w6 ⟨rfl, hb⟩
  have HV6 := Lib.hid (HV5.out.keep hb); have HB6 := Lib.hid (below_of_new HB5.out hb)
  have HX1 := Lib.hid (HX1.out.keep hb)
  have HX2 := Lib.hid (HX2.out.keep hb)
  clear hb HV5 HB5
  dsimp only [lineV]
  go_wp2_with fail
  have hX : LineBox (w6.alloc (.cells #[.int .i64 5, .int .i64 0, .int .i64 3, .int .i64 0, .int .i64 0, .int .i64 0, .int .i64 0, .int .i64 3, .int .i64 0, .int .i64 0] 42)) w6.heap.size ⟨5, 0, 3, 0, 0, 0, 0, 3, 0, 0⟩ := heap_alloc_new w6 _
  have hA := below_alloc1 w6 (.cells #[.int .i64 5, .int .i64 0, .int .i64 3, .int .i64 0, .int .i64 0, .int .i64 0, .int .i64 0, .int .i64 3, .int .i64 0, .int .i64 0] 42)
  obtain ⟨W6, hW⟩ : ∃ W, w6.alloc (.cells #[.int .i64 5, .int .i64 0, .int .i64 3, .int .i64 0, .int .i64 0, .int .i64 0, .int .i64 0, .int .i64 3, .int .i64 0, .int .i64 0] 42) = W := ⟨_, rfl⟩
  rw [hW] at hX hA ⊢
  clear hW
  obtain ⟨X3, hXe⟩ : ∃ X, w6.heap.size = X := ⟨_, rfl⟩
  rw [hXe] at hX ⊢
  clear hXe
  have HW6 := Lib.hid (HV6.out.keep hA); have HC6 := Lib.hid (below_of_new HB6.out hA)
  have HX1 := Lib.hid (HX1.out.keep hA)
  have HX2 := Lib.hid (HX2.out.keep hA)
  have HX3 := Lib.hid hX; clear hX hA HV6 HB6
  with_reducible refine (P4.out _ HW6.out).mono ?_
  rintro e w7 ⟨rfl, hb⟩
  have HV7 := Lib.hid (HW6.out.keep hb); have HB7 := Lib.hid (below_of_new HC6.out hb)
  have HX1 := Lib.hid (HX1.out.keep hb)
  have HX2 := Lib.hid (HX2.out.keep hb)
  have HX3 := Lib.hid (HX3.out.keep hb)
  clear hb HW6 HC6
  go_wp2_with fail
  with_reducible refine (P5.out _ HV7.out).mono ?_
  rintro e w8 ⟨rfl, hb⟩
  have HV8 := Lib.hid (HV7.out.keep hb); have HB8 := Lib.hid (below_of_new HB7.out hb)
  have HX1 := Lib.hid (HX1.out.keep hb)
  have HX2 := Lib.hid (HX2.out.keep hb)
  have HX3 := Lib.hid (HX3.out.keep hb)
  clear hb HV7 HB7
  have hA := below_alloc1 w8 (.cells #[.int .i64 4, .int .i64 0, .int .i64 10, .int .i64 2, .int .i64 2, .int .i64 3, .int .i64 5, .int .i64 6, .int .i64 7, .int .i64 10] 42)
  have hX : LineBox (w8.alloc (.cells #[.int .i64 4, .int .i64 0, .int .i64 10, .int .i64 2, .int .i64 2, .int .i64 3, .int .i64 5, .int .i64 6, .int .i64 7, .int .i64 10] 42)) w8.heap.size ⟨4, 0, 10, 2, 2, 3, 5, 6, 7, 10⟩ := heap_alloc_new w8 _
  have HC8 := Lib.hid (below_of_new HB8.out hA)
  obtain ⟨a0, a1, a2, a3, a4, a5, a6, a7, a8, a9, ax0, ax1, ax2, ax3, ax4, ax5, ax6, ax7, ax8, ax9⟩ := (HX1.out.keep hA).cells
  obtain ⟨b0, b1, b2, b3, b4, b5, b6, b7, b8, b9, bx0, bx1, bx2, bx3, bx4, bx5, bx6, bx7, bx8, bx9⟩ := (HX2.out.keep hA).cells
  obtain ⟨c0, c1, c2, c3, c4, c5, c6, c7, c8, c9, cx0, cx1, cx2, cx3, cx4, cx5, cx6, cx7, cx8, cx9⟩ := (HX3.out.keep hA).cells
  obtain ⟨d0, d1, d2, d3, d4, d5, d6, d7, d8, d9, dx0, dx1, dx2, dx3, dx4, dx5, dx6, dx7, dx8, dx9⟩ := hX.cells
  clear hA hX
  go_wp2_with fail
  go_ret
  exact ⟨rfl, HC8.out⟩
end Go.Proofs.YtbbjgdnbekoaeaaGreatDoor
