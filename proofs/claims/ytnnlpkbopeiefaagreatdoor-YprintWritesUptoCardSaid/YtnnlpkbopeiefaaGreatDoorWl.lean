import Derived.Test.YtnnlpkbopeiefaaGreatDoorWj
/-! PLAIN: the small case of yprint. -/
namespace Go.Proofs.YtnnlpkbopeiefaaGreatDoor
set_option linter.unusedSimpArgs false
set_option linter.unusedVariables false
def smA : VT := .mk 3 [49] [] []
def smX : VT := .mk 4 [120] [] []
def smE : VT := .mk 5 [] [] []
def smR : VT := .mk 5 [] [] [smX, smE]
def smV : VT := .mk 6 [] [[97], [98]] [smA, smR]
def smT : VT := .mk 4 [49] [] []
theorem sm_valid1 : Lib.validD [49] = true := by decide +kernel
theorem sm_right : RightB smV = true := by decide +kernel
theorem sm_print : printP smV = ([97, 58, 32, 49, 10, 98, 58, 10, 32, 32, 45, 32, 120, 10, 32, 32, 45, 32, 91, 93, 10], 0) := by decide +kernel
theorem sm_text : printP smT = ([39, 49, 39, 10], 0) := by decide +kernel
theorem sm_block : blockP smT 0 = ([], 1) := by decide +kernel
theorem sm_lines : linesB smV = true := by decide +kernel
theorem sm_num : textL (ofInt 1) = [49] := by decide +kernel
end Go.Proofs.YtnnlpkbopeiefaaGreatDoor
/-! The walks of scarflaw06's Row, Map, of value.Num, of scarflaw14.small. -/
namespace Go.Proofs.YtnnlpkbopeiefaaGreatDoor
set_option linter.unusedSimpArgs false
set_option linter.unusedVariables false
open Go.RowKit
open Go.Lib hiding intOf
/-- A result's block of a value with rows. -/
def RvBox (w : World) (X : Nat) (k : Int) (t : Stp) (kv iv : Value) : Prop := w.heap[X]? = some (.cells #[.int .i64 k, .string (bs t), kv, iv] 25 (0, 0))
def putRv (w : World) (X : Nat) (k : Int) (t : Stp) (kv iv : Value) : World := (((w.setCell ⟨X, 0, none⟩ (.int .i64 k)).setCell ⟨X, 1, none⟩ (.string (bs t))).setCell ⟨X, 2, none⟩ kv).setCell ⟨X, 3, none⟩ iv
theorem RsBox.putv {w : World} {X : Nat} {k k2 : Int} {t t2 : Stp} {kv iv : Value} (h : RsBox w X k t) : RvBox (putRv w X k2 t2 kv iv) X k2 t2 kv iv := by
  unfold RsBox at h
  unfold RvBox putRv
  simp [World.setCell, h, Array.getElem?_modify]
theorem RvBox.cells {w : World} {X : Nat} {k : Int} {t : Stp} {kv iv : Value} (h : RvBox w X k t kv iv) : w.cell? ⟨X, 0, none⟩ = some (.int .i64 k) ∧ w.cell? ⟨X, 1, none⟩ = some (.string (bs t)) ∧ w.cell? ⟨X, 2, none⟩ = some kv ∧ w.cell? ⟨X, 3, none⟩ = some iv := by
  unfold RvBox at h
  refine ⟨?_, ?_, ?_, ?_⟩ <;> simp [World.cell?, h]
theorem below_putRv {B : Nat} {w w' : World} {X : Nat} {k : Int} {t : Stp} {kv iv : Value} (h : Below B w w') (hX : B ≤ X) : Below B w (putRv w' X k t kv iv) := by
  unfold putRv
  exact (((h.setCell (p := ⟨X, 0, none⟩) hX _).setCell (p := ⟨X, 1, none⟩) hX _).setCell (p := ⟨X, 2, none⟩) hX _).setCell (p := ⟨X, 3, none⟩) hX _
set_option maxRecDepth 100000 in
set_option maxHeartbeats 1000000 in
theorem lrow_any (p : Option Addr) (n c : Nat) (w : World) :
    Calls Tryz.prog 29 #[.slice p n c] w fun e w' => e = .returned (.agg #[.int .i64 5, .string ⟨#[]⟩, .slice none 0 0, .slice p n c]) ∧ Below w.heap.size w w' := by
  have ba := below_alloc1 w (.cells #[.int .i64 0, .string (bs []), .slice none 0 0, .slice none 0 0] 25)
  have hB0 := RsBox.new w 0 []
  obtain ⟨W1, hW1⟩ : ∃ W, w.alloc (.cells #[.int .i64 0, .string (bs []), .slice none 0 0, .slice none 0 0] 25) = W := ⟨_, rfl⟩
  rw [hW1] at ba hB0
  obtain ⟨y0, y1, y2, y3, f0, f1, f2, f3⟩ := hB0.cells
  have hW1' : w.alloc (.cells #[.int .i64 0, .string ⟨#[]⟩, .slice none 0 0, .slice none 0 0] 25) = W1 := hW1
  go_enter Tryz.func29, Tryz.ntmps29
  go_wp2_with fail
  clear y0 y1 y2 y3 f0 f1 f2 f3
  have hP := hB0.putv (k2 := 5) (t2 := []) (kv := .slice none 0 0) (iv := .slice p n c)
  have hPB := below_putRv (k := 5) (t := []) (kv := .slice none 0 0) (iv := .slice p n c) ba (Nat.le_refl w.heap.size)
  obtain ⟨WF, hWF⟩ : ∃ W, putRv W1 w.heap.size 5 [] (.slice none 0 0) (.slice p n c) = W := ⟨_, rfl⟩
  rw [hWF] at hP hPB
  have hWF' : (((W1.setCell ⟨w.heap.size, 0, none⟩ (.int .i64 5)).setCell ⟨w.heap.size, 1, none⟩ (.string ⟨#[]⟩)).setCell ⟨w.heap.size, 2, none⟩ (.slice none 0 0)).setCell ⟨w.heap.size, 3, none⟩ (.slice p n c) = WF := hWF
  rw [hWF']
  obtain ⟨d0, d1, d2, d3⟩ := hP.cells
  clear hWF hWF'
  refine bodyPost_ret (v := .agg #[.int .i64 5, .string ⟨#[]⟩, .slice none 0 0, .slice p n c]) ?_ rfl ⟨rfl, hPB⟩
  have d1' : WF.cell? ⟨w.heap.size, 1, none⟩ = some (.string ⟨#[]⟩) := d1
  simp [results, Tryz.results29, go_sem, d0, d1', d2, d3]
set_option maxRecDepth 100000 in
set_option maxHeartbeats 1000000 in
theorem lmap_any (q : Option Addr) (m d : Nat) (p : Option Addr) (n c : Nat) (w : World) :
    Calls Tryz.prog 28 #[.slice q m d, .slice p n c] w fun e w' => e = .returned (.agg #[.int .i64 6, .string ⟨#[]⟩, .slice q m d, .slice p n c]) ∧ Below w.heap.size w w' := by
  have ba := below_alloc1 w (.cells #[.int .i64 0, .string (bs []), .slice none 0 0, .slice none 0 0] 25)
  have hB0 := RsBox.new w 0 []
  obtain ⟨W1, hW1⟩ : ∃ W, w.alloc (.cells #[.int .i64 0, .string (bs []), .slice none 0 0, .slice none 0 0] 25) = W := ⟨_, rfl⟩
  rw [hW1] at ba hB0
  obtain ⟨y0, y1, y2, y3, f0, f1, f2, f3⟩ := hB0.cells
  have hW1' : w.alloc (.cells #[.int .i64 0, .string ⟨#[]⟩, .slice none 0 0, .slice none 0 0] 25) = W1 := hW1
  go_enter Tryz.func28, Tryz.ntmps28
  go_wp2_with fail
  clear y0 y1 y2 y3 f0 f1 f2 f3
  have hP := hB0.putv (k2 := 6) (t2 := []) (kv := .slice q m d) (iv := .slice p n c)
  have hPB := below_putRv (k := 6) (t := []) (kv := .slice q m d) (iv := .slice p n c) ba (Nat.le_refl w.heap.size)
  obtain ⟨WF, hWF⟩ : ∃ W, putRv W1 w.heap.size 6 [] (.slice q m d) (.slice p n c) = W := ⟨_, rfl⟩
  rw [hWF] at hP hPB
  have hWF' : (((W1.setCell ⟨w.heap.size, 0, none⟩ (.int .i64 6)).setCell ⟨w.heap.size, 1, none⟩ (.string ⟨#[]⟩)).setCell ⟨w.heap.size, 2, none⟩ (.slice q m d)).setCell ⟨w.heap.size, 3, none⟩ (.slice p n c) = WF := hWF
  rw [hWF']
  obtain ⟨d0, d1, d2, d3⟩ := hP.cells
  clear hWF hWF'
  refine bodyPost_ret (v := .agg #[.int .i64 6, .string ⟨#[]⟩, .slice q m d, .slice p n c]) ?_ rfl ⟨rfl, hPB⟩
  have d1' : WF.cell? ⟨w.heap.size, 1, none⟩ = some (.string ⟨#[]⟩) := d1
  simp [results, Tryz.results28, go_sem, d0, d1', d2, d3]
set_option maxRecDepth 100000 in
set_option maxHeartbeats 1000000 in
theorem vnum1_any (w : World) (hV : YVar w) :
    Calls Tryz.prog 50 #[.int .i64 1] w fun e w' => e = .returned (.agg #[.int .i64 3, .string (bs [49]), .slice none 0 0, .slice none 0 0]) ∧ Below w.heap.size w w' := by
  have ba := below_alloc1 w (.cells #[.int .i64 0, .string (bs []), .slice none 0 0, .slice none 0 0] 25)
  have hB0 := RsBox.new w 0 []
  obtain ⟨W1, hW1⟩ : ∃ W, w.alloc (.cells #[.int .i64 0, .string (bs []), .slice none 0 0, .slice none 0 0] 25) = W := ⟨_, rfl⟩
  rw [hW1] at ba hB0
  have HBa := Lib.hid ba
  have HB0 := Lib.hid hB0
  have HV := Lib.hid (hV.keep ba)
  obtain ⟨y0, y1, y2, y3, f0, f1, f2, f3⟩ := hB0.cells
  have hW1' : w.alloc (.cells #[.int .i64 0, .string ⟨#[]⟩, .slice none 0 0, .slice none 0 0] 25) = W1 := hW1
  have C1 := Lib.hid (of_any 1 W1 (by omega) HV.out.1.2)
  have C2 : Hid (∀ w', YVar w' → Calls Tryz.prog 84 #[.agg #[.bool (ofInt 1).neg, .string (bs (ofInt 1).dig), .int .i64 (ofInt 1).exp]] w' fun e w2 => e = .returned (.string (bs [49])) ∧ Below w'.heap.size w' w2) := Lib.hid (fun w' hv => by
    have := text_any (ofInt 1) w' (by decide +kernel) hv.1.2
    rw [sm_num] at this
    exact this)
  unfold numV at C1
  obtain ⟨N, hN⟩ : ∃ N, ofInt 1 = N := ⟨_, rfl⟩
  rw [hN] at C1 C2
  clear hV ba hB0 hW1 hN
  go_enter Tryz.func50, Tryz.ntmps50
  go_wp2_with fail
  refine C1.out.mono ?_
  rintro e w2 ⟨rfl, hb2⟩
  have HR2 := Lib.hid (HB0.out.keep hb2)
  have HB2 := Lib.hid (below_of_new HBa.out hb2)
  have HV2 := Lib.hid (HV.out.keep hb2)
  clear hb2 y0 y1 y2 y3 f0 f1 f2 f3
  go_wp2_with fail
  refine (C2.out _ HV2.out).mono ?_
  rintro e w4 ⟨rfl, hb4⟩
  have HR4 := Lib.hid (HR2.out.keep hb4)
  have HB4 := Lib.hid (below_of_new HB2.out hb4)
  clear hb4
  obtain ⟨y0, y1, y2, y3, f0, f1, f2, f3⟩ := HR4.out.cells
  go_wp2_with fail
  clear y0 y1 y2 y3 f0 f1 f2 f3
  have hP := (HR4.out).put (k2 := 3) (t2 := [49])
  have hPB := below_putRs (k := 3) (t := [49]) (HB4.out) (Nat.le_refl w.heap.size)
  obtain ⟨WF, hWF⟩ : ∃ W, putRs w4 w.heap.size 3 [49] = W := ⟨_, rfl⟩
  rw [hWF] at hP hPB
  have hWF' : (((w4.setCell ⟨w.heap.size, 0, none⟩ (.int .i64 3)).setCell ⟨w.heap.size, 1, none⟩ (.string (bs [49]))).setCell ⟨w.heap.size, 2, none⟩ (.slice none 0 0)).setCell ⟨w.heap.size, 3, none⟩ (.slice none 0 0) = WF := hWF
  rw [hWF']
  obtain ⟨d0, d1, d2, d3, _⟩ := hP.cells
  clear hWF hWF'
  refine bodyPost_ret (v := .agg #[.int .i64 3, .string (bs [49]), .slice none 0 0, .slice none 0 0]) ?_ rfl ⟨rfl, hPB⟩
  simp [results, Tryz.results50, go_sem, d0, d1, d2, d3]
end Go.Proofs.YtnnlpkbopeiefaaGreatDoor
/-! The walk of scarflaw14.small. -/
namespace Go.Proofs.YtnnlpkbopeiefaaGreatDoor
set_option linter.unusedSimpArgs false
set_option linter.unusedVariables false
open Go.RowKit
open Go.Lib hiding intOf
theorem VD.leaf (w : World) (n : Nat) (k : Int) (s : Stp) : VD w (n + 1) (.mk k s [] []) (.slice none 0 0) (.slice none 0 0) :=
  ⟨⟨none, 0, rfl, Nat.le_refl _, .inl rfl⟩, none, 0, rfl, Nat.le_refl _, .inl rfl⟩
/-- Two items in a row of their own. -/
theorem VD.two {w : World} {n K : Nat} {x y : VT} {xk xi yk yi kv : Value} {k : Int} {s : Stp} {ks : List Stp} (hks : SV w kv ks) (h : w.heap[K]? = some (.cells #[.int .i64 x.kind, .string (bs x.text), xk, xi, .int .i64 y.kind, .string (bs y.text), yk, yi] 25)) (hx : VD w n x xk xi) (hy : VD w n y yk yi) :
    VD w (n + 1) (.mk k s ks [x, y]) kv (.slice (some ⟨K, 0, none⟩) 2 2) := by
  refine ⟨hks, some ⟨K, 0, none⟩, 2, rfl, Nat.le_refl _, .inr ⟨K, 0, rfl, cell_it h, fun j z hz => ?_⟩⟩
  have hz : [x, y][j]? = some z := hz
  match j, hz with
  | 0, hz =>
    obtain rfl : x = z := by simpa using hz
    exact ⟨xk, xi, by simp [World.cell?, h], by simp [World.cell?, h], by simp [World.cell?, h], by simp [World.cell?, h], hx⟩
  | 1, hz =>
    obtain rfl : y = z := by simpa using hz
    exact ⟨yk, yi, by simp [World.cell?, h], by simp [World.cell?, h], by simp [World.cell?, h], by simp [World.cell?, h], hy⟩
  | j + 2, hz => simp at hz
theorem SV.two {w : World} {K : Nat} {x y : Stp} (h : w.heap[K]? = some (.cells #[.string (bs x), .string (bs y)] 9)) : SV w (.slice (some ⟨K, 0, none⟩) 2 2) [x, y] := by
  refine ⟨some ⟨K, 0, none⟩, 2, rfl, Nat.le_refl _, .inr ⟨K, 0, rfl, cell_it h, fun j z hz => ?_⟩⟩
  match j, hz with
  | 0, hz =>
    obtain rfl : x = z := by simpa using hz
    simp [World.cell?, h]
  | 1, hz =>
    obtain rfl : y = z := by simpa using hz
    simp [World.cell?, h]
  | j + 2, hz => simp at hz
set_option maxRecDepth 100000 in
set_option maxHeartbeats 1000000 in
theorem small14_any (w : World) (hV : YVar w) :
    Calls Tryz.prog 13 #[] w fun e w' => e = .returned (.bool true) ∧ Below w.heap.size w w' := by
  have HV := Lib.hid hV
  clear hV
  obtain ⟨K1, hK1⟩ : ∃ K, w.heap.size = K := ⟨_, rfl⟩
  have b1 := below_alloc1 w (.cells #[.string ⟨#[97]⟩, .string ⟨#[98]⟩] 9)
  have x1 := heap_alloc_new w (.cells #[.string ⟨#[97]⟩, .string ⟨#[98]⟩] 9)
  obtain ⟨W1, hW1⟩ : ∃ W, w.alloc (.cells #[.string ⟨#[97]⟩, .string ⟨#[98]⟩] 9) = W := ⟨_, rfl⟩
  rw [hW1] at b1 x1
  rw [hK1] at x1
  have HB1 := Lib.hid b1
  have HX1 := Lib.hid x1
  have C1 := Lib.hid (vnum1_any W1 (HV.out.keep b1))
  clear b1 x1
  go_enter Tryz.func13, Tryz.ntmps13
  go_wp2_with fail
  refine C1.out.mono ?_
  rintro e w2 ⟨rfl, hb2⟩
  have HB2 := Lib.hid (below_of_new HB1.out hb2)
  have HX2 := Lib.hid ((hb2.block _ (cell_it HX1.out)).trans HX1.out)
  clear hb2 hW1 C1
  have C2 : Hid (Calls Tryz.prog 47 #[.string ⟨#[120]⟩] w2 fun e w' => e = .returned (.agg #[.int .i64 4, .string ⟨#[120]⟩, .slice none 0 0, .slice none 0 0]) ∧ Below w2.heap.size w2 w') := Lib.hid (vof_any [120] w2)
  go_wp2_with fail
  refine C2.out.mono ?_
  rintro e w3 ⟨rfl, hb3⟩
  have HB3 := Lib.hid (below_of_new HB2.out hb3)
  have HX3 := Lib.hid ((hb3.block _ (cell_it HX2.out)).trans HX2.out)
  clear hb3 C2
  have C3 := Lib.hid (lrow_any none 0 0 w3)
  go_wp2_with fail
  refine C3.out.mono ?_
  rintro e w4 ⟨rfl, hb4⟩
  have HB4 := Lib.hid (below_of_new HB3.out hb4)
  have HX4 := Lib.hid ((hb4.block _ (cell_it HX3.out)).trans HX3.out)
  clear hb4 C3
  have b5 := below_alloc1 w4 (.cells #[.int .i64 4, .string ⟨#[120]⟩, .slice none 0 0, .slice none 0 0, .int .i64 5, .string ⟨#[]⟩, .slice none 0 0, .slice none 0 0] 25)
  have x5 := heap_alloc_new w4 (.cells #[.int .i64 4, .string ⟨#[120]⟩, .slice none 0 0, .slice none 0 0, .int .i64 5, .string ⟨#[]⟩, .slice none 0 0, .slice none 0 0] 25)
  obtain ⟨K5, hK5⟩ : ∃ K, w4.heap.size = K := ⟨_, rfl⟩
  obtain ⟨W5, hW5⟩ : ∃ W, w4.alloc (.cells #[.int .i64 4, .string ⟨#[120]⟩, .slice none 0 0, .slice none 0 0, .int .i64 5, .string ⟨#[]⟩, .slice none 0 0, .slice none 0 0] 25) = W := ⟨_, rfl⟩
  rw [hW5] at b5 x5
  rw [hK5] at x5
  have C4 := Lib.hid (lrow_any (some ⟨K5, 0, none⟩) 2 2 W5)
  go_wp2_with fail
  refine C4.out.mono ?_
  rintro e w6 ⟨rfl, hb6⟩
  have HB6 := Lib.hid (below_of_new HB4.out (below_of_new b5 hb6))
  have HX6 := Lib.hid ((hb6.block _ (Nat.lt_of_lt_of_le (cell_it HX4.out) b5.size)).trans ((b5.block _ (cell_it HX4.out)).trans HX4.out))
  have HY6 := Lib.hid ((hb6.block _ (cell_it x5)).trans x5)
  clear hb6 C4 b5 x5 hW5 hK5
  have b7 := below_alloc1 w6 (.cells #[.int .i64 3, .string (bs [49]), .slice none 0 0, .slice none 0 0, .int .i64 5, .string ⟨#[]⟩, .slice none 0 0, .slice (some ⟨K5, 0, none⟩) 2 2] 25)
  have x7 := heap_alloc_new w6 (.cells #[.int .i64 3, .string (bs [49]), .slice none 0 0, .slice none 0 0, .int .i64 5, .string ⟨#[]⟩, .slice none 0 0, .slice (some ⟨K5, 0, none⟩) 2 2] 25)
  obtain ⟨K7, hK7⟩ : ∃ K, w6.heap.size = K := ⟨_, rfl⟩
  obtain ⟨W7, hW7⟩ : ∃ W, w6.alloc (.cells #[.int .i64 3, .string (bs [49]), .slice none 0 0, .slice none 0 0, .int .i64 5, .string ⟨#[]⟩, .slice none 0 0, .slice (some ⟨K5, 0, none⟩) 2 2] 25) = W := ⟨_, rfl⟩
  rw [hW7] at b7 x7
  rw [hK7] at x7
  have C5 := Lib.hid (lmap_any (some ⟨K1, 0, none⟩) 2 2 (some ⟨K7, 0, none⟩) 2 2 W7)
  go_wp2_with fail
  refine C5.out.mono ?_
  rintro e w8 ⟨rfl, hb8⟩
  have HB8 := Lib.hid (below_of_new HB6.out (below_of_new b7 hb8))
  have hx8 := (hb8.block _ (Nat.lt_of_lt_of_le (cell_it HX6.out) b7.size)).trans ((b7.block _ (cell_it HX6.out)).trans HX6.out)
  have hy8 := (hb8.block _ (Nat.lt_of_lt_of_le (cell_it HY6.out) b7.size)).trans ((b7.block _ (cell_it HY6.out)).trans HY6.out)
  have hz8 := (hb8.block _ (cell_it x7)).trans x7
  have HVD8 : Hid (VD w8 3 smV (.slice (some ⟨K1, 0, none⟩) 2 2) (.slice (some ⟨K7, 0, none⟩) 2 2)) := Lib.hid (VD.two (SV.two hx8) hz8 (VD.leaf w8 1 3 [49]) (VD.two (n := 1) (kv := .slice none 0 0) ⟨none, 0, rfl, Nat.le_refl _, .inl rfl⟩ hy8 (VD.leaf w8 0 4 [120]) (VD.leaf w8 0 5 [])))
  clear hb8 C5 b7 x7 hW7 hK7 hx8 hy8 hz8
  have b9 := below_alloc1 w8 (.cells #[.int .i64 6, .string ⟨#[]⟩, .slice (some ⟨K1, 0, none⟩) 2 2, .slice (some ⟨K7, 0, none⟩) 2 2] 25)
  have x9 : VBox (w8.alloc (.cells #[.int .i64 6, .string ⟨#[]⟩, .slice (some ⟨K1, 0, none⟩) 2 2, .slice (some ⟨K7, 0, none⟩) 2 2] 25)) w8.heap.size smV (.slice (some ⟨K1, 0, none⟩) 2 2) (.slice (some ⟨K7, 0, none⟩) 2 2) := VBox.new w8 smV _ _
  obtain ⟨K9, hK9⟩ : ∃ K, w8.heap.size = K := ⟨_, rfl⟩
  obtain ⟨W9, hW9⟩ : ∃ W, w8.alloc (.cells #[.int .i64 6, .string ⟨#[]⟩, .slice (some ⟨K1, 0, none⟩) 2 2, .slice (some ⟨K7, 0, none⟩) 2 2] 25) = W := ⟨_, rfl⟩
  rw [hW9] at b9 x9
  rw [hK9] at x9
  have HB9 := Lib.hid (below_of_new HB8.out b9)
  have HX9 := Lib.hid x9
  have HVD9 := Lib.hid (HVD8.out.keep b9)
  have HV9 := Lib.hid (HV.out.keep HB9.out)
  have CP1 := Lib.hid (yPrint_any 3 smV _ _ W9 HVD9.out (by decide +kernel) HV9.out)
  rw [sm_print] at CP1
  unfold QuotedE vv at CP1
  have CL : Hid (∀ w', Below W9.heap.size W9 w' → Calls Tryz.prog 16 #[vv smV (.slice (some ⟨K1, 0, none⟩) 2 2) (.slice (some ⟨K7, 0, none⟩) 2 2)] w' fun e w2 => e = .returned (.bool true) ∧ Below w'.heap.size w' w2) := Lib.hid (fun w' hb => by
    have := ylines_any 3 smV _ _ w' (HVD9.out.keep hb) (by decide +kernel) (HV9.out.keep hb)
    rw [sm_lines] at this
    exact this)
  unfold vv at CL
  have COf : Hid (∀ w, Calls Tryz.prog 47 #[.string ⟨#[49]⟩] w fun e w' => e = .returned (.agg #[.int .i64 4, .string ⟨#[49]⟩, .slice none 0 0, .slice none 0 0]) ∧ Below w.heap.size w w') := Lib.hid (fun w => vof_any [49] w)
  have CP2 : Hid (∀ w, YVar w → Calls Tryz.prog 19 #[.agg #[.int .i64 4, .string ⟨#[49]⟩, .slice none 0 0, .slice none 0 0]] w fun e w' => e = .returned (.tuple #[.string (bs [39, 49, 39, 10]), .int .i64 0]) ∧ Below w.heap.size w w') := Lib.hid (fun w hv => by
    have := yPrint_any 1 smT _ _ w (VD.leaf w 0 4 [49]) (by decide +kernel) hv
    rw [sm_text] at this
    exact this)
  have CB2 : Hid (∀ w, YVar w → Calls Tryz.prog 15 #[.agg #[.int .i64 4, .string ⟨#[49]⟩, .slice none 0 0, .slice none 0 0], .int .i64 0] w fun e w' => e = .returned (.tuple #[.string (bs []), .int .i64 1]) ∧ Below w.heap.size w w') := Lib.hid (fun w hv => by
    have := yBlock_any 1 smT _ _ 0 w (VD.leaf w 0 4 [49]) (by decide +kernel) hv
    rw [sm_block] at this
    exact this)
  have CP1' : Hid (Calls Tryz.prog 19 #[.agg #[.int .i64 6, .string ⟨#[]⟩, .slice (some ⟨K1, 0, none⟩) 2 2, .slice (some ⟨K7, 0, none⟩) 2 2]] W9 fun e w' => e = .returned (.tuple #[.string (bs [97, 58, 32, 49, 10, 98, 58, 10, 32, 32, 45, 32, 120, 10, 32, 32, 45, 32, 91, 93, 10]), .int .i64 0]) ∧ Below W9.heap.size W9 w') := CP1
  have CL' : Hid (∀ w', Below W9.heap.size W9 w' → Calls Tryz.prog 16 #[.agg #[.int .i64 6, .string ⟨#[]⟩, .slice (some ⟨K1, 0, none⟩) 2 2, .slice (some ⟨K7, 0, none⟩) 2 2]] w' fun e w2 => e = .returned (.bool true) ∧ Below w'.heap.size w' w2) := CL
  obtain ⟨n0, n1, n2, n3⟩ := HX9.out.cells
  have n0 : W9.cell? ⟨K9, 0, none⟩ = some (.int .i64 6) := n0
  have n1 : W9.cell? ⟨K9, 1, none⟩ = some (.string ⟨#[]⟩) := n1
  clear b9 x9 CP1 CL
  go_wp2_with fail
  refine CP1'.out.mono ?_
  rintro e w10 ⟨rfl, hb10⟩
  have HB10 := Lib.hid hb10
  clear hb10 n0 n1 n2 n3 hW9 hK9
  go_wp2_with fail
  refine (COf.out _).mono ?_
  rintro e w11 ⟨rfl, hb11⟩
  have HB11 := Lib.hid (below_of_new HB10.out hb11)
  clear hb11
  go_wp2_with fail
  refine (CP2.out _ (HV9.out.keep HB11.out)).mono ?_
  rintro e w12 ⟨rfl, hb12⟩
  have HB12 := Lib.hid (below_of_new HB11.out hb12)
  clear hb12
  go_wp2_with fail
  refine (COf.out _).mono ?_
  rintro e w13 ⟨rfl, hb13⟩
  have HB13 := Lib.hid (below_of_new HB12.out hb13)
  clear hb13
  go_wp2_with fail
  refine (CB2.out _ (HV9.out.keep HB13.out)).mono ?_
  rintro e w14 ⟨rfl, hb14⟩
  have HB14 := Lib.hid (below_of_new HB13.out hb14)
  clear hb14
  obtain ⟨n0, n1, n2, n3⟩ := (HX9.out.keep HB14.out).cells
  have n0 : w14.cell? ⟨K9, 0, none⟩ = some (.int .i64 6) := n0
  have n1 : w14.cell? ⟨K9, 1, none⟩ = some (.string ⟨#[]⟩) := n1
  have e1 := str_lit [97, 58, 32, 49, 10, 98, 58, 10, 32, 32, 45, 32, 120, 10, 32, 32, 45, 32, 91, 93, 10] [97, 58, 32, 49, 10, 98, 58, 10, 32, 32, 45, 32, 120, 10, 32, 32, 45, 32, 91, 93, 10]
  have e2 := str_lit [39, 49, 39, 10] [39, 49, 39, 10]
  simp only [decide_true] at e1 e2
  go_wp2_with fail
  refine (CL'.out _ HB14.out).mono ?_
  rintro e w15 ⟨rfl, hb15⟩
  have HB15 := Lib.hid (below_of_new HB9.out (below_of_new HB14.out hb15))
  clear hb15 n0 n1 n2 n3
  go_wp2_with fail
  go_ret
  exact ⟨rfl, by first | exact HB15.out | (rw [← hK1]; exact HB15.out)⟩
end Go.Proofs.YtnnlpkbopeiefaaGreatDoor
