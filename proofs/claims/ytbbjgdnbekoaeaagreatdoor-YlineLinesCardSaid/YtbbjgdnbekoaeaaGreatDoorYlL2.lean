import Derived.Test.YtbbjgdnbekoaeaaGreatDoorYlK
import Derived.Test.YtbbjgdnbekoaeaaGreatDoorYlG2
/-! The walk of scarfref10.Line: it returns lineL. Printed by gen_refline.py. -/
namespace Go.Proofs.YtbbjgdnbekoaeaaGreatDoor
set_option linter.unusedSimpArgs false
set_option linter.unusedVariables false
open Go.RowKit
open Go.Lib hiding intOf

set_option maxRecDepth 100000 in
set_option maxHeartbeats 4000000 in
theorem refLine_out (l : List UInt8) (a b : Int) (w : World) (hs : l.length ≤ 1073741824) (h : a < 0 ∨ b < a ∨ (l.length : Int) < b) :
    Calls Tryz.prog 18 #[.string (bs l), .agg #[.int .i64 a, .int .i64 b]] w fun e w' => e = LineE (noLine, 0, 1) ∧ Below w.heap.size w w' := by
  have sl := bs_size l
  have hh : (decide (a < 0) = true) ∨ (decide (a < 0) = false ∧ decide (b < a) = true) ∨ (decide (a < 0) = false ∧ decide (b < a) = false ∧ decide ((l.length : Int) < b) = true) := by
    simp only [decide_eq_true_eq, decide_eq_false_iff_not]; omega
  clear h
  rcases hh with d1 | ⟨d1, d2⟩ | ⟨d1, d2, d3⟩
  all_goals
    go_enter Tryz.func18, Tryz.ntmps18
    go_upto_region 1 with fail
    have HL0 := Lib.hid (LSt.start w a b)
    obtain ⟨W1, hW1⟩ : ∃ W, ((w.alloc (.cells #[.int .i64 a, .int .i64 b] 32)).alloc (.cells #[.int .i64 0, .int .i64 0, .int .i64 0, .int .i64 0, .int .i64 0, .int .i64 0, .int .i64 0, .int .i64 0, .int .i64 0, .int .i64 0] 42)) = W := ⟨_, rfl⟩
    rw [hW1] at HL0 ⊢
    clear hW1
    obtain ⟨s0, s1⟩ := HL0.out.s.cells
    obtain ⟨b0, b1, b2, b3, b4, b5, b6, b7, b8, b9, h0, h1, h2, h3, h4, h5, h6, h7, h8, h9⟩ := HL0.out.l.cells
    go_wp2_with fail
    obtain ⟨WF, hWF⟩ : ∃ W, (putR W1 (w.heap.size + 1) noLine) = W := ⟨_, rfl⟩
    have HF := (LSt.put (r2 := noLine) HL0.out)
    rw [hWF] at HF
    have HF2 := Lib.hid HF; clear HF
    dsimp only [putR, noLine] at hWF
    rw [hWF]
    clear hWF
    clear s0 s1 b0 b1 b2 b3 b4 b5 b6 b7 b8 b9 h0 h1 h2 h3 h4 h5 h6 h7 h8 h9
    obtain ⟨c0, c1, c2, c3, c4, c5, c6, c7, c8, c9, _⟩ := HF2.out.l.cells
    go_wp2_with fail
    refine bodyPost_ret (v := .tuple #[lineV noLine, .int .i64 0, .int .i64 1]) ?_ rfl ⟨rfl, HF2.out.b⟩
    simp [results, Tryz.results18, go_sem, lineV, noLine, c0, c1, c2, c3, c4, c5, c6, c7, c8, c9]
/-- What the drawn region of a wrong line carries. -/
abbrev LWr (w : World) (x y : Int) (w' : World) : Prop := (SpanCells w' w.heap.size x y ∧ LineCells w' (w.heap.size + 1) noLine) ∧ Hid (LSt w x y noLine w')
theorem LWr.of {w w' : World} {x y : Int} (h : LSt w x y noLine w') : LWr w x y w' := ⟨⟨h.s.cells, h.l.cells⟩, Lib.hid h⟩
theorem LWr.drew {w w' : World} {x y : Int} (h : LWr w x y w') : LWr w x y w'.drew := LWr.of h.2.out.drew
theorem LWr.put {w w' : World} {x y : Int} (h : LWr w x y w') : LWr w x y (putR w' (w.heap.size + 1) noLine) := LWr.of (LSt.put (r2 := noLine) h.2.out)
theorem no10_at {T : List UInt8} (h : T.contains 10 = false) (k : Nat) : T[k]? ≠ some 10 := by
  intro hk
  have := List.mem_of_getElem? hk
  rw [← List.contains_iff_mem, h] at this
  cases this
theorem yes10 {T : List UInt8} {k : Nat} (h : T[k]? = some 10) : T.contains 10 = true := List.contains_iff_mem.2 (List.mem_of_getElem? h)
theorem no10_all {T : List UInt8} (h : ∀ j, j < T.length → T[j]? ≠ some 10) : T.contains 10 = false := by
  cases hc : T.contains 10 with
  | false => rfl
  | true =>
    obtain ⟨j, hj⟩ := List.getElem?_of_mem (List.contains_iff_mem.1 hc)
    exact absurd hj (h j (List.getElem?_eq_some_iff.1 hj).1)
theorem byte_some (b c : UInt8) (n : Int) (hn : n = c.toNat) : ((b.toNat : Int) == n) = (some b == some c) := by
  rw [byte_eq b c n hn]
  by_cases h : b = c
  · rw [h]; simp
  · rw [beq_eq_false_iff_ne.2 h, beq_eq_false_iff_ne.2 (fun e => h (Option.some.inj e))]
theorem int_eq {a b : Int} (h : a = b) : Value.int .i64 a = Value.int .i64 b := by rw [h]
theorem head_drop (T : List UInt8) (n : Nat) : (T.drop n).head? = T[n]? := by rw [List.head?_eq_getElem?, List.getElem?_drop, Nat.add_zero]
set_option maxRecDepth 100000 in
set_option maxHeartbeats 20000000 in
theorem refLine_in1 (l : List UInt8) (x y : Nat) (w : World) (hs : l.length ≤ 1073741824) (hxy : x ≤ y) (hyl : y ≤ l.length) (T : List UInt8) (hTd : (l.drop x).take (y - x) = T) (R : LineR × Int × Int)
    (hC1 : Hid (T.contains 10 = true)) (hR : (if T.contains 10 then (noLine, 0, 1) else if wrL true T < T.length then (noLine, (x : Int) + wrL true T, 2) else lineG x y (spL T) (coreL (T.drop (spL T))) : LineR × Int × Int) = R) :
    Calls Tryz.prog 18 #[.string (bs l), .agg #[.int .i64 x, .int .i64 y]] w fun e w' => e = LineE R ∧ Below w.heap.size w w' := by
  have sl := bs_size l
  have hTl : T.length = y - x := by rw [← hTd, List.length_take, List.length_drop]; omega
  have hex : (bs l).extract x y = bs T := by rw [bs_extract, bs_data, hTd]
  have CG := Lib.hid (fun w => refWrong_any T true w (by omega))
  have sT := bs_size T
  have hTb : T.length ≤ 1073741824 := by omega
  have hxT : x + T.length ≤ 1073741824 := by omega
  have HTl := Lib.hid hTl
  obtain ⟨wr, hwr⟩ : ∃ wr, wrL true T = wr := ⟨_, rfl⟩
  have hwb : wr ≤ T.length := by have := (wrGo_bd true T.length T 0).2; unfold wrL at hwr; omega
  rw [hwr] at CG hR
  obtain ⟨n, hn⟩ : ∃ n, spL T = n := ⟨_, rfl⟩
  have hnl := spL_le T
  have hna := spL_at T
  have hne := spL_end T
  rw [hn] at hnl hna hne hR
  have HR := Lib.hid hR
  have HNA := Lib.hid (And.intro hna (And.intro hne hn))
  have d1 : decide ((x : Int) < 0) = false := decide_eq_false (by omega)
  have d2 : decide (y < x) = false := decide_eq_false (by omega)
  have d3 : decide (l.length < y) = false := decide_eq_false (by omega)
  have hxyi : (x : Int) ≤ (y : Int) := by omega
  have hyli : (y : Int) ≤ (l.length : Int) := by omega
  clear hTl hTd hwr hn hna hne hR
  go_enter Tryz.func18, Tryz.ntmps18
  go_upto_region 1 with fail
  have HL0 := Lib.hid (LSt.start w x y)
  obtain ⟨W1, hW1⟩ : ∃ W, ((w.alloc (.cells #[.int .i64 x, .int .i64 y] 32)).alloc (.cells #[.int .i64 0, .int .i64 0, .int .i64 0, .int .i64 0, .int .i64 0, .int .i64 0, .int .i64 0, .int .i64 0, .int .i64 0, .int .i64 0] 42)) = W := ⟨_, rfl⟩
  rw [hW1] at HL0 ⊢
  clear hW1
  obtain ⟨s0, s1⟩ := HL0.out.s.cells
  obtain ⟨b0, b1, b2, b3, b4, b5, b6, b7, b8, b9, h0, h1, h2, h3, h4, h5, h6, h7, h8, h9⟩ := HL0.out.l.cells
  go_wp2_with fail
  go_loop [8] (fun s8 => ∃ k : Nat, s8 = .int .i64 k ∧ k ≤ T.length ∧ Hid (∀ j, j < k → T[j]? ≠ some 10)) (fun s8 => T.length - (RowKit.intOf s8).toNat)
  case atStart => exact ⟨0, rfl, by omega, Lib.hid (fun j hj => by omega)⟩
  case round =>
    obtain ⟨k, rfl, hk, HK⟩ := hrel
    by_cases hlt : k < T.length
    · have hlt' : k < (bs T).size := by omega
      have hb := at_bs T k hlt'
      have T1 := byte_eq ((bs T)[k]'hlt') 10 10 rfl
      obtain ⟨c, hc⟩ : ∃ c, (bs T)[k]'hlt' = c := ⟨_, rfl⟩
      rw [hc] at T1 hb
      have hc2 : (((bs T)[k]'hlt').toNat : Int) = (c.toNat : Int) := by rw [hc]
      obtain ⟨ci, hci⟩ : ∃ ci : Int, (c.toNat : Int) = ci := ⟨_, rfl⟩
      rw [hci] at T1 hc2
      by_cases h10 : c = 10
      · have HF : Hid ((noLine, (0 : Int), (1 : Int)) = R) := Lib.hid (by rw [← HR.out, if_pos (yes10 (by rw [hb, h10]))])
        rw [show (c == 10) = true from beq_iff_eq.2 h10] at T1
        clear h10 hb hc hci HK
        go_wp2_with fail
        obtain ⟨WF, hWF⟩ : ∃ W, (putR W1 (w.heap.size + 1) noLine) = W := ⟨_, rfl⟩
        have HF := (LSt.put (r2 := noLine) HL0.out)
        rw [hWF] at HF
        have HF2 := Lib.hid HF; clear HF
        dsimp only [putR, noLine] at hWF
        rw [hWF]
        clear hWF
        clear s0 s1 b0 b1 b2 b3 b4 b5 b6 b7 b8 b9 h0 h1 h2 h3 h4 h5 h6 h7 h8 h9
        obtain ⟨c0, c1, c2, c3, c4, c5, c6, c7, c8, c9, _⟩ := HF2.out.l.cells
        go_wp2_with fail
        refine bodyPost_ret (v := .tuple #[lineV noLine, .int .i64 0, .int .i64 1]) ?_ rfl ⟨by rw [← HF.out]; rfl, HF2.out.b⟩
        simp [results, Tryz.results18, go_sem, lineV, noLine, c0, c1, c2, c3, c4, c5, c6, c7, c8, c9]
      · have HK2 : Hid (∀ j, j < k + 1 → T[j]? ≠ some 10) := Lib.hid (fun j hj => by
          by_cases h : j < k
          · exact HK.out j h
          · obtain rfl : j = k := by omega
            rw [hb]; simpa using h10)
        rw [show (c == 10) = false from beq_eq_false_iff_ne.2 h10] at T1
        clear h10 hb hc hci HK
        go_wp2_with fail
        go_round
        case rel => exact ⟨k + 1, by go_num, by omega, HK2.out⟩
        case measure => simp [RowKit.intOf]; omega
    · exact absurd (no10_all (fun j hj => HK.out j (by omega))) (by rw [hC1.out]; simp)
set_option maxRecDepth 100000 in
set_option maxHeartbeats 20000000 in
theorem refLine_in2 (l : List UInt8) (x y : Nat) (w : World) (hs : l.length ≤ 1073741824) (hxy : x ≤ y) (hyl : y ≤ l.length) (T : List UInt8) (hTd : (l.drop x).take (y - x) = T) (R : LineR × Int × Int)
    (hC1 : Hid (T.contains 10 = false)) (hC2 : Hid (wrL true T < T.length)) (hR : (if T.contains 10 then (noLine, 0, 1) else if wrL true T < T.length then (noLine, (x : Int) + wrL true T, 2) else lineG x y (spL T) (coreL (T.drop (spL T))) : LineR × Int × Int) = R) :
    Calls Tryz.prog 18 #[.string (bs l), .agg #[.int .i64 x, .int .i64 y]] w fun e w' => e = LineE R ∧ Below w.heap.size w w' := by
  have sl := bs_size l
  have hTl : T.length = y - x := by rw [← hTd, List.length_take, List.length_drop]; omega
  have hex : (bs l).extract x y = bs T := by rw [bs_extract, bs_data, hTd]
  have CG := Lib.hid (fun w => refWrong_any T true w (by omega))
  have sT := bs_size T
  have hTb : T.length ≤ 1073741824 := by omega
  have hxT : x + T.length ≤ 1073741824 := by omega
  have HTl := Lib.hid hTl
  obtain ⟨wr, hwr⟩ : ∃ wr, wrL true T = wr := ⟨_, rfl⟩
  have hwb : wr ≤ T.length := by have := (wrGo_bd true T.length T 0).2; unfold wrL at hwr; omega
  rw [hwr] at CG hR hC2
  obtain ⟨n, hn⟩ : ∃ n, spL T = n := ⟨_, rfl⟩
  have hnl := spL_le T
  have hna := spL_at T
  have hne := spL_end T
  rw [hn] at hnl hna hne hR
  have HR := Lib.hid hR
  have HNA := Lib.hid (And.intro hna (And.intro hne hn))
  have d1 : decide ((x : Int) < 0) = false := decide_eq_false (by omega)
  have d2 : decide (y < x) = false := decide_eq_false (by omega)
  have d3 : decide (l.length < y) = false := decide_eq_false (by omega)
  have hxyi : (x : Int) ≤ (y : Int) := by omega
  have hyli : (y : Int) ≤ (l.length : Int) := by omega
  clear hTl hTd hwr hn hna hne hR
  go_enter Tryz.func18, Tryz.ntmps18
  go_upto_region 1 with fail
  have HL0 := Lib.hid (LSt.start w x y)
  obtain ⟨W1, hW1⟩ : ∃ W, ((w.alloc (.cells #[.int .i64 x, .int .i64 y] 32)).alloc (.cells #[.int .i64 0, .int .i64 0, .int .i64 0, .int .i64 0, .int .i64 0, .int .i64 0, .int .i64 0, .int .i64 0, .int .i64 0, .int .i64 0] 42)) = W := ⟨_, rfl⟩
  rw [hW1] at HL0 ⊢
  clear hW1
  obtain ⟨s0, s1⟩ := HL0.out.s.cells
  obtain ⟨b0, b1, b2, b3, b4, b5, b6, b7, b8, b9, h0, h1, h2, h3, h4, h5, h6, h7, h8, h9⟩ := HL0.out.l.cells
  go_wp2_with fail
  go_loop [8] (fun s8 => ∃ k : Nat, s8 = .int .i64 k ∧ k ≤ T.length ∧ Hid (∀ j, j < k → T[j]? ≠ some 10)) (fun s8 => T.length - (RowKit.intOf s8).toNat)
  case atStart => exact ⟨0, rfl, by omega, Lib.hid (fun j hj => by omega)⟩
  case round =>
    obtain ⟨k, rfl, hk, HK⟩ := hrel
    by_cases hlt : k < T.length
    · have hlt' : k < (bs T).size := by omega
      have hb := at_bs T k hlt'
      have T1 := byte_eq ((bs T)[k]'hlt') 10 10 rfl
      obtain ⟨c, hc⟩ : ∃ c, (bs T)[k]'hlt' = c := ⟨_, rfl⟩
      rw [hc] at T1 hb
      have hc2 : (((bs T)[k]'hlt').toNat : Int) = (c.toNat : Int) := by rw [hc]
      obtain ⟨ci, hci⟩ : ∃ ci : Int, (c.toNat : Int) = ci := ⟨_, rfl⟩
      rw [hci] at T1 hc2
      by_cases h10 : c = 10
      · exact absurd (yes10 (by rw [hb, h10])) (by rw [hC1.out]; simp)
      · have HK2 : Hid (∀ j, j < k + 1 → T[j]? ≠ some 10) := Lib.hid (fun j hj => by
          by_cases h : j < k
          · exact HK.out j h
          · obtain rfl : j = k := by omega
            rw [hb]; simpa using h10)
        rw [show (c == 10) = false from beq_eq_false_iff_ne.2 h10] at T1
        clear h10 hb hc hci HK
        go_wp2_with fail
        go_round
        case rel => exact ⟨k + 1, by go_num, by omega, HK2.out⟩
        case measure => simp [RowKit.intOf]; omega
    · have h10 : T.contains 10 = false := no10_all (fun j hj => HK.out j (by omega))
      have HR1 : Hid ((if wr < T.length then (noLine, (x : Int) + wr, 2) else lineG x y n (coreL (T.drop n)) : LineR × Int × Int) = R) := Lib.hid (by
        have := HR.out
        rw [if_neg (by rw [h10]; simp)] at this
        exact this)
      clear h10 HK HR
      by_cases hw : wr < T.length
      · have HF : Hid ((noLine, (x : Int) + (wr : Int), (2 : Int)) = R) := Lib.hid (by rw [← HR1.out, if_pos hw])
        have dw : decide (wr < T.length) = true := decide_eq_true hw
        have wxw : IntKind.i64.wrap ((x : Int) + (wr : Int)) = (x : Int) + (wr : Int) := by rw [IntKind.wrap_i64]; omega
        clear hw HR1 HNA
        go_upto_region 10 with (go_at_call 33; (with_reducible refine (CG.out _).mono ?_); rintro e w' ⟨rfl, rfl⟩)
        go_region_with (go_at_call 33; (with_reducible refine (CG.out _).mono ?_); rintro e w' ⟨rfl, rfl⟩)
        all_goals
          obtain ⟨WF, hWF⟩ : ∃ W, (putR W1 (w.heap.size + 1) noLine).drew = W := ⟨_, rfl⟩
          have HF := (LSt.put (r2 := noLine) HL0.out).drew
          rw [hWF] at HF
          have HF2 := Lib.hid HF; clear HF
          dsimp only [putR, noLine] at hWF
          rw [hWF]
          clear hWF
          clear s0 s1 b0 b1 b2 b3 b4 b5 b6 b7 b8 b9 h0 h1 h2 h3 h4 h5 h6 h7 h8 h9
          obtain ⟨c0, c1, c2, c3, c4, c5, c6, c7, c8, c9, _⟩ := HF2.out.l.cells
          go_wp2_with fail
          refine bodyPost_ret (v := .tuple #[lineV noLine, .int .i64 ((x : Int) + (wr : Int)), .int .i64 2]) ?_ rfl ⟨by rw [← HF.out]; rfl, HF2.out.b⟩
          simp [results, Tryz.results18, go_sem, lineV, noLine, c0, c1, c2, c3, c4, c5, c6, c7, c8, c9]
      · exact absurd hC2.out hw
set_option maxRecDepth 100000 in
set_option maxHeartbeats 20000000 in
theorem refLine_in3 (l : List UInt8) (x y : Nat) (w : World) (hs : l.length ≤ 1073741824) (hxy : x ≤ y) (hyl : y ≤ l.length) (T : List UInt8) (hTd : (l.drop x).take (y - x) = T) (R : LineR × Int × Int)
    (hC1 : Hid (T.contains 10 = false)) (hC2 : Hid (¬ wrL true T < T.length)) (hC3 : Hid (spL T = T.length)) (hR : (if T.contains 10 then (noLine, 0, 1) else if wrL true T < T.length then (noLine, (x : Int) + wrL true T, 2) else lineG x y (spL T) (coreL (T.drop (spL T))) : LineR × Int × Int) = R) :
    Calls Tryz.prog 18 #[.string (bs l), .agg #[.int .i64 x, .int .i64 y]] w fun e w' => e = LineE R ∧ Below w.heap.size w w' := by
  have sl := bs_size l
  have hTl : T.length = y - x := by rw [← hTd, List.length_take, List.length_drop]; omega
  have hex : (bs l).extract x y = bs T := by rw [bs_extract, bs_data, hTd]
  have CG := Lib.hid (fun w => refWrong_any T true w (by omega))
  have sT := bs_size T
  have hTb : T.length ≤ 1073741824 := by omega
  have hxT : x + T.length ≤ 1073741824 := by omega
  have HTl := Lib.hid hTl
  obtain ⟨wr, hwr⟩ : ∃ wr, wrL true T = wr := ⟨_, rfl⟩
  have hwb : wr ≤ T.length := by have := (wrGo_bd true T.length T 0).2; unfold wrL at hwr; omega
  rw [hwr] at CG hR hC2
  obtain ⟨n, hn⟩ : ∃ n, spL T = n := ⟨_, rfl⟩
  have hnl := spL_le T
  have hna := spL_at T
  have hne := spL_end T
  rw [hn] at hnl hna hne hR hC3
  have HR := Lib.hid hR
  have HNA := Lib.hid (And.intro hna (And.intro hne hn))
  have d1 : decide ((x : Int) < 0) = false := decide_eq_false (by omega)
  have d2 : decide (y < x) = false := decide_eq_false (by omega)
  have d3 : decide (l.length < y) = false := decide_eq_false (by omega)
  have hxyi : (x : Int) ≤ (y : Int) := by omega
  have hyli : (y : Int) ≤ (l.length : Int) := by omega
  clear hTl hTd hwr hn hna hne hR
  go_enter Tryz.func18, Tryz.ntmps18
  go_upto_region 1 with fail
  have HL0 := Lib.hid (LSt.start w x y)
  obtain ⟨W1, hW1⟩ : ∃ W, ((w.alloc (.cells #[.int .i64 x, .int .i64 y] 32)).alloc (.cells #[.int .i64 0, .int .i64 0, .int .i64 0, .int .i64 0, .int .i64 0, .int .i64 0, .int .i64 0, .int .i64 0, .int .i64 0, .int .i64 0] 42)) = W := ⟨_, rfl⟩
  rw [hW1] at HL0 ⊢
  clear hW1
  obtain ⟨s0, s1⟩ := HL0.out.s.cells
  obtain ⟨b0, b1, b2, b3, b4, b5, b6, b7, b8, b9, h0, h1, h2, h3, h4, h5, h6, h7, h8, h9⟩ := HL0.out.l.cells
  go_wp2_with fail
  go_loop [8] (fun s8 => ∃ k : Nat, s8 = .int .i64 k ∧ k ≤ T.length ∧ Hid (∀ j, j < k → T[j]? ≠ some 10)) (fun s8 => T.length - (RowKit.intOf s8).toNat)
  case atStart => exact ⟨0, rfl, by omega, Lib.hid (fun j hj => by omega)⟩
  case round =>
    obtain ⟨k, rfl, hk, HK⟩ := hrel
    by_cases hlt : k < T.length
    · have hlt' : k < (bs T).size := by omega
      have hb := at_bs T k hlt'
      have T1 := byte_eq ((bs T)[k]'hlt') 10 10 rfl
      obtain ⟨c, hc⟩ : ∃ c, (bs T)[k]'hlt' = c := ⟨_, rfl⟩
      rw [hc] at T1 hb
      have hc2 : (((bs T)[k]'hlt').toNat : Int) = (c.toNat : Int) := by rw [hc]
      obtain ⟨ci, hci⟩ : ∃ ci : Int, (c.toNat : Int) = ci := ⟨_, rfl⟩
      rw [hci] at T1 hc2
      by_cases h10 : c = 10
      · exact absurd (yes10 (by rw [hb, h10])) (by rw [hC1.out]; simp)
      · have HK2 : Hid (∀ j, j < k + 1 → T[j]? ≠ some 10) := Lib.hid (fun j hj => by
          by_cases h : j < k
          · exact HK.out j h
          · obtain rfl : j = k := by omega
            rw [hb]; simpa using h10)
        rw [show (c == 10) = false from beq_eq_false_iff_ne.2 h10] at T1
        clear h10 hb hc hci HK
        go_wp2_with fail
        go_round
        case rel => exact ⟨k + 1, by go_num, by omega, HK2.out⟩
        case measure => simp [RowKit.intOf]; omega
    · have h10 : T.contains 10 = false := no10_all (fun j hj => HK.out j (by omega))
      have HR1 : Hid ((if wr < T.length then (noLine, (x : Int) + wr, 2) else lineG x y n (coreL (T.drop n)) : LineR × Int × Int) = R) := Lib.hid (by
        have := HR.out
        rw [if_neg (by rw [h10]; simp)] at this
        exact this)
      clear h10 HK HR
      by_cases hw : wr < T.length
      · exact absurd hw hC2.out
      · rw [if_neg hw] at HR1
        have dw : decide (wr < T.length) = false := decide_eq_false hw
        have hTx : (bs T).extract n T.length = bs (T.drop n) := bs_from T n _ rfl
        obtain ⟨U, hU⟩ : ∃ U, T.drop n = U := ⟨_, rfl⟩
        have hUl : U.length = T.length - n := by rw [← hU, List.length_drop]
        have hhead : U.head? = T[n]? := by rw [← hU, head_drop]
        rw [hU] at hTx HR1
        have wxn : IntKind.i64.wrap ((x : Int) + (n : Int)) = (x : Int) + (n : Int) := by rw [IntKind.wrap_i64]; omega
        have hxn : (x : Int) + (n : Int) ≤ 1073741824 := by omega
        have HTU : Hid (T = List.replicate n 32 ++ U) := Lib.hid (by have := split_sp T; rw [HNA.out.2.2, hU] at this; exact this)
        have HUL := Lib.hid hUl
        clear hw hU hUl
        by_cases hUe : n = T.length
        · have HC : Hid (coreL U = some ⟨1, 0, 0, 0, none⟩) := Lib.hid (by
            have : U = [] := List.length_eq_zero_iff.1 (by have := HUL.out; omega)
            rw [this]; rfl)
          clear hhead hTx HTU HUL
          subst hUe
          go_wp2_with (go_at_call 33; (with_reducible refine (CG.out _).mono ?_); rintro e w' ⟨rfl, rfl⟩)
          go_loop [9] (fun s9 => ∃ k2 : Nat, s9 = .int .i64 k2 ∧ k2 ≤ T.length) (fun s9 => T.length - (RowKit.intOf s9).toNat)
          case atStart => exact ⟨0, rfl, by omega⟩
          case round =>
            obtain ⟨k2, rfl, hk2⟩ := hrel
            by_cases hlt2 : k2 < T.length
            · have hlt2' : k2 < (bs T).size := by omega
              have hb := at_bs T k2 hlt2'
              rw [HNA.out.1 k2 hlt2] at hb
              have T2 : ((((bs T)[k2]'hlt2').toNat : Int) == 32) = true := by rw [byte_eq _ 32 32 rfl, ← Option.some.inj hb]; rfl
              clear hb
              go_wp2_with fail
              go_round
              case rel => exact ⟨k2 + 1, by go_num, by omega⟩
              case measure => simp [RowKit.intOf]; omega
            · obtain rfl : T.length = k2 := by omega
              go_upto_region 14 with fail
              go_cut [10] (fun s10 wx => ∃ X, s10 = .pointer (some ⟨X, 0, none⟩) ∧ w.heap.size + 2 ≤ X ∧ Hid (LSt w x y noLine wx ∧ LineBox wx X ⟨1, x, y, T.length, 0, 0, 0, 0, 0, 0⟩))
              case first =>
                go_wp2_with fail
                go_meet
                exact ⟨W1.heap.size, rfl, HL0.out.z, HL0.out.keep (below_alloc1 _ _), heap_alloc_new W1 _⟩
              clear s0 s1 b0 b1 b2 b3 b4 b5 b6 b7 b8 b9 h0 h1 h2 h3 h4 h5 h6 h7 h8 h9
              obtain ⟨X, rfl, hX, HS⟩ := hcut
              obtain ⟨s0, s1⟩ := HS.out.1.s.cells
              obtain ⟨a0, a1, a2, a3, a4, a5, a6, a7, a8, a9, g0, g1, g2, g3, g4, g5, g6, g7, g8, g9⟩ := HS.out.2.cells
              obtain ⟨b0, b1, b2, b3, b4, b5, b6, b7, b8, b9, h0, h1, h2, h3, h4, h5, h6, h7, h8, h9⟩ := HS.out.1.l.cells
              go_upto_region 16 with fail
              go_cut [] (fun wx => Hid (LSt w x y noLine wx ∧ LineBox wx X ⟨1, x, y, T.length, 0, 0, x + T.length, x + T.length, 0, 0⟩))
              case first =>
                go_wp2_with fail
                go_meet
                exact ⟨(HS.out.1.set hX 6 _).set hX 7 _, blk_set (blk_set HS.out.2 6 _) 7 _⟩
              clear s0 s1 a0 a1 a2 a3 a4 a5 a6 a7 a8 a9 g0 g1 g2 g3 g4 g5 g6 g7 g8 g9 b0 b1 b2 b3 b4 b5 b6 b7 b8 b9 h0 h1 h2 h3 h4 h5 h6 h7 h8 h9
              have HS := hcut
              obtain ⟨s0, s1⟩ := HS.out.1.s.cells
              obtain ⟨a0, a1, a2, a3, a4, a5, a6, a7, a8, a9, g0, g1, g2, g3, g4, g5, g6, g7, g8, g9⟩ := HS.out.2.cells
              obtain ⟨b0, b1, b2, b3, b4, b5, b6, b7, b8, b9, h0, h1, h2, h3, h4, h5, h6, h7, h8, h9⟩ := HS.out.1.l.cells
              go_wp2_with fail
              go_region
              obtain ⟨WF, hWF⟩ : ∃ W, (putR wc (w.heap.size + 1) ⟨1, x, y, T.length, 0, 0, x + T.length, x + T.length, 0, 0⟩).drew = W := ⟨_, rfl⟩
              have HF := (LSt.put (r2 := ⟨1, x, y, T.length, 0, 0, x + T.length, x + T.length, 0, 0⟩) HS.out.1).drew
              rw [hWF] at HF
              have HF2 := Lib.hid HF; clear HF
              dsimp only [putR, noLine] at hWF
              rw [hWF]
              clear hWF
              clear s0 s1 a0 a1 a2 a3 a4 a5 a6 a7 a8 a9 g0 g1 g2 g3 g4 g5 g6 g7 g8 g9 b0 b1 b2 b3 b4 b5 b6 b7 b8 b9 h0 h1 h2 h3 h4 h5 h6 h7 h8 h9
              obtain ⟨c0, c1, c2, c3, c4, c5, c6, c7, c8, c9, _⟩ := HF2.out.l.cells
              go_wp2_with fail
              refine bodyPost_ret (v := .tuple #[lineV ⟨1, x, y, T.length, 0, 0, x + T.length, x + T.length, 0, 0⟩, .int .i64 y, .int .i64 0]) ?_ rfl ⟨by rw [← HR1.out, HC.out]; exact lineE_of (by unfold lineOf; simp), HF2.out.b⟩
              simp [results, Tryz.results18, go_sem, lineV, noLine, c0, c1, c2, c3, c4, c5, c6, c7, c8, c9]
        · exact absurd hC3.out hUe
set_option maxRecDepth 100000 in
set_option maxHeartbeats 20000000 in
theorem refLine_in4 (l : List UInt8) (x y : Nat) (w : World) (hs : l.length ≤ 1073741824) (hxy : x ≤ y) (hyl : y ≤ l.length) (T : List UInt8) (hTd : (l.drop x).take (y - x) = T) (R : LineR × Int × Int)
    (hC1 : Hid (T.contains 10 = false)) (hC2 : Hid (¬ wrL true T < T.length)) (hC3 : Hid (¬ spL T = T.length)) (hC4 : Hid ((T.drop (spL T)).head? = some 35)) (hR : (if T.contains 10 then (noLine, 0, 1) else if wrL true T < T.length then (noLine, (x : Int) + wrL true T, 2) else lineG x y (spL T) (coreL (T.drop (spL T))) : LineR × Int × Int) = R) :
    Calls Tryz.prog 18 #[.string (bs l), .agg #[.int .i64 x, .int .i64 y]] w fun e w' => e = LineE R ∧ Below w.heap.size w w' := by
  have sl := bs_size l
  have hTl : T.length = y - x := by rw [← hTd, List.length_take, List.length_drop]; omega
  have hex : (bs l).extract x y = bs T := by rw [bs_extract, bs_data, hTd]
  have CG := Lib.hid (fun w => refWrong_any T true w (by omega))
  have sT := bs_size T
  have hTb : T.length ≤ 1073741824 := by omega
  have hxT : x + T.length ≤ 1073741824 := by omega
  have HTl := Lib.hid hTl
  obtain ⟨wr, hwr⟩ : ∃ wr, wrL true T = wr := ⟨_, rfl⟩
  have hwb : wr ≤ T.length := by have := (wrGo_bd true T.length T 0).2; unfold wrL at hwr; omega
  rw [hwr] at CG hR hC2
  obtain ⟨n, hn⟩ : ∃ n, spL T = n := ⟨_, rfl⟩
  have hnl := spL_le T
  have hna := spL_at T
  have hne := spL_end T
  rw [hn] at hnl hna hne hR hC3 hC4
  have HR := Lib.hid hR
  have HNA := Lib.hid (And.intro hna (And.intro hne hn))
  have d1 : decide ((x : Int) < 0) = false := decide_eq_false (by omega)
  have d2 : decide (y < x) = false := decide_eq_false (by omega)
  have d3 : decide (l.length < y) = false := decide_eq_false (by omega)
  have hxyi : (x : Int) ≤ (y : Int) := by omega
  have hyli : (y : Int) ≤ (l.length : Int) := by omega
  clear hTl hTd hwr hn hna hne hR
  go_enter Tryz.func18, Tryz.ntmps18
  go_upto_region 1 with fail
  have HL0 := Lib.hid (LSt.start w x y)
  obtain ⟨W1, hW1⟩ : ∃ W, ((w.alloc (.cells #[.int .i64 x, .int .i64 y] 32)).alloc (.cells #[.int .i64 0, .int .i64 0, .int .i64 0, .int .i64 0, .int .i64 0, .int .i64 0, .int .i64 0, .int .i64 0, .int .i64 0, .int .i64 0] 42)) = W := ⟨_, rfl⟩
  rw [hW1] at HL0 ⊢
  clear hW1
  obtain ⟨s0, s1⟩ := HL0.out.s.cells
  obtain ⟨b0, b1, b2, b3, b4, b5, b6, b7, b8, b9, h0, h1, h2, h3, h4, h5, h6, h7, h8, h9⟩ := HL0.out.l.cells
  go_wp2_with fail
  go_loop [8] (fun s8 => ∃ k : Nat, s8 = .int .i64 k ∧ k ≤ T.length ∧ Hid (∀ j, j < k → T[j]? ≠ some 10)) (fun s8 => T.length - (RowKit.intOf s8).toNat)
  case atStart => exact ⟨0, rfl, by omega, Lib.hid (fun j hj => by omega)⟩
  case round =>
    obtain ⟨k, rfl, hk, HK⟩ := hrel
    by_cases hlt : k < T.length
    · have hlt' : k < (bs T).size := by omega
      have hb := at_bs T k hlt'
      have T1 := byte_eq ((bs T)[k]'hlt') 10 10 rfl
      obtain ⟨c, hc⟩ : ∃ c, (bs T)[k]'hlt' = c := ⟨_, rfl⟩
      rw [hc] at T1 hb
      have hc2 : (((bs T)[k]'hlt').toNat : Int) = (c.toNat : Int) := by rw [hc]
      obtain ⟨ci, hci⟩ : ∃ ci : Int, (c.toNat : Int) = ci := ⟨_, rfl⟩
      rw [hci] at T1 hc2
      by_cases h10 : c = 10
      · exact absurd (yes10 (by rw [hb, h10])) (by rw [hC1.out]; simp)
      · have HK2 : Hid (∀ j, j < k + 1 → T[j]? ≠ some 10) := Lib.hid (fun j hj => by
          by_cases h : j < k
          · exact HK.out j h
          · obtain rfl : j = k := by omega
            rw [hb]; simpa using h10)
        rw [show (c == 10) = false from beq_eq_false_iff_ne.2 h10] at T1
        clear h10 hb hc hci HK
        go_wp2_with fail
        go_round
        case rel => exact ⟨k + 1, by go_num, by omega, HK2.out⟩
        case measure => simp [RowKit.intOf]; omega
    · have h10 : T.contains 10 = false := no10_all (fun j hj => HK.out j (by omega))
      have HR1 : Hid ((if wr < T.length then (noLine, (x : Int) + wr, 2) else lineG x y n (coreL (T.drop n)) : LineR × Int × Int) = R) := Lib.hid (by
        have := HR.out
        rw [if_neg (by rw [h10]; simp)] at this
        exact this)
      clear h10 HK HR
      by_cases hw : wr < T.length
      · exact absurd hw hC2.out
      · rw [if_neg hw] at HR1
        have dw : decide (wr < T.length) = false := decide_eq_false hw
        have hTx : (bs T).extract n T.length = bs (T.drop n) := bs_from T n _ rfl
        obtain ⟨U, hU⟩ : ∃ U, T.drop n = U := ⟨_, rfl⟩
        have hUl : U.length = T.length - n := by rw [← hU, List.length_drop]
        have hhead : U.head? = T[n]? := by rw [← hU, head_drop]
        rw [hU] at hTx HR1 hC4
        have wxn : IntKind.i64.wrap ((x : Int) + (n : Int)) = (x : Int) + (n : Int) := by rw [IntKind.wrap_i64]; omega
        have hxn : (x : Int) + (n : Int) ≤ 1073741824 := by omega
        have HTU : Hid (T = List.replicate n 32 ++ U) := Lib.hid (by have := split_sp T; rw [HNA.out.2.2, hU] at this; exact this)
        have HUL := Lib.hid hUl
        clear hw hU hUl
        by_cases hUe : n = T.length
        · exact absurd hUe hC3.out
        · have hnT : n < T.length := by omega
          clear hUe
          go_wp2_with (go_at_call 33; (with_reducible refine (CG.out _).mono ?_); rintro e w' ⟨rfl, rfl⟩)
          clear CG
          go_loop [9] (fun s9 => ∃ k2 : Nat, s9 = .int .i64 k2 ∧ k2 ≤ n) (fun s9 => T.length - (RowKit.intOf s9).toNat)
          case atStart => exact ⟨0, rfl, by omega⟩
          case round =>
            obtain ⟨k2, rfl, hk2⟩ := hrel
            by_cases hlt2 : k2 < n
            · have hlt2' : k2 < (bs T).size := by omega
              have hb := at_bs T k2 hlt2'
              rw [HNA.out.1 k2 hlt2] at hb
              have T2 : ((((bs T)[k2]'hlt2').toNat : Int) == 32) = true := by rw [byte_eq _ 32 32 rfl, ← Option.some.inj hb]; rfl
              clear hb
              go_wp2_with fail
              go_round
              case rel => exact ⟨k2 + 1, by go_num, by omega⟩
              case measure => simp [RowKit.intOf]; omega
            · obtain rfl : n = k2 := by omega
              have hn' : n < (bs T).size := by omega
              have hbn := at_bs T n hn'
              have T32 := byte_some ((bs T)[n]'hn') 32 32 rfl
              have T35 := byte_some ((bs T)[n]'hn') 35 35 rfl
              have T34 := byte_some ((bs T)[n]'hn') 34 34 rfl
              have T39 := byte_some ((bs T)[n]'hn') 39 39 rfl
              rw [← hbn] at T32
              rw [← hbn, ← hhead] at T35 T34 T39
              rw [show (T[n]? == some 32) = false from beq_eq_false_iff_ne.2 HNA.out.2.1] at T32
              obtain ⟨cc, hcc⟩ : ∃ cc : Int, (((bs T)[n]'hn').toNat : Int) = cc := ⟨_, rfl⟩
              rw [hcc] at T32 T35 T34 T39
              clear hbn hhead
              go_upto_region 14 with fail
              go_cut [10] (fun s10 wx => ∃ X, s10 = .pointer (some ⟨X, 0, none⟩) ∧ w.heap.size + 2 ≤ X ∧ Hid (LSt w x y noLine wx ∧ LineBox wx X ⟨1, x, y, n, 0, 0, 0, 0, 0, 0⟩))
              case first =>
                go_wp2_with fail
                go_meet
                exact ⟨W1.heap.size, rfl, HL0.out.z, HL0.out.keep (below_alloc1 _ _), heap_alloc_new W1 _⟩
              clear s0 s1 b0 b1 b2 b3 b4 b5 b6 b7 b8 b9 h0 h1 h2 h3 h4 h5 h6 h7 h8 h9
              obtain ⟨X, rfl, hX, HS⟩ := hcut
              obtain ⟨s0, s1⟩ := HS.out.1.s.cells
              obtain ⟨a0, a1, a2, a3, a4, a5, a6, a7, a8, a9, g0, g1, g2, g3, g4, g5, g6, g7, g8, g9⟩ := HS.out.2.cells
              obtain ⟨b0, b1, b2, b3, b4, b5, b6, b7, b8, b9, h0, h1, h2, h3, h4, h5, h6, h7, h8, h9⟩ := HS.out.1.l.cells
              go_upto_region 16 with fail
              go_cut [] (fun wx => Hid (LSt w x y noLine wx ∧ LineBox wx X ⟨1, x, y, n, 0, 0, x + n, x + n, 0, 0⟩))
              case first =>
                go_wp2_with fail
                go_meet
                exact ⟨(HS.out.1.set hX 6 _).set hX 7 _, blk_set (blk_set HS.out.2 6 _) 7 _⟩
              clear s0 s1 a0 a1 a2 a3 a4 a5 a6 a7 a8 a9 g0 g1 g2 g3 g4 g5 g6 g7 g8 g9 b0 b1 b2 b3 b4 b5 b6 b7 b8 b9 h0 h1 h2 h3 h4 h5 h6 h7 h8 h9
              have HS := hcut
              obtain ⟨s0, s1⟩ := HS.out.1.s.cells
              obtain ⟨a0, a1, a2, a3, a4, a5, a6, a7, a8, a9, g0, g1, g2, g3, g4, g5, g6, g7, g8, g9⟩ := HS.out.2.cells
              obtain ⟨b0, b1, b2, b3, b4, b5, b6, b7, b8, b9, h0, h1, h2, h3, h4, h5, h6, h7, h8, h9⟩ := HS.out.1.l.cells
              have hUne : U ≠ [] := by intro e; have := HUL.out; rw [e] at this; simp at this; omega
              have hcore : coreL U = if U.head? = some 35 then some ⟨2, 0, 0, 0, some 0⟩ else if (U.head? = some 34 ∨ U.head? = some 39) ∧ qdL U = 0 then none else some (restL U (headL U) (behindL U (fromL (headL U))) (noteL U (behindL U (fromL (headL U)) + qdL (U.drop (behindL U (fromL (headL U))))))) := by unfold coreL; rw [if_neg hUne]
              have tnT : ((n : Int) == (T.length : Int)) = false := beq_eq_false_iff_ne.2 (by omega)
              by_cases h35 : U.head? = some 35
              · rw [if_pos h35] at hcore
                have HC := Lib.hid hcore
                have t35 : (cc == 35) = true := by rw [T35, h35]; rfl
                clear hcore T35 T34 T39 h35 hUne
                go_upto_region 22 with fail
                have HS5 : Hid (LSt w x y noLine (((wc.setCell ⟨X, 0, none⟩ (.int .i64 2)).setCell ⟨X, 8, none⟩ (.int .i64 ((x : Int) + (n : Int)))).setCell ⟨X, 9, none⟩ (.int .i64 (y : Int))) ∧ LineBox (((wc.setCell ⟨X, 0, none⟩ (.int .i64 2)).setCell ⟨X, 8, none⟩ (.int .i64 ((x : Int) + (n : Int)))).setCell ⟨X, 9, none⟩ (.int .i64 (y : Int))) X ⟨2, x, y, n, 0, 0, x + n, x + n, x + n, y⟩) :=
                  Lib.hid ⟨((HS.out.1.set hX 0 _).set hX 8 _).set hX 9 _, blk_set (blk_set (blk_set HS.out.2 0 _) 8 _) 9 _⟩
                obtain ⟨W5, hW5⟩ : ∃ W, (((wc.setCell ⟨X, 0, none⟩ (.int .i64 2)).setCell ⟨X, 8, none⟩ (.int .i64 ((x : Int) + (n : Int)))).setCell ⟨X, 9, none⟩ (.int .i64 (y : Int))) = W := ⟨_, rfl⟩
                rw [hW5] at HS5 ⊢
                clear hW5
                clear s0 s1 a0 a1 a2 a3 a4 a5 a6 a7 a8 a9 g0 g1 g2 g3 g4 g5 g6 g7 g8 g9 b0 b1 b2 b3 b4 b5 b6 b7 b8 b9 h0 h1 h2 h3 h4 h5 h6 h7 h8 h9
                obtain ⟨s0, s1⟩ := HS5.out.1.s.cells
                obtain ⟨a0, a1, a2, a3, a4, a5, a6, a7, a8, a9, g0, g1, g2, g3, g4, g5, g6, g7, g8, g9⟩ := HS5.out.2.cells
                obtain ⟨b0, b1, b2, b3, b4, b5, b6, b7, b8, b9, h0, h1, h2, h3, h4, h5, h6, h7, h8, h9⟩ := HS5.out.1.l.cells
                go_wp2_with fail
                go_region
                obtain ⟨WF, hWF⟩ : ∃ W, (putR W5 (w.heap.size + 1) ⟨2, x, y, n, 0, 0, x + n, x + n, x + n, y⟩).drew = W := ⟨_, rfl⟩
                have HF := (LSt.put (r2 := ⟨2, x, y, n, 0, 0, x + n, x + n, x + n, y⟩) HS5.out.1).drew
                rw [hWF] at HF
                have HF2 := Lib.hid HF; clear HF
                dsimp only [putR, noLine] at hWF
                rw [hWF]
                clear hWF
                clear s0 s1 a0 a1 a2 a3 a4 a5 a6 a7 a8 a9 g0 g1 g2 g3 g4 g5 g6 g7 g8 g9 b0 b1 b2 b3 b4 b5 b6 b7 b8 b9 h0 h1 h2 h3 h4 h5 h6 h7 h8 h9
                obtain ⟨c0, c1, c2, c3, c4, c5, c6, c7, c8, c9, _⟩ := HF2.out.l.cells
                go_wp2_with fail
                refine bodyPost_ret (v := .tuple #[lineV ⟨2, x, y, n, 0, 0, x + n, x + n, x + n, y⟩, .int .i64 y, .int .i64 0]) ?_ rfl ⟨by rw [← HR1.out, HC.out]; exact lineE_of (by unfold lineOf; simp), HF2.out.b⟩
                simp [results, Tryz.results18, go_sem, lineV, noLine, c0, c1, c2, c3, c4, c5, c6, c7, c8, c9]
              · exact absurd hC4.out h35
set_option maxRecDepth 100000 in
set_option maxHeartbeats 20000000 in
theorem refLine_in5 (l : List UInt8) (x y : Nat) (w : World) (hs : l.length ≤ 1073741824) (hxy : x ≤ y) (hyl : y ≤ l.length) (T : List UInt8) (hTd : (l.drop x).take (y - x) = T) (R : LineR × Int × Int)
    (hC1 : Hid (T.contains 10 = false)) (hC2 : Hid (¬ wrL true T < T.length)) (hC3 : Hid (¬ spL T = T.length)) (hC4 : Hid (¬ (T.drop (spL T)).head? = some 35)) (hC5 : Hid (((T.drop (spL T)).head? = some 34 ∨ (T.drop (spL T)).head? = some 39) ∧ qdL (T.drop (spL T)) = 0)) (hR : (if T.contains 10 then (noLine, 0, 1) else if wrL true T < T.length then (noLine, (x : Int) + wrL true T, 2) else lineG x y (spL T) (coreL (T.drop (spL T))) : LineR × Int × Int) = R) :
    Calls Tryz.prog 18 #[.string (bs l), .agg #[.int .i64 x, .int .i64 y]] w fun e w' => e = LineE R ∧ Below w.heap.size w w' := by
  have sl := bs_size l
  have hTl : T.length = y - x := by rw [← hTd, List.length_take, List.length_drop]; omega
  have hex : (bs l).extract x y = bs T := by rw [bs_extract, bs_data, hTd]
  have CG := Lib.hid (fun w => refWrong_any T true w (by omega))
  have sT := bs_size T
  have hTb : T.length ≤ 1073741824 := by omega
  have hxT : x + T.length ≤ 1073741824 := by omega
  have HTl := Lib.hid hTl
  obtain ⟨wr, hwr⟩ : ∃ wr, wrL true T = wr := ⟨_, rfl⟩
  have hwb : wr ≤ T.length := by have := (wrGo_bd true T.length T 0).2; unfold wrL at hwr; omega
  rw [hwr] at CG hR hC2
  obtain ⟨n, hn⟩ : ∃ n, spL T = n := ⟨_, rfl⟩
  have hnl := spL_le T
  have hna := spL_at T
  have hne := spL_end T
  rw [hn] at hnl hna hne hR hC3 hC4 hC5
  have HR := Lib.hid hR
  have HNA := Lib.hid (And.intro hna (And.intro hne hn))
  have d1 : decide ((x : Int) < 0) = false := decide_eq_false (by omega)
  have d2 : decide (y < x) = false := decide_eq_false (by omega)
  have d3 : decide (l.length < y) = false := decide_eq_false (by omega)
  have hxyi : (x : Int) ≤ (y : Int) := by omega
  have hyli : (y : Int) ≤ (l.length : Int) := by omega
  clear hTl hTd hwr hn hna hne hR
  go_enter Tryz.func18, Tryz.ntmps18
  go_upto_region 1 with fail
  have HL0 := Lib.hid (LSt.start w x y)
  obtain ⟨W1, hW1⟩ : ∃ W, ((w.alloc (.cells #[.int .i64 x, .int .i64 y] 32)).alloc (.cells #[.int .i64 0, .int .i64 0, .int .i64 0, .int .i64 0, .int .i64 0, .int .i64 0, .int .i64 0, .int .i64 0, .int .i64 0, .int .i64 0] 42)) = W := ⟨_, rfl⟩
  rw [hW1] at HL0 ⊢
  clear hW1
  obtain ⟨s0, s1⟩ := HL0.out.s.cells
  obtain ⟨b0, b1, b2, b3, b4, b5, b6, b7, b8, b9, h0, h1, h2, h3, h4, h5, h6, h7, h8, h9⟩ := HL0.out.l.cells
  go_wp2_with fail
  go_loop [8] (fun s8 => ∃ k : Nat, s8 = .int .i64 k ∧ k ≤ T.length ∧ Hid (∀ j, j < k → T[j]? ≠ some 10)) (fun s8 => T.length - (RowKit.intOf s8).toNat)
  case atStart => exact ⟨0, rfl, by omega, Lib.hid (fun j hj => by omega)⟩
  case round =>
    obtain ⟨k, rfl, hk, HK⟩ := hrel
    by_cases hlt : k < T.length
    · have hlt' : k < (bs T).size := by omega
      have hb := at_bs T k hlt'
      have T1 := byte_eq ((bs T)[k]'hlt') 10 10 rfl
      obtain ⟨c, hc⟩ : ∃ c, (bs T)[k]'hlt' = c := ⟨_, rfl⟩
      rw [hc] at T1 hb
      have hc2 : (((bs T)[k]'hlt').toNat : Int) = (c.toNat : Int) := by rw [hc]
      obtain ⟨ci, hci⟩ : ∃ ci : Int, (c.toNat : Int) = ci := ⟨_, rfl⟩
      rw [hci] at T1 hc2
      by_cases h10 : c = 10
      · exact absurd (yes10 (by rw [hb, h10])) (by rw [hC1.out]; simp)
      · have HK2 : Hid (∀ j, j < k + 1 → T[j]? ≠ some 10) := Lib.hid (fun j hj => by
          by_cases h : j < k
          · exact HK.out j h
          · obtain rfl : j = k := by omega
            rw [hb]; simpa using h10)
        rw [show (c == 10) = false from beq_eq_false_iff_ne.2 h10] at T1
        clear h10 hb hc hci HK
        go_wp2_with fail
        go_round
        case rel => exact ⟨k + 1, by go_num, by omega, HK2.out⟩
        case measure => simp [RowKit.intOf]; omega
    · have h10 : T.contains 10 = false := no10_all (fun j hj => HK.out j (by omega))
      have HR1 : Hid ((if wr < T.length then (noLine, (x : Int) + wr, 2) else lineG x y n (coreL (T.drop n)) : LineR × Int × Int) = R) := Lib.hid (by
        have := HR.out
        rw [if_neg (by rw [h10]; simp)] at this
        exact this)
      clear h10 HK HR
      by_cases hw : wr < T.length
      · exact absurd hw hC2.out
      · rw [if_neg hw] at HR1
        have dw : decide (wr < T.length) = false := decide_eq_false hw
        have hTx : (bs T).extract n T.length = bs (T.drop n) := bs_from T n _ rfl
        obtain ⟨U, hU⟩ : ∃ U, T.drop n = U := ⟨_, rfl⟩
        have hUl : U.length = T.length - n := by rw [← hU, List.length_drop]
        have hhead : U.head? = T[n]? := by rw [← hU, head_drop]
        rw [hU] at hTx HR1 hC4 hC5
        have wxn : IntKind.i64.wrap ((x : Int) + (n : Int)) = (x : Int) + (n : Int) := by rw [IntKind.wrap_i64]; omega
        have hxn : (x : Int) + (n : Int) ≤ 1073741824 := by omega
        have HTU : Hid (T = List.replicate n 32 ++ U) := Lib.hid (by have := split_sp T; rw [HNA.out.2.2, hU] at this; exact this)
        have HUL := Lib.hid hUl
        clear hw hU hUl
        by_cases hUe : n = T.length
        · exact absurd hUe hC3.out
        · have hnT : n < T.length := by omega
          clear hUe
          go_wp2_with (go_at_call 33; (with_reducible refine (CG.out _).mono ?_); rintro e w' ⟨rfl, rfl⟩)
          clear CG
          go_loop [9] (fun s9 => ∃ k2 : Nat, s9 = .int .i64 k2 ∧ k2 ≤ n) (fun s9 => T.length - (RowKit.intOf s9).toNat)
          case atStart => exact ⟨0, rfl, by omega⟩
          case round =>
            obtain ⟨k2, rfl, hk2⟩ := hrel
            by_cases hlt2 : k2 < n
            · have hlt2' : k2 < (bs T).size := by omega
              have hb := at_bs T k2 hlt2'
              rw [HNA.out.1 k2 hlt2] at hb
              have T2 : ((((bs T)[k2]'hlt2').toNat : Int) == 32) = true := by rw [byte_eq _ 32 32 rfl, ← Option.some.inj hb]; rfl
              clear hb
              go_wp2_with fail
              go_round
              case rel => exact ⟨k2 + 1, by go_num, by omega⟩
              case measure => simp [RowKit.intOf]; omega
            · obtain rfl : n = k2 := by omega
              have hn' : n < (bs T).size := by omega
              have hbn := at_bs T n hn'
              have T32 := byte_some ((bs T)[n]'hn') 32 32 rfl
              have T35 := byte_some ((bs T)[n]'hn') 35 35 rfl
              have T34 := byte_some ((bs T)[n]'hn') 34 34 rfl
              have T39 := byte_some ((bs T)[n]'hn') 39 39 rfl
              rw [← hbn] at T32
              rw [← hbn, ← hhead] at T35 T34 T39
              rw [show (T[n]? == some 32) = false from beq_eq_false_iff_ne.2 HNA.out.2.1] at T32
              obtain ⟨cc, hcc⟩ : ∃ cc : Int, (((bs T)[n]'hn').toNat : Int) = cc := ⟨_, rfl⟩
              rw [hcc] at T32 T35 T34 T39
              clear hbn hhead
              go_upto_region 14 with fail
              go_cut [10] (fun s10 wx => ∃ X, s10 = .pointer (some ⟨X, 0, none⟩) ∧ w.heap.size + 2 ≤ X ∧ Hid (LSt w x y noLine wx ∧ LineBox wx X ⟨1, x, y, n, 0, 0, 0, 0, 0, 0⟩))
              case first =>
                go_wp2_with fail
                go_meet
                exact ⟨W1.heap.size, rfl, HL0.out.z, HL0.out.keep (below_alloc1 _ _), heap_alloc_new W1 _⟩
              clear s0 s1 b0 b1 b2 b3 b4 b5 b6 b7 b8 b9 h0 h1 h2 h3 h4 h5 h6 h7 h8 h9
              obtain ⟨X, rfl, hX, HS⟩ := hcut
              obtain ⟨s0, s1⟩ := HS.out.1.s.cells
              obtain ⟨a0, a1, a2, a3, a4, a5, a6, a7, a8, a9, g0, g1, g2, g3, g4, g5, g6, g7, g8, g9⟩ := HS.out.2.cells
              obtain ⟨b0, b1, b2, b3, b4, b5, b6, b7, b8, b9, h0, h1, h2, h3, h4, h5, h6, h7, h8, h9⟩ := HS.out.1.l.cells
              go_upto_region 16 with fail
              go_cut [] (fun wx => Hid (LSt w x y noLine wx ∧ LineBox wx X ⟨1, x, y, n, 0, 0, x + n, x + n, 0, 0⟩))
              case first =>
                go_wp2_with fail
                go_meet
                exact ⟨(HS.out.1.set hX 6 _).set hX 7 _, blk_set (blk_set HS.out.2 6 _) 7 _⟩
              clear s0 s1 a0 a1 a2 a3 a4 a5 a6 a7 a8 a9 g0 g1 g2 g3 g4 g5 g6 g7 g8 g9 b0 b1 b2 b3 b4 b5 b6 b7 b8 b9 h0 h1 h2 h3 h4 h5 h6 h7 h8 h9
              have HS := hcut
              obtain ⟨s0, s1⟩ := HS.out.1.s.cells
              obtain ⟨a0, a1, a2, a3, a4, a5, a6, a7, a8, a9, g0, g1, g2, g3, g4, g5, g6, g7, g8, g9⟩ := HS.out.2.cells
              obtain ⟨b0, b1, b2, b3, b4, b5, b6, b7, b8, b9, h0, h1, h2, h3, h4, h5, h6, h7, h8, h9⟩ := HS.out.1.l.cells
              have hUne : U ≠ [] := by intro e; have := HUL.out; rw [e] at this; simp at this; omega
              have hcore : coreL U = if U.head? = some 35 then some ⟨2, 0, 0, 0, some 0⟩ else if (U.head? = some 34 ∨ U.head? = some 39) ∧ qdL U = 0 then none else some (restL U (headL U) (behindL U (fromL (headL U))) (noteL U (behindL U (fromL (headL U)) + qdL (U.drop (behindL U (fromL (headL U))))))) := by unfold coreL; rw [if_neg hUne]
              have tnT : ((n : Int) == (T.length : Int)) = false := beq_eq_false_iff_ne.2 (by omega)
              by_cases h35 : U.head? = some 35
              · exact absurd h35 hC4.out
              · rw [if_neg h35] at hcore
                rw [show (U.head? == some 35) = false from beq_eq_false_iff_ne.2 h35] at T35
                have hUb : U.length ≤ 1073741824 := by have := HUL.out; omega
                have CQ := Lib.hid (fun w => refEnds_any U w hUb)
                by_cases hbq : (U.head? = some 34 ∨ U.head? = some 39) ∧ qdL U = 0
                · rw [if_pos hbq] at hcore
                  have HC := Lib.hid hcore
                  have hq2 : cc = 34 ∨ ((cc == 34) = false ∧ cc = 39) := by
                    by_cases hc34 : cc = 34
                    · exact .inl hc34
                    · right
                      have t34 : (cc == 34) = false := beq_eq_false_iff_ne.2 hc34
                      refine ⟨t34, ?_⟩
                      rcases hbq.1 with h | h
                      · rw [t34, h] at T34; cases T34
                      · rw [h] at T39; exact beq_iff_eq.1 (by rw [T39]; rfl)
                  rw [hbq.2] at CQ
                  clear hcore h35 hUne hbq T34 T39 T35 T32
                  rcases hq2 with rfl | ⟨t34, rfl⟩
                  all_goals
                    go_wp2_with fail
                    with_reducible refine (CQ.out _).mono ?_
                    rintro e w3 ⟨rfl, hb3⟩
                    have HS3 := Lib.hid (And.intro (HS.out.1.keep hb3) (HS.out.2.keep hb3)); clear hb3
                    clear s0 s1 a0 a1 a2 a3 a4 a5 a6 a7 a8 a9 g0 g1 g2 g3 g4 g5 g6 g7 g8 g9 b0 b1 b2 b3 b4 b5 b6 b7 b8 b9 h0 h1 h2 h3 h4 h5 h6 h7 h8 h9
                    obtain ⟨s0, s1⟩ := HS3.out.1.s.cells
                    obtain ⟨a0, a1, a2, a3, a4, a5, a6, a7, a8, a9, g0, g1, g2, g3, g4, g5, g6, g7, g8, g9⟩ := HS3.out.2.cells
                    obtain ⟨b0, b1, b2, b3, b4, b5, b6, b7, b8, b9, h0, h1, h2, h3, h4, h5, h6, h7, h8, h9⟩ := HS3.out.1.l.cells
                    go_wp2_with fail
                    obtain ⟨WF, hWF⟩ : ∃ W, (putR w3 (w.heap.size + 1) noLine) = W := ⟨_, rfl⟩
                    have HF := (LSt.put (r2 := noLine) HS3.out.1)
                    rw [hWF] at HF
                    have HF2 := Lib.hid HF; clear HF
                    dsimp only [putR, noLine] at hWF
                    rw [hWF]
                    clear hWF
                    clear s0 s1 a0 a1 a2 a3 a4 a5 a6 a7 a8 a9 g0 g1 g2 g3 g4 g5 g6 g7 g8 g9 b0 b1 b2 b3 b4 b5 b6 b7 b8 b9 h0 h1 h2 h3 h4 h5 h6 h7 h8 h9
                    obtain ⟨c0, c1, c2, c3, c4, c5, c6, c7, c8, c9, _⟩ := HF2.out.l.cells
                    go_wp2_with fail
                    refine bodyPost_ret (v := .tuple #[lineV noLine, .int .i64 ((x : Int) + (n : Int)), .int .i64 2]) ?_ rfl ⟨by rw [← HR1.out, HC.out]; rfl, HF2.out.b⟩
                    simp [results, Tryz.results18, go_sem, lineV, noLine, c0, c1, c2, c3, c4, c5, c6, c7, c8, c9]
                · exact absurd hC5.out hbq
end Go.Proofs.YtbbjgdnbekoaeaaGreatDoor
