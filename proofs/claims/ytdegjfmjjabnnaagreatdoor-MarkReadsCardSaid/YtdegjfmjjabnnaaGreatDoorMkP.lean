import Derived.Test.YtdegjfmjjabnnaaGreatDoorMkO
/-! The walk of mark.hunk. -/
namespace Go.Proofs.YtdegjfmjjabnnaaGreatDoor
set_option linter.unusedSimpArgs false
set_option linter.unusedVariables false
open Go.RowKit
open Go.Lib hiding intOf

theorem part0 {W : World} {X : Nat} {x : Part} (h : PCells W X 0 x) : W.cell? ⟨X, 0, none⟩ = some (.bool x.hunk) ∧ W.cell? ⟨X, 1, none⟩ = some (.string (bs x.text)) ∧ W.cell? ⟨X, 2, none⟩ = some (.string (bs x.s0)) ∧ W.cell? ⟨X, 3, none⟩ = some (.string (bs x.s1)) ∧ W.cell? ⟨X, 4, none⟩ = some (.string (bs x.s2)) := by
  obtain ⟨d0, d1, d2, d3, d4⟩ := h
  simp only [Nat.zero_add] at d1 d2 d3 d4
  exact ⟨d0, d1, d2, d3, d4⟩
theorem ixo0 (w : World) : (Instr.index 72 (.agg #[.int .i64 1, .int .i64 0, .int .i64 2]) (.int .i64 0)).run Tryz.prog w = .ok (.int .i64 1) w := by
  have u := Tryz.underlying72
  have a := Tryz.isAgg3
  have z := Tryz.sizeOf3
  simp [Instr.index, run_underlying u, asIntOf, go_sem]
theorem ixo1 (w : World) : (Instr.index 72 (.agg #[.int .i64 1, .int .i64 0, .int .i64 2]) (.int .i64 1)).run Tryz.prog w = .ok (.int .i64 0) w := by
  have u := Tryz.underlying72
  have a := Tryz.isAgg3
  have z := Tryz.sizeOf3
  simp [Instr.index, run_underlying u, asIntOf, go_sem]
theorem ixo2 (w : World) : (Instr.index 72 (.agg #[.int .i64 1, .int .i64 0, .int .i64 2]) (.int .i64 2)).run Tryz.prog w = .ok (.int .i64 2) w := by
  have u := Tryz.underlying72
  have a := Tryz.isAgg3
  have z := Tryz.sizeOf3
  simp [Instr.index, run_underlying u, asIntOf, go_sem]
attribute [local go_sem] ixo0 ixo1 ixo2
set_option maxRecDepth 100000 in
set_option maxHeartbeats 8000000 in
theorem hunk_any (x : Part) (n : Nat) (w : World) (hn : n ≤ 1073741826) (z0 : x.s0.length ≤ 1073741824) (z1 : x.s1.length ≤ 1073741824) (z2 : x.s2.length ≤ 1073741824) :
    Calls Tryz.prog 26 #[partV x, linesV n] w fun e w' => e = .returned (.string (bs (hunkL n x))) ∧ Below w.heap.size w w' := by
  have hlm := fun c : UInt8 => bs_size (mark c n)
  simp only [mark_len] at hlm
  have l0 := hlm 60; have l1 := hlm 124; have l2 := hlm 61; have l3 := hlm 62
  have t0 := bs_size x.s0; have t1 := bs_size x.s1; have t2 := bs_size x.s2
  have hB : Below w.heap.size w ((w.alloc (.cells #[.bool x.hunk, .string (bs x.text), .string (bs x.s0), .string (bs x.s1), .string (bs x.s2)] 30)).alloc (.cells #[.string (bs (mark 60 n)), .string (bs (mark 124 n)), .string (bs (mark 61 n)), .string (bs (mark 62 n))] 39)) := ((Below.refl _ w).alloc (Nat.le_refl _) _).alloc (by simp) _
  have hP := (partBox w x 30).keep (below_alloc1 _ (.cells #[.string (bs (mark 60 n)), .string (bs (mark 124 n)), .string (bs (mark 61 n)), .string (bs (mark 62 n))] 39)) (by simp)
  have hM : Box4 ((w.alloc (.cells #[.bool x.hunk, .string (bs x.text), .string (bs x.s0), .string (bs x.s1), .string (bs x.s2)] 30)).alloc (.cells #[.string (bs (mark 60 n)), .string (bs (mark 124 n)), .string (bs (mark 61 n)), .string (bs (mark 62 n))] 39)) (w.heap.size + 1) (bs (mark 60 n)) (bs (mark 124 n)) (bs (mark 61 n)) (bs (mark 62 n)) := by
    have := heap_alloc_new (w.alloc (.cells #[.bool x.hunk, .string (bs x.text), .string (bs x.s0), .string (bs x.s1), .string (bs x.s2)] 30)) (.cells #[.string (bs (mark 60 n)), .string (bs (mark 124 n)), .string (bs (mark 61 n)), .string (bs (mark 62 n))] 39)
    rw [World.size_alloc] at this
    exact this
  have hz : w.heap.size + 1 < ((w.alloc (.cells #[.bool x.hunk, .string (bs x.text), .string (bs x.s0), .string (bs x.s1), .string (bs x.s2)] 30)).alloc (.cells #[.string (bs (mark 60 n)), .string (bs (mark 124 n)), .string (bs (mark 61 n)), .string (bs (mark 62 n))] 39)).heap.size := by simp
  have HH : Hid (bs (mark 60 n) ++ (bs x.s1 ++ bs (mark 124 n)) ++ (bs x.s0 ++ bs (mark 61 n)) ++ (bs x.s2 ++ bs (mark 62 n)) = bs (hunkL n x)) := Lib.hid (by
    simp only [bs_append]
    unfold hunkL
    simp only [List.append_assoc])
  unfold partV linesV
  go_enter Tryz.func26, Tryz.ntmps26
  go_upto_region 1 with fail
  obtain ⟨W0, hW0⟩ : ∃ W, (w.alloc (.cells #[.bool x.hunk, .string (bs x.text), .string (bs x.s0), .string (bs x.s1), .string (bs x.s2)] 30)).alloc (.cells #[.string (bs (mark 60 n)), .string (bs (mark 124 n)), .string (bs (mark 61 n)), .string (bs (mark 62 n))] 39) = W := ⟨_, rfl⟩
  rw [hW0] at hB hP hM hz ⊢
  have HI := Lib.hid (And.intro hB (And.intro (part0 hP) (And.intro hM hz)))
  obtain ⟨⟨c0, c1, c2, c3⟩, _⟩ := hM.cells
  clear hW0 hB hP hM hlm
  go_wp2_with (go_at_call 33; (with_reducible refine (order_any _).mono ?_); rintro e w1 ⟨rfl, hb⟩)
  have HK := Lib.hid (And.intro (below_of_new HI.out.1 hb) hb)
  obtain ⟨⟨c0, c1, c2, c3⟩, _⟩ := (HI.out.2.2.1.keep hb).cells
  obtain ⟨p0, p1, p2, p3, p4⟩ := HI.out.2.1
  have hbc := (bcell hb).1
  have p2 := (hbc w.heap.size 2 (by have := HI.out.2.2.2; omega)).trans p2
  have p3 := (hbc w.heap.size 3 (by have := HI.out.2.2.2; omega)).trans p3
  have p4 := (hbc w.heap.size 4 (by have := HI.out.2.2.2; omega)).trans p4
  clear p0 p1 hbc hb
  refine wp_loop_rounds 4 ?_
  rw [rounds_succ]
  go_wp2_with fail
  go_quiet (fail)
  go_wp2_with fail
  rw [rounds_succ]
  go_wp2_with fail
  go_quiet (fail)
  go_wp2_with fail
  rw [rounds_succ]
  go_wp2_with fail
  go_quiet (fail)
  go_wp2_with fail
  rw [rounds_succ]
  go_wp2_with fail
  go_ret
  exact ⟨ret_eq (by rw [HH.out]; rfl), below_drewN HK.out.1 _⟩
end Go.Proofs.YtdegjfmjjabnnaaGreatDoor
