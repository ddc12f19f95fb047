import Derived.Test.YtdegjfmjjabnnaaGreatDoorMkU
/-! The walk of mark.take. -/
namespace Go.Proofs.YtdegjfmjjabnnaaGreatDoor
set_option linter.unusedSimpArgs false
set_option linter.unusedVariables false
open Go.RowKit
open Go.Lib hiding intOf

theorem ixq0 (w : World) : (Instr.index 72 (.agg #[.int .i64 1, .int .i64 0, .int .i64 2]) (.int .i64 0)).run Tryz.prog w = .ok (.int .i64 1) w := ixo0 w
theorem ixq1 (w : World) : (Instr.index 72 (.agg #[.int .i64 1, .int .i64 0, .int .i64 2]) (.int .i64 1)).run Tryz.prog w = .ok (.int .i64 0) w := ixo1 w
theorem ixq2 (w : World) : (Instr.index 72 (.agg #[.int .i64 1, .int .i64 0, .int .i64 2]) (.int .i64 2)).run Tryz.prog w = .ok (.int .i64 2) w := ixo2 w
attribute [local go_sem] ixq0 ixq1 ixq2
theorem PBox.setH {W : World} {L : Nat} {y : Part} (h : PBox W L y) (b : Bool) : PBox (W.setCell ⟨L, 0, none⟩ (.bool b)) L { y with hunk := b } := by unfold PBox at h ⊢; simp [World.setCell, Array.getElem?_modify, h]
theorem PBox.set2 {W : World} {L : Nat} {y : Part} (h : PBox W L y) (a : List UInt8) : PBox (W.setCell ⟨L, 2, none⟩ (.string (bs a))) L { y with s0 := a } := by unfold PBox at h ⊢; simp [World.setCell, Array.getElem?_modify, h]
theorem PBox.set3 {W : World} {L : Nat} {y : Part} (h : PBox W L y) (a : List UInt8) : PBox (W.setCell ⟨L, 3, none⟩ (.string (bs a))) L { y with s1 := a } := by unfold PBox at h ⊢; simp [World.setCell, Array.getElem?_modify, h]
theorem PBox.set4 {W : World} {L : Nat} {y : Part} (h : PBox W L y) (a : List UInt8) : PBox (W.setCell ⟨L, 4, none⟩ (.string (bs a))) L { y with s2 := a } := by unfold PBox at h ⊢; simp [World.setCell, Array.getElem?_modify, h]
/-- While a hunk is taken. -/
def TkJ (w : World) (n : Nat) (y : Part) (W : World) : Prop := PBox W (w.heap.size + 1) y ∧ Box4 W w.heap.size (bs (mark 60 n)) (bs (mark 124 n)) (bs (mark 61 n)) (bs (mark 62 n)) ∧ Below w.heap.size w W
theorem TkJ.box {w W : World} {n : Nat} {y : Part} (h : TkJ w n y W) : PBox W (w.heap.size + 1) y := h.1
theorem TkJ.mk4 {w W : World} {n : Nat} {y : Part} (h : TkJ w n y W) : Box4 W w.heap.size (bs (mark 60 n)) (bs (mark 124 n)) (bs (mark 61 n)) (bs (mark 62 n)) := h.2.1
theorem TkJ.bel {w W : World} {n : Nat} {y : Part} (h : TkJ w n y W) : Below w.heap.size w W := h.2.2
theorem TkJ.keep {w W W' : World} {n : Nat} {y : Part} (h : TkJ w n y W) (hb : Below W.heap.size W W') : TkJ w n y W' := ⟨h.1.keep hb, h.2.1.keep hb, below_of_new h.2.2 hb⟩
theorem TkJ.step {w W W' : World} {n : Nat} {y z : Part} (h : TkJ w n y W) (k : Nat) (u : Value) (hW : W.setCell ⟨w.heap.size + 1, k, none⟩ u = W') (hz : PBox W' (w.heap.size + 1) z) : TkJ w n z W' := by
  subst hW
  exact ⟨hz, h.2.1.other (by omega) _ _, h.2.2.setCell (p := ⟨w.heap.size + 1, k, none⟩) (Nat.le_succ _) _⟩
theorem cut_len (s sep : List UInt8) : (cut s sep).1.length ≤ s.length ∧ (cut s sep).2.1.length ≤ s.length := by
  cases h : (cut s sep).2.2 with
  | true => have := cut_lt s sep h; omega
  | false => rw [cut_miss s sep h]; simp
/-- How take ends. -/
def TakeE (s : List UInt8) (n : Nat) (e : Ending) : Prop :=
  ((cut s (mark 124 n)).2.2 = true ∧ (cut (cut s (mark 124 n)).2.1 (mark 61 n)).2.2 = true ∧ (cut (cut (cut s (mark 124 n)).2.1 (mark 61 n)).2.1 (mark 62 n)).2.2 = true ∧
    e = .returned (.tuple #[partV ⟨true, [], (cut (cut s (mark 124 n)).2.1 (mark 61 n)).1, (cut s (mark 124 n)).1, (cut (cut (cut s (mark 124 n)).2.1 (mark 61 n)).2.1 (mark 62 n)).1⟩, .string (bs (cut (cut (cut s (mark 124 n)).2.1 (mark 61 n)).2.1 (mark 62 n)).2.1), .bool true])) ∨
  (((cut s (mark 124 n)).2.2 = false ∨ (cut (cut s (mark 124 n)).2.1 (mark 61 n)).2.2 = false ∨ (cut (cut (cut s (mark 124 n)).2.1 (mark 61 n)).2.1 (mark 62 n)).2.2 = false) ∧ ∃ y r, e = .returned (.tuple #[partV y, .string (bs r), .bool false]))
set_option maxRecDepth 100000 in
set_option maxHeartbeats 8000000 in
theorem take_any (s : List UInt8) (n : Nat) (w : World) (hs : s.length ≤ 1073741824) (hM : MVar w) :
    Calls Tryz.prog 14 #[.string (bs s), linesV n] w fun e w' => TakeE s n e ∧ Below w.heap.size w w' := by
  obtain ⟨q1, q2⟩ := cut_len s (mark 124 n)
  have C1 := Lib.hid (fun w hM => cut_any s (mark 124 n) w hs hM)
  obtain ⟨c1, h1⟩ : ∃ c, cut s (mark 124 n) = c := ⟨_, rfl⟩
  have HT : Hid (∀ e, TakeE s n e ↔ TakeE s n e) := Lib.hid (fun e => Iff.rfl)
  rw [h1] at C1 q1 q2
  obtain ⟨a1, r1, b1⟩ := c1
  simp only [] at C1 q1 q2
  obtain ⟨q3, q4⟩ := cut_len r1 (mark 61 n)
  have C2 := Lib.hid (fun w hM => cut_any r1 (mark 61 n) w (by omega) hM)
  obtain ⟨c2, h2⟩ : ∃ c, cut r1 (mark 61 n) = c := ⟨_, rfl⟩
  rw [h2] at C2 q3 q4
  obtain ⟨a2, r2, b2⟩ := c2
  simp only [] at C2 q3 q4
  have C3 := Lib.hid (fun w hM => cut_any r2 (mark 62 n) w (by omega) hM)
  obtain ⟨c3, h3⟩ : ∃ c, cut r2 (mark 62 n) = c := ⟨_, rfl⟩
  rw [h3] at C3
  obtain ⟨a3, r3, b3⟩ := c3
  simp only [] at C3
  have HE : Hid (∀ e, TakeE s n e ↔ ((b1 = true ∧ b2 = true ∧ b3 = true ∧ e = .returned (.tuple #[partV ⟨true, [], a2, a1, a3⟩, .string (bs r3), .bool true])) ∨ ((b1 = false ∨ b2 = false ∨ b3 = false) ∧ ∃ y r, e = .returned (.tuple #[partV y, .string (bs r), .bool false])))) := Lib.hid (fun e => by
    unfold TakeE
    rw [h1]; simp only []
    rw [h2]; simp only []
    rw [h3])
  have HM := Lib.hid hM
  have J0 : TkJ w n ⟨false, [], [], [], []⟩ ((w.alloc (.cells #[.string (bs (mark 60 n)), .string (bs (mark 124 n)), .string (bs (mark 61 n)), .string (bs (mark 62 n))] 39)).alloc (.cells #[.bool false, .string ⟨#[]⟩, .string ⟨#[]⟩, .string ⟨#[]⟩, .string ⟨#[]⟩] 30)) := by
    refine ⟨?_, (Below.heap_alloc _ _ _ (by simp)).trans (heap_alloc_new w _), ((Below.refl _ w).alloc (Nat.le_refl _) _).alloc (by simp) _⟩
    have := PBox.new (w.alloc (.cells #[.string (bs (mark 60 n)), .string (bs (mark 124 n)), .string (bs (mark 61 n)), .string (bs (mark 62 n))] 39)) ⟨false, [], [], [], []⟩
    rw [World.size_alloc] at this
    exact this
  unfold linesV
  go_enter Tryz.func14, Tryz.ntmps14
  go_upto_region 1 with fail
  obtain ⟨W0, hW0⟩ : ∃ W, ((w.alloc (.cells #[.string (bs (mark 60 n)), .string (bs (mark 124 n)), .string (bs (mark 61 n)), .string (bs (mark 62 n))] 39)).alloc (.cells #[.bool false, .string ⟨#[]⟩, .string ⟨#[]⟩, .string ⟨#[]⟩, .string ⟨#[]⟩] 30)) = W := ⟨_, rfl⟩
  rw [hW0] at J0 ⊢
  have HJ0 := Lib.hid J0
  obtain ⟨⟨x0, x1, x2, x3, x4⟩, ⟨f0, f1, f2, f3, f4⟩⟩ := J0.box.cells
  clear hW0 J0
  go_upto_region 2 with fail
  obtain ⟨W1, hW1⟩ : ∃ W, W0.setCell ⟨w.heap.size + 1, 0, none⟩ (.bool true) = W := ⟨_, rfl⟩
  have HJ1 : Hid (TkJ w n ⟨true, [], [], [], []⟩ W1) := Lib.hid (HJ0.out.step 0 _ hW1 (by rw [← hW1]; exact HJ0.out.box.setH true))
  rw [hW1]
  clear hW1 x0 x1 x2 x3 x4 f0 f1 f2 f3 f4 HJ0
  go_wp2_with (go_at_call 33; (with_reducible refine (order_any _).mono ?_); rintro e w1 ⟨rfl, hb⟩; have HJ2 := Lib.hid (HJ1.out.keep hb); clear hb HJ1)
  refine wp_loop_rounds 4 ?_
  cases b1 with
  | false =>
    rw [rounds_succ]
    obtain ⟨⟨m0, m1, m2, m3⟩, _⟩ := HJ2.out.mk4.cells
    go_wp2_with (go_at_call 13; (with_reducible refine (C1.out _ (HM.out.keep HJ2.out.bel)).mono ?_); rintro e v0 ⟨rfl, hb⟩; have K0 := Lib.hid (HJ2.out.keep hb); clear hb; obtain ⟨⟨x0, x1, x2, x3, x4⟩, ⟨f0, f1, f2, f3, f4⟩⟩ := K0.out.box.cells)
    obtain ⟨U0, hU⟩ : ∃ W, v0.setCell ⟨w.heap.size + 1, 3, none⟩ (.string (bs a1)) = W := ⟨_, rfl⟩
    have N0 : Hid (TkJ w n ⟨true, [], [], a1, []⟩ U0) := Lib.hid (K0.out.step 3 _ hU (by rw [← hU]; exact K0.out.box.set3 a1))
    rw [hU]
    obtain ⟨⟨z0, z1, z2, z3, z4⟩, _⟩ := (N0.out.box.put ⟨true, [], [], a1, []⟩).cells
    unfold putP at z0 z1 z2 z3 z4
    refine bodyPost_ret (v := .tuple #[partV ⟨true, [], [], a1, []⟩, .string (bs r1), .bool false]) ?_ rfl ⟨(HE.out _).2 (.inr ⟨by simp, ⟨true, [], [], a1, []⟩, r1, rfl⟩), below_putP (y := ⟨true, [], [], a1, []⟩) N0.out.bel (Nat.le_succ _)⟩
    simp [results, Tryz.results14, go_sem, partV, z0, z1, z2, z3, z4]
  | true =>
    rw [rounds_succ]
    obtain ⟨⟨m0, m1, m2, m3⟩, _⟩ := HJ2.out.mk4.cells
    go_wp2_with (go_at_call 13; (with_reducible refine (C1.out _ (HM.out.keep HJ2.out.bel)).mono ?_); rintro e v0 ⟨rfl, hb⟩; have K0 := Lib.hid (HJ2.out.keep hb); clear hb; obtain ⟨⟨x0, x1, x2, x3, x4⟩, ⟨f0, f1, f2, f3, f4⟩⟩ := K0.out.box.cells)
    obtain ⟨U0, hU⟩ : ∃ W, v0.setCell ⟨w.heap.size + 1, 3, none⟩ (.string (bs a1)) = W := ⟨_, rfl⟩
    have N0 : Hid (TkJ w n ⟨true, [], [], a1, []⟩ U0) := Lib.hid (K0.out.step 3 _ hU (by rw [← hU]; exact K0.out.box.set3 a1))
    rw [hU]
    clear hU m0 m1 m2 m3 x0 x1 x2 x3 x4 f0 f1 f2 f3 f4 K0 HJ2
    cases b2 with
    | false =>
      rw [rounds_succ]
      obtain ⟨⟨m0, m1, m2, m3⟩, _⟩ := N0.out.mk4.cells
      go_wp2_with (go_at_call 13; (with_reducible refine (C2.out _ (HM.out.keep N0.out.bel)).mono ?_); rintro e v1 ⟨rfl, hb⟩; have K1 := Lib.hid (N0.out.keep hb); clear hb; obtain ⟨⟨x0, x1, x2, x3, x4⟩, ⟨f0, f1, f2, f3, f4⟩⟩ := K1.out.box.cells)
      obtain ⟨U1, hU⟩ : ∃ W, v1.setCell ⟨w.heap.size + 1, 2, none⟩ (.string (bs a2)) = W := ⟨_, rfl⟩
      have N1 : Hid (TkJ w n ⟨true, [], a2, a1, []⟩ U1) := Lib.hid (K1.out.step 2 _ hU (by rw [← hU]; exact K1.out.box.set2 a2))
      rw [hU]
      obtain ⟨⟨z0, z1, z2, z3, z4⟩, _⟩ := (N1.out.box.put ⟨true, [], a2, a1, []⟩).cells
      unfold putP at z0 z1 z2 z3 z4
      refine bodyPost_ret (v := .tuple #[partV ⟨true, [], a2, a1, []⟩, .string (bs r2), .bool false]) ?_ rfl ⟨(HE.out _).2 (.inr ⟨by simp, ⟨true, [], a2, a1, []⟩, r2, rfl⟩), below_putP (y := ⟨true, [], a2, a1, []⟩) N1.out.bel (Nat.le_succ _)⟩
      simp [results, Tryz.results14, go_sem, partV, z0, z1, z2, z3, z4]
    | true =>
      rw [rounds_succ]
      obtain ⟨⟨m0, m1, m2, m3⟩, _⟩ := N0.out.mk4.cells
      go_wp2_with (go_at_call 13; (with_reducible refine (C2.out _ (HM.out.keep N0.out.bel)).mono ?_); rintro e v1 ⟨rfl, hb⟩; have K1 := Lib.hid (N0.out.keep hb); clear hb; obtain ⟨⟨x0, x1, x2, x3, x4⟩, ⟨f0, f1, f2, f3, f4⟩⟩ := K1.out.box.cells)
      obtain ⟨U1, hU⟩ : ∃ W, v1.setCell ⟨w.heap.size + 1, 2, none⟩ (.string (bs a2)) = W := ⟨_, rfl⟩
      have N1 : Hid (TkJ w n ⟨true, [], a2, a1, []⟩ U1) := Lib.hid (K1.out.step 2 _ hU (by rw [← hU]; exact K1.out.box.set2 a2))
      rw [hU]
      clear hU m0 m1 m2 m3 x0 x1 x2 x3 x4 f0 f1 f2 f3 f4 K1 N0
      cases b3 with
      | false =>
        rw [rounds_succ]
        obtain ⟨⟨m0, m1, m2, m3⟩, _⟩ := N1.out.mk4.cells
        go_wp2_with (go_at_call 13; (with_reducible refine (C3.out _ (HM.out.keep N1.out.bel)).mono ?_); rintro e v2 ⟨rfl, hb⟩; have K2 := Lib.hid (N1.out.keep hb); clear hb; obtain ⟨⟨x0, x1, x2, x3, x4⟩, ⟨f0, f1, f2, f3, f4⟩⟩ := K2.out.box.cells)
        obtain ⟨U2, hU⟩ : ∃ W, v2.setCell ⟨w.heap.size + 1, 4, none⟩ (.string (bs a3)) = W := ⟨_, rfl⟩
        have N2 : Hid (TkJ w n ⟨true, [], a2, a1, a3⟩ U2) := Lib.hid (K2.out.step 4 _ hU (by rw [← hU]; exact K2.out.box.set4 a3))
        rw [hU]
        obtain ⟨⟨z0, z1, z2, z3, z4⟩, _⟩ := (N2.out.box.put ⟨true, [], a2, a1, a3⟩).cells
        unfold putP at z0 z1 z2 z3 z4
        refine bodyPost_ret (v := .tuple #[partV ⟨true, [], a2, a1, a3⟩, .string (bs r3), .bool false]) ?_ rfl ⟨(HE.out _).2 (.inr ⟨by simp, ⟨true, [], a2, a1, a3⟩, r3, rfl⟩), below_putP (y := ⟨true, [], a2, a1, a3⟩) N2.out.bel (Nat.le_succ _)⟩
        simp [results, Tryz.results14, go_sem, partV, z0, z1, z2, z3, z4]
      | true =>
        rw [rounds_succ]
        obtain ⟨⟨m0, m1, m2, m3⟩, _⟩ := N1.out.mk4.cells
        go_wp2_with (go_at_call 13; (with_reducible refine (C3.out _ (HM.out.keep N1.out.bel)).mono ?_); rintro e v2 ⟨rfl, hb⟩; have K2 := Lib.hid (N1.out.keep hb); clear hb; obtain ⟨⟨x0, x1, x2, x3, x4⟩, ⟨f0, f1, f2, f3, f4⟩⟩ := K2.out.box.cells)
        obtain ⟨U2, hU⟩ : ∃ W, v2.setCell ⟨w.heap.size + 1, 4, none⟩ (.string (bs a3)) = W := ⟨_, rfl⟩
        have N2 : Hid (TkJ w n ⟨true, [], a2, a1, a3⟩ U2) := Lib.hid (K2.out.step 4 _ hU (by rw [← hU]; exact K2.out.box.set4 a3))
        rw [hU]
        clear hU m0 m1 m2 m3 x0 x1 x2 x3 x4 f0 f1 f2 f3 f4 K2 N1
        rw [rounds_succ]
        obtain ⟨⟨x0, x1, x2, x3, x4⟩, ⟨f0, f1, f2, f3, f4⟩⟩ := N2.out.box.cells
        go_wp2_with fail
        obtain ⟨⟨z0, z1, z2, z3, z4⟩, _⟩ := (N2.out.box.put ⟨true, [], a2, a1, a3⟩).cells
        unfold putP at z0 z1 z2 z3 z4
        refine bodyPost_ret (v := .tuple #[partV ⟨true, [], a2, a1, a3⟩, .string (bs r3), .bool true]) ?_ rfl ⟨(HE.out _).2 (.inl ⟨trivial, trivial, trivial, rfl⟩), below_putP (y := ⟨true, [], a2, a1, a3⟩) N2.out.bel (Nat.le_succ _)⟩
        simp [results, Tryz.results14, go_sem, partV, z0, z1, z2, z3, z4]
end Go.Proofs.YtdegjfmjjabnnaaGreatDoor
