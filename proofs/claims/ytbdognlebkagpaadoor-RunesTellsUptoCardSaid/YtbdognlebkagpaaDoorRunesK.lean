import Derived.Test.YtbdognlebkagpaaDoorRunesJ
namespace Go.Proofs.YtbdognlebkagpaaDoor
open Go.RowKit
open Go.Lib hiding intOf

/-! runes.At. -/
set_option maxHeartbeats 2000000 in
theorem at_any (s : ByteArray) (line col : Int) (w : World) (hs : s.size ≤ 4294967000) :
    Calls Tryd.prog 11 #[.string s, .int .i64 line, .int .i64 col] w fun e w' => e = .returned (.tuple #[.int .i64 (atRes s line col).1, .bool (atRes s line col).2]) ∧ Below w.heap.size w w' := by
  have hll := linesOf_len s
  by_cases hbad : line < 1 ∨ ((linesOf s).length : Int) < line ∨ col < 1
  · rw [atRes_bad hbad]
    have hb2 : ¬ line < 1 → ((linesOf s).length : Int) < line ∨ col < 1 := fun _ => by omega
    by_cases h1 : line < 1
    all_goals by_cases h2 : ((linesOf s).length : Int) < line
    all_goals
      first | (have h3 : col < 1 := by omega) | skip
      clear hb2 hbad
      go_enter Tryd.func11, Tryd.ntmps11
      go_wp2_with (go_at_call 13; go_must (refine (lines_open s _ hs).mono ?_); rintro e w1 ⟨g, cap, rfl, hBg, hgs, hcell, hb1⟩)
      all_goals go_ret2
      all_goals exact ⟨rfl, hb1⟩
  · obtain ⟨L, hL⟩ : ∃ L : Nat, line = (L : Int) + 1 := ⟨(line - 1).toNat, by omega⟩
    obtain ⟨C, hC⟩ : ∃ C : Nat, col = (C : Int) + 1 := ⟨(col - 1).toNat, by omega⟩
    subst hL hC
    have hLl : L < (linesOf s).length := by omega
    obtain ⟨a, b, hab⟩ : ∃ a b, (linesOf s)[L]? = some (a, b) := ⟨_, _, List.getElem?_eq_getElem hLl⟩
    obtain ⟨hab1, hab2, hE⟩ := linesOf_ends s L a b hab
    have hRz : (s.extract a b).size + a = b := by rw [ByteArray.size_extract]; omega
    obtain ⟨R, hR⟩ : ∃ R, atRes s ((L : Int) + 1) ((C : Int) + 1) = R := ⟨_, rfl⟩
    rw [hR]
    rw [atRes_is hab] at hR
    have HR := Lib.hid hR; clear hR hbad
    have HA := Lib.hid hab; clear hab
    have hline := fun p (hp : a + p < b) => line_runes s a b p hE hp hab2
    have HLn := Lib.hid hline; clear hline
    have hz1 : (s.extract a b).size + a ≤ b := by omega
    have hz2 : b ≤ (s.extract a b).size + a := by omega
    clear hRz
    go_enter Tryd.func11, Tryd.ntmps11
    go_wp2_with (go_at_call 13; go_must (refine (lines_open s _ hs).mono ?_); rintro e w1 ⟨g, cap, rfl, hBg, hgs, hcell, hb1⟩; obtain ⟨ca, cb⟩ := hcell.at_ HA.out; have HB := Lib.hid hb1; have hz := hb1.size; clear hb1)
    generalize s.extract a b = X at *
    go_loopw [10] (fun k wr => ∃ p m : Nat, p ≤ X.size ∧ m ≤ p ∧ m ≤ C ∧ k = .int .i64 ((m : Int) + 1) ∧ wr.cell? ⟨w1.heap.size, 0, none⟩ = some (.int .i64 a) ∧ wr.cell? ⟨w1.heap.size, 1, none⟩ = some (.int .i64 b) ∧
        Hid (R = seek s b (C - m) (a + p)) ∧ Hid (wr.heap[w1.heap.size + 1]? = some (.stringIter X p)) ∧ Hid (Below w1.heap.size w1 wr)) (fun _ wr => X.size - wr.iterPos (w1.heap.size + 1))
    case atStart =>
      refine ⟨0, 0, by omega, by omega, by omega, rfl, ?_, ?_, HR.out.symm, ?_, ((Below.refl _ _).alloc (Nat.le_refl _) _).alloc (by simp) _⟩
      · simp [World.iter]
      · simp [World.iter]
      · have := World.iter_heap (w1.alloc (Obj.cells #[Value.int IntKind.i64 ↑a, Value.int IntKind.i64 ↑b] 31)) X 0
        simpa [Hid] using this
    case round =>
      obtain ⟨p, m, hp, hmp, hmC, rfl, c0, c1, HS, HI, HW⟩ := hrel
      by_cases hlt : p < X.size
      · obtain ⟨er, ew, hle⟩ := HLn.out p (by omega)
        have hw := widN_bd s (a + p) (by omega)
        have hnx : ∀ ty, (Instr.next (.pointer (some ⟨w1.heap.size + 1, 0, none⟩)) true ty).run Tryd.prog wr = .ok (.tuple #[.bool true, .int .i64 p, .int .i32 (runeI X p)]) (wr.iterAt (w1.heap.size + 1) X (p + widN X p)) := fun ty => Lib.run_next_any_at wr _ X p ty HI.out hlt
        have HI2 := Lib.hid (Lib.iterAt_heap wr (w1.heap.size + 1) X p (p + widN X p) HI.out)
        have HW2 := Lib.hid (Lib.below_iterAt HW.out (show w1.heap.size ≤ w1.heap.size + 1 by omega) X (p + widN X p))
        have HM := Lib.hid (iterPos_of HI.out)
        have c0' : (wr.iterAt (w1.heap.size + 1) X (p + widN X p)).cell? ⟨w1.heap.size, 0, none⟩ = some (.int .i64 a) := by rw [World.cell?_of_block (w := wr) (Lib.iterAt_other _ _ _ _ _ (by simp))]; exact c0
        have c1' : (wr.iterAt (w1.heap.size + 1) X (p + widN X p)).cell? ⟨w1.heap.size, 1, none⟩ = some (.int .i64 b) := by rw [World.cell?_of_block (w := wr) (Lib.iterAt_other _ _ _ _ _ (by simp))]; exact c1
        rw [ew] at hnx HI2 HW2 c0' c1'
        clear er ew
        by_cases hm : m < C
        · have hS := HS.out
          rw [show C - m = (C - (m + 1)) + 1 by omega, seek_more s b _ (a + p) (by omega)] at hS
          have HN := Lib.hid hS; clear hS
          have hmB : ((m : Int) + 1 == (C : Int) + 1) = false := beq_eq_false_iff_ne.2 (by omega)
          have hmB2 : ((m : Int) == (C : Int)) = false := beq_eq_false_iff_ne.2 (by omega)
          go_wp2
          go_roundw
          case rel => exact ⟨p + widN s (a + p), m + 1, by omega, by omega, by omega, by go_num, c0', c1', by rw [← Nat.add_assoc]; exact HN.out, HI2.out, HW2.out⟩
          case measure => rw [iterPos_of HI2.out, HM.out]; omega
        · have hS := HS.out
          rw [show C - m = 0 by omega, seek_zero] at hS
          have HN := Lib.hid hS; clear hS
          have hmB : ((m : Int) + 1 == (C : Int) + 1) = true := beq_iff_eq.2 (by omega)
          have hmB2 : ((m : Int) == (C : Int)) = true := beq_iff_eq.2 (by omega)
          go_wp2
          go_ret2
          exact ⟨ret_at HN.out, HB.out.trans (HW2.out.mono hz)⟩
      · have hnx : ∀ ty, (Instr.next (.pointer (some ⟨w1.heap.size + 1, 0, none⟩)) true ty).run Tryd.prog wr = .ok (.tuple #[.bool false]) wr := fun ty => Lib.run_next_end_at wr _ X p ty HI.out hlt
        by_cases hm : m < C
        · have hS := HS.out
          rw [show C - m = (C - (m + 1)) + 1 by omega, seek_none s b _ (a + p) (by omega)] at hS
          have HN := Lib.hid hS; clear hS
          have hmB : ((m : Int) + 1 == (C : Int) + 1) = false := beq_eq_false_iff_ne.2 (by omega)
          have hmB2 : ((m : Int) == (C : Int)) = false := beq_eq_false_iff_ne.2 (by omega)
          go_wp2
          go_ret2
          exact ⟨ret_at HN.out, HB.out.trans (HW.out.mono hz)⟩
        · have hS := HS.out
          rw [show C - m = 0 by omega, seek_zero] at hS
          have HN := Lib.hid hS; clear hS
          have hmB : ((m : Int) + 1 == (C : Int) + 1) = true := beq_iff_eq.2 (by omega)
          have hmB2 : ((m : Int) == (C : Int)) = true := beq_iff_eq.2 (by omega)
          go_wp2
          go_ret2
          exact ⟨ret_at (HN.out.trans (by rw [show a + p = b by omega])), HB.out.trans (HW.out.mono hz)⟩
end Go.Proofs.YtbdognlebkagpaaDoor
