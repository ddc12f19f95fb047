import Derived.Test.YtnnlpkbopeiefaaGreatDoorTa
import Derived.Test.YtnnlpkbopeiefaaGreatDoorWa
import Derived.Test.YtnnlpkbopeiefaaGreatDoorNumK
import Derived.Test.YtnnlpkbopeiefaaGreatDoorNumKd
import Derived.Test.YtnnlpkbopeiefaaGreatDoorYlC2
import Derived.Test.YtnnlpkbopeiefaaGreatDoorVe
import Derived.Test.YtnnlpkbopeiefaaGreatDoorNumI2
import Derived.Deep.RegionHeld3
import Derived.Test.YtnnlpkbopeiefaaGreatDoorWd
/-! The reference's Of, Resolve, safe, quoted. Printed by mktd.py. -/
namespace Go.Proofs.YtnnlpkbopeiefaaGreatDoor
set_option linter.unusedSimpArgs false
set_option linter.unusedVariables false
open Go.RowKit
open Go.Lib hiding intOf
set_option maxRecDepth 100000 in
set_option maxHeartbeats 4000000 in
theorem rof_any (s : Stp) (w : World) :
    Calls Tryz.prog 75 #[.string (bs s)] w fun e w' => e = .returned (.agg #[.int .i64 4, .string (bs s), .slice none 0 0, .slice none 0 0]) ∧ Below w.heap.size w w' := by
  have ba := below_alloc1 w (.cells #[.int .i64 0, .string (bs []), .slice none 0 0, .slice none 0 0] 25)
  have hB0 := RsBox.new w 0 []
  obtain ⟨W1, hW1⟩ : ∃ W, w.alloc (.cells #[.int .i64 0, .string (bs []), .slice none 0 0, .slice none 0 0] 25) = W := ⟨_, rfl⟩
  rw [hW1] at ba hB0
  obtain ⟨y0, y1, y2, y3, f0, f1, f2, f3⟩ := hB0.cells
  have hW1' : w.alloc (.cells #[.int .i64 0, .string ⟨#[]⟩, .slice none 0 0, .slice none 0 0] 25) = W1 := hW1
  go_enter Tryz.func75, Tryz.ntmps75
  go_wp2_with fail
  clear y0 y1 y2 y3 f0 f1 f2 f3
  have hP := (hB0).put (k2 := 4) (t2 := s)
  have hPB := below_putRs (k := 4) (t := s) (ba) (Nat.le_refl w.heap.size)
  obtain ⟨WF, hWF⟩ : ∃ W, putRs W1 w.heap.size 4 s = W := ⟨_, rfl⟩
  rw [hWF] at hP hPB
  have hWF' : (((W1.setCell ⟨w.heap.size, 0, none⟩ (.int .i64 4)).setCell ⟨w.heap.size, 1, none⟩ (.string (bs s))).setCell ⟨w.heap.size, 2, none⟩ (.slice none 0 0)).setCell ⟨w.heap.size, 3, none⟩ (.slice none 0 0) = WF := hWF
  rw [hWF']
  obtain ⟨d0, d1, d2, d3, _⟩ := hP.cells
  clear hWF hWF'
  refine bodyPost_ret (v := .agg #[.int .i64 4, .string (bs s), .slice none 0 0, .slice none 0 0]) ?_ rfl ⟨rfl, hPB⟩
  simp [results, Tryz.results75, go_sem, d0, d1, d2, d3]
set_option maxRecDepth 100000 in
set_option maxHeartbeats 4000000 in
theorem rresolve_any (s : Stp) (w : World) (hs : s.length ≤ 1073741824) (hV : YVar w) :
    Calls Tryz.prog 43 #[.string (bs s)] w fun e w' => e = ResE s ∧ Below w.heap.size w w' := by
  have sl := bs_size s
  have ba := below_alloc1 w (.cells #[.int .i64 0, .string (bs []), .slice none 0 0, .slice none 0 0] 25)
  have hB0 := RsBox.new w 0 []
  obtain ⟨W1, hW1⟩ : ∃ W, w.alloc (.cells #[.int .i64 0, .string (bs []), .slice none 0 0, .slice none 0 0] 25) = W := ⟨_, rfl⟩
  rw [hW1] at ba hB0
  have HBa := Lib.hid ba
  have HB0 := Lib.hid hB0
  have HV := Lib.hid (hV.keep ba)
  obtain ⟨y0, y1, y2, y3, f0, f1, f2, f3⟩ := hB0.cells
  have hW1' : w.alloc (.cells #[.int .i64 0, .string ⟨#[]⟩, .slice none 0 0, .slice none 0 0] 25) = W1 := hW1
  have CP := Lib.hid (fun w => refParse_any s w (by omega))
  have hdg := parse_dig s
  have m0 := str_lit s []
  have m1 := str_lit s nullL
  have m2 := str_lit s [126]
  have m3 := str_lit s trueL
  have m4 := str_lit s falseL
  have e0 := str_nil2 s
  unfold nullL at m1
  unfold trueL at m3
  unfold falseL at m4
  unfold ResE resP
  obtain ⟨q0, h0⟩ : ∃ q, decide (s = []) = q := ⟨_, rfl⟩
  obtain ⟨q1, h1⟩ : ∃ q, decide (s = nullL) = q := ⟨_, rfl⟩
  obtain ⟨q2, h2⟩ : ∃ q, decide (s = [126]) = q := ⟨_, rfl⟩
  obtain ⟨q3, h3⟩ : ∃ q, decide (s = trueL) = q := ⟨_, rfl⟩
  obtain ⟨q4, h4⟩ : ∃ q, decide (s = falseL) = q := ⟨_, rfl⟩
  have m0 := m0.trans h0
  have m1 := m1.trans h1
  have m2 := m2.trans h2
  have m3 := m3.trans h3
  have m4 := m4.trans h4
  have n1 : decide (s = [110, 117, 108, 108]) = q1 := h1
  have n3 : decide (s = [116, 114, 117, 101]) = q3 := h3
  have n4 : decide (s = [102, 97, 108, 115, 101]) = q4 := h4
  have e0b : s.isEmpty = q0 := by rw [← h0]; cases s <;> simp
  rw [e0b] at e0
  have z0 : s = [] ↔ q0 = true := by rw [← h0]; simp
  have z1 : s = nullL ↔ q1 = true := by rw [← h1]; simp
  have z2 : s = [126] ↔ q2 = true := by rw [← h2]; simp
  have z3 : s = trueL ↔ q3 = true := by rw [← h3]; simp
  have z4 : s = falseL ↔ q4 = true := by rw [← h4]; simp
  have HZ := Lib.hid (And.intro z0 (And.intro z1 (And.intro z2 (And.intro z3 z4))))
  clear z0 z1 z2 z3 z4 h1 h3 h4 hV ba hB0 hW1
  obtain ⟨P, hP⟩ : ∃ P, parseL s = P := ⟨_, rfl⟩
  rw [hP] at CP hdg ⊢
  obtain ⟨n, er⟩ := P
  simp only [] at hdg ⊢
  by_cases c1 : (q0 || q1 || q2) = true
  · have HC : Hid ((s = [] ∨ s = nullL ∨ s = [126])) := Lib.hid (by
      obtain ⟨a0, a1, a2, _⟩ := HZ.out
      simp only [Bool.or_eq_true] at c1
      rcases c1 with (h | h) | h
      · exact .inl (a0.2 h)
      · exact .inr (.inl (a1.2 h))
      · exact .inr (.inr (a2.2 h)))
    rw [if_pos HC.out]
    cases q0 <;> cases q1 <;> cases q2
    · cases c1
    all_goals
      go_enter Tryz.func43, Tryz.ntmps43
      go_wp2_with fail
      clear y0 y1 y2 y3 f0 f1 f2 f3
      have hP := (HB0.out).put (k2 := 1) (t2 := ([] : Stp))
      have hPB := below_putRs (k := 1) (t := ([] : Stp)) (HBa.out) (Nat.le_refl w.heap.size)
      obtain ⟨WF, hWF⟩ : ∃ W, putRs W1 w.heap.size 1 ([] : Stp) = W := ⟨_, rfl⟩
      rw [hWF] at hP hPB
      have hWF' : (((W1.setCell ⟨w.heap.size, 0, none⟩ (.int .i64 1)).setCell ⟨w.heap.size, 1, none⟩ (.string ⟨#[]⟩)).setCell ⟨w.heap.size, 2, none⟩ (.slice none 0 0)).setCell ⟨w.heap.size, 3, none⟩ (.slice none 0 0) = WF := hWF
      rw [hWF']
      obtain ⟨d0, d1, d2, d3, _⟩ := hP.cells
      clear hWF hWF'
      refine bodyPost_ret (v := .agg #[.int .i64 1, .string (bs ([] : Stp)), .slice none 0 0, .slice none 0 0]) ?_ rfl ⟨rfl, hPB⟩
      simp [results, Tryz.results43, go_sem, d0, d1, d2, d3]
  · obtain ⟨rfl, rfl, rfl⟩ : q0 = false ∧ q1 = false ∧ q2 = false := by cases q0 <;> cases q1 <;> cases q2 <;> simp at c1 ⊢
    rw [if_neg (by
      obtain ⟨a0, a1, a2, _⟩ := HZ.out
      rintro (h | h | h)
      · exact absurd (a0.1 h) (by decide)
      · exact absurd (a1.1 h) (by decide)
      · exact absurd (a2.1 h) (by decide))]
    by_cases c2 : (q3 || q4) = true
    · rw [if_pos (by
        obtain ⟨_, _, _, a3, a4⟩ := HZ.out
        simp only [Bool.or_eq_true] at c2
        rcases c2 with h | h
        · exact .inl (a3.2 h)
        · exact .inr (a4.2 h))]
      cases q3 <;> cases q4
      · cases c2
      all_goals
        go_enter Tryz.func43, Tryz.ntmps43
        go_wp2_with fail
        clear y0 y1 y2 y3 f0 f1 f2 f3
        have hP := (HB0.out).put (k2 := 2) (t2 := s)
        have hPB := below_putRs (k := 2) (t := s) (HBa.out) (Nat.le_refl w.heap.size)
        obtain ⟨WF, hWF⟩ : ∃ W, putRs W1 w.heap.size 2 s = W := ⟨_, rfl⟩
        rw [hWF] at hP hPB
        have hWF' : (((W1.setCell ⟨w.heap.size, 0, none⟩ (.int .i64 2)).setCell ⟨w.heap.size, 1, none⟩ (.string (bs s))).setCell ⟨w.heap.size, 2, none⟩ (.slice none 0 0)).setCell ⟨w.heap.size, 3, none⟩ (.slice none 0 0) = WF := hWF
        rw [hWF']
        obtain ⟨d0, d1, d2, d3, _⟩ := hP.cells
        clear hWF hWF'
        refine bodyPost_ret (v := .agg #[.int .i64 2, .string (bs s), .slice none 0 0, .slice none 0 0]) ?_ rfl ⟨rfl, hPB⟩
        simp [results, Tryz.results43, go_sem, d0, d1, d2, d3]
    · obtain ⟨rfl, rfl⟩ : q3 = false ∧ q4 = false := by cases q3 <;> cases q4 <;> simp at c2 ⊢
      rw [if_neg (by
        obtain ⟨_, _, _, a3, a4⟩ := HZ.out
        rintro (h | h)
        · exact absurd (a3.1 h) (by decide)
        · exact absurd (a4.1 h) (by decide))]
      clear c1 c2 HZ
      by_cases he : er = 0
      · subst he
        rw [if_pos rfl]
        have CT : Hid (∀ w', YVar w' → Calls Tryz.prog 86 #[.agg #[.bool n.neg, .string (bs n.dig), .int .i64 n.exp]] w' fun e w2 => e = .returned (.string (bs (textL n))) ∧ Below w'.heap.size w' w2) := Lib.hid (fun w' hv => refText_any n w' (by have := hdg rfl; omega))
        clear hdg
        obtain ⟨Z, hZ⟩ : ∃ Z, textL n = Z := ⟨_, rfl⟩
        rw [hZ] at CT ⊢
        go_enter Tryz.func43, Tryz.ntmps43
        go_wp2_with fail
        refine (CP.out _).mono ?_
        unfold Parsed numV
        rintro e w2 ⟨rfl, hb2⟩
        have HR2 := Lib.hid (HB0.out.keep hb2)
        have HB2 := Lib.hid (below_of_new HBa.out hb2)
        have HV2 := Lib.hid (HV.out.keep hb2)
        clear hb2 y0 y1 y2 y3 f0 f1 f2 f3
        have ba3 := below_alloc1 w2 (.cells #[.bool n.neg, .string (bs n.dig), .int .i64 n.exp] 80)
        have hN := NbBox.new w2 n
        obtain ⟨W3, hW3⟩ : ∃ W, w2.alloc (.cells #[.bool n.neg, .string (bs n.dig), .int .i64 n.exp] 80) = W := ⟨_, rfl⟩
        rw [hW3] at ba3 hN
        obtain ⟨x0, x1, x2, _⟩ := hN.cells
        have HR3 := Lib.hid (HR2.out.keep ba3)
        have HB3 := Lib.hid (below_of_new HB2.out ba3)
        have HV3 := Lib.hid (HV2.out.keep ba3)
        clear ba3 hN
        go_wp2_with fail
        refine (CT.out _ HV3.out).mono ?_
        rintro e w4 ⟨rfl, hb4⟩
        have HR4 := Lib.hid (HR3.out.keep hb4)
        have HB4 := Lib.hid (below_of_new HB3.out hb4)
        clear hb4 x0 x1 x2 hW3
        obtain ⟨y0, y1, y2, y3, f0, f1, f2, f3⟩ := HR4.out.cells
        go_wp2_with fail
        clear y0 y1 y2 y3 f0 f1 f2 f3
        have hP := (HR4.out).put (k2 := 3) (t2 := Z)
        have hPB := below_putRs (k := 3) (t := Z) (HB4.out) (Nat.le_refl w.heap.size)
        obtain ⟨WF, hWF⟩ : ∃ W, putRs w4 w.heap.size 3 Z = W := ⟨_, rfl⟩
        rw [hWF] at hP hPB
        have hWF' : (((w4.setCell ⟨w.heap.size, 0, none⟩ (.int .i64 3)).setCell ⟨w.heap.size, 1, none⟩ (.string (bs Z))).setCell ⟨w.heap.size, 2, none⟩ (.slice none 0 0)).setCell ⟨w.heap.size, 3, none⟩ (.slice none 0 0) = WF := hWF
        rw [hWF']
        obtain ⟨d0, d1, d2, d3, _⟩ := hP.cells
        clear hWF hWF'
        refine bodyPost_ret (v := .agg #[.int .i64 3, .string (bs Z), .slice none 0 0, .slice none 0 0]) ?_ rfl ⟨rfl, hPB⟩
        simp [results, Tryz.results43, go_sem, d0, d1, d2, d3]
      · rw [if_neg he]
        have de : (er == 0) = false := beq_eq_false_iff_ne.2 he
        have CO := Lib.hid (fun w => rof_any s w)
        clear hdg
        go_enter Tryz.func43, Tryz.ntmps43
        go_wp2_with fail
        refine (CP.out _).mono ?_
        unfold Parsed numV
        rintro e w2 ⟨rfl, hb2⟩
        have HR2 := Lib.hid (HB0.out.keep hb2)
        have HB2 := Lib.hid (below_of_new HBa.out hb2)
        clear hb2 y0 y1 y2 y3 f0 f1 f2 f3
        have ba3 := below_alloc1 w2 (.cells #[.bool n.neg, .string (bs n.dig), .int .i64 n.exp] 80)
        have HR3 := Lib.hid (HR2.out.keep ba3)
        have HB3 := Lib.hid (below_of_new HB2.out ba3)
        clear ba3
        go_wp2_with fail
        refine (CO.out _).mono ?_
        rintro e w4 ⟨rfl, hb4⟩
        have HR4 := Lib.hid (HR3.out.keep hb4)
        have HB4 := Lib.hid (below_of_new HB3.out hb4)
        clear hb4
        obtain ⟨y0, y1, y2, y3, f0, f1, f2, f3⟩ := HR4.out.cells
        go_wp2_with fail
        clear y0 y1 y2 y3 f0 f1 f2 f3
        have hP := (HR4.out).put (k2 := 4) (t2 := s)
        have hPB := below_putRs (k := 4) (t := s) (HB4.out) (Nat.le_refl w.heap.size)
        obtain ⟨WF, hWF⟩ : ∃ W, putRs w4 w.heap.size 4 s = W := ⟨_, rfl⟩
        rw [hWF] at hP hPB
        have hWF' : (((w4.setCell ⟨w.heap.size, 0, none⟩ (.int .i64 4)).setCell ⟨w.heap.size, 1, none⟩ (.string (bs s))).setCell ⟨w.heap.size, 2, none⟩ (.slice none 0 0)).setCell ⟨w.heap.size, 3, none⟩ (.slice none 0 0) = WF := hWF
        rw [hWF']
        obtain ⟨d0, d1, d2, d3, _⟩ := hP.cells
        clear hWF hWF'
        refine bodyPost_ret (v := .agg #[.int .i64 4, .string (bs s), .slice none 0 0, .slice none 0 0]) ?_ rfl ⟨rfl, hPB⟩
        simp [results, Tryz.results43, go_sem, d0, d1, d2, d3]
def prevB (l : Stp) (i : Nat) : Bool := decide (0 < i) && (l[i - 1]? == some 32)
theorem prev_next {l : Stp} {i : Nat} {b : UInt8} (h : l[i]? = some b) : prevB l (i + 1) = (b == 32) := by
  unfold prevB
  rw [Nat.add_sub_cancel, h, decide_eq_true (Nat.succ_pos i), Bool.true_and]
  rfl
theorem safe_next {l : Stp} {i : Nat} {b : UInt8} {o Q m : Stp} (h : l[i]? = some b) (ho : o ++ safeGo (prevB l i) (l.drop i) = Q) (hm : (if b = 127 then rubL else if b = 35 ∧ prevB l i = true then hash3 else [b]) = m) : (o ++ m) ++ safeGo (prevB l (i + 1)) (l.drop (i + 1)) = Q := by
  rw [← ho, drop_byte h, safeGo, hm, prev_next h, List.append_assoc]
set_option maxRecDepth 100000 in
set_option maxHeartbeats 1000000 in
theorem rsafe_any (l : Stp) (w : World) (hs : l.length ≤ 1073741824) :
    Calls Tryz.prog 67 #[.string (bs l)] w fun e w' => e = .returned (.string (bs (safeL l))) ∧ Below w.heap.size w w' := by
  have sl := bs_size l
  rw [safe_eq]
  obtain ⟨Q, hQ⟩ : ∃ Q, safeGo false l = Q := ⟨_, rfl⟩
  rw [hQ]
  have HQ : Hid ([] ++ safeGo (prevB l 0) (l.drop 0) = Q) := Lib.hid (by rw [List.drop_zero]; exact hQ)
  clear hQ
  go_enter Tryz.func67, Tryz.ntmps67
  go_wp2_with fail
  go_loopw [3, 4] (fun s3 s4 wr => ∃ (i : Nat) (o : Stp), s4 = .int .i64 (i : Int) ∧ i ≤ l.length ∧ o.length ≤ 6 * i ∧ Hid (o ++ safeGo (prevB l i) (l.drop i) = Q) ∧ Hid (OwnB w.heap.size wr s3 o) ∧ Hid (Below w.heap.size w wr) ∧ w.heap.size ≤ wr.heap.size) (fun _ s4 _ => l.length - (RowKit.intOf s4).toNat)
  case atStart => exact ⟨0, [], rfl, Nat.zero_le _, by simp, HQ, Lib.hid (OwnB.nil _ _), Lib.hid (by first | exact Below.refl _ _ | exact (Below.refl _ _).drew), by first | exact Nat.le_refl _ | simp⟩
  case round =>
    obtain ⟨i, o, rfl, hi, hol, HQi, HO, HBr, hz⟩ := hrel
    by_cases hlt : i < l.length
    · have hlt' : i < (bs l).size := by omega
      have dk : decide ((i : Int) < (l.length : Int)) = true := decide_eq_true (by omega)
      have hiz : (i : Int) < (l.length : Int) := by omega
      have hbi := at_bs l i hlt'
      obtain ⟨b, hb⟩ : ∃ b, (bs l)[i]'hlt' = b := ⟨_, rfl⟩
      rw [hb] at hbi
      obtain ⟨x, hx⟩ : ∃ x : Int, (b.toNat : Int) = x := ⟨_, rfl⟩
      have hge3 : (((bs l)[i]'hlt').toNat : Int) = x := by rw [hb, hx]
      have HN := Lib.hid (fun m hm => safe_next (m := m) hbi HQi.out hm)
      clear hb HQi
      by_cases h127 : x = 127
      · have d127 : (x == 127) = true := beq_iff_eq.2 h127
        have hb127 : b = 127 := UInt8.toNat_inj.1 (by show b.toNat = 127; omega)
        have HN2 := Lib.hid (HN.out rubL (by rw [if_pos hb127]))
        clear hb127 hbi hx HN
        subst h127
        go_wp2_with (at_builtin; go_must (refine wpList_text rfl _ _ rfl w.heap.size wr u3 o _ rfl HO.out rfl (by show o.length + 6 ≤ _; omega) hz ?_); intro v1 w1 hown1 hbel1)
        go_roundw
        case rel => exact ⟨i + 1, o ++ rubL, by go_num, by omega, by rw [List.length_append]; show o.length + 6 ≤ _; omega, HN2, Lib.hid hown1, Lib.hid (HBr.out.trans hbel1), Nat.le_trans hz hbel1.size⟩
        case measure => simp [RowKit.intOf]; omega
      · have d127 : (x == 127) = false := beq_eq_false_iff_ne.2 h127
        have hb127 : ¬ b = 127 := fun e => h127 (by rw [← hx, e]; rfl)
        by_cases h35 : x = 35
        · have d35 : (x == 35) = true := beq_iff_eq.2 h35
          have hb35 : b = 35 := UInt8.toNat_inj.1 (by show b.toNat = 35; omega)
          cases i with
          | zero =>
            have HN2 := Lib.hid (HN.out [b] (by rw [if_neg hb127, if_neg (by unfold prevB; simp)]))
            clear hb127 hbi HN hb35 h127
            subst h35
            go_wp2_with (at_builtin; go_must (refine wpList_bytes rfl _ _ rfl w.heap.size wr u3 o [b] rfl HO.out _ rfl (by unfold byteCells; simp [hx]) (by simp; omega) hz ?_); intro v1 w1 hown1 hbel1)
            go_roundw
            case rel => exact ⟨1, o ++ [b], by first | rfl | go_num, by omega, by simp; omega, HN2, Lib.hid hown1, Lib.hid (HBr.out.trans hbel1), Nat.le_trans hz hbel1.size⟩
            case measure => simp [RowKit.intOf]; omega
          | succ j =>
            have hj : j < (bs l).size := by omega
            have hbj := at_bs l j hj
            obtain ⟨a, ha⟩ : ∃ b, (bs l)[j]'hj = b := ⟨_, rfl⟩
            rw [ha] at hbj
            obtain ⟨y, hy⟩ : ∃ x : Int, (a.toNat : Int) = x := ⟨_, rfl⟩
            have hge4 : (((bs l)[j]'hj).toNat : Int) = y := by rw [ha, hy]
            have hsb : (j : Int) + 1 - 1 = (j : Int) := by omega
            have hjp : decide ((0 : Int) < (j : Int) + 1) = true := decide_eq_true (by omega)
            have hpv : prevB l (j + 1) = (a == 32) := prev_next hbj
            clear ha
            by_cases h32 : y = 32
            · have d32 : (y == 32) = true := beq_iff_eq.2 h32
              have ha32 : a = 32 := UInt8.toNat_inj.1 (by show a.toNat = 32; omega)
              have HN2 := Lib.hid (HN.out hash3 (by rw [if_neg hb127, hpv, ha32, if_pos ⟨hb35, rfl⟩]))
              clear hb127 hbi hx HN hb35 hbj hy ha32 hpv h127
              subst h35
              subst h32
              go_wp2_with (at_builtin; go_must (refine wpList_text rfl _ _ rfl w.heap.size wr u3 o _ rfl HO.out rfl (by show o.length + 6 ≤ _; omega) hz ?_); intro v1 w1 hown1 hbel1)
              go_roundw
              case rel => exact ⟨j + 1 + 1, o ++ hash3, by go_num, by omega, by rw [List.length_append]; show o.length + 6 ≤ _; omega, HN2, Lib.hid hown1, Lib.hid (HBr.out.trans hbel1), Nat.le_trans hz hbel1.size⟩
              case measure => simp [RowKit.intOf]; omega
            · have d32 : (y == 32) = false := beq_eq_false_iff_ne.2 h32
              have ha32 : ¬ a = 32 := fun e => h32 (by rw [← hy, e]; rfl)
              have HN2 := Lib.hid (HN.out [b] (by rw [if_neg hb127, hpv, if_neg (by simp [ha32])]))
              clear hb127 hbi HN hb35 hbj hy ha32 hpv h127 h32
              subst h35
              go_wp2_with (at_builtin; go_must (refine wpList_bytes rfl _ _ rfl w.heap.size wr u3 o [b] rfl HO.out _ rfl (by unfold byteCells; simp [hx]) (by simp; omega) hz ?_); intro v1 w1 hown1 hbel1)
              go_roundw
              case rel => exact ⟨j + 1 + 1, o ++ [b], by go_num, by omega, by simp; omega, HN2, Lib.hid hown1, Lib.hid (HBr.out.trans hbel1), Nat.le_trans hz hbel1.size⟩
              case measure => simp [RowKit.intOf]; omega
        · have d35 : (x == 35) = false := beq_eq_false_iff_ne.2 h35
          have hb35 : ¬ b = 35 := fun e => h35 (by rw [← hx, e]; rfl)
          have HN2 := Lib.hid (HN.out [b] (by rw [if_neg hb127, if_neg (fun h => hb35 h.1)]))
          clear hb127 hbi HN hb35 h127 h35
          go_wp2_with (at_builtin; go_must (refine wpList_bytes rfl _ _ rfl w.heap.size wr u3 o [b] rfl HO.out _ rfl (by unfold byteCells; simp [hx]) (by simp; omega) hz ?_); intro v1 w1 hown1 hbel1)
          go_roundw
          case rel => exact ⟨i + 1, o ++ [b], by go_num, by omega, by simp; omega, HN2, Lib.hid hown1, Lib.hid (HBr.out.trans hbel1), Nat.le_trans hz hbel1.size⟩
          case measure => simp [RowKit.intOf]; omega
    · have dk : decide ((i : Int) < (l.length : Int)) = false := decide_eq_false (by omega)
      obtain rfl : o = Q := by
        have h := HQi.out
        rw [List.drop_of_length_le (by omega), safeGo, List.append_nil] at h
        exact h
      have hcv := run_text HO.out
      go_wp2_with fail
      go_ret
      exact ⟨rfl, HBr.out⟩
set_option maxRecDepth 100000 in
set_option maxHeartbeats 1000000 in
theorem rquoted_any (l : Stp) (w : World) (hs : l.length ≤ 33554432) :
    Calls Tryz.prog 68 #[.string (bs l)] w fun e w' => e = QuotedE (quotedY l) ∧ Below w.heap.size w w' := by
  have CC := Lib.hid (rclean_any l w (by omega))
  have CQ := Lib.hid (fun w => refQuoted_any l w (by omega))
  have CJ := Lib.hid (fun w => refQuote_any l w (by omega))
  have hql := quoteL_len l
  unfold quotedY
  unfold QuotedE at CQ ⊢
  unfold QuoteE at CJ
  obtain ⟨A, hA⟩ : ∃ A, cleanB l = A := ⟨_, rfl⟩
  obtain ⟨⟨B, e1⟩, hB⟩ : ∃ B, sqw l = B := ⟨_, rfl⟩
  obtain ⟨⟨C, e2⟩, hC⟩ : ∃ B, quoteL l = B := ⟨_, rfl⟩
  rw [hA] at CC ⊢
  rw [hB] at CQ ⊢
  rw [hC] at CJ hql ⊢
  have CS := Lib.hid (fun w => rsafe_any C w (by have : (C, e2).1 = C := rfl; rw [this] at hql; omega))
  clear hA hB hC hql
  obtain ⟨Z, hZ⟩ : ∃ Z, safeL C = Z := ⟨_, rfl⟩
  rw [hZ] at CS
  simp only [hZ]
  clear hZ
  cases A with
  | true =>
    rw [if_pos rfl]
    go_enter Tryz.func68, Tryz.ntmps68
    go_wp2_with fail
    refine CC.out.mono ?_
    rintro e w2 ⟨rfl, hb2⟩
    have HB2 := Lib.hid hb2
    clear hb2
    go_wp2_with fail
    refine (CQ.out _).mono ?_
    rintro e w3 ⟨rfl, hb3⟩
    have HB3 := Lib.hid (below_of_new HB2.out hb3)
    clear hb3
    go_wp2_with fail
    go_ret2
    exact ⟨rfl, HB3.out⟩
  | false =>
    rw [if_neg (by simp)]
    go_enter Tryz.func68, Tryz.ntmps68
    go_wp2_with fail
    refine CC.out.mono ?_
    rintro e w2 ⟨rfl, hb2⟩
    have HB2 := Lib.hid hb2
    clear hb2
    go_wp2_with fail
    refine (CJ.out _).mono ?_
    rintro e w3 ⟨rfl, hb3⟩
    have HB3 := Lib.hid (below_of_new HB2.out hb3)
    clear hb3
    go_wp2_with fail
    refine (CS.out _).mono ?_
    rintro e w4 ⟨rfl, hb4⟩
    have HB4 := Lib.hid (below_of_new HB3.out hb4)
    clear hb4
    go_wp2_with fail
    go_ret2
    exact ⟨rfl, HB4.out⟩
end Go.Proofs.YtnnlpkbopeiefaaGreatDoor
/-! The reference's utf, decimal, node. The decimal is printed from XVe. -/
namespace Go.Proofs.YtnnlpkbopeiefaaGreatDoor
set_option linter.unusedSimpArgs false
set_option linter.unusedVariables false
open Go.RowKit
open Go.Lib hiding intOf
theorem rutf_any (l : Stp) (w : World) (hs : l.length ≤ 4611686018427387904) :
    Calls Tryz.prog 215 #[.string (bs l)] w fun e w' => e = .returned (.bool (Lib.validD l)) ∧ Below w.heap.size w w' := by
  obtain ⟨N, hv⟩ := rvalid_any l w hs
  have HV := Lib.hid hv
  obtain ⟨V, hV⟩ : ∃ V, Lib.validD l = V := ⟨_, rfl⟩
  rw [hV] at HV ⊢
  clear hv hV
  go_enter Tryz.func215, Tryz.ntmps215
  go_wp2_with fail
  refine HV.out.mono ?_
  rintro e w2 ⟨rfl, hb2⟩
  have HB2 := Lib.hid hb2
  clear hb2 HV
  go_wp2_with fail
  go_ret
  exact ⟨rfl, HB2.out⟩
set_option maxRecDepth 100000 in
set_option maxHeartbeats 4000000 in
theorem rdecimal_any (s : Stp) (w : World) (hs : s.length ≤ 4294967296) (hV : VVar w) :
    Calls Tryz.prog 214 #[.string (bs s)] w fun e w' => e = DecE s ∧ Below w.heap.size w w' := by
  have sl := bs_size s
  have CP := Lib.hid (fun w => refParse_any s w hs)
  have hdg := parse_dig s
  unfold DecE decB
  obtain ⟨P, hP⟩ : ∃ P, parseL s = P := ⟨_, rfl⟩
  rw [hP] at CP hdg
  rw [hP]
  obtain ⟨n, er⟩ := P
  simp only [] at hdg ⊢
  have CT : Hid (er = 0 → ∀ w', VVar w' → Calls Tryz.prog 86 #[.agg #[.bool n.neg, .string (bs n.dig), .int .i64 n.exp]] w' fun e w2 => e = .returned (.string (bs (textL n))) ∧ Below w'.heap.size w' w2) := Lib.hid (fun h w' hv => refText_any n w' (by have := hdg h; omega))
  have ba := below_alloc1 w (.cells #[.bool false, .string (bs []), .int .i64 0] 80)
  have hB0 := NbBox.new w ⟨false, [], 0⟩
  have HV := Lib.hid hV
  obtain ⟨R, hR⟩ : ∃ R, (decide (er = 0) && decide (textL n = s)) = R := ⟨_, rfl⟩
  rw [hR]
  have HR := Lib.hid hR
  clear hV hP hdg hR
  go_enter Tryz.func214, Tryz.ntmps214
  go_wp2_with fail
  refine (CP.out _).mono ?_
  unfold Parsed numV
  rintro e w1 ⟨rfl, hb1⟩
  have hB1 := hB0.keep hb1
  have HB1 := below_of_new (Below.refl w.heap.size w) (ba.trans (hb1.mono (by simp)))
  have ba1 := below_alloc1 w1 (.cells #[.bool n.neg, .string (bs n.dig), .int .i64 n.exp] 80)
  have hS : NbTwo w w1.heap.size n (w1.alloc (.cells #[.bool n.neg, .string (bs n.dig), .int .i64 n.exp] 80)) := NbTwo.of ⟨⟨_, hB1.keep ba1⟩, NbBox.new w1 n, hB1.lt, HB1.trans (ba1.mono HB1.size)⟩
  clear hb1 hB0 hB1 ba1 HB1 ba
  go_upto_region 2 with fail
  obtain ⟨n0, y0, y1, y2, f0, f1, f2⟩ := hS.free
  by_cases he : er = 0
  · subst he
    have HT := Lib.hid (CT.out rfl)
    have hb : decide (textL n = s) = R := by rw [← HR.out]; simp
    have hqz : ((bs (textL n)).toList == (bs s).toList) = R := by
      rw [Lib.toList_data, Lib.toList_data, bs_data, bs_data, ← hb]
      by_cases h : textL n = s
      · rw [decide_eq_true h, h]; simp
      · rw [decide_eq_false h]; simpa using h
    have hqz2 : decide (bs (textL n) = bs s) = R := by
      rw [← hb, decide_eq_decide]
      exact ⟨fun h => bs_inj h, fun h => by rw [h]⟩
    clear y0 y1 y2 f0 f1 f2 hb CT HR
    go_region_held3 (fun w' => NbTwo w w1.heap.size n w') ((first | exact NbTwo.drew (by assumption) | exact NbTwo.step (by assumption) (by assumption) | exact NbTwo.put (by assumption) | assumption))
      ((go_at_call 86; (with_reducible refine (HT.out _ (HV.out.keep (NbTwo.bel (by assumption : NbTwo w w1.heap.size n _)))).mono ?_); rintro e w5 ⟨rfl, hb5⟩; have hn5 : NbTwo w w1.heap.size n w5 := NbTwo.step (by assumption) hb5; obtain ⟨g5, y0, y1, y2, f0, f1, f2⟩ := hn5.free))
    have HG := Lib.hid hn5.putG
    go_wp2_with fail
    obtain ⟨hP, hPB⟩ := HG.out
    obtain ⟨WF, hWF⟩ : ∃ W, putNb w5 w.heap.size n = W := ⟨_, rfl⟩
    rw [hWF] at hP hPB
    have hWF' : ((w5.setCell ⟨w.heap.size, 0, none⟩ (.bool n.neg)).setCell ⟨w.heap.size, 1, none⟩ (.string (bs n.dig))).setCell ⟨w.heap.size, 2, none⟩ (.int .i64 n.exp) = WF := hWF
    rw [hWF']
    obtain ⟨d0, d1, d2, _⟩ := hP.cells
    clear hWF hWF' HG
    refine bodyPost_ret (v := .tuple #[.agg #[.bool n.neg, .string (bs n.dig), .int .i64 n.exp], .bool R]) ?_ rfl ⟨rfl, hPB⟩
    simp [results, Tryz.results214, go_sem, d0, d1, d2]
  · have de : (er == 0) = false := beq_eq_false_iff_ne.2 he
    have de2 : decide (er = 0) = false := decide_eq_false he
    have HG := Lib.hid hS.putG
    obtain ⟨z0, z1, z2, _⟩ := hS
    obtain rfl : R = false := by rw [← HR.out, de2]; rfl
    clear CT CP HR
    go_region
    go_wp2_with fail
    obtain ⟨hP, hPB⟩ := HG.out
    obtain ⟨WF, hWF⟩ : ∃ W, putNb (w1.alloc (.cells #[.bool n.neg, .string (bs n.dig), .int .i64 n.exp] 80)) w.heap.size n = W := ⟨_, rfl⟩
    rw [hWF] at hP hPB
    have hWF' : (((w1.alloc (.cells #[.bool n.neg, .string (bs n.dig), .int .i64 n.exp] 80)).setCell ⟨w.heap.size, 0, none⟩ (.bool n.neg)).setCell ⟨w.heap.size, 1, none⟩ (.string (bs n.dig))).setCell ⟨w.heap.size, 2, none⟩ (.int .i64 n.exp) = WF := hWF
    rw [hWF']
    obtain ⟨d0, d1, d2, _⟩ := hP.cells
    clear hWF hWF' HG
    refine bodyPost_ret (v := .tuple #[.agg #[.bool n.neg, .string (bs n.dig), .int .i64 n.exp], .bool false]) ?_ rfl ⟨rfl, hPB.drew⟩
    simp [results, Tryz.results214, go_sem, d0, d1, d2]
end Go.Proofs.YtnnlpkbopeiefaaGreatDoor
/-! The reference's node. Printed by mktf.py. -/
namespace Go.Proofs.YtnnlpkbopeiefaaGreatDoor
set_option linter.unusedSimpArgs false
set_option linter.unusedVariables false
open Go.RowKit
open Go.Lib hiding intOf
theorem keys_go_bad {ks had : List Stp} {i : Nat} {k : Stp} (hk : ks[i]? = some k) (hv : Lib.validD k = false ∨ k ∈ had) : keysGo had (ks.drop i) = false := by
  obtain ⟨h1, h2⟩ := List.getElem?_eq_some_iff.1 hk
  rw [List.drop_eq_getElem_cons h1, h2]
  unfold keysGo
  rcases hv with h | h
  · rw [h]; simp
  · rw [decide_eq_true h]; simp
theorem keys_go_on {ks had : List Stp} {i : Nat} {k : Stp} (hk : ks[i]? = some k) (hv : Lib.validD k = true) (hn : k ∉ had) : keysGo had (ks.drop i) = keysGo (k :: had) (ks.drop (i + 1)) := by
  obtain ⟨h1, h2⟩ := List.getElem?_eq_some_iff.1 hk
  rw [List.drop_eq_getElem_cons h1, h2]
  conv => lhs; unfold keysGo
  rw [hv, decide_eq_false hn]
  rfl
theorem take_rev {ks : List Stp} {i : Nat} {k : Stp} (hk : ks[i]? = some k) : (ks.take (i + 1)).reverse = k :: (ks.take i).reverse := by
  obtain ⟨h1, h2⟩ := List.getElem?_eq_some_iff.1 hk
  rw [List.take_succ_eq_append_getElem h1, h2, List.reverse_append]
  rfl
def NdE (k : Int) (R : Bool) (e : Ending) : Prop := ∃ r, e = .returned (.bool r) ∧ (k ≠ 7 → r = R)
theorem parse_err {s : Stp} {m : Num} {er : Int} (h : parseL s = (m, er)) (he : er ≠ 0) : m = nought := by
  unfold parseL at h
  split at h
  · injection h with h1 _; exact h1.symm
  · unfold parseLit at h
    dsimp only at h
    repeat' (split at h)
    all_goals (injection h with h1 h2; first | exact h1.symm | exact absurd h2.symm he)
set_option maxRecDepth 100000 in
set_option maxHeartbeats 4000000 in
theorem rnode_any (t : VT) (kv : Value) (p : Option Addr) (c : Nat) (w : World) (hks : SV w kv t.keys) (hbk : t.bulk ≤ 1073741824) (hV : VVar w) :
    Calls Tryz.prog 166 #[vv t kv (.slice p t.items.length c)] w fun e w' => NdE t.kind (nodeB t) e ∧ Below w.heap.size w w' := by
  obtain ⟨pk, ck, rfl, hck, hl⟩ := hks
  obtain ⟨X, hX⟩ : ∃ X, w.heap.size = X := ⟨_, rfl⟩
  obtain ⟨W1, hW1⟩ : ∃ W, w.alloc (.cells #[.int .i64 t.kind, .string (bs t.text), .slice pk t.keys.length ck, .slice p t.items.length c] 25) = W := ⟨_, rfl⟩
  have HB1 : Hid (Below w.heap.size w W1) := Lib.hid (by rw [← hW1]; exact below_alloc1 _ _)
  have HXB : Hid (VBox W1 X t (.slice pk t.keys.length ck) (.slice p t.items.length c)) := Lib.hid (by rw [← hW1, ← hX]; exact VBox.new w t _ _)
  have HSL := Lib.hid (hl.keep HB1.out)
  have HV := Lib.hid (hV.keep HB1.out)
  have hb0 : t.bulk = t.text.length + (totS t.keys + t.keys.length) + bulks t.items + 1 := by cases t; rw [VT.bulk]; rfl
  have hlen := len_le_bulks t.items
  clear hl hV
  unfold vv nodeB
  obtain ⟨k, s, ks, l⟩ := t
  simp only [VT.kind, VT.text, VT.items, VT.keys] at hW1 HXB HSL hb0 hlen ⊢
  obtain ⟨n, hn⟩ : ∃ n, l.length = n := ⟨_, rfl⟩
  rw [hn] at hW1 HXB hlen ⊢
  have HN := Lib.hid hn
  clear hn
  have e0 := str_nil2 s
  have CD : Hid (∀ w', Below W1.heap.size W1 w' → Calls Tryz.prog 214 #[.string (bs s)] w' fun e w2 => e = DecE s ∧ Below w'.heap.size w' w2) := Lib.hid (fun w' hb => rdecimal_any s w' (by omega) (HV.out.keep hb))
  have CU := Lib.hid (fun w => rutf_any s w (by omega))
  have sl := bs_size s
  unfold DecE numV at CD
  have hdl : ∀ m, decB s = m → Hid (decB s = m) := fun m h => Lib.hid h
  by_cases h6 : k = 6
  · subst h6
    rw [show nodeF 6 s ks n = (keyedB ks n && s.isEmpty) from rfl]
    unfold keyedB
    clear CD CU hdl
    obtain ⟨Q, hQ⟩ : ∃ Q, (keysGo [] ks && decide (ks.length = n) && s.isEmpty) = Q := ⟨_, rfl⟩
    rw [hQ]
    have HQ : Hid ((keysGo (ks.take 0).reverse (ks.drop 0) && (decide (ks.length = n) && s.isEmpty)) = Q) := Lib.hid (by rw [List.take_zero, List.drop_zero, List.reverse_nil, ← Bool.and_assoc]; exact hQ)
    clear hQ
    obtain ⟨E, hE⟩ : ∃ E, s.isEmpty = E := ⟨_, rfl⟩
    rw [hE] at HQ e0
    clear hE
    go_enter Tryz.func166, Tryz.ntmps166
    go_upto_region 1 with fail
    clear hW1
    obtain ⟨b0, b1, b2, b3⟩ := HXB.out.cells
    simp only [VT.kind, VT.text, VT.items, VT.keys] at b0 b1 b2 b3
    go_wp2_with fail
    clear b0 b1 b2 b3
    go_loopw [9, 10, 11] (fun s9 s10 s11 wr => ∃ i : Nat, s9 = .int .i64 (i : Int) ∧ i ≤ ks.length ∧ Hid ((keysGo (ks.take i).reverse (ks.drop i) && (decide (ks.length = n) && E)) = Q) ∧ Hid (Below W1.heap.size W1 wr)) (fun s9 _ _ _ => ks.length - (RowKit.intOf s9).toNat)
    case atStart => exact ⟨0, rfl, Nat.zero_le _, HQ, Lib.hid (by first | exact Below.refl _ _ | exact (Below.refl _ _).drew)⟩
    case round =>
      obtain ⟨i, rfl, hi, HQi, HBr⟩ := hrel
      obtain ⟨b0, b1, b2, b3⟩ := (HXB.out.keep HBr.out).cells
      simp only [VT.kind, VT.text, VT.items, VT.keys] at b0 b1 b2 b3
      have HBW := Lib.hid (below_of_new HB1.out HBr.out)
      by_cases hil : i < ks.length
      · have dk : decide ((i : Int) < (ks.length : Int)) = true := decide_eq_true (by omega)
        have hiz : (i : Int) < (ks.length : Int) := by omega
        obtain ⟨x, hx⟩ : ∃ x, ks[i]? = some x := ⟨_, List.getElem?_eq_getElem hil⟩
        have hxm := totS_mem (List.mem_of_getElem? hx)
        obtain ⟨g, o, rfl, hg⟩ := HSL.out.at_ hx
        have hgl := cell_lt hg
        have m0 : wr.cell? ⟨g, o + i, none⟩ = some (.string (bs x)) := by rw [HBr.out.cell (p := ⟨g, o + i, none⟩) hgl]; exact hg
        have CX := Lib.hid (rutf_any x wr (by omega))
        have HX := Lib.hid hx
        have HG := Lib.hid hgl
        clear hg hgl
        cases hv : Lib.validD x with
        | false =>
          rw [hv] at CX
          obtain rfl : Q = false := by rw [← HQi.out, keys_go_bad hx (.inl hv)]; rfl
          clear hv hx
          go_wp2_with fail
          refine CX.out.mono ?_
          rintro e w2 ⟨rfl, hb2⟩
          have HB2 := Lib.hid (below_of_new HBW.out hb2)
          clear hb2 b0 b1 b2 b3 m0
          go_wp2_with fail
          go_ret
          exact ⟨⟨false, rfl, fun _ => rfl⟩, by first | exact HB2.out | (rw [← hX]; exact HB2.out)⟩
        | true =>
          rw [hv] at CX
          have HNX : Hid (x ∈ ks.take i → Q = false) := Lib.hid (fun hm => by rw [← HQi.out, keys_go_bad hx (.inr (List.mem_reverse.2 hm))]; rfl)
          have HON : Hid (x ∉ ks.take i → (keysGo (ks.take (i + 1)).reverse (ks.drop (i + 1)) && (decide (ks.length = n) && E)) = Q) := Lib.hid (fun hm => by rw [← HQi.out, keys_go_on hx hv (fun h => hm (List.mem_reverse.1 h)), take_rev hx])
          clear hv hx HQi
          go_wp2_with fail
          refine CX.out.mono ?_
          rintro e w2 ⟨rfl, hb2⟩
          have HB2 := Lib.hid (below_of_new HBr.out hb2)
          clear hb2 b0 b1 b2 b3 m0 CX
          go_wp2_with fail
          go_loopw [11] (fun s11 wx => ∃ j : Nat, s11 = .int .i64 (j : Int) ∧ j ≤ i ∧ Hid (x ∉ ks.take j) ∧ Hid (Below W1.heap.size W1 wx)) (fun s11 _ => i - (RowKit.intOf s11).toNat)
          case atStart => exact ⟨0, rfl, Nat.zero_le _, Lib.hid (by simp), HB2⟩
          case round =>
            obtain ⟨j, rfl, hj, HNJ, HBx⟩ := hrel
            obtain ⟨b0, b1, b2, b3⟩ := (HXB.out.keep HBx.out).cells
            simp only [VT.kind, VT.text, VT.items, VT.keys] at b0 b1 b2 b3
            have HBX := Lib.hid (below_of_new HB1.out HBx.out)
            by_cases hji : j < i
            · have dj : decide ((j : Int) < (i : Int)) = true := decide_eq_true (by omega)
              have hjz : (j : Int) < (ks.length : Int) := by omega
              obtain ⟨y, hy⟩ : ∃ y, ks[j]? = some y := ⟨_, List.getElem?_eq_getElem (by omega)⟩
              obtain ⟨g2, o2, hp2, hg2⟩ := HSL.out.at_ hy
              obtain ⟨rfl, rfl⟩ : g = g2 ∧ o = o2 := by simp at hp2; exact hp2
              have m0 : wr.cell? ⟨g, o + i, none⟩ = some (.string (bs x)) := by
                obtain ⟨g3, o3, hp3, hg3⟩ := HSL.out.at_ HX.out
                obtain ⟨rfl, rfl⟩ : g = g3 ∧ o = o3 := by simp at hp3; exact hp3
                rw [HBx.out.cell (p := ⟨g, o + i, none⟩) HG.out]; exact hg3
              have m1 : wr.cell? ⟨g, o + j, none⟩ = some (.string (bs y)) := by rw [HBx.out.cell (p := ⟨g, o + j, none⟩) HG.out]; exact hg2
              have hyt : y ∈ ks.take i := by
                have : (ks.take i)[j]? = some y := by rw [List.getElem?_take, if_pos hji]; exact hy
                exact List.mem_of_getElem? this
              have hyn : y ≠ x → x ∉ ks.take (j + 1) := fun hne => by
                obtain ⟨h1, h2⟩ := List.getElem?_eq_some_iff.1 hy
                rw [List.take_succ_eq_append_getElem h1, h2, List.mem_append, List.mem_singleton]
                rintro (h | h)
                · exact HNJ.out h
                · exact hne h.symm
              have q1 := str_eq y x
              have q2 := str_eq2 y x
              by_cases hyx : y = x
              · rw [decide_eq_true hyx] at q1 q2
                obtain rfl := HNX.out (by rw [← hyx]; exact hyt)
                clear hy hp2 hg2 hyt hyn hyx
                go_upto_region 28 with fail
                go_region
                all_goals
                  go_wp2_with fail
                  go_ret
                  exact ⟨⟨false, rfl, fun _ => rfl⟩, by first | exact HBX.out | exact HBX.out.drew | (rw [← hX]; exact HBX.out) | (rw [← hX]; exact HBX.out.drew)⟩
              · rw [decide_eq_false hyx] at q1 q2
                have HNJ2 := Lib.hid (hyn hyx)
                clear hy hp2 hg2 hyt hyn hyx HNJ
                go_upto_region 28 with fail
                go_region
                all_goals
                  go_wp2_with fail
                  go_roundw
                  case rel => exact ⟨j + 1, by go_num, by omega, HNJ2, by first | exact HBx | exact Lib.hid (below_drewN HBx.out _)⟩
                  case measure => simp [RowKit.intOf]; omega
            · have dj : decide ((j : Int) < (i : Int)) = false := decide_eq_false (by omega)
              obtain rfl : j = i := by omega
              have HQ2 := Lib.hid (HON.out HNJ.out)
              clear b0 b1 b2 b3
              go_wp2_with fail
              go_roundw
              case rel => exact ⟨j + 1, by go_num, by omega, HQ2, by first | exact HBx | exact Lib.hid (below_drewN HBx.out _)⟩
              case measure => simp [RowKit.intOf]; omega
      · have dk : decide ((i : Int) < (ks.length : Int)) = false := decide_eq_false (by omega)
        have hq := HQi.out
        rw [List.drop_of_length_le (by omega)] at hq
        have hq : (decide (ks.length = n) && E) = Q := hq
        cases E with
        | false =>
          obtain rfl : Q = false := by rw [← hq]; simp
          clear hq
          go_wp2_with fail
          go_ret
          exact ⟨⟨false, rfl, fun _ => rfl⟩, by first | exact HBW.out | (rw [← hX]; exact HBW.out)⟩
        | true =>
          have hq : decide (ks.length = n) = Q := by simpa using hq
          by_cases hln : ks.length = n
          · rw [decide_eq_true hln] at hq
            subst hq
            have dl : ((ks.length : Int) == (n : Int)) = true := beq_iff_eq.2 (by omega)
            clear hln
            go_wp2_with fail
            go_ret
            exact ⟨⟨true, rfl, fun _ => rfl⟩, by first | exact HBW.out | (rw [← hX]; exact HBW.out)⟩
          · rw [decide_eq_false hln] at hq
            subst hq
            have dl : ((ks.length : Int) == (n : Int)) = false := beq_eq_false_iff_ne.2 (by omega)
            clear hln
            go_wp2_with fail
            go_ret
            exact ⟨⟨false, rfl, fun _ => rfl⟩, by first | exact HBW.out | (rw [← hX]; exact HBW.out)⟩
  have d6 : (k == 6) = false := beq_eq_false_iff_ne.2 h6
  have b6 : (k != 6) = true := bne_iff_ne.2 h6
  by_cases hk0 : 0 < ks.length
  · have dk0 : decide ((0 : Int) < (ks.length : Int)) = true := decide_eq_true (by omega)
    have hF : nodeF k s ks n = false := by
      unfold nodeF
      rw [decide_eq_true hk0]
      by_cases h5 : k = 5
      · rw [if_pos h5]; rfl
      · rw [if_neg h5, if_neg h6, if_pos (by simp)]
    rw [hF]
    clear hF
    go_enter Tryz.func166, Tryz.ntmps166
    go_upto_region 1 with fail
    clear hW1
    obtain ⟨b0, b1, b2, b3⟩ := HXB.out.cells
    simp only [VT.kind, VT.text, VT.items, VT.keys] at b0 b1 b2 b3
    go_wp2_with fail
    go_ret
    exact ⟨⟨false, rfl, fun _ => rfl⟩, by first | exact HB1.out | (rw [← hX]; exact HB1.out)⟩
  have dk0 : decide ((0 : Int) < (ks.length : Int)) = false := decide_eq_false (by omega)
  have dk1 : decide (0 < ks.length) = false := decide_eq_false hk0
  have hk00 : ks.length = 0 := by omega
  by_cases h5 : k = 5
  · subst h5
    rw [show nodeF 5 s ks n = (!decide (0 < ks.length) && s.isEmpty) from rfl, dk1]
    rw [hk00] at hW1 HXB ⊢
    clear hk0 dk0 dk1 hdl
    go_enter Tryz.func166, Tryz.ntmps166
    go_upto_region 1 with fail
    clear hW1
    obtain ⟨b0, b1, b2, b3⟩ := HXB.out.cells
    simp only [VT.kind, VT.text, VT.items, VT.keys] at b0 b1 b2 b3
    go_wp2_with fail
    go_ret
    exact ⟨⟨s.isEmpty, rfl, fun _ => by simp⟩, by first | exact HB1.out | (rw [← hX]; exact HB1.out)⟩
  have d5 : (k == 5) = false := beq_eq_false_iff_ne.2 h5
  have b5 : (k != 5) = true := bne_iff_ne.2 h5
  by_cases hn0 : 0 < n
  · have dn0 : decide ((0 : Int) < (n : Int)) = true := decide_eq_true (by omega)
    have hF : nodeF k s ks n = false := by
      unfold nodeF
      rw [if_neg h5, if_neg h6, decide_eq_true hn0, dk1, if_pos (by simp)]
    rw [hF]
    rw [hk00] at hW1 HXB ⊢
    clear hF hk0 dk0 dk1
    go_enter Tryz.func166, Tryz.ntmps166
    go_upto_region 1 with fail
    clear hW1
    obtain ⟨b0, b1, b2, b3⟩ := HXB.out.cells
    simp only [VT.kind, VT.text, VT.items, VT.keys] at b0 b1 b2 b3
    go_wp2_with fail
    go_ret
    exact ⟨⟨false, rfl, fun _ => rfl⟩, by first | exact HB1.out | (rw [← hX]; exact HB1.out)⟩
  have dn0 : decide ((0 : Int) < (n : Int)) = false := decide_eq_false (by omega)
  have hF : nodeF k s ks n = (if k = 1 then s.isEmpty else if k = 2 then decide (s = trueL) || decide (s = falseL) else if k = 3 then decB s else if k = 4 then Lib.validD s else false) := by
    unfold nodeF
    rw [if_neg h5, if_neg h6, decide_eq_false hn0, dk1, if_neg (by simp)]
  rw [hF]
  have hn00 : n = 0 := by omega
  subst hn00
  rw [hk00] at hW1 HXB ⊢
  clear hF hn0 hk0 dk0 dn0 dk1 h5 h6
  by_cases h1 : k = 1
  · subst h1
    rw [if_pos rfl]
    clear hdl
    go_enter Tryz.func166, Tryz.ntmps166
    go_upto_region 1 with fail
    clear hW1
    obtain ⟨b0, b1, b2, b3⟩ := HXB.out.cells
    simp only [VT.kind, VT.text, VT.items, VT.keys] at b0 b1 b2 b3
    go_wp2_with fail
    go_ret
    exact ⟨⟨s.isEmpty, rfl, fun _ => rfl⟩, by first | exact HB1.out | (rw [← hX]; exact HB1.out)⟩
  rw [if_neg h1]
  have d1 : (k == 1) = false := beq_eq_false_iff_ne.2 h1
  clear h1
  by_cases h2 : k = 2
  · subst h2
    rw [if_pos rfl]
    have q1 := str_lit s trueL
    have q2 := str_lit s falseL
    obtain ⟨A, hA⟩ : ∃ A, decide (s = trueL) = A := ⟨_, rfl⟩
    obtain ⟨B, hB⟩ : ∃ A, decide (s = falseL) = A := ⟨_, rfl⟩
    rw [hA] at q1 ⊢
    rw [hB] at q2 ⊢
    have hA : decide (s = [116, 114, 117, 101]) = A := hA
    have hB : decide (s = [102, 97, 108, 115, 101]) = B := hB
    unfold trueL at q1
    unfold falseL at q2
    clear e0 hdl
    cases A
    · go_enter Tryz.func166, Tryz.ntmps166
      go_upto_region 1 with fail
      clear hW1
      obtain ⟨b0, b1, b2, b3⟩ := HXB.out.cells
      simp only [VT.kind, VT.text, VT.items, VT.keys] at b0 b1 b2 b3
      go_wp2_with fail
      go_ret
      exact ⟨⟨B, rfl, fun _ => by simp⟩, by first | exact HB1.out | (rw [← hX]; exact HB1.out)⟩
    · go_enter Tryz.func166, Tryz.ntmps166
      go_upto_region 1 with fail
      clear hW1
      obtain ⟨b0, b1, b2, b3⟩ := HXB.out.cells
      simp only [VT.kind, VT.text, VT.items, VT.keys] at b0 b1 b2 b3
      go_wp2_with fail
      go_ret
      exact ⟨⟨true, rfl, fun _ => by simp⟩, by first | exact HB1.out | (rw [← hX]; exact HB1.out)⟩
  rw [if_neg h2]
  have d2 : (k == 2) = false := beq_eq_false_iff_ne.2 h2
  clear h2
  by_cases h3 : k = 3
  · subst h3
    rw [if_pos rfl]
    obtain ⟨D, hD⟩ : ∃ D, decB s = D := ⟨_, rfl⟩
    rw [hD] at CD ⊢
    clear hD hdl
    go_enter Tryz.func166, Tryz.ntmps166
    go_upto_region 1 with fail
    clear hW1
    obtain ⟨b0, b1, b2, b3⟩ := HXB.out.cells
    simp only [VT.kind, VT.text, VT.items, VT.keys] at b0 b1 b2 b3
    go_wp2_with fail
    refine (CD.out _ (Below.refl _ _)).mono ?_
    rintro e w2 ⟨rfl, hb2⟩
    have HB2 := Lib.hid (below_of_new HB1.out hb2)
    clear hb2 b0 b1 b2 b3
    go_wp2_with fail
    go_ret
    exact ⟨⟨D, rfl, fun _ => rfl⟩, by first | exact HB2.out | exact HB2.out.trans ((below_alloc1 _ _).mono HB2.out.size) | (rw [← hX]; exact HB2.out.trans ((below_alloc1 _ _).mono HB2.out.size))⟩
  rw [if_neg h3]
  have d3 : (k == 3) = false := beq_eq_false_iff_ne.2 h3
  clear h3
  by_cases h4 : k = 4
  · subst h4
    rw [if_pos rfl]
    obtain ⟨D, hD⟩ : ∃ D, Lib.validD s = D := ⟨_, rfl⟩
    rw [hD] at CU ⊢
    clear hD hdl
    go_enter Tryz.func166, Tryz.ntmps166
    go_upto_region 1 with fail
    clear hW1
    obtain ⟨b0, b1, b2, b3⟩ := HXB.out.cells
    simp only [VT.kind, VT.text, VT.items, VT.keys] at b0 b1 b2 b3
    go_wp2_with fail
    refine (CU.out _).mono ?_
    rintro e w2 ⟨rfl, hb2⟩
    have HB2 := Lib.hid (below_of_new HB1.out hb2)
    clear hb2 b0 b1 b2 b3
    go_wp2_with fail
    go_ret
    exact ⟨⟨D, rfl, fun _ => rfl⟩, by first | exact HB2.out | (rw [← hX]; exact HB2.out)⟩
  rw [if_neg h4]
  have d4 : (k == 4) = false := beq_eq_false_iff_ne.2 h4
  clear h4
  by_cases h7 : k = 7
  · subst h7
    have hpd := parse_dig s
    obtain ⟨⟨m, er⟩, hm⟩ : ∃ P, parseL s = P := ⟨_, rfl⟩
    have CI : Hid (∀ w, Calls Tryz.prog 216 #[.agg #[.bool m.neg, .string (bs m.dig), .int .i64 m.exp]] w fun e w' => e = intV m ∧ Below w.heap.size w w') := Lib.hid (fun w => refInt_any m w (by
      by_cases he : er = 0
      · rw [hm] at hpd
        have : (m, er).2 = 0 := he
        have := hpd this
        show m.dig.length ≤ _
        have e3 : (m, er).1 = m := rfl
        rw [e3] at this
        omega
      · have := parse_err hm he
        rw [this]
        decide))
    unfold intV at CI
    rw [hm] at CD
    obtain ⟨D, hD⟩ : ∃ D, decB s = D := ⟨_, rfl⟩
    rw [hD] at CD
    obtain ⟨⟨z, zb⟩, hz⟩ : ∃ Z, intL m = Z := ⟨_, rfl⟩
    rw [hz] at CI
    simp only [] at CD CI
    clear hD hdl hm hz hpd
    go_enter Tryz.func166, Tryz.ntmps166
    go_upto_region 1 with fail
    clear hW1
    obtain ⟨b0, b1, b2, b3⟩ := HXB.out.cells
    simp only [VT.kind, VT.text, VT.items, VT.keys] at b0 b1 b2 b3
    go_wp2_with fail
    refine (CD.out _ (Below.refl _ _)).mono ?_
    rintro e w2 ⟨rfl, hb2⟩
    have HB2 := Lib.hid (below_of_new HB1.out hb2)
    clear hb2 b0 b1 b2 b3
    obtain ⟨Y, hY⟩ : ∃ Y, w2.heap.size = Y := ⟨_, rfl⟩
    have a3 := below_alloc1 w2 (.cells #[.bool m.neg, .string (bs m.dig), .int .i64 m.exp] 80)
    have x3 := NbBox.new w2 m
    obtain ⟨W3, hW3⟩ : ∃ W, w2.alloc (.cells #[.bool m.neg, .string (bs m.dig), .int .i64 m.exp] 80) = W := ⟨_, rfl⟩
    rw [hW3] at a3 x3
    rw [hY] at x3
    have HB3 := Lib.hid (HB2.out.trans (a3.mono HB2.out.size))
    obtain ⟨c0, c1, c2, _⟩ := x3.cells
    clear a3
    go_wp2_with fail
    refine (CI.out _).mono ?_
    rintro e w4 ⟨rfl, hb4⟩
    have HB4 := Lib.hid (below_of_new HB3.out hb4)
    clear hb4 c0 c1 c2 x3
    cases D <;> cases zb
    · go_wp2_with fail
      go_ret
      exact ⟨⟨false, rfl, fun h => absurd rfl h⟩, by first | exact HB4.out | (rw [← hX]; exact HB4.out)⟩
    · go_wp2_with fail
      go_ret
      exact ⟨⟨false, rfl, fun h => absurd rfl h⟩, by first | exact HB4.out | (rw [← hX]; exact HB4.out)⟩
    · go_wp2_with fail
      go_ret
      exact ⟨⟨false, rfl, fun h => absurd rfl h⟩, by first | exact HB4.out | (rw [← hX]; exact HB4.out)⟩
    · go_wp2_with fail
      go_ret
      exact ⟨⟨_, rfl, fun h => absurd rfl h⟩, by first | exact HB4.out | (rw [← hX]; exact HB4.out)⟩
  have d7 : (k == 7) = false := beq_eq_false_iff_ne.2 h7
  clear h7
  go_enter Tryz.func166, Tryz.ntmps166
  go_upto_region 1 with fail
  clear hW1
  obtain ⟨b0, b1, b2, b3⟩ := HXB.out.cells
  simp only [VT.kind, VT.text, VT.items, VT.keys] at b0 b1 b2 b3
  go_wp2_with fail
  go_ret
  exact ⟨⟨false, rfl, fun _ => rfl⟩, by first | exact HB1.out | (rw [← hX]; exact HB1.out)⟩
end Go.Proofs.YtnnlpkbopeiefaaGreatDoor
/-! The reference's Size, Depth, nodes, Right. Printed by mktg.py. -/
namespace Go.Proofs.YtnnlpkbopeiefaaGreatDoor
set_option linter.unusedSimpArgs false
set_option linter.unusedVariables false
open Go.RowKit
open Go.Lib hiding intOf
theorem take_add {l : List VT} {i : Nat} {x : VT} (hx : l[i]? = some x) : l.take (i + 1) = l.take i ++ [x] := by
  obtain ⟨h1, h2⟩ := List.getElem?_eq_some_iff.1 hx
  rw [List.take_succ_eq_append_getElem h1, h2]
def RSz (n : Nat) : Prop := ∀ (t : VT) (kv iv : Value) (w : World), VD w n t kv iv → t.bulk ≤ 1073741824 →
    Calls Tryz.prog 109 #[vv t kv iv] w fun e w' => e = .returned (.int .i64 (t.size : Int)) ∧ Below w.heap.size w w'
set_option maxRecDepth 100000 in
set_option maxHeartbeats 1000000 in
theorem rsize_step (n : Nat) (IH : RSz n) : RSz (n + 1) := by
  intro t kv iv w h hbk
  obtain ⟨m', hm, ⟨pk, ck, rfl, hck, hlies⟩, p, c, rfl, hlc, hit⟩ := h.parts
  obtain rfl : n = m' := by omega
  obtain ⟨X, hX⟩ : ∃ X, w.heap.size = X := ⟨_, rfl⟩
  obtain ⟨W1, hW1⟩ : ∃ W, w.alloc (.cells #[.int .i64 t.kind, .string (bs t.text), .slice pk t.keys.length ck, .slice p t.items.length c] 25) = W := ⟨_, rfl⟩
  have HB1 : Hid (Below w.heap.size w W1) := Lib.hid (by rw [← hW1]; exact below_alloc1 _ _)
  have HXB : Hid (VBox W1 X t (.slice pk t.keys.length ck) (.slice p t.items.length c)) := Lib.hid (by rw [← hW1, ← hX]; exact VBox.new w t _ _)
  have HIT := Lib.hid (hit.keep HB1.out)
  have HSL := Lib.hid (hlies.keep HB1.out)
  have hb0 : t.bulk = t.text.length + (totS t.keys + t.keys.length) + bulks t.items + 1 := by cases t; rw [VT.bulk]; rfl
  have hlen := len_le_bulks t.items
  have hsz : t.size = sizes t.items + 1 := by cases t; rw [VT.size]; rfl
  have hsb := sizes_le_bulks t.items
  rw [hsz]
  unfold vv
  clear hit hlies h hm hsz
  go_enter Tryz.func109, Tryz.ntmps109
  go_upto_region 1 with fail
  clear hW1
  go_wp2_with fail
  go_loopw [3, 4] (fun s3 s4 wr => ∃ i : Nat, s3 = .int .i64 (((sizes (t.items.take i) + 1 : Nat)) : Int) ∧ s4 = .int .i64 (i : Int) ∧ i ≤ t.items.length ∧ Hid (Below W1.heap.size W1 wr)) (fun _ s4 _ => t.items.length - (RowKit.intOf s4).toNat)
  case atStart => exact ⟨0, by rw [List.take_zero]; rfl, rfl, Nat.zero_le _, Lib.hid (by first | exact Below.refl _ _ | exact (Below.refl _ _).drew)⟩
  case round =>
    obtain ⟨i, rfl, rfl, hi, HBr⟩ := hrel
    obtain ⟨b0, b1, b2, b3⟩ := (HXB.out.keep HBr.out).cells
    by_cases hil : i < t.items.length
    · obtain ⟨x, hx⟩ : ∃ x, t.items[i]? = some x := ⟨_, List.getElem?_eq_getElem hil⟩
      have hi1 : (i : Int) < (t.items.length : Int) := by omega
      have dk : decide ((i : Int) < (t.items.length : Int)) = true := decide_eq_true hi1
      have hxb := bulk_mem (List.mem_of_getElem? hx)
      obtain ⟨g, o, kv', iv', rfl, hg, n0, n1, n2, n3, hvd⟩ := HIT.out i x hx
      obtain ⟨pk2, ck2, px, cx, rfl, rfl⟩ := hvd.form
      have m0 : wr.cell? ⟨g, o + i * 4, none⟩ = some (.int .i64 x.kind) := by rw [HBr.out.cell (p := ⟨g, _, none⟩) hg]; exact n0
      have m1 : wr.cell? ⟨g, o + i * 4 + 1, none⟩ = some (.string (bs x.text)) := by rw [HBr.out.cell (p := ⟨g, _, none⟩) hg]; exact n1
      have m2 : wr.cell? ⟨g, o + i * 4 + 2, none⟩ = some (.slice pk2 x.keys.length ck2) := by rw [HBr.out.cell (p := ⟨g, _, none⟩) hg]; exact n2
      have m3 : wr.cell? ⟨g, o + i * 4 + 3, none⟩ = some (.slice px x.items.length cx) := by rw [HBr.out.cell (p := ⟨g, _, none⟩) hg]; exact n3
      have HC := Lib.hid (IH x _ _ wr (hvd.keep HBr.out) (by omega))
      unfold vv at HC
      obtain ⟨S, hS⟩ : ∃ S, sizes (t.items.take i) = S := ⟨_, rfl⟩
      have hn : sizes (t.items.take (i + 1)) = S + x.size := by rw [take_add hx, sizes_app, hS]; simp [sizes]
      have hle : S + x.size ≤ sizes t.items := by
        have : sizes t.items = sizes (t.items.take (i + 1)) + sizes (t.items.drop (i + 1)) := by rw [← sizes_app, List.take_append_drop]
        omega
      have HN := Lib.hid hn
      rw [hS]
      clear hx hvd n0 n1 n2 n3 hn hS
      go_wp2_with fail
      refine HC.out.mono ?_
      rintro e w2 ⟨rfl, hb2⟩
      have HB2 := Lib.hid (below_of_new HBr.out hb2)
      clear hb2 b0 b1 b2 b3 m0 m1 m2 m3 HC
      go_wp2_with fail
      go_roundw
      case rel => exact ⟨i + 1, by rw [HN.out]; go_num, by go_num, by omega, by first | exact HB2 | exact Lib.hid (below_drewN HB2.out _)⟩
      case measure => simp [RowKit.intOf]; omega
    · have dk : decide ((i : Int) < (t.items.length : Int)) = false := decide_eq_false (by omega)
      obtain rfl : i = t.items.length := by omega
      rw [List.take_length]
      have HB2 := Lib.hid (below_of_new HB1.out HBr.out)
      go_wp2_with fail
      go_ret
      exact ⟨by first | rfl | simp, by first | exact HB2.out | (rw [← hX]; exact HB2.out)⟩
theorem rsize_any : ∀ n, RSz n
  | 0 => fun _ _ _ _ h => h.elim
  | n + 1 => rsize_step n (rsize_any n)
def RDp (n : Nat) : Prop := ∀ (t : VT) (kv iv : Value) (w : World), VD w n t kv iv → t.bulk ≤ 1073741824 →
    Calls Tryz.prog 110 #[vv t kv iv] w fun e w' => e = .returned (.int .i64 (t.depth : Int)) ∧ Below w.heap.size w w'
set_option maxRecDepth 100000 in
set_option maxHeartbeats 1000000 in
theorem rdepth_step (n : Nat) (IH : RDp n) : RDp (n + 1) := by
  intro t kv iv w h hbk
  obtain ⟨m', hm, ⟨pk, ck, rfl, hck, hlies⟩, p, c, rfl, hlc, hit⟩ := h.parts
  obtain rfl : n = m' := by omega
  obtain ⟨X, hX⟩ : ∃ X, w.heap.size = X := ⟨_, rfl⟩
  obtain ⟨W1, hW1⟩ : ∃ W, w.alloc (.cells #[.int .i64 t.kind, .string (bs t.text), .slice pk t.keys.length ck, .slice p t.items.length c] 25) = W := ⟨_, rfl⟩
  have HB1 : Hid (Below w.heap.size w W1) := Lib.hid (by rw [← hW1]; exact below_alloc1 _ _)
  have HXB : Hid (VBox W1 X t (.slice pk t.keys.length ck) (.slice p t.items.length c)) := Lib.hid (by rw [← hW1, ← hX]; exact VBox.new w t _ _)
  have HIT := Lib.hid (hit.keep HB1.out)
  have HSL := Lib.hid (hlies.keep HB1.out)
  have hb0 : t.bulk = t.text.length + (totS t.keys + t.keys.length) + bulks t.items + 1 := by cases t; rw [VT.bulk]; rfl
  have hlen := len_le_bulks t.items
  have hsz : t.depth = depths t.items + 1 := by cases t; rw [VT.depth]; rfl
  have hsb := depths_le_bulks t.items
  rw [hsz]
  unfold vv
  clear hit hlies h hm hsz
  go_enter Tryz.func110, Tryz.ntmps110
  go_upto_region 1 with fail
  clear hW1
  go_wp2_with fail
  go_loopw [3, 4] (fun s3 s4 wr => ∃ i : Nat, s3 = .int .i64 (depths (t.items.take i) : Int) ∧ s4 = .int .i64 (i : Int) ∧ i ≤ t.items.length ∧ Hid (Below W1.heap.size W1 wr)) (fun _ s4 _ => t.items.length - (RowKit.intOf s4).toNat)
  case atStart => exact ⟨0, by rw [List.take_zero]; rfl, rfl, Nat.zero_le _, Lib.hid (by first | exact Below.refl _ _ | exact (Below.refl _ _).drew)⟩
  case round =>
    obtain ⟨i, rfl, rfl, hi, HBr⟩ := hrel
    obtain ⟨b0, b1, b2, b3⟩ := (HXB.out.keep HBr.out).cells
    by_cases hil : i < t.items.length
    · obtain ⟨x, hx⟩ : ∃ x, t.items[i]? = some x := ⟨_, List.getElem?_eq_getElem hil⟩
      have hi1 : (i : Int) < (t.items.length : Int) := by omega
      have dk : decide ((i : Int) < (t.items.length : Int)) = true := decide_eq_true hi1
      have hxb := bulk_mem (List.mem_of_getElem? hx)
      obtain ⟨g, o, kv', iv', rfl, hg, n0, n1, n2, n3, hvd⟩ := HIT.out i x hx
      obtain ⟨pk2, ck2, px, cx, rfl, rfl⟩ := hvd.form
      have m0 : wr.cell? ⟨g, o + i * 4, none⟩ = some (.int .i64 x.kind) := by rw [HBr.out.cell (p := ⟨g, _, none⟩) hg]; exact n0
      have m1 : wr.cell? ⟨g, o + i * 4 + 1, none⟩ = some (.string (bs x.text)) := by rw [HBr.out.cell (p := ⟨g, _, none⟩) hg]; exact n1
      have m2 : wr.cell? ⟨g, o + i * 4 + 2, none⟩ = some (.slice pk2 x.keys.length ck2) := by rw [HBr.out.cell (p := ⟨g, _, none⟩) hg]; exact n2
      have m3 : wr.cell? ⟨g, o + i * 4 + 3, none⟩ = some (.slice px x.items.length cx) := by rw [HBr.out.cell (p := ⟨g, _, none⟩) hg]; exact n3
      have HC := Lib.hid (IH x _ _ wr (hvd.keep HBr.out) (by omega))
      unfold vv at HC
      obtain ⟨S, hS⟩ : ∃ S, depths (t.items.take i) = S := ⟨_, rfl⟩
      have hn : depths (t.items.take (i + 1)) = max S x.depth := by rw [take_add hx, depths_app, hS]; simp [depths]
      have HN := Lib.hid hn
      rw [hS]
      clear hx hvd n0 n1 n2 n3 hn hS
      go_wp2_with fail
      refine HC.out.mono ?_
      rintro e w2 ⟨rfl, hb2⟩
      have HB2 := Lib.hid (below_of_new HBr.out hb2)
      clear hb2 b0 b1 b2 b3 m0 m1 m2 m3 HC
      go_wp2_with fail
      go_roundw
      case rel => exact ⟨i + 1, by rw [HN.out]; first | rfl | (congr 1; omega) | (simp; omega), by go_num, by omega, by first | exact HB2 | exact Lib.hid (below_drewN HB2.out _)⟩
      case measure => simp [RowKit.intOf]; omega
    · have dk : decide ((i : Int) < (t.items.length : Int)) = false := decide_eq_false (by omega)
      obtain rfl : i = t.items.length := by omega
      rw [List.take_length]
      have HB2 := Lib.hid (below_of_new HB1.out HBr.out)
      go_wp2_with fail
      go_ret
      exact ⟨by first | rfl | simp, by first | exact HB2.out | (rw [← hX]; exact HB2.out)⟩
theorem rdepth_any : ∀ n, RDp n
  | 0 => fun _ _ _ _ h => h.elim
  | n + 1 => rdepth_step n (rdepth_any n)
def RNd (n : Nat) : Prop := ∀ (t : VT) (kv iv : Value) (w : World), VD w n t kv iv → t.bulk ≤ 1073741824 → VVar w →
    Calls Tryz.prog 111 #[vv t kv iv, .bool false] w fun e w' => e = .returned (.bool (everyB rnodeB t)) ∧ Below w.heap.size w w'
theorem everyL_take {p : VT → Bool} {l : List VT} {i : Nat} {x : VT} (hx : l[i]? = some x) : everyL p (l.take (i + 1)) = (everyL p (l.take i) && everyB p x) := by
  rw [everyL_eq, everyL_eq, take_add hx, List.all_append]
  simp
set_option maxRecDepth 100000 in
set_option maxHeartbeats 1000000 in
theorem rnodes_step (n : Nat) (IH : RNd n) : RNd (n + 1) := by
  intro t kv iv w h hbk hV
  obtain ⟨m', hm, ⟨pk, ck, rfl, hck, hlies⟩, p, c, rfl, hlc, hit⟩ := h.parts
  obtain rfl : n = m' := by omega
  obtain ⟨X, hX⟩ : ∃ X, w.heap.size = X := ⟨_, rfl⟩
  obtain ⟨W1, hW1⟩ : ∃ W, w.alloc (.cells #[.int .i64 t.kind, .string (bs t.text), .slice pk t.keys.length ck, .slice p t.items.length c] 25) = W := ⟨_, rfl⟩
  have HB1 : Hid (Below w.heap.size w W1) := Lib.hid (by rw [← hW1]; exact below_alloc1 _ _)
  have HXB : Hid (VBox W1 X t (.slice pk t.keys.length ck) (.slice p t.items.length c)) := Lib.hid (by rw [← hW1, ← hX]; exact VBox.new w t _ _)
  have HIT := Lib.hid (hit.keep HB1.out)
  have HSL := Lib.hid (hlies.keep HB1.out)
  have hb0 : t.bulk = t.text.length + (totS t.keys + t.keys.length) + bulks t.items + 1 := by cases t; rw [VT.bulk]; rfl
  have hlen := len_le_bulks t.items
  have HV := Lib.hid (hV.keep HB1.out)
  have HCN := Lib.hid (rnode_any t (.slice pk t.keys.length ck) p c W1 ⟨pk, ck, rfl, hck, HSL.out⟩ hbk HV.out)
  have hev : everyB rnodeB t = (rnodeB t && everyL rnodeB t.items) := by cases t; rw [everyB]; rfl
  have hrn : rnodeB t = (decide (t.kind ≠ 7) && nodeB t) := rfl
  obtain ⟨N, hN⟩ : ∃ N, nodeB t = N := ⟨_, rfl⟩
  rw [hN] at HCN hrn
  rw [hev]
  have HRN := Lib.hid hrn
  obtain ⟨Q, hZ⟩ : ∃ Z, (rnodeB t && everyL rnodeB t.items) = Z := ⟨_, rfl⟩
  rw [hZ]
  have HZ := Lib.hid hZ
  clear hZ
  have HEL : Hid ((everyL rnodeB t.items = true) ∨ ∃ (i : Nat) (x : VT), t.items[i]? = some x ∧ everyB rnodeB x = false) := Lib.hid (by
    by_cases hh : everyL rnodeB t.items = true
    · exact .inl hh
    · right
      rw [everyL_eq, List.all_eq_true] at hh
      obtain ⟨x, hx⟩ := Classical.not_forall.1 hh
      obtain ⟨hm, hb⟩ := Classical.not_imp.1 hx
      obtain ⟨i, hi⟩ := List.getElem?_of_mem hm
      exact ⟨i, x, hi, by simpa using hb⟩)
  unfold vv at HCN ⊢
  clear hit hlies h hm hev hrn hN hV
  go_enter Tryz.func111, Tryz.ntmps111
  go_upto_region 1 with fail
  clear hW1
  obtain ⟨b0, b1, b2, b3⟩ := HXB.out.cells
  go_wp2_with fail
  refine HCN.out.mono ?_
  rintro e w2 ⟨⟨r, rfl, hr⟩, hb2⟩
  have HB2 := Lib.hid hb2
  have HRR := Lib.hid hr
  clear hb2 b0 b1 b2 b3 HCN hr
  obtain ⟨b0, b1, b2, b3⟩ := (HXB.out.keep HB2.out).cells
  have HBB := Lib.hid (below_of_new HB1.out HB2.out)
  by_cases h7 : t.kind = 7
  · have d7 : (t.kind == 7) = true := beq_iff_eq.2 h7
    have hF : rnodeB t = false := by rw [HRN.out, decide_eq_false (by simpa using h7)]; rfl
    obtain rfl : Q = false := by rw [← HZ.out, hF, Bool.false_and]
    clear hF h7
    cases r
    · go_wp2_with fail
      go_ret
      exact ⟨rfl, by first | exact HBB.out | (rw [← hX]; exact HBB.out)⟩
    · go_wp2_with fail
      go_ret
      exact ⟨rfl, by first | exact HBB.out | (rw [← hX]; exact HBB.out)⟩
  have d7 : (t.kind == 7) = false := beq_eq_false_iff_ne.2 h7
  obtain rfl := HRR.out h7
  have hR : rnodeB t = r := by rw [HRN.out, decide_eq_true (by simpa using h7)]; rfl
  have HZ2 : Hid ((r && everyL rnodeB t.items) = Q) := Lib.hid (by rw [← hR]; exact HZ.out)
  clear hR h7
  cases r with
  | false =>
    obtain rfl : Q = false := by rw [← HZ2.out, Bool.false_and]
    go_wp2_with fail
    go_ret
    exact ⟨rfl, by first | exact HBB.out | (rw [← hX]; exact HBB.out)⟩
  | true =>
  have HQ : Hid (everyL rnodeB t.items = Q) := Lib.hid (by rw [← HZ2.out, Bool.true_and])
  go_wp2_with fail
  clear b0 b1 b2 b3
  go_loopw [6, 7] (fun s6 s7 wr => ∃ i : Nat, s6 = .int .i64 (i : Int) ∧ i ≤ t.items.length ∧ Hid (everyL rnodeB (t.items.take i) = true) ∧ Hid (Below W1.heap.size W1 wr)) (fun s6 _ _ => t.items.length - (RowKit.intOf s6).toNat)
  case atStart => exact ⟨0, rfl, Nat.zero_le _, Lib.hid (by rw [List.take_zero]; rfl), HB2⟩
  case round =>
    obtain ⟨i, rfl, hi, HE, HBr⟩ := hrel
    obtain ⟨b0, b1, b2, b3⟩ := (HXB.out.keep HBr.out).cells
    by_cases hil : i < t.items.length
    · obtain ⟨x, hx⟩ : ∃ x, t.items[i]? = some x := ⟨_, List.getElem?_eq_getElem hil⟩
      have hi1 : (i : Int) < (t.items.length : Int) := by omega
      have dk : decide ((i : Int) < (t.items.length : Int)) = true := decide_eq_true hi1
      have hxb := bulk_mem (List.mem_of_getElem? hx)
      obtain ⟨g, o, kv', iv', rfl, hg, n0, n1, n2, n3, hvd⟩ := HIT.out i x hx
      obtain ⟨pk2, ck2, px, cx, rfl, rfl⟩ := hvd.form
      have m0 : wr.cell? ⟨g, o + i * 4, none⟩ = some (.int .i64 x.kind) := by rw [HBr.out.cell (p := ⟨g, _, none⟩) hg]; exact n0
      have m1 : wr.cell? ⟨g, o + i * 4 + 1, none⟩ = some (.string (bs x.text)) := by rw [HBr.out.cell (p := ⟨g, _, none⟩) hg]; exact n1
      have m2 : wr.cell? ⟨g, o + i * 4 + 2, none⟩ = some (.slice pk2 x.keys.length ck2) := by rw [HBr.out.cell (p := ⟨g, _, none⟩) hg]; exact n2
      have m3 : wr.cell? ⟨g, o + i * 4 + 3, none⟩ = some (.slice px x.items.length cx) := by rw [HBr.out.cell (p := ⟨g, _, none⟩) hg]; exact n3
      have HC := Lib.hid (IH x _ _ wr (hvd.keep HBr.out) (by omega) (HV.out.keep HBr.out))
      unfold vv at HC
      have HET := Lib.hid (everyL_take (p := rnodeB) hx)
      have hxm := List.mem_of_getElem? hx
      obtain ⟨y, hy⟩ : ∃ y, everyB rnodeB x = y := ⟨_, rfl⟩
      rw [hy] at HC HET
      have HFA : Hid (y = false → Q = false) := Lib.hid (fun h => by
        rw [← HQ.out, ← Bool.not_eq_true, everyL_eq, List.all_eq_true]
        intro hh
        have := hh x hxm
        rw [hy, h] at this
        cases this)
      clear hx hvd n0 n1 n2 n3 hy hxm
      go_wp2_with fail
      refine HC.out.mono ?_
      rintro e w3 ⟨rfl, hb3⟩
      have HB3 := Lib.hid (below_of_new HBr.out hb3)
      clear hb3 b0 b1 b2 b3 m0 m1 m2 m3 HC
      cases y with
      | false =>
        obtain rfl := HFA.out rfl
        have HB4 := Lib.hid (below_of_new HB1.out HB3.out)
        go_wp2_with fail
        go_ret
        exact ⟨rfl, by first | exact HB4.out | (rw [← hX]; exact HB4.out)⟩
      | true =>
        have HE2 : Hid (everyL rnodeB (t.items.take (i + 1)) = true) := Lib.hid (by rw [HET.out, HE.out]; rfl)
        go_wp2_with fail
        go_roundw
        case rel => exact ⟨i + 1, by go_num, by omega, HE2, by first | exact HB3 | exact Lib.hid (below_drewN HB3.out _)⟩
        case measure => simp [RowKit.intOf]; omega
    · have dk : decide ((i : Int) < (t.items.length : Int)) = false := decide_eq_false (by omega)
      obtain rfl : i = t.items.length := by omega
      obtain rfl : Q = true := by
        have := HE.out
        rw [List.take_length, HQ.out] at this
        exact this
      have HB3 := Lib.hid (below_of_new HB1.out HBr.out)
      go_wp2_with fail
      go_ret
      exact ⟨rfl, by first | exact HB3.out | (rw [← hX]; exact HB3.out)⟩
theorem rnodes_any : ∀ n, RNd n
  | 0 => fun _ _ _ _ h => h.elim
  | n + 1 => rnodes_step n (rnodes_any n)
set_option maxRecDepth 100000 in
set_option maxHeartbeats 1000000 in
theorem rright_any (n : Nat) (t : VT) (kv iv : Value) (w : World) (h : VD w n t kv iv) (hbk : t.bulk ≤ 1073741824) (hV : VVar w) :
    Calls Tryz.prog 58 #[vv t kv iv] w fun e w' => e = .returned (.bool (RightB t)) ∧ Below w.heap.size w w' := by
  obtain ⟨pk, ck, p, c, rfl, rfl⟩ := h.form
  obtain ⟨X, hX⟩ : ∃ X, w.heap.size = X := ⟨_, rfl⟩
  obtain ⟨W1, hW1⟩ : ∃ W, w.alloc (.cells #[.int .i64 t.kind, .string (bs t.text), .slice pk t.keys.length ck, .slice p t.items.length c] 25) = W := ⟨_, rfl⟩
  have HB1 : Hid (Below w.heap.size w W1) := Lib.hid (by rw [← hW1]; exact below_alloc1 _ _)
  have HXB : Hid (VBox W1 X t (.slice pk t.keys.length ck) (.slice p t.items.length c)) := Lib.hid (by rw [← hW1, ← hX]; exact VBox.new w t _ _)
  have HVD := Lib.hid (h.keep HB1.out)
  have HV := Lib.hid (hV.keep HB1.out)
  have C1 := Lib.hid (rsize_any n t _ _ W1 HVD.out hbk)
  have C2 : Hid (∀ w', Below W1.heap.size W1 w' → Calls Tryz.prog 110 #[vv t (.slice pk t.keys.length ck) (.slice p t.items.length c)] w' fun e w2 => e = .returned (.int .i64 (t.depth : Int)) ∧ Below w'.heap.size w' w2) := Lib.hid (fun w' hb => rdepth_any n t _ _ w' (HVD.out.keep hb) hbk)
  have C3 : Hid (∀ w', Below W1.heap.size W1 w' → Calls Tryz.prog 111 #[vv t (.slice pk t.keys.length ck) (.slice p t.items.length c), .bool false] w' fun e w2 => e = .returned (.bool (everyB rnodeB t)) ∧ Below w'.heap.size w' w2) := Lib.hid (fun w' hb => rnodes_any n t _ _ w' (HVD.out.keep hb) hbk (HV.out.keep hb))
  unfold vv at C1 C2 C3 ⊢
  unfold RightB
  obtain ⟨S, hS⟩ : ∃ S, t.size = S := ⟨_, rfl⟩
  obtain ⟨D, hD⟩ : ∃ S, t.depth = S := ⟨_, rfl⟩
  obtain ⟨E, hE⟩ : ∃ S, everyB rnodeB t = S := ⟨_, rfl⟩
  rw [hS] at C1 ⊢
  rw [hD] at C2 ⊢
  rw [hE] at C3 ⊢
  obtain ⟨Z, hZ⟩ : ∃ Z, (decide (S ≤ 4096) && decide (D ≤ 32) && E) = Z := ⟨_, rfl⟩
  rw [hZ]
  have HZ := Lib.hid hZ
  clear h hV hS hD hE hZ
  go_enter Tryz.func58, Tryz.ntmps58
  go_upto_region 1 with fail
  clear hW1
  obtain ⟨b0, b1, b2, b3⟩ := HXB.out.cells
  by_cases h1 : S ≤ 4096
  · have d1 : decide ((S : Int) ≤ 4096) = true := decide_eq_true (by omega)
    by_cases h2 : D ≤ 32
    · have d2 : decide ((D : Int) ≤ 32) = true := decide_eq_true (by omega)
      obtain rfl : E = Z := by rw [← HZ.out, decide_eq_true h1, decide_eq_true h2]; simp
      go_wp2_with fail
      refine C1.out.mono ?_
      rintro e w2 ⟨rfl, hb2⟩
      have HB2 := Lib.hid hb2
      clear hb2 b0 b1 b2 b3
      obtain ⟨b0, b1, b2, b3⟩ := (HXB.out.keep HB2.out).cells
      go_wp2_with fail
      refine (C2.out _ HB2.out).mono ?_
      rintro e w3 ⟨rfl, hb3⟩
      have HB3 := Lib.hid (below_of_new HB2.out hb3)
      clear hb3 b0 b1 b2 b3
      obtain ⟨b0, b1, b2, b3⟩ := (HXB.out.keep HB3.out).cells
      go_wp2_with fail
      refine (C3.out _ HB3.out).mono ?_
      rintro e w4 ⟨rfl, hb4⟩
      have HB4 := Lib.hid (below_of_new HB1.out (below_of_new HB3.out hb4))
      clear hb4 b0 b1 b2 b3
      go_wp2_with fail
      go_ret
      exact ⟨rfl, by first | exact HB4.out | (rw [← hX]; exact HB4.out)⟩
    · have d2 : decide ((D : Int) ≤ 32) = false := decide_eq_false (by omega)
      obtain rfl : Z = false := by rw [← HZ.out, decide_eq_false h2]; simp
      go_wp2_with fail
      refine C1.out.mono ?_
      rintro e w2 ⟨rfl, hb2⟩
      have HB2 := Lib.hid hb2
      clear hb2 b0 b1 b2 b3
      obtain ⟨b0, b1, b2, b3⟩ := (HXB.out.keep HB2.out).cells
      go_wp2_with fail
      refine (C2.out _ HB2.out).mono ?_
      rintro e w3 ⟨rfl, hb3⟩
      have HB3 := Lib.hid (below_of_new HB1.out (below_of_new HB2.out hb3))
      clear hb3 b0 b1 b2 b3
      go_wp2_with fail
      go_ret
      exact ⟨rfl, by first | exact HB3.out | (rw [← hX]; exact HB3.out)⟩
  · have d1 : decide ((S : Int) ≤ 4096) = false := decide_eq_false (by omega)
    obtain rfl : Z = false := by rw [← HZ.out, decide_eq_false h1]; simp
    go_wp2_with fail
    refine C1.out.mono ?_
    rintro e w2 ⟨rfl, hb2⟩
    have HB2 := Lib.hid (below_of_new HB1.out hb2)
    clear hb2 b0 b1 b2 b3
    go_wp2_with fail
    go_ret
    exact ⟨rfl, by first | exact HB2.out | (rw [← hX]; exact HB2.out)⟩
end Go.Proofs.YtnnlpkbopeiefaaGreatDoor
/-! The reference's text of a value, Compact, Write, WriteKey. Printed by mkth.py. -/
namespace Go.Proofs.YtnnlpkbopeiefaaGreatDoor
set_option linter.unusedSimpArgs false
set_option linter.unusedVariables false
open Go.RowKit
open Go.Lib hiding intOf
theorem everyL_memT {p : VT → Bool} {l : List VT} (h : everyL p l = true) : ∀ x ∈ l, everyB p x = true := by
  rw [everyL_eq, List.all_eq_true] at h
  exact h
theorem every_nodeT {t : VT} {p : VT → Bool} (h : everyB p t = true) : p t = true ∧ everyL p t.items = true := by
  cases t with
  | mk k s ks l =>
    rw [everyB, Bool.and_eq_true] at h
    exact h
theorem bulks_part (l : List VT) (i : Nat) : bulks (l.take i) ≤ bulks l := by
  have : bulks l = bulks (l.take i) + bulks (l.drop i) := by rw [← bulks_app, List.take_append_drop]
  omega
def sepL (i : Nat) : Stp := if i = 0 then [] else [44]
theorem sep_eq (i : Nat) (l : List VT) (h : i ≤ l.length) : (if true && (l.take i).isEmpty then ([] : Stp) else [44]) = sepL i := by
  unfold sepL
  cases i with
  | zero => rfl
  | succ i =>
    cases l with
    | nil => simp at h
    | cons x l => rfl
theorem items_next {l : List VT} {i : Nat} {x : VT} (hx : l[i]? = some x) : itemsL true (l.take (i + 1)) = itemsL true (l.take i) ++ (sepL i ++ compactL x) := by
  have hi := (List.getElem?_eq_some_iff.1 hx).1
  rw [take_one hx, itemsL_app, sep_eq i l (by omega)]
theorem members_next {l : List VT} {ks : List Stp} {i : Nat} {x : VT} {k : Stp} (hx : l[i]? = some x) (hk : ks[i]? = some k) : membersL true (l.take (i + 1)) ks = membersL true (l.take i) ks ++ (sepL i ++ ((quoteL k).1 ++ [58] ++ compactL x)) := by
  have hi := (List.getElem?_eq_some_iff.1 hx).1
  rw [take_one hx, membersL_app true _ x ks k (by rw [List.length_take, Nat.min_eq_left (by omega)]; exact hk), sep_eq i l (by omega)]
def RTx (n : Nat) : Prop := ∀ (t : VT) (kv iv : Value) (w : World) (lv : Nat), VD w n t kv iv → t.bulk ≤ 33554432 → lv + n ≤ 1099511627776 → everyB rnodeB t = true →
    Calls Tryz.prog 114 #[vv t kv iv, .int .i64 (-1), .int .i64 (lv : Int)] w fun e w' => e = .returned (.string (bs (compactL t))) ∧ Below w.heap.size w w'
set_option maxRecDepth 100000 in
set_option maxHeartbeats 1000000 in
theorem rtext_step (n : Nat) (IH : RTx n) : RTx (n + 1) := by
  intro t kv iv w lv h hbk hlv hev
  obtain ⟨m', hm, ⟨pk, ck, rfl, hck, hlies⟩, p, c, rfl, hlc, hit⟩ := h.parts
  obtain rfl : n = m' := by omega
  obtain ⟨X, hX⟩ : ∃ X, w.heap.size = X := ⟨_, rfl⟩
  obtain ⟨W1, hW1⟩ : ∃ W, w.alloc (.cells #[.int .i64 t.kind, .string (bs t.text), .slice pk t.keys.length ck, .slice p t.items.length c] 25) = W := ⟨_, rfl⟩
  have HB1 : Hid (Below w.heap.size w W1) := Lib.hid (by rw [← hW1]; exact below_alloc1 _ _)
  have HXB : Hid (VBox W1 X t (.slice pk t.keys.length ck) (.slice p t.items.length c)) := Lib.hid (by rw [← hW1, ← hX]; exact VBox.new w t _ _)
  have HIT := Lib.hid (hit.keep HB1.out)
  have HSL := Lib.hid (hlies.keep HB1.out)
  have hb0 : t.bulk = t.text.length + (totS t.keys + t.keys.length) + bulks t.items + 1 := by cases t; rw [VT.bulk]; rfl
  have hlen := len_le_bulks t.items
  have hcl := compact_len t
  obtain ⟨hrn, hel⟩ := every_nodeT hev
  have HEL := Lib.hid (everyL_memT hel)
  have HKE := Lib.hid (fun h6 : t.kind = 6 => rnode_keys hrn h6)
  have HCE := Lib.hid (compactL_eq t)
  have hrk : t.kind = 1 ∨ t.kind = 2 ∨ t.kind = 3 ∨ t.kind = 4 ∨ t.kind = 5 ∨ t.kind = 6 := by
    unfold rnodeB nodeB nodeF at hrn
    simp only [Bool.and_eq_true, decide_eq_true_eq] at hrn
    have h2 := hrn.2
    by_cases h5 : t.kind = 5
    · omega
    · by_cases h6 : t.kind = 6
      · omega
      · rw [if_neg h5, if_neg h6] at h2
        split at h2
        · cases h2
        · split at h2
          · omega
          · split at h2
            · omega
            · split at h2
              · omega
              · split at h2
                · omega
                · cases h2
  obtain ⟨Z, hZ⟩ : ∃ Z, compactL t = Z := ⟨_, rfl⟩
  rw [hZ] at hcl HCE ⊢
  unfold vv
  obtain ⟨N, hN⟩ : ∃ N, t.items.length = N := ⟨_, rfl⟩
  obtain ⟨K, hK⟩ : ∃ N, t.keys.length = N := ⟨_, rfl⟩
  obtain ⟨k, hk⟩ : ∃ k, t.kind = k := ⟨_, rfl⟩
  have HN := Lib.hid hN
  have HK := Lib.hid hK
  rw [hN, hK] at hW1 HXB ⊢
  rw [hN] at hlen
  have HXC : Hid (∀ w', Below W1.heap.size W1 w' → w'.cell? ⟨X, 0, none⟩ = some (.int .i64 k) ∧ w'.cell? ⟨X, 1, none⟩ = some (.string (bs t.text)) ∧ w'.cell? ⟨X, 2, none⟩ = some (.slice pk K ck) ∧ w'.cell? ⟨X, 3, none⟩ = some (.slice p N c)) := Lib.hid (fun w' hb => by
    have := (HXB.out.keep hb).cells
    rw [hk] at this
    exact this)
  rw [hk] at HKE HCE hrk hW1 ⊢
  clear hit hlies h hm hev hrn hel hZ HXB hN hK hk hck hlc
  have sT := bs_size t.text
  by_cases h1 : k = 1
  · subst h1
    rw [if_pos rfl] at HCE
    obtain rfl := HCE.out
    go_enter Tryz.func114, Tryz.ntmps114
    go_upto_region 1 with fail
    clear hW1
    obtain ⟨b0, b1, b2, b3⟩ := HXC.out W1 (Below.refl _ _)
    go_wp2_with fail
    go_ret
    exact ⟨rfl, by first | exact HB1.out | (rw [← hX]; exact HB1.out)⟩
  rw [if_neg h1] at HCE
  by_cases h4 : k = 4
  · subst h4
    rw [if_pos rfl] at HCE
    have CQ := Lib.hid (fun w => refQuote_any t.text w (by omega))
    unfold QuoteE at CQ
    obtain ⟨⟨A, er⟩, hA⟩ : ∃ Q, quoteL t.text = Q := ⟨_, rfl⟩
    rw [hA] at CQ HCE
    simp only [] at CQ
    obtain rfl : Z = A := HCE.out
    clear hA HCE
    go_enter Tryz.func114, Tryz.ntmps114
    go_upto_region 1 with fail
    clear hW1
    obtain ⟨b0, b1, b2, b3⟩ := HXC.out W1 (Below.refl _ _)
    go_wp2_with fail
    refine (CQ.out _).mono ?_
    rintro e w2 ⟨rfl, hb2⟩
    have HB2 := Lib.hid (below_of_new HB1.out hb2)
    clear hb2 b0 b1 b2 b3
    go_wp2_with fail
    go_ret
    exact ⟨rfl, by first | exact HB2.out | (rw [← hX]; exact HB2.out)⟩
  rw [if_neg h4] at HCE
  by_cases h2 : k = 2 ∨ k = 3
  · rw [if_neg (by omega), if_neg (by omega)] at HCE
    obtain rfl := HCE.out
    rcases h2 with h2 | h2
    · subst h2
      go_enter Tryz.func114, Tryz.ntmps114
      go_upto_region 1 with fail
      clear hW1
      obtain ⟨b0, b1, b2, b3⟩ := HXC.out W1 (Below.refl _ _)
      go_wp2_with fail
      go_ret
      exact ⟨rfl, by first | exact HB1.out | (rw [← hX]; exact HB1.out)⟩
    · subst h2
      go_enter Tryz.func114, Tryz.ntmps114
      go_upto_region 1 with fail
      clear hW1
      obtain ⟨b0, b1, b2, b3⟩ := HXC.out W1 (Below.refl _ _)
      go_wp2_with fail
      go_ret
      exact ⟨rfl, by first | exact HB1.out | (rw [← hX]; exact HB1.out)⟩
  by_cases h5 : k = 5
  · subst h5
    rw [if_pos rfl] at HCE
    have HBL : Hid (∀ i, (itemsL true (t.items.take i)).length ≤ 12 * t.bulk) := Lib.hid (fun i => (by have h1 := items_len true (t.items.take i); have h2 := bulks_part t.items i; omega))
    by_cases h0 : N = 0
    · subst h0
      have hnil : t.items = [] := List.eq_nil_of_length_eq_zero HN.out
      obtain rfl : Z = [91, 93] := by rw [HCE.out, hnil]; rw [itemsL]; rfl
      clear HCE HBL
      go_enter Tryz.func114, Tryz.ntmps114
      go_upto_region 1 with fail
      clear hW1
      obtain ⟨b0, b1, b2, b3⟩ := HXC.out W1 (Below.refl _ _)
      go_wp2_with fail
      go_ret
      exact ⟨rfl, by first | exact HB1.out | (rw [← hX]; exact HB1.out)⟩
    have hN0 : ((N : Int) == 0) = false := beq_eq_false_iff_ne.2 (by omega)
    go_enter Tryz.func114, Tryz.ntmps114
    go_upto_region 1 with fail
    clear hW1
    obtain ⟨b0, b1, b2, b3⟩ := HXC.out W1 (Below.refl _ _)
    go_wp2_with fail
    clear b0 b1 b2 b3
    go_loopw [11, 12, 13, 14] (fun s11 s12 s13 s14 wr => ∃ (i : Nat) (A : Stp), s11 = .string (bs A) ∧ s12 = .int .i64 (i : Int) ∧ i ≤ N ∧ A.length ≤ 402653200 ∧ Hid (A = 91 :: itemsL true (t.items.take i)) ∧ Hid (Below W1.heap.size W1 wr)) (fun _ s12 _ _ _ => N - (RowKit.intOf s12).toNat)
    case atStart => exact ⟨0, [91], rfl, rfl, Nat.zero_le _, by simp, Lib.hid (by rw [List.take_zero]; rw [itemsL]), Lib.hid (by first | exact Below.refl _ _ | exact (Below.refl _ _).drew)⟩
    case round =>
      obtain ⟨i, A, rfl, rfl, hi, hAl, HA, HBr⟩ := hrel
      have HBL2 := Lib.hid (HBL.out (i + 1))
      obtain ⟨b0, b1, b2, b3⟩ := HXC.out _ HBr.out
      by_cases hil : i < N
      · obtain ⟨x, hx⟩ : ∃ x, t.items[i]? = some x := ⟨_, List.getElem?_eq_getElem (by have := HN.out; omega)⟩
        have hi1 : (i : Int) < (N : Int) := by omega
        have dk : decide ((i : Int) < (N : Int)) = true := decide_eq_true hi1
        have hxb := bulk_mem (List.mem_of_getElem? hx)
        obtain ⟨g, o, kv', iv', rfl, hg, n0, n1, n2, n3, hvd⟩ := HIT.out i x hx
        obtain ⟨pk2, ck2, px, cx, rfl, rfl⟩ := hvd.form
        have m0 : wr.cell? ⟨g, o + i * 4, none⟩ = some (.int .i64 x.kind) := by rw [HBr.out.cell (p := ⟨g, _, none⟩) hg]; exact n0
        have m1 : wr.cell? ⟨g, o + i * 4 + 1, none⟩ = some (.string (bs x.text)) := by rw [HBr.out.cell (p := ⟨g, _, none⟩) hg]; exact n1
        have m2 : wr.cell? ⟨g, o + i * 4 + 2, none⟩ = some (.slice pk2 x.keys.length ck2) := by rw [HBr.out.cell (p := ⟨g, _, none⟩) hg]; exact n2
        have m3 : wr.cell? ⟨g, o + i * 4 + 3, none⟩ = some (.slice px x.items.length cx) := by rw [HBr.out.cell (p := ⟨g, _, none⟩) hg]; exact n3
        have HX := Lib.hid hx
        have HG := Lib.hid hg
        have HNN := Lib.hid (And.intro n0 (And.intro n1 (And.intro n2 n3)))
        have HC : Hid (∀ w', Below W1.heap.size W1 w' → Calls Tryz.prog 114 #[.agg #[.int .i64 x.kind, .string (bs x.text), .slice pk2 x.keys.length ck2, .slice px x.items.length cx], .int .i64 (-1), .int .i64 ((lv : Int) + 1)] w' fun e w2 => e = .returned (.string (bs (compactL x))) ∧ Below w'.heap.size w' w2) := Lib.hid (fun w' hb => by
          have := IH x _ _ w' (lv + 1) (hvd.keep hb) (by omega) (by omega) (HEL.out x (List.mem_of_getElem? HX.out))
          rw [show (((lv + 1 : Nat)) : Int) = (lv : Int) + 1 by omega] at this
          exact this)
        have hcx := compact_len x
        have hbt := bulks_take hx
        obtain ⟨P, hP⟩ : ∃ P, compactL x = P := ⟨_, rfl⟩
        rw [hP] at HC hcx
        have hqn := items_next hx
        rw [hP] at hqn
        have HNX : Hid (A ++ sepL i ++ P = 91 :: itemsL true (t.items.take (i + 1))) := Lib.hid (by rw [hqn, HA.out]; simp only [List.cons_append, List.append_assoc])
        have hnl : (A ++ sepL i ++ P).length ≤ 402653200 := by rw [HNX.out, List.length_cons]; have := HBL2.out; omega
        clear hqn
        obtain ⟨A2, hA2⟩ : ∃ A2, A ++ sepL i = A2 := ⟨_, rfl⟩
        rw [hA2] at HNX hnl
        have HA2 := Lib.hid hA2
        clear hA2 hx hvd n0 n1 n2 n3 m0 m1 m2 m3 hP hg
        have slA := bs_size A
        go_upto_if 52 with fail
        go_cut [11] (fun s11 wx => s11 = .string (bs A2) ∧ Hid (Below W1.heap.size W1 wx))
        case first =>
          by_cases hi0 : i = 0
          · subst hi0
            obtain rfl : A = A2 := by rw [← HA2.out]; unfold sepL; simp
            go_wp2_with fail
            go_meet
            exact ⟨rfl, HBr⟩
          · have dz : decide ((0 : Int) < (i : Int)) = true := decide_eq_true (by omega)
            have hA3 : A2 = A ++ [44] := by rw [← HA2.out]; unfold sepL; rw [if_neg hi0]
            have hip : 0 < i := by omega
            have HA3 := Lib.hid hA3
            clear hA3 hi0
            go_wp2_with fail
            go_meet
            exact ⟨by rw [HA3.out, ← bs_append]; rfl, HBr⟩
        case rest =>
        obtain ⟨rfl, HB2⟩ := hcut
        clear slA b0 b1 b2 b3
        have slA := bs_size A2
        have slP := bs_size P
        have hnl2 := hnl
        simp only [List.length_append, List.length_singleton] at hnl2
        obtain ⟨b0, b1, b2, b3⟩ := HXC.out _ HB2.out
        have m0 := (HB2.out.cell (p := ⟨g, o + i * 4, none⟩) HG.out).trans HNN.out.1
        have m1 := (HB2.out.cell (p := ⟨g, o + i * 4 + 1, none⟩) HG.out).trans HNN.out.2.1
        have m2 := (HB2.out.cell (p := ⟨g, o + i * 4 + 2, none⟩) HG.out).trans HNN.out.2.2.1
        have m3 := (HB2.out.cell (p := ⟨g, o + i * 4 + 3, none⟩) HG.out).trans HNN.out.2.2.2
        have HC3 := Lib.hid (HC.out _ HB2.out)
        go_wp2_with fail
        refine HC3.out.mono ?_
        rintro e w4 ⟨rfl, hb4⟩
        have HB4 := Lib.hid (below_of_new HB2.out hb4)
        clear hb4 b0 b1 b2 b3 m0 m1 m2 m3 HC3
        go_wp2_with fail
        go_roundw
        case rel => exact ⟨i + 1, A2 ++ P, by rw [← bs_append], by go_num, by omega, hnl, HNX, by first | exact HB4 | exact Lib.hid (below_drewN HB4.out _)⟩
        case measure => simp [RowKit.intOf]; omega
      · have dk : decide ((i : Int) < (N : Int)) = false := decide_eq_false (by omega)
        obtain rfl : i = N := by omega
        obtain rfl : Z = A ++ [93] := by rw [HCE.out, HA.out, List.take_of_length_le (by have := HN.out; omega)]; rfl
        have HB5 := Lib.hid (below_of_new HB1.out HBr.out)
        have slA := bs_size A
        go_wp2_with fail
        go_ret
        exact ⟨by rw [← bs_append]; rfl, by first | exact HB5.out | (rw [← hX]; exact HB5.out)⟩
  rw [if_neg h5] at HCE
  have h6 : k = 6 := by omega
  clear h1 h4 h2 h5 hrk
  rw [if_pos h6] at HCE
  subst h6
  have hKN : K = N := by rw [← HK.out, ← HN.out]; exact HKE.out rfl
  rw [hKN] at hW1 HXC HK ⊢
  clear hKN
  have HBL : Hid (∀ i, (membersL true (t.items.take i) t.keys).length ≤ 12 * t.bulk) := Lib.hid (fun i => (by have h1 := members_len true (t.items.take i) t.keys; have h2 := bulks_part t.items i; omega))
  by_cases h0 : N = 0
  · subst h0
    have hnil : t.items = [] := List.eq_nil_of_length_eq_zero HN.out
    obtain rfl : Z = [123, 125] := by rw [HCE.out, hnil]; rw [membersL]; rfl
    clear HCE HBL
    go_enter Tryz.func114, Tryz.ntmps114
    go_upto_region 1 with fail
    clear hW1
    obtain ⟨b0, b1, b2, b3⟩ := HXC.out W1 (Below.refl _ _)
    go_wp2_with fail
    go_ret
    exact ⟨rfl, by first | exact HB1.out | (rw [← hX]; exact HB1.out)⟩
  have hN0 : ((N : Int) == 0) = false := beq_eq_false_iff_ne.2 (by omega)
  go_enter Tryz.func114, Tryz.ntmps114
  go_upto_region 1 with fail
  clear hW1
  obtain ⟨b0, b1, b2, b3⟩ := HXC.out W1 (Below.refl _ _)
  go_wp2_with fail
  clear b0 b1 b2 b3
  go_loopw [11, 12, 13, 14] (fun s11 s12 s13 s14 wr => ∃ (i : Nat) (A : Stp), s11 = .string (bs A) ∧ s12 = .int .i64 (i : Int) ∧ i ≤ N ∧ A.length ≤ 402653200 ∧ Hid (A = 123 :: membersL true (t.items.take i) t.keys) ∧ Hid (Below W1.heap.size W1 wr)) (fun _ s12 _ _ _ => N - (RowKit.intOf s12).toNat)
  case atStart => exact ⟨0, [123], rfl, rfl, Nat.zero_le _, by simp, Lib.hid (by rw [List.take_zero]; rw [membersL]), Lib.hid (by first | exact Below.refl _ _ | exact (Below.refl _ _).drew)⟩
  case round =>
    obtain ⟨i, A, rfl, rfl, hi, hAl, HA, HBr⟩ := hrel
    have HBL2 := Lib.hid (HBL.out (i + 1))
    obtain ⟨b0, b1, b2, b3⟩ := HXC.out _ HBr.out
    by_cases hil : i < N
    · obtain ⟨x, hx⟩ : ∃ x, t.items[i]? = some x := ⟨_, List.getElem?_eq_getElem (by have := HN.out; omega)⟩
      have hi1 : (i : Int) < (N : Int) := by omega
      have dk : decide ((i : Int) < (N : Int)) = true := decide_eq_true hi1
      have hxb := bulk_mem (List.mem_of_getElem? hx)
      obtain ⟨g, o, kv', iv', rfl, hg, n0, n1, n2, n3, hvd⟩ := HIT.out i x hx
      obtain ⟨pk2, ck2, px, cx, rfl, rfl⟩ := hvd.form
      have m0 : wr.cell? ⟨g, o + i * 4, none⟩ = some (.int .i64 x.kind) := by rw [HBr.out.cell (p := ⟨g, _, none⟩) hg]; exact n0
      have m1 : wr.cell? ⟨g, o + i * 4 + 1, none⟩ = some (.string (bs x.text)) := by rw [HBr.out.cell (p := ⟨g, _, none⟩) hg]; exact n1
      have m2 : wr.cell? ⟨g, o + i * 4 + 2, none⟩ = some (.slice pk2 x.keys.length ck2) := by rw [HBr.out.cell (p := ⟨g, _, none⟩) hg]; exact n2
      have m3 : wr.cell? ⟨g, o + i * 4 + 3, none⟩ = some (.slice px x.items.length cx) := by rw [HBr.out.cell (p := ⟨g, _, none⟩) hg]; exact n3
      have HX := Lib.hid hx
      have HG := Lib.hid hg
      have HNN := Lib.hid (And.intro n0 (And.intro n1 (And.intro n2 n3)))
      have HC : Hid (∀ w', Below W1.heap.size W1 w' → Calls Tryz.prog 114 #[.agg #[.int .i64 x.kind, .string (bs x.text), .slice pk2 x.keys.length ck2, .slice px x.items.length cx], .int .i64 (-1), .int .i64 ((lv : Int) + 1)] w' fun e w2 => e = .returned (.string (bs (compactL x))) ∧ Below w'.heap.size w' w2) := Lib.hid (fun w' hb => by
        have := IH x _ _ w' (lv + 1) (hvd.keep hb) (by omega) (by omega) (HEL.out x (List.mem_of_getElem? HX.out))
        rw [show (((lv + 1 : Nat)) : Int) = (lv : Int) + 1 by omega] at this
        exact this)
      have hcx := compact_len x
      have hbt := bulks_take hx
      obtain ⟨P, hP⟩ : ∃ P, compactL x = P := ⟨_, rfl⟩
      rw [hP] at HC hcx
      obtain ⟨y, hy⟩ : ∃ y, t.keys[i]? = some y := ⟨_, List.getElem?_eq_getElem (by have := HK.out; omega)⟩
      have hym := totS_mem (List.mem_of_getElem? hy)
      obtain ⟨gk, ok, rfl, hck0⟩ := HSL.out.at_ hy
      have HCK : Hid (∀ w', Below W1.heap.size W1 w' → w'.cell? ⟨gk, ok + i, none⟩ = some (.string (bs y))) := Lib.hid (fun w' hb => by
        rw [hb.cell (p := ⟨gk, ok + i, none⟩) (cell_lt hck0)]; exact hck0)
      have hik : (i : Int) < (N : Int) := by omega
      have CQ := Lib.hid (fun w => refQuote_any y w (by omega))
      unfold QuoteE at CQ
      have hqn := members_next hx hy
      have hyl := quoteL_len y
      obtain ⟨⟨B, er⟩, hB⟩ : ∃ Q, quoteL y = Q := ⟨_, rfl⟩
      rw [hB] at CQ hqn hyl
      rw [hP] at hqn
      simp only [] at CQ hqn hyl
      have HNX : Hid (A ++ sepL i ++ B ++ [58] ++ P = 123 :: membersL true (t.items.take (i + 1)) t.keys) := Lib.hid (by rw [hqn, HA.out]; simp only [List.cons_append, List.append_assoc])
      have hnl : (A ++ sepL i ++ B ++ [58] ++ P).length ≤ 402653200 := by rw [HNX.out, List.length_cons]; have := HBL2.out; omega
      clear hqn hB hck0 hy
      obtain ⟨A2, hA2⟩ : ∃ A2, A ++ sepL i = A2 := ⟨_, rfl⟩
      rw [hA2] at HNX hnl
      have HA2 := Lib.hid hA2
      clear hA2 hx hvd n0 n1 n2 n3 m0 m1 m2 m3 hP hg
      have slA := bs_size A
      go_upto_if 52 with fail
      go_cut [11] (fun s11 wx => s11 = .string (bs A2) ∧ Hid (Below W1.heap.size W1 wx))
      case first =>
        by_cases hi0 : i = 0
        · subst hi0
          obtain rfl : A = A2 := by rw [← HA2.out]; unfold sepL; simp
          go_wp2_with fail
          go_meet
          exact ⟨rfl, HBr⟩
        · have dz : decide ((0 : Int) < (i : Int)) = true := decide_eq_true (by omega)
          have hA3 : A2 = A ++ [44] := by rw [← HA2.out]; unfold sepL; rw [if_neg hi0]
          have hip : 0 < i := by omega
          have HA3 := Lib.hid hA3
          clear hA3 hi0
          go_wp2_with fail
          go_meet
          exact ⟨by rw [HA3.out, ← bs_append]; rfl, HBr⟩
      case rest =>
      obtain ⟨rfl, HB2⟩ := hcut
      clear slA b0 b1 b2 b3
      have slA := bs_size A2
      have slP := bs_size P
      have hnl2 := hnl
      simp only [List.length_append, List.length_singleton] at hnl2
      obtain ⟨b0, b1, b2, b3⟩ := HXC.out _ HB2.out
      have mk := HCK.out _ HB2.out
      have slB := bs_size B
      go_wp2_with fail
      refine (CQ.out _).mono ?_
      rintro e w3 ⟨rfl, hb3⟩
      have HB3 := Lib.hid (below_of_new HB2.out hb3)
      clear hb3 b0 b1 b2 b3 mk
      obtain ⟨b0, b1, b2, b3⟩ := HXC.out _ HB3.out
      have m0 := (HB3.out.cell (p := ⟨g, o + i * 4, none⟩) HG.out).trans HNN.out.1
      have m1 := (HB3.out.cell (p := ⟨g, o + i * 4 + 1, none⟩) HG.out).trans HNN.out.2.1
      have m2 := (HB3.out.cell (p := ⟨g, o + i * 4 + 2, none⟩) HG.out).trans HNN.out.2.2.1
      have m3 := (HB3.out.cell (p := ⟨g, o + i * 4 + 3, none⟩) HG.out).trans HNN.out.2.2.2
      have HC3 := Lib.hid (HC.out _ HB3.out)
      go_wp2_with fail
      refine HC3.out.mono ?_
      rintro e w4 ⟨rfl, hb4⟩
      have HB4 := Lib.hid (below_of_new HB3.out hb4)
      clear hb4 b0 b1 b2 b3 m0 m1 m2 m3 HC3
      go_wp2_with fail
      go_roundw
      case rel => exact ⟨i + 1, A2 ++ B ++ [58] ++ P, by rw [← bs_append, ← bs_append, ← bs_append]; rfl, by go_num, by omega, hnl, HNX, by first | exact HB4 | exact Lib.hid (below_drewN HB4.out _)⟩
      case measure => simp [RowKit.intOf]; omega
    · have dk : decide ((i : Int) < (N : Int)) = false := decide_eq_false (by omega)
      obtain rfl : i = N := by omega
      obtain rfl : Z = A ++ [125] := by rw [HCE.out, HA.out, List.take_of_length_le (by have := HN.out; omega)]; rfl
      have HB5 := Lib.hid (below_of_new HB1.out HBr.out)
      have slA := bs_size A
      go_wp2_with fail
      go_ret
      exact ⟨by rw [← bs_append]; rfl, by first | exact HB5.out | (rw [← hX]; exact HB5.out)⟩
theorem rtext_any : ∀ n, RTx n
  | 0 => fun _ _ _ _ _ h => h.elim
  | n + 1 => rtext_step n (rtext_any n)
end Go.Proofs.YtnnlpkbopeiefaaGreatDoor
/-! The reference's Compact, Write, WriteKey. Printed by mkti.py. -/
namespace Go.Proofs.YtnnlpkbopeiefaaGreatDoor
set_option linter.unusedSimpArgs false
set_option linter.unusedVariables false
open Go.RowKit
open Go.Lib hiding intOf
set_option maxRecDepth 100000 in
set_option maxHeartbeats 1000000 in
theorem rcompact_any (n : Nat) (t : VT) (kv iv : Value) (w : World) (hn : VD w n t kv iv) (hbk : t.bulk ≤ 33554432) (hV : VVar w) :
    Calls Tryz.prog 66 #[vv t kv iv] w fun e w' => e = QuotedE (compP t) ∧ Below w.heap.size w w' := by
  have h := hn.tight
  clear hn
  obtain ⟨pk, ck, p, c, rfl, rfl⟩ := h.form
  obtain ⟨X, hX⟩ : ∃ X, w.heap.size = X := ⟨_, rfl⟩
  obtain ⟨W1, hW1⟩ : ∃ W, w.alloc (.cells #[.int .i64 t.kind, .string (bs t.text), .slice pk t.keys.length ck, .slice p t.items.length c] 25) = W := ⟨_, rfl⟩
  have HB1 : Hid (Below w.heap.size w W1) := Lib.hid (by rw [← hW1]; exact below_alloc1 _ _)
  have HXB : Hid (VBox W1 X t (.slice pk t.keys.length ck) (.slice p t.items.length c)) := Lib.hid (by rw [← hW1, ← hX]; exact VBox.new w t _ _)
  have HVD := Lib.hid (h.keep HB1.out)
  have HV := Lib.hid (hV.keep HB1.out)
  have HC1 := Lib.hid (rright_any t.depth t _ _ W1 HVD.out (by omega) HV.out)
  have hds := depth_le_size t
  have hsb := size_le_bulk t
  have CT : Hid (RightB t = true → ∀ w', Below W1.heap.size W1 w' → Calls Tryz.prog 114 #[vv t (.slice pk t.keys.length ck) (.slice p t.items.length c), .int .i64 (-1), .int .i64 0] w' fun e w2 => e = .returned (.string (bs (compactL t))) ∧ Below w'.heap.size w' w2) := Lib.hid (fun hr w' hb => rtext_any t.depth t _ _ w' 0 (HVD.out.keep hb) hbk (by omega) (right_every hr))
  unfold vv at HC1 CT ⊢
  unfold compP QuotedE
  obtain ⟨y, hy⟩ : ∃ y, RightB t = y := ⟨_, rfl⟩
  rw [hy] at HC1 CT
  rw [hy]
  clear h hV hy
  cases y with
  | false =>
    rw [if_neg (by simp)]
    go_enter Tryz.func66, Tryz.ntmps66
    go_upto_region 1 with fail
    clear hW1
    obtain ⟨b0, b1, b2, b3⟩ := HXB.out.cells
    go_wp2_with fail
    refine HC1.out.mono ?_
    rintro e w2 ⟨rfl, hb2⟩
    have HB2 := Lib.hid (below_of_new HB1.out hb2)
    clear hb2 b0 b1 b2 b3
    go_wp2_with fail
    go_ret2
    exact ⟨rfl, by first | exact HB2.out | (rw [← hX]; exact HB2.out)⟩
  | true =>
    rw [if_pos rfl]
    have CT2 := Lib.hid (CT.out rfl)
    clear CT
    go_enter Tryz.func66, Tryz.ntmps66
    go_upto_region 1 with fail
    clear hW1
    obtain ⟨b0, b1, b2, b3⟩ := HXB.out.cells
    go_wp2_with fail
    refine HC1.out.mono ?_
    rintro e w2 ⟨rfl, hb2⟩
    have HB2 := Lib.hid hb2
    clear hb2 b0 b1 b2 b3
    obtain ⟨b0, b1, b2, b3⟩ := (HXB.out.keep HB2.out).cells
    go_wp2_with fail
    refine (CT2.out _ HB2.out).mono ?_
    rintro e w3 ⟨rfl, hb3⟩
    have HB3 := Lib.hid (below_of_new HB1.out (below_of_new HB2.out hb3))
    clear hb3 b0 b1 b2 b3
    go_wp2_with fail
    go_ret2
    exact ⟨rfl, by first | exact HB3.out | (rw [← hX]; exact HB3.out)⟩
set_option maxRecDepth 100000 in
set_option maxHeartbeats 1000000 in
theorem rwrite_any (n : Nat) (t : VT) (kv iv : Value) (w : World) (h : VD w n t kv iv) (hbk : t.bulk ≤ 16777216) (hV : YVar w) :
    Calls Tryz.prog 32 #[vv t kv iv] w fun e w' => e = QuotedE (writeY t) ∧ Below w.heap.size w w' := by
  obtain ⟨pk, ck, p, c, rfl, rfl⟩ := h.form
  obtain ⟨X, hX⟩ : ∃ X, w.heap.size = X := ⟨_, rfl⟩
  obtain ⟨W1, hW1⟩ : ∃ W, w.alloc (.cells #[.int .i64 t.kind, .string (bs t.text), .slice pk t.keys.length ck, .slice p t.items.length c] 25) = W := ⟨_, rfl⟩
  have HB1 : Hid (Below w.heap.size w W1) := Lib.hid (by rw [← hW1]; exact below_alloc1 _ _)
  have HXB : Hid (VBox W1 X t (.slice pk t.keys.length ck) (.slice p t.items.length c)) := Lib.hid (by rw [← hW1, ← hX]; exact VBox.new w t _ _)
  have HVD := Lib.hid (h.keep HB1.out)
  have HV := Lib.hid (hV.keep HB1.out)
  have HC1 := Lib.hid (rright_any n t _ _ W1 HVD.out (by omega) HV.out.1)
  have hbt : t.text.length < t.bulk := by cases t; rw [VT.bulk]; simp only [VT.text]; omega
  have hcl := compact_len t
  have CP : Hid (∀ w', Below W1.heap.size W1 w' → Calls Tryz.prog 66 #[vv t (.slice pk t.keys.length ck) (.slice p t.items.length c)] w' fun e w2 => e = QuotedE (compP t) ∧ Below w'.heap.size w' w2) := Lib.hid (fun w' hb => rcompact_any n t _ _ w' (HVD.out.keep hb) (by omega) (HV.out.keep hb).1)
  have CB : Hid (∀ w', Below W1.heap.size W1 w' → Calls Tryz.prog 41 #[.string (bs t.text)] w' fun e w2 => e = .returned (.bool (bareB t.text)) ∧ Below w'.heap.size w' w2) := Lib.hid (fun w' hb => rbare_any t.text w' (by omega))
  have CR : Hid (∀ w', Below W1.heap.size W1 w' → Calls Tryz.prog 43 #[.string (bs t.text)] w' fun e w2 => e = ResE t.text ∧ Below w'.heap.size w' w2) := Lib.hid (fun w' hb => rresolve_any t.text w' (by omega) (HV.out.keep hb))
  have CQ : Hid (∀ w', Below W1.heap.size W1 w' → Calls Tryz.prog 68 #[.string (bs t.text)] w' fun e w2 => e = QuotedE (quotedY t.text) ∧ Below w'.heap.size w' w2) := Lib.hid (fun w' hb => rquoted_any t.text w' (by omega))
  have CS : Hid (∀ w', Below W1.heap.size W1 w' → Calls Tryz.prog 67 #[.string (bs (compactL t))] w' fun e w2 => e = .returned (.string (bs (safeL (compactL t)))) ∧ Below w'.heap.size w' w2) := Lib.hid (fun w' hb => rsafe_any _ w' (by omega))
  unfold vv at HC1 CP ⊢
  unfold writeY
  unfold compP at CP
  obtain ⟨y, hy⟩ : ∃ y, RightB t = y := ⟨_, rfl⟩
  rw [hy] at HC1 CP
  rw [hy]
  clear h hV hy
  cases y with
  | false =>
    rw [if_neg (by simp)]
    clear CP CB CR CQ CS
    go_enter Tryz.func32, Tryz.ntmps32
    go_upto_region 1 with fail
    clear hW1
    obtain ⟨b0, b1, b2, b3⟩ := HXB.out.cells
    go_wp2_with fail
    refine HC1.out.mono ?_
    rintro e w2 ⟨rfl, hb2⟩
    have HB2 := Lib.hid (below_of_new HB1.out hb2)
    clear hb2 b0 b1 b2 b3
    go_wp2_with fail
    go_ret2
    exact ⟨rfl, by first | exact HB2.out | (rw [← hX]; exact HB2.out)⟩
  | true =>
    rw [if_pos rfl]
    rw [if_pos rfl] at CP
    by_cases k4 : t.kind = 4
    · rw [if_pos k4]
      have d4 : (t.kind != 4) = false := by simp [k4]
      have d4b : (t.kind == 4) = true := by simp [k4]
      obtain ⟨q1, hq1⟩ : ∃ q, bareB t.text = q := ⟨_, rfl⟩
      unfold ResE at CR
      obtain ⟨rk, hrk⟩ : ∃ r, (resP t.text).1 = r := ⟨_, rfl⟩
      obtain ⟨rt, hrt⟩ : ∃ r, (resP t.text).2 = r := ⟨_, rfl⟩
      obtain ⟨Q, hQ⟩ : ∃ Q, quotedY t.text = Q := ⟨_, rfl⟩
      rw [hq1] at CB
      rw [hrk, hrt] at CR
      rw [hQ] at CQ
      rw [hq1, hrk, hQ]
      obtain ⟨qt, qe⟩ := Q
      clear CP CS hq1 hrk hrt hQ k4
      unfold QuotedE at CQ
      simp only [] at CQ
      cases q1 with
      | false =>
        rw [Bool.false_and, if_neg (by simp)]
        go_enter Tryz.func32, Tryz.ntmps32
        go_upto_region 1 with fail
        clear hW1
        obtain ⟨b0, b1, b2, b3⟩ := HXB.out.cells
        go_wp2_with fail
        refine HC1.out.mono ?_
        rintro e w2 ⟨rfl, hb2⟩
        have HB2 := Lib.hid hb2
        clear hb2 b0 b1 b2 b3
        obtain ⟨b0, b1, b2, b3⟩ := (HXB.out.keep HB2.out).cells
        go_wp2_with fail
        refine (CB.out _ HB2.out).mono ?_
        rintro e w3 ⟨rfl, hb3⟩
        have HB3 := Lib.hid (below_of_new HB2.out hb3)
        clear hb3 b0 b1 b2 b3
        obtain ⟨b0, b1, b2, b3⟩ := (HXB.out.keep HB3.out).cells
        go_wp2_with fail
        refine (CQ.out _ HB3.out).mono ?_
        rintro e w4 ⟨rfl, hb4⟩
        have HB4 := Lib.hid (below_of_new HB3.out hb4)
        clear hb4 b0 b1 b2 b3
        go_wp2_with fail
        go_ret2
        exact ⟨rfl, by first | exact below_of_new HB1.out HB4.out | (rw [← hX]; exact below_of_new HB1.out HB4.out)⟩
      | true =>
        have hfld : ∀ w, (Instr.field 25 (.agg #[.int .i64 rk, .string (bs rt), .slice none 0 0, .slice none 0 0]) 0).run Tryz.prog w = .ok (.int .i64 rk) w := fun w => by kernel_rfl
        rw [Bool.true_and]
        by_cases r4 : rk = 4
        · rw [if_pos (by simpa using r4)]
          have dr : (rk == 4) = true := by simp [r4]
          clear r4 CQ
          go_enter Tryz.func32, Tryz.ntmps32
          go_upto_region 1 with fail
          clear hW1
          obtain ⟨b0, b1, b2, b3⟩ := HXB.out.cells
          go_wp2_with fail
          refine HC1.out.mono ?_
          rintro e w2 ⟨rfl, hb2⟩
          have HB2 := Lib.hid hb2
          clear hb2 b0 b1 b2 b3
          obtain ⟨b0, b1, b2, b3⟩ := (HXB.out.keep HB2.out).cells
          go_wp2_with fail
          refine (CB.out _ HB2.out).mono ?_
          rintro e w3 ⟨rfl, hb3⟩
          have HB3 := Lib.hid (below_of_new HB2.out hb3)
          clear hb3 b0 b1 b2 b3
          obtain ⟨b0, b1, b2, b3⟩ := (HXB.out.keep HB3.out).cells
          go_wp2_with fail
          refine (CR.out _ HB3.out).mono ?_
          rintro e w4 ⟨rfl, hb4⟩
          have HB4 := Lib.hid (below_of_new HB3.out hb4)
          clear hb4 b0 b1 b2 b3
          obtain ⟨b0, b1, b2, b3⟩ := (HXB.out.keep HB4.out).cells
          go_wp2_with fail
          go_ret2
          exact ⟨rfl, by first | exact below_of_new HB1.out HB4.out | (rw [← hX]; exact below_of_new HB1.out HB4.out)⟩
        · rw [if_neg (by simpa using r4)]
          have dr : (rk == 4) = false := by simp [r4]
          clear r4
          go_enter Tryz.func32, Tryz.ntmps32
          go_upto_region 1 with fail
          clear hW1
          obtain ⟨b0, b1, b2, b3⟩ := HXB.out.cells
          go_wp2_with fail
          refine HC1.out.mono ?_
          rintro e w2 ⟨rfl, hb2⟩
          have HB2 := Lib.hid hb2
          clear hb2 b0 b1 b2 b3
          obtain ⟨b0, b1, b2, b3⟩ := (HXB.out.keep HB2.out).cells
          go_wp2_with fail
          refine (CB.out _ HB2.out).mono ?_
          rintro e w3 ⟨rfl, hb3⟩
          have HB3 := Lib.hid (below_of_new HB2.out hb3)
          clear hb3 b0 b1 b2 b3
          obtain ⟨b0, b1, b2, b3⟩ := (HXB.out.keep HB3.out).cells
          go_wp2_with fail
          refine (CR.out _ HB3.out).mono ?_
          rintro e w4 ⟨rfl, hb4⟩
          have HB4 := Lib.hid (below_of_new HB3.out hb4)
          clear hb4 b0 b1 b2 b3
          obtain ⟨b0, b1, b2, b3⟩ := (HXB.out.keep HB4.out).cells
          go_wp2_with fail
          refine (CQ.out _ HB4.out).mono ?_
          rintro e w5 ⟨rfl, hb5⟩
          have HB5 := Lib.hid (below_of_new HB4.out hb5)
          clear hb5 b0 b1 b2 b3
          go_wp2_with fail
          go_ret2
          exact ⟨rfl, by first | exact below_of_new HB1.out HB5.out | (rw [← hX]; exact below_of_new HB1.out HB5.out)⟩
    · rw [if_neg k4]
      have d4 : (t.kind != 4) = true := by simp [k4]
      unfold QuotedE at CP
      simp only [] at CP
      obtain ⟨C, hC⟩ : ∃ C, compactL t = C := ⟨_, rfl⟩
      obtain ⟨Z, hZ⟩ : ∃ Z, safeL C = Z := ⟨_, rfl⟩
      rw [hC, hZ] at CS
      rw [hC] at CP
      rw [hC, hZ]
      clear CB CR CQ k4 hC hZ
      go_enter Tryz.func32, Tryz.ntmps32
      go_upto_region 1 with fail
      clear hW1
      obtain ⟨b0, b1, b2, b3⟩ := HXB.out.cells
      go_wp2_with fail
      refine HC1.out.mono ?_
      rintro e w2 ⟨rfl, hb2⟩
      have HB2 := Lib.hid hb2
      clear hb2 b0 b1 b2 b3
      obtain ⟨b0, b1, b2, b3⟩ := (HXB.out.keep HB2.out).cells
      go_wp2_with fail
      refine (CP.out _ HB2.out).mono ?_
      rintro e w3 ⟨rfl, hb3⟩
      have HB3 := Lib.hid (below_of_new HB2.out hb3)
      clear hb3 b0 b1 b2 b3
      go_wp2_with fail
      refine (CS.out _ HB3.out).mono ?_
      rintro e w4 ⟨rfl, hb4⟩
      have HB4 := Lib.hid (below_of_new HB3.out hb4)
      clear hb4
      go_wp2_with fail
      go_ret2
      exact ⟨rfl, by first | exact below_of_new HB1.out HB4.out | (rw [← hX]; exact below_of_new HB1.out HB4.out)⟩
set_option maxRecDepth 100000 in
set_option maxHeartbeats 1000000 in
theorem rwritekey_any (s : Stp) (w : World) (hs : s.length ≤ 16777216) (hV : YVar w) :
    Calls Tryz.prog 34 #[.string (bs s)] w fun e w' => e = QuotedE (keyY s) ∧ Below w.heap.size w w' := by
  obtain ⟨N, C1⟩ := rvalid_any s w (by omega)
  have CB : Hid (∀ w', Below w.heap.size w w' → Calls Tryz.prog 41 #[.string (bs s)] w' fun e w2 => e = .returned (.bool (bareB s)) ∧ Below w'.heap.size w' w2) := Lib.hid (fun w' hb => rbare_any s w' (by omega))
  have CQ : Hid (∀ w', Below w.heap.size w w' → Calls Tryz.prog 68 #[.string (bs s)] w' fun e w2 => e = QuotedE (quotedY s) ∧ Below w'.heap.size w' w2) := Lib.hid (fun w' hb => rquoted_any s w' (by omega))
  unfold keyY
  obtain ⟨q0, hq0⟩ : ∃ q, Lib.validD s = q := ⟨_, rfl⟩
  obtain ⟨q1, hq1⟩ : ∃ q, bareB s = q := ⟨_, rfl⟩
  obtain ⟨Q, hQ⟩ : ∃ Q, quotedY s = Q := ⟨_, rfl⟩
  rw [hq0] at C1
  rw [hq1] at CB
  rw [hQ] at CQ
  rw [hq0, hq1, hQ]
  obtain ⟨qt, qe⟩ := Q
  have HC1 := Lib.hid C1
  unfold QuotedE at CQ
  simp only [] at CQ
  clear C1 hq0 hq1 hQ hV
  cases q0 with
  | false =>
    rw [if_neg (by simp)]
    go_enter Tryz.func34, Tryz.ntmps34
    go_wp2_with fail
    refine HC1.out.mono ?_
    rintro e w2 ⟨rfl, hb2⟩
    have HB2 := Lib.hid hb2
    clear hb2
    go_wp2_with fail
    go_ret2
    exact ⟨rfl, HB2.out⟩
  | true =>
    rw [if_pos rfl]
    go_enter Tryz.func34, Tryz.ntmps34
    go_wp2_with fail
    refine HC1.out.mono ?_
    rintro e w2 ⟨rfl, hb2⟩
    have HB2 := Lib.hid hb2
    clear hb2
    go_wp2_with fail
    refine (CB.out _ HB2.out).mono ?_
    rintro e w3 ⟨rfl, hb3⟩
    have HB3 := Lib.hid (below_of_new HB2.out hb3)
    clear hb3
    cases q1 with
    | true =>
      go_wp2_with fail
      go_ret2
      exact ⟨rfl, HB3.out⟩
    | false =>
      go_wp2_with fail
      refine (CQ.out _ HB3.out).mono ?_
      rintro e w4 ⟨rfl, hb4⟩
      have HB4 := Lib.hid (below_of_new HB3.out hb4)
      clear hb4
      go_wp2_with fail
      go_ret2
      exact ⟨rfl, HB4.out⟩
end Go.Proofs.YtnnlpkbopeiefaaGreatDoor
