import Derived.Test.YtnnlpkbopeiefaaGreatDoorTa
import Derived.Test.YtnnlpkbopeiefaaGreatDoorWa
import Derived.Test.YtnnlpkbopeiefaaGreatDoorNumK
import Derived.Test.YtnnlpkbopeiefaaGreatDoorNumKd
import Derived.Test.YtnnlpkbopeiefaaGreatDoorYlE2
import Derived.Test.YtnnlpkbopeiefaaGreatDoorVe
import Derived.Test.YtnnlpkbopeiefaaGreatDoorNumI2
import Derived.Deep.RegionHeld3
/-! The reference's Of, Resolve, safe, quoted. Printed by mktd.py. -/
namespace Go.Proofs.YtnnlpkbopeiefaaGreatDoor
set_option linter.unusedSimpArgs false
set_option linter.unusedVariables false
open Go.RowKit
open Go.Lib hiding intOf
set_option maxRecDepth 100000 in
set_option maxHeartbeats 4000000 in
theorem rof_any (s : Stp) (w : World) :
    Calls Tryz.prog 75 #[.string (bs s)] w fun e w' => e = .returned (.agg #[.int .i64 4, .string (bs s), .slice none 0 0, .slice none 0 0]) ∧ Below w.heap.size w w' := by
  have ba := below_alloc1 w (.cells #[.int .i64 0, .string (bs []), .slice none 0 0, .slice none 0 0] 25)
  have hB0 := RsBox.new w 0 []
  obtain ⟨W1, hW1⟩ : ∃ W, w.alloc (.cells #[.int .i64 0, .string (bs []), .slice none 0 0, .slice none 0 0] 25) = W := ⟨_, rfl⟩
  rw [hW1] at ba hB0
  obtain ⟨y0, y1, y2, y3, f0, f1, f2, f3⟩ := hB0.cells
  have hW1' : w.alloc (.cells #[.int .i64 0, .string ⟨#[]⟩, .slice none 0 0, .slice none 0 0] 25) = W1 := hW1
  go_enter Tryz.func75, Tryz.ntmps75
  go_wp2_with fail
  clear y0 y1 y2 y3 f0 f1 f2 f3
  have hP := (hB0).put (k2 := 4) (t2 := s)
  have hPB := below_putRs (k := 4) (t := s) (ba) (Nat.le_refl w.heap.size)
  obtain ⟨WF, hWF⟩ : ∃ W, putRs W1 w.heap.size 4 s = W := ⟨_, rfl⟩
  rw [hWF] at hP hPB
  have hWF' : (((W1.setCell ⟨w.heap.size, 0, none⟩ (.int .i64 4)).setCell ⟨w.heap.size, 1, none⟩ (.string (bs s))).setCell ⟨w.heap.size, 2, none⟩ (.slice none 0 0)).setCell ⟨w.heap.size, 3, none⟩ (.slice none 0 0) = WF := hWF
  rw [hWF']
  obtain ⟨d0, d1, d2, d3, _⟩ := hP.cells
  clear hWF hWF'
  refine bodyPost_ret (v := .agg #[.int .i64 4, .string (bs s), .slice none 0 0, .slice none 0 0]) ?_ rfl ⟨rfl, hPB⟩
  simp [results, Tryz.results75, go_sem, d0, d1, d2, d3]
set_option maxRecDepth 100000 in
set_option maxHeartbeats 4000000 in
theorem rresolve_any (s : Stp) (w : World) (hs : s.length ≤ 1073741824) (hV : YVar w) :
    Calls Tryz.prog 43 #[.string (bs s)] w fun e w' => e = ResE s ∧ Below w.heap.size w w' := by
  have sl := bs_size s
  have ba := below_alloc1 w (.cells #[.int .i64 0, .string (bs []), .slice none 0 0, .slice none 0 0] 25)
  have hB0 := RsBox.new w 0 []
  obtain ⟨W1, hW1⟩ : ∃ W, w.alloc (.cells #[.int .i64 0, .string (bs []), .slice none 0 0, .slice none 0 0] 25) = W := ⟨_, rfl⟩
  rw [hW1] at ba hB0
  have HBa := Lib.hid ba
  have HB0 := Lib.hid hB0
  have HV := Lib.hid (hV.keep ba)
  obtain ⟨y0, y1, y2, y3, f0, f1, f2, f3⟩ := hB0.cells
  have hW1' : w.alloc (.cells #[.int .i64 0, .string ⟨#[]⟩, .slice none 0 0, .slice none 0 0] 25) = W1 := hW1
  have CP := Lib.hid (fun w => refParse_any s w (by omega))
  have hdg := parse_dig s
  have m0 := str_lit s []
  have m1 := str_lit s nullL
  have m2 := str_lit s [126]
  have m3 := str_lit s trueL
  have m4 := str_lit s falseL
  have e0 := str_nil2 s
  unfold nullL at m1
  unfold trueL at m3
  unfold falseL at m4
  unfold ResE resP
  obtain ⟨q0, h0⟩ : ∃ q, decide (s = []) = q := ⟨_, rfl⟩
  obtain ⟨q1, h1⟩ : ∃ q, decide (s = nullL) = q := ⟨_, rfl⟩
  obtain ⟨q2, h2⟩ : ∃ q, decide (s = [126]) = q := ⟨_, rfl⟩
  obtain ⟨q3, h3⟩ : ∃ q, decide (s = trueL) = q := ⟨_, rfl⟩
  obtain ⟨q4, h4⟩ : ∃ q, decide (s = falseL) = q := ⟨_, rfl⟩
  have m0 := m0.trans h0
  have m1 := m1.trans h1
  have m2 := m2.trans h2
  have m3 := m3.trans h3
  have m4 := m4.trans h4
  have n1 : decide (s = [110, 117, 108, 108]) = q1 := h1
  have n3 : decide (s = [116, 114, 117, 101]) = q3 := h3
  have n4 : decide (s = [102, 97, 108, 115, 101]) = q4 := h4
  have e0b : s.isEmpty = q0 := by rw [← h0]; cases s <;> simp
  rw [e0b] at e0
  have z0 : s = [] ↔ q0 = true := by rw [← h0]; simp
  have z1 : s = nullL ↔ q1 = true := by rw [← h1]; simp
  have z2 : s = [126] ↔ q2 = true := by rw [← h2]; simp
  have z3 : s = trueL ↔ q3 = true := by rw [← h3]; simp
  have z4 : s = falseL ↔ q4 = true := by rw [← h4]; simp
  have HZ := Lib.hid (And.intro z0 (And.intro z1 (And.intro z2 (And.intro z3 z4))))
  clear z0 z1 z2 z3 z4 h1 h3 h4 hV ba hB0 hW1
  obtain ⟨P, hP⟩ : ∃ P, parseL s = P := ⟨_, rfl⟩
  rw [hP] at CP hdg ⊢
  obtain ⟨n, er⟩ := P
  simp only [] at hdg ⊢
  by_cases c1 : (q0 || q1 || q2) = true
  · have HC : Hid ((s = [] ∨ s = nullL ∨ s = [126])) := Lib.hid (by
      obtain ⟨a0, a1, a2, _⟩ := HZ.out
      simp only [Bool.or_eq_true] at c1
      rcases c1 with (h | h) | h
      · exact .inl (a0.2 h)
      · exact .inr (.inl (a1.2 h))
      · exact .inr (.inr (a2.2 h)))
    rw [if_pos HC.out]
    cases q0 <;> cases q1 <;> cases q2
    · cases c1
    all_goals
      go_enter Tryz.func43, Tryz.ntmps43
      go_wp2_with fail
      clear y0 y1 y2 y3 f0 f1 f2 f3
      have hP := (HB0.out).put (k2 := 1) (t2 := ([] : Stp))
      have hPB := below_putRs (k := 1) (t := ([] : Stp)) (HBa.out) (Nat.le_refl w.heap.size)
      obtain ⟨WF, hWF⟩ : ∃ W, putRs W1 w.heap.size 1 ([] : Stp) = W := ⟨_, rfl⟩
      rw [hWF] at hP hPB
      have hWF' : (((W1.setCell ⟨w.heap.size, 0, none⟩ (.int .i64 1)).setCell ⟨w.heap.size, 1, none⟩ (.string ⟨#[]⟩)).setCell ⟨w.heap.size, 2, none⟩ (.slice none 0 0)).setCell ⟨w.heap.size, 3, none⟩ (.slice none 0 0) = WF := hWF
      rw [hWF']
      obtain ⟨d0, d1, d2, d3, _⟩ := hP.cells
      clear hWF hWF'
      refine bodyPost_ret (v := .agg #[.int .i64 1, .string (bs ([] : Stp)), .slice none 0 0, .slice none 0 0]) ?_ rfl ⟨rfl, hPB⟩
      simp [results, Tryz.results43, go_sem, d0, d1, d2, d3]
  · obtain ⟨rfl, rfl, rfl⟩ : q0 = false ∧ q1 = false ∧ q2 = false := by cases q0 <;> cases q1 <;> cases q2 <;> simp at c1 ⊢
    rw [if_neg (by
      obtain ⟨a0, a1, a2, _⟩ := HZ.out
      rintro (h | h | h)
      · exact absurd (a0.1 h) (by decide)
      · exact absurd (a1.1 h) (by decide)
      · exact absurd (a2.1 h) (by decide))]
    by_cases c2 : (q3 || q4) = true
    · rw [if_pos (by
        obtain ⟨_, _, _, a3, a4⟩ := HZ.out
        simp only [Bool.or_eq_true] at c2
        rcases c2 with h | h
        · exact .inl (a3.2 h)
        · exact .inr (a4.2 h))]
      cases q3 <;> cases q4
      · cases c2
      all_goals
        go_enter Tryz.func43, Tryz.ntmps43
        go_wp2_with fail
        clear y0 y1 y2 y3 f0 f1 f2 f3
        have hP := (HB0.out).put (k2 := 2) (t2 := s)
        have hPB := below_putRs (k := 2) (t := s) (HBa.out) (Nat.le_refl w.heap.size)
        obtain ⟨WF, hWF⟩ : ∃ W, putRs W1 w.heap.size 2 s = W := ⟨_, rfl⟩
        rw [hWF] at hP hPB
        have hWF' : (((W1.setCell ⟨w.heap.size, 0, none⟩ (.int .i64 2)).setCell ⟨w.heap.size, 1, none⟩ (.string (bs s))).setCell ⟨w.heap.size, 2, none⟩ (.slice none 0 0)).setCell ⟨w.heap.size, 3, none⟩ (.slice none 0 0) = WF := hWF
        rw [hWF']
        obtain ⟨d0, d1, d2, d3, _⟩ := hP.cells
        clear hWF hWF'
        refine bodyPost_ret (v := .agg #[.int .i64 2, .string (bs s), .slice none 0 0, .slice none 0 0]) ?_ rfl ⟨rfl, hPB⟩
        simp [results, Tryz.results43, go_sem, d0, d1, d2, d3]
    · obtain ⟨rfl, rfl⟩ : q3 = false ∧ q4 = false := by cases q3 <;> cases q4 <;> simp at c2 ⊢
      rw [if_neg (by
        obtain ⟨_, _, _, a3, a4⟩ := HZ.out
        rintro (h | h)
        · exact absurd (a3.1 h) (by decide)
        · exact absurd (a4.1 h) (by decide))]
      clear c1 c2 HZ
      by_cases he : er = 0
      · subst he
        rw [if_pos rfl]
        have CT : Hid (∀ w', YVar w' → Calls Tryz.prog 86 #[.agg #[.bool n.neg, .string (bs n.dig), .int .i64 n.exp]] w' fun e w2 => e = .returned (.string (bs (textL n))) ∧ Below w'.heap.size w' w2) := Lib.hid (fun w' hv => refText_any n w' (by have := hdg rfl; omega))
        clear hdg
        obtain ⟨Z, hZ⟩ : ∃ Z, textL n = Z := ⟨_, rfl⟩
        rw [hZ] at CT ⊢
        go_enter Tryz.func43, Tryz.ntmps43
        go_wp2_with fail
        refine (CP.out _).mono ?_
        unfold Parsed numV
        rintro e w2 ⟨rfl, hb2⟩
        have HR2 := Lib.hid (HB0.out.keep hb2)
        have HB2 := Lib.hid (below_of_new HBa.out hb2)
        have HV2 := Lib.hid (HV.out.keep hb2)
        clear hb2 y0 y1 y2 y3 f0 f1 f2 f3
        have ba3 := below_alloc1 w2 (.cells #[.bool n.neg, .string (bs n.dig), .int .i64 n.exp] 80)
        have hN := NbBox.new w2 n
        obtain ⟨W3, hW3⟩ : ∃ W, w2.alloc (.cells #[.bool n.neg, .string (bs n.dig), .int .i64 n.exp] 80) = W := ⟨_, rfl⟩
        rw [hW3] at ba3 hN
        obtain ⟨x0, x1, x2, _⟩ := hN.cells
        have HR3 := Lib.hid (HR2.out.keep ba3)
        have HB3 := Lib.hid (below_of_new HB2.out ba3)
        have HV3 := Lib.hid (HV2.out.keep ba3)
        clear ba3 hN
        go_wp2_with fail
        refine (CT.out _ HV3.out).mono ?_
        rintro e w4 ⟨rfl, hb4⟩
        have HR4 := Lib.hid (HR3.out.keep hb4)
        have HB4 := Lib.hid (below_of_new HB3.out hb4)
        clear hb4 x0 x1 x2 hW3
        obtain ⟨y0, y1, y2, y3, f0, f1, f2, f3⟩ := HR4.out.cells
        go_wp2_with fail
        clear y0 y1 y2 y3 f0 f1 f2 f3
        have hP := (HR4.out).put (k2 := 3) (t2 := Z)
        have hPB := below_putRs (k := 3) (t := Z) (HB4.out) (Nat.le_refl w.heap.size)
        obtain ⟨WF, hWF⟩ : ∃ W, putRs w4 w.heap.size 3 Z = W := ⟨_, rfl⟩
        rw [hWF] at hP hPB
        have hWF' : (((w4.setCell ⟨w.heap.size, 0, none⟩ (.int .i64 3)).setCell ⟨w.heap.size, 1, none⟩ (.string (bs Z))).setCell ⟨w.heap.size, 2, none⟩ (.slice none 0 0)).setCell ⟨w.heap.size, 3, none⟩ (.slice none 0 0) = WF := hWF
        rw [hWF']
        obtain ⟨d0, d1, d2, d3, _⟩ := hP.cells
        clear hWF hWF'
        refine bodyPost_ret (v := .agg #[.int .i64 3, .string (bs Z), .slice none 0 0, .slice none 0 0]) ?_ rfl ⟨rfl, hPB⟩
        simp [results, Tryz.results43, go_sem, d0, d1, d2, d3]
      · rw [if_neg he]
        have de : (er == 0) = false := beq_eq_false_iff_ne.2 he
        have CO := Lib.hid (fun w => rof_any s w)
        clear hdg
        go_enter Tryz.func43, Tryz.ntmps43
        go_wp2_with fail
        refine (CP.out _).mono ?_
        unfold Parsed numV
        rintro e w2 ⟨rfl, hb2⟩
        have HR2 := Lib.hid (HB0.out.keep hb2)
        have HB2 := Lib.hid (below_of_new HBa.out hb2)
        clear hb2 y0 y1 y2 y3 f0 f1 f2 f3
        have ba3 := below_alloc1 w2 (.cells #[.bool n.neg, .string (bs n.dig), .int .i64 n.exp] 80)
        have HR3 := Lib.hid (HR2.out.keep ba3)
        have HB3 := Lib.hid (below_of_new HB2.out ba3)
        clear ba3
        go_wp2_with fail
        refine (CO.out _).mono ?_
        rintro e w4 ⟨rfl, hb4⟩
        have HR4 := Lib.hid (HR3.out.keep hb4)
        have HB4 := Lib.hid (below_of_new HB3.out hb4)
        clear hb4
        obtain ⟨y0, y1, y2, y3, f0, f1, f2, f3⟩ := HR4.out.cells
        go_wp2_with fail
        clear y0 y1 y2 y3 f0 f1 f2 f3
        have hP := (HR4.out).put (k2 := 4) (t2 := s)
        have hPB := below_putRs (k := 4) (t := s) (HB4.out) (Nat.le_refl w.heap.size)
        obtain ⟨WF, hWF⟩ : ∃ W, putRs w4 w.heap.size 4 s = W := ⟨_, rfl⟩
        rw [hWF] at hP hPB
        have hWF' : (((w4.setCell ⟨w.heap.size, 0, none⟩ (.int .i64 4)).setCell ⟨w.heap.size, 1, none⟩ (.string (bs s))).setCell ⟨w.heap.size, 2, none⟩ (.slice none 0 0)).setCell ⟨w.heap.size, 3, none⟩ (.slice none 0 0) = WF := hWF
        rw [hWF']
        obtain ⟨d0, d1, d2, d3, _⟩ := hP.cells
        clear hWF hWF'
        refine bodyPost_ret (v := .agg #[.int .i64 4, .string (bs s), .slice none 0 0, .slice none 0 0]) ?_ rfl ⟨rfl, hPB⟩
        simp [results, Tryz.results43, go_sem, d0, d1, d2, d3]
def prevB (l : Stp) (i : Nat) : Bool := decide (0 < i) && (l[i - 1]? == some 32)
theorem prev_next {l : Stp} {i : Nat} {b : UInt8} (h : l[i]? = some b) : prevB l (i + 1) = (b == 32) := by
  unfold prevB
  rw [Nat.add_sub_cancel, h, decide_eq_true (Nat.succ_pos i), Bool.true_and]
  rfl
theorem safe_next {l : Stp} {i : Nat} {b : UInt8} {o Q m : Stp} (h : l[i]? = some b) (ho : o ++ safeGo (prevB l i) (l.drop i) = Q) (hm : (if b = 127 then rubL else if b = 35 ∧ prevB l i = true then hash3 else [b]) = m) : (o ++ m) ++ safeGo (prevB l (i + 1)) (l.drop (i + 1)) = Q := by
  rw [← ho, drop_byte h, safeGo, hm, prev_next h, List.append_assoc]
set_option maxRecDepth 100000 in
set_option maxHeartbeats 1000000 in
theorem rsafe_any (l : Stp) (w : World) (hs : l.length ≤ 1073741824) :
    Calls Tryz.prog 67 #[.string (bs l)] w fun e w' => e = .returned (.string (bs (safeL l))) ∧ Below w.heap.size w w' := by
  have sl := bs_size l
  rw [safe_eq]
  obtain ⟨Q, hQ⟩ : ∃ Q, safeGo false l = Q := ⟨_, rfl⟩
  rw [hQ]
  have HQ : Hid ([] ++ safeGo (prevB l 0) (l.drop 0) = Q) := Lib.hid (by rw [List.drop_zero]; exact hQ)
  clear hQ
  go_enter Tryz.func67, Tryz.ntmps67
  go_wp2_with fail
  go_loopw [3, 4] (fun s3 s4 wr => ∃ (i : Nat) (o : Stp), s4 = .int .i64 (i : Int) ∧ i ≤ l.length ∧ o.length ≤ 6 * i ∧ Hid (o ++ safeGo (prevB l i) (l.drop i) = Q) ∧ Hid (OwnB w.heap.size wr s3 o) ∧ Hid (Below w.heap.size w wr) ∧ w.heap.size ≤ wr.heap.size) (fun _ s4 _ => l.length - (RowKit.intOf s4).toNat)
  case atStart => exact ⟨0, [], rfl, Nat.zero_le _, by simp, HQ, Lib.hid (OwnB.nil _ _), Lib.hid (by first | exact Below.refl _ _ | exact (Below.refl _ _).drew), by first | exact Nat.le_refl _ | simp⟩
  case round =>
    obtain ⟨i, o, rfl, hi, hol, HQi, HO, HBr, hz⟩ := hrel
    by_cases hlt : i < l.length
    · have hlt' : i < (bs l).size := by omega
      have dk : decide ((i : Int) < (l.length : Int)) = true := decide_eq_true (by omega)
      have hiz : (i : Int) < (l.length : Int) := by omega
      have hbi := at_bs l i hlt'
      obtain ⟨b, hb⟩ : ∃ b, (bs l)[i]'hlt' = b := ⟨_, rfl⟩
      rw [hb] at hbi
      obtain ⟨x, hx⟩ : ∃ x : Int, (b.toNat : Int) = x := ⟨_, rfl⟩
      have hge3 : (((bs l)[i]'hlt').toNat : Int) = x := by rw [hb, hx]
      have HN := Lib.hid (fun m hm => safe_next (m := m) hbi HQi.out hm)
      clear hb HQi
      by_cases h127 : x = 127
      · have d127 : (x == 127) = true := beq_iff_eq.2 h127
        have hb127 : b = 127 := UInt8.toNat_inj.1 (by show b.toNat = 127; omega)
        have HN2 := Lib.hid (HN.out rubL (by rw [if_pos hb127]))
        clear hb127 hbi hx HN
        subst h127
        go_wp2_with (at_builtin; go_must (refine wpList_text rfl _ _ rfl w.heap.size wr u3 o _ rfl HO.out rfl (by show o.length + 6 ≤ _; omega) hz ?_); intro v1 w1 hown1 hbel1)
        go_roundw
        case rel => exact ⟨i + 1, o ++ rubL, by go_num, by omega, by rw [List.length_append]; show o.length + 6 ≤ _; omega, HN2, Lib.hid hown1, Lib.hid (HBr.out.trans hbel1), Nat.le_trans hz hbel1.size⟩
        case measure => simp [RowKit.intOf]; omega
      · have d127 : (x == 127) = false := beq_eq_false_iff_ne.2 h127
        have hb127 : ¬ b = 127 := fun e => h127 (by rw [← hx, e]; rfl)
        by_cases h35 : x = 35
        · have d35 : (x == 35) = true := beq_iff_eq.2 h35
          have hb35 : b = 35 := UInt8.toNat_inj.1 (by show b.toNat = 35; omega)
          cases i with
          | zero =>
            have HN2 := Lib.hid (HN.out [b] (by rw [if_neg hb127, if_neg (by unfold prevB; simp)]))
            clear hb127 hbi HN hb35 h127
            subst h35
            go_wp2_with (at_builtin; go_must (refine wpList_bytes rfl _ _ rfl w.heap.size wr u3 o [b] rfl HO.out _ rfl (by unfold byteCells; simp [hx]) (by simp; omega) hz ?_); intro v1 w1 hown1 hbel1)
            go_roundw
            case rel => exact ⟨1, o ++ [b], by first | rfl | go_num, by omega, by simp; omega, HN2, Lib.hid hown1, Lib.hid (HBr.out.trans hbel1), Nat.le_trans hz hbel1.size⟩
            case measure => simp [RowKit.intOf]; omega
          | succ j =>
            have hj : j < (bs l).size := by omega
            have hbj := at_bs l j hj
            obtain ⟨a, ha⟩ : ∃ b, (bs l)[j]'hj = b := ⟨_, rfl⟩
            rw [ha] at hbj
            obtain ⟨y, hy⟩ : ∃ x : Int, (a.toNat : Int) = x := ⟨_, rfl⟩
            have hge4 : (((bs l)[j]'hj).toNat : Int) = y := by rw [ha, hy]
            have hsb : (j : Int) + 1 - 1 = (j : Int) := by omega
            have hjp : decide ((0 : Int) < (j : Int) + 1) = true := decide_eq_true (by omega)
            have hpv : prevB l (j + 1) = (a == 32) := prev_next hbj
            clear ha
            by_cases h32 : y = 32
            · have d32 : (y == 32) = true := beq_iff_eq.2 h32
              have ha32 : a = 32 := UInt8.toNat_inj.1 (by show a.toNat = 32; omega)
              have HN2 := Lib.hid (HN.out hash3 (by rw [if_neg hb127, hpv, ha32, if_pos ⟨hb35, rfl⟩]))
              clear hb127 hbi hx HN hb35 hbj hy ha32 hpv h127
              subst h35
              subst h32
              go_wp2_with (at_builtin; go_must (refine wpList_text rfl _ _ rfl w.heap.size wr u3 o _ rfl HO.out rfl (by show o.length + 6 ≤ _; omega) hz ?_); intro v1 w1 hown1 hbel1)
              go_roundw
              case rel => exact ⟨j + 1 + 1, o ++ hash3, by go_num, by omega, by rw [List.length_append]; show o.length + 6 ≤ _; omega, HN2, Lib.hid hown1, Lib.hid (HBr.out.trans hbel1), Nat.le_trans hz hbel1.size⟩
              case measure => simp [RowKit.intOf]; omega
            · have d32 : (y == 32) = false := beq_eq_false_iff_ne.2 h32
              have ha32 : ¬ a = 32 := fun e => h32 (by rw [← hy, e]; rfl)
              have HN2 := Lib.hid (HN.out [b] (by rw [if_neg hb127, hpv, if_neg (by simp [ha32])]))
              clear hb127 hbi HN hb35 hbj hy ha32 hpv h127 h32
              subst h35
              go_wp2_with (at_builtin; go_must (refine wpList_bytes rfl _ _ rfl w.heap.size wr u3 o [b] rfl HO.out _ rfl (by unfold byteCells; simp [hx]) (by simp; omega) hz ?_); intro v1 w1 hown1 hbel1)
              go_roundw
              case rel => exact ⟨j + 1 + 1, o ++ [b], by go_num, by omega, by simp; omega, HN2, Lib.hid hown1, Lib.hid (HBr.out.trans hbel1), Nat.le_trans hz hbel1.size⟩
              case measure => simp [RowKit.intOf]; omega
        · have d35 : (x == 35) = false := beq_eq_false_iff_ne.2 h35
          have hb35 : ¬ b = 35 := fun e => h35 (by rw [← hx, e]; rfl)
          have HN2 := Lib.hid (HN.out [b] (by rw [if_neg hb127, if_neg (fun h => hb35 h.1)]))
          clear hb127 hbi HN hb35 h127 h35
          go_wp2_with (at_builtin; go_must (refine wpList_bytes rfl _ _ rfl w.heap.size wr u3 o [b] rfl HO.out _ rfl (by unfold byteCells; simp [hx]) (by simp; omega) hz ?_); intro v1 w1 hown1 hbel1)
          go_roundw
          case rel => exact ⟨i + 1, o ++ [b], by go_num, by omega, by simp; omega, HN2, Lib.hid hown1, Lib.hid (HBr.out.trans hbel1), Nat.le_trans hz hbel1.size⟩
          case measure => simp [RowKit.intOf]; omega
    · have dk : decide ((i : Int) < (l.length : Int)) = false := decide_eq_false (by omega)
      obtain rfl : o = Q := by
        have h := HQi.out
        rw [List.drop_of_length_le (by omega), safeGo, List.append_nil] at h
        exact h
      have hcv := run_text HO.out
      go_wp2_with fail
      go_ret
      exact ⟨rfl, HBr.out⟩
set_option maxRecDepth 100000 in
set_option maxHeartbeats 1000000 in
theorem rquoted_any (l : Stp) (w : World) (hs : l.length ≤ 33554432) :
    Calls Tryz.prog 68 #[.string (bs l)] w fun e w' => e = QuotedE (quotedY l) ∧ Below w.heap.size w w' := by
  have CC := Lib.hid (rclean_any l w (by omega))
  have CQ := Lib.hid (fun w => refQuoted_any l w (by omega))
  have CJ := Lib.hid (fun w => refQuote_any l w (by omega))
  have hql := quoteL_len l
  unfold quotedY
  unfold QuotedE at CQ ⊢
  unfold QuoteE at CJ
  obtain ⟨A, hA⟩ : ∃ A, cleanB l = A := ⟨_, rfl⟩
  obtain ⟨⟨B, e1⟩, hB⟩ : ∃ B, sqw l = B := ⟨_, rfl⟩
  obtain ⟨⟨C, e2⟩, hC⟩ : ∃ B, quoteL l = B := ⟨_, rfl⟩
  rw [hA] at CC ⊢
  rw [hB] at CQ ⊢
  rw [hC] at CJ hql ⊢
  have CS := Lib.hid (fun w => rsafe_any C w (by have : (C, e2).1 = C := rfl; rw [this] at hql; omega))
  clear hA hB hC hql
  obtain ⟨Z, hZ⟩ : ∃ Z, safeL C = Z := ⟨_, rfl⟩
  rw [hZ] at CS
  simp only [hZ]
  clear hZ
  cases A with
  | true =>
    rw [if_pos rfl]
    go_enter Tryz.func68, Tryz.ntmps68
    go_wp2_with fail
    refine CC.out.mono ?_
    rintro e w2 ⟨rfl, hb2⟩
    have HB2 := Lib.hid hb2
    clear hb2
    go_wp2_with fail
    refine (CQ.out _).mono ?_
    rintro e w3 ⟨rfl, hb3⟩
    have HB3 := Lib.hid (below_of_new HB2.out hb3)
    clear hb3
    go_wp2_with fail
    go_ret2
    exact ⟨rfl, HB3.out⟩
  | false =>
    rw [if_neg (by simp)]
    go_enter Tryz.func68, Tryz.ntmps68
    go_wp2_with fail
    refine CC.out.mono ?_
    rintro e w2 ⟨rfl, hb2⟩
    have HB2 := Lib.hid hb2
    clear hb2
    go_wp2_with fail
    refine (CJ.out _).mono ?_
    rintro e w3 ⟨rfl, hb3⟩
    have HB3 := Lib.hid (below_of_new HB2.out hb3)
    clear hb3
    go_wp2_with fail
    refine (CS.out _).mono ?_
    rintro e w4 ⟨rfl, hb4⟩
    have HB4 := Lib.hid (below_of_new HB3.out hb4)
    clear hb4
    go_wp2_with fail
    go_ret2
    exact ⟨rfl, HB4.out⟩
end Go.Proofs.YtnnlpkbopeiefaaGreatDoor
/-! The reference's utf, decimal, node. The decimal is printed from XVe. -/
namespace Go.Proofs.YtnnlpkbopeiefaaGreatDoor
set_option linter.unusedSimpArgs false
set_option linter.unusedVariables false
open Go.RowKit
open Go.Lib hiding intOf
theorem rutf_any (l : Stp) (w : World) (hs : l.length ≤ 4611686018427387904) :
    Calls Tryz.prog 215 #[.string (bs l)] w fun e w' => e = .returned (.bool (Lib.validD l)) ∧ Below w.heap.size w w' := by
  obtain ⟨N, hv⟩ := rvalid_any l w hs
  have HV := Lib.hid hv
  obtain ⟨V, hV⟩ : ∃ V, Lib.validD l = V := ⟨_, rfl⟩
  rw [hV] at HV ⊢
  clear hv hV
  go_enter Tryz.func215, Tryz.ntmps215
  go_wp2_with fail
  refine HV.out.mono ?_
  rintro e w2 ⟨rfl, hb2⟩
  have HB2 := Lib.hid hb2
  clear hb2 HV
  go_wp2_with fail
  go_ret
  exact ⟨rfl, HB2.out⟩
set_option maxRecDepth 100000 in
set_option maxHeartbeats 4000000 in
theorem rdecimal_any (s : Stp) (w : World) (hs : s.length ≤ 4294967296) (hV : VVar w) :
    Calls Tryz.prog 214 #[.string (bs s)] w fun e w' => e = DecE s ∧ Below w.heap.size w w' := by
  have sl := bs_size s
  have CP := Lib.hid (fun w => refParse_any s w hs)
  have hdg := parse_dig s
  unfold DecE decB
  obtain ⟨P, hP⟩ : ∃ P, parseL s = P := ⟨_, rfl⟩
  rw [hP] at CP hdg
  rw [hP]
  obtain ⟨n, er⟩ := P
  simp only [] at hdg ⊢
  have CT : Hid (er = 0 → ∀ w', VVar w' → Calls Tryz.prog 86 #[.agg #[.bool n.neg, .string (bs n.dig), .int .i64 n.exp]] w' fun e w2 => e = .returned (.string (bs (textL n))) ∧ Below w'.heap.size w' w2) := Lib.hid (fun h w' hv => refText_any n w' (by have := hdg h; omega))
  have ba := below_alloc1 w (.cells #[.bool false, .string (bs []), .int .i64 0] 80)
  have hB0 := NbBox.new w ⟨false, [], 0⟩
  have HV := Lib.hid hV
  obtain ⟨R, hR⟩ : ∃ R, (decide (er = 0) && decide (textL n = s)) = R := ⟨_, rfl⟩
  rw [hR]
  have HR := Lib.hid hR
  clear hV hP hdg hR
  go_enter Tryz.func214, Tryz.ntmps214
  go_wp2_with fail
  refine (CP.out _).mono ?_
  unfold Parsed numV
  rintro e w1 ⟨rfl, hb1⟩
  have hB1 := hB0.keep hb1
  have HB1 := below_of_new (Below.refl w.heap.size w) (ba.trans (hb1.mono (by simp)))
  have ba1 := below_alloc1 w1 (.cells #[.bool n.neg, .string (bs n.dig), .int .i64 n.exp] 80)
  have hS : NbTwo w w1.heap.size n (w1.alloc (.cells #[.bool n.neg, .string (bs n.dig), .int .i64 n.exp] 80)) := NbTwo.of ⟨⟨_, hB1.keep ba1⟩, NbBox.new w1 n, hB1.lt, HB1.trans (ba1.mono HB1.size)⟩
  clear hb1 hB0 hB1 ba1 HB1 ba
  go_upto_region 2 with fail
  obtain ⟨n0, y0, y1, y2, f0, f1, f2⟩ := hS.free
  by_cases he : er = 0
  · subst he
    have HT := Lib.hid (CT.out rfl)
    have hb : decide (textL n = s) = R := by rw [← HR.out]; simp
    have hqz : ((bs (textL n)).toList == (bs s).toList) = R := by
      rw [Lib.toList_data, Lib.toList_data, bs_data, bs_data, ← hb]
      by_cases h : textL n = s
      · rw [decide_eq_true h, h]; simp
      · rw [decide_eq_false h]; simpa using h
    have hqz2 : decide (bs (textL n) = bs s) = R := by
      rw [← hb, decide_eq_decide]
      exact ⟨fun h => bs_inj h, fun h => by rw [h]⟩
    clear y0 y1 y2 f0 f1 f2 hb CT HR
    go_region_held3 (fun w' => NbTwo w w1.heap.size n w') ((first | exact NbTwo.drew (by assumption) | exact NbTwo.step (by assumption) (by assumption) | exact NbTwo.put (by assumption) | assumption))
      ((go_at_call 86; (with_reducible refine (HT.out _ (HV.out.keep (NbTwo.bel (by assumption : NbTwo w w1.heap.size n _)))).mono ?_); rintro e w5 ⟨rfl, hb5⟩; have hn5 : NbTwo w w1.heap.size n w5 := NbTwo.step (by assumption) hb5; obtain ⟨g5, y0, y1, y2, f0, f1, f2⟩ := hn5.free))
    have HG := Lib.hid hn5.putG
    go_wp2_with fail
    obtain ⟨hP, hPB⟩ := HG.out
    obtain ⟨WF, hWF⟩ : ∃ W, putNb w5 w.heap.size n = W := ⟨_, rfl⟩
    rw [hWF] at hP hPB
    have hWF' : ((w5.setCell ⟨w.heap.size, 0, none⟩ (.bool n.neg)).setCell ⟨w.heap.size, 1, none⟩ (.string (bs n.dig))).setCell ⟨w.heap.size, 2, none⟩ (.int .i64 n.exp) = WF := hWF
    rw [hWF']
    obtain ⟨d0, d1, d2, _⟩ := hP.cells
    clear hWF hWF' HG
    refine bodyPost_ret (v := .tuple #[.agg #[.bool n.neg, .string (bs n.dig), .int .i64 n.exp], .bool R]) ?_ rfl ⟨rfl, hPB⟩
    simp [results, Tryz.results214, go_sem, d0, d1, d2]
  · have de : (er == 0) = false := beq_eq_false_iff_ne.2 he
    have de2 : decide (er = 0) = false := decide_eq_false he
    have HG := Lib.hid hS.putG
    obtain ⟨z0, z1, z2, _⟩ := hS
    obtain rfl : R = false := by rw [← HR.out, de2]; rfl
    clear CT CP HR
    go_region
    go_wp2_with fail
    obtain ⟨hP, hPB⟩ := HG.out
    obtain ⟨WF, hWF⟩ : ∃ W, putNb (w1.alloc (.cells #[.bool n.neg, .string (bs n.dig), .int .i64 n.exp] 80)) w.heap.size n = W := ⟨_, rfl⟩
    rw [hWF] at hP hPB
    have hWF' : (((w1.alloc (.cells #[.bool n.neg, .string (bs n.dig), .int .i64 n.exp] 80)).setCell ⟨w.heap.size, 0, none⟩ (.bool n.neg)).setCell ⟨w.heap.size, 1, none⟩ (.string (bs n.dig))).setCell ⟨w.heap.size, 2, none⟩ (.int .i64 n.exp) = WF := hWF
    rw [hWF']
    obtain ⟨d0, d1, d2, _⟩ := hP.cells
    clear hWF hWF' HG
    refine bodyPost_ret (v := .tuple #[.agg #[.bool n.neg, .string (bs n.dig), .int .i64 n.exp], .bool false]) ?_ rfl ⟨rfl, hPB.drew⟩
    simp [results, Tryz.results214, go_sem, d0, d1, d2]
end Go.Proofs.YtnnlpkbopeiefaaGreatDoor
