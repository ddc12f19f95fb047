import Derived.Test.YtbbjgdnbekoaeaaDoorYlPartA
import Derived.Lib.ConvBytes
import Derived.Deep.DeepCutAuto
/-! The walk of the law YlineParts. -/
namespace Go.Proofs.YtbbjgdnbekoaeaaDoor
set_option linter.unusedSimpArgs false
set_option linter.unusedVariables false
open Go.RowKit
open Go.Lib hiding intOf

/-- What the walk knows of a line's box. -/
abbrev LTwo (w : World) (X : Nat) (r : LineR) (w' : World) : Prop := LineCells w' X r ∧ Hid (LineBox w' X r ∧ Below w.heap.size w w')
theorem LTwo.of {w w' : World} {X : Nat} {r : LineR} (h : LineBox w' X r) (hb : Below w.heap.size w w') : LTwo w X r w' := ⟨h.cells, Lib.hid ⟨h, hb⟩⟩
theorem LTwo.drew {w w' : World} {X : Nat} {r : LineR} (h : LTwo w X r w') : LTwo w X r w'.drew := LTwo.of h.2.out.1.drew h.2.out.2.drew
theorem LTwo.step {w w1 w2 : World} {X : Nat} {r : LineR} (h : LTwo w X r w1) (hb : Below w1.heap.size w1 w2) : LTwo w X r w2 := LTwo.of (h.2.out.1.keep hb) (below_of_new h.2.out.2 hb)
theorem int_eq2 {a b : Int} (h : a = b) : Value.int .i64 a = Value.int .i64 b := by rw [h]
set_option maxRecDepth 100000 in
set_option maxHeartbeats 20000000 in
theorem ylineParts_any (s : ByteArray) (w : World) (hs : s.size ≤ 1048576) (hV : Yv w) :
    Calls Tryd.prog 7 #[.string s] w fun e w' => e = .returned (.bool true) ∧ Below w.heap.size w w' := by
  have C0 := Lib.hid (fun w h => ysmall_any w h)
  have HV0 := Lib.hid hV; clear hV
  obtain ⟨l, rfl⟩ : ∃ l, s = bs l := ⟨s.data.toList, (bs_of s).symm⟩
  have sl := bs_size l
  obtain ⟨R, f, er, hR⟩ : ∃ R f er, lineL l 0 (l.length : Int) = (R, f, er) := ⟨_, _, _, rfl⟩
  have hP := line_parts l R f er hR
  have A1 := Lib.hid (fun w => yall_any l l.length rfl w (by omega))
  have P1 := Lib.hid (fun w h => line_at l l.length rfl R f er hR w (by omega) h)
  clear hR
  go_enter Tryd.func7, Tryd.ntmps7
  go_wp2_with fail
  with_reducible refine (C0.out _ HV0.out).mono ?_
  rintro e w1 ⟨rfl, hb⟩
  have HB1 := Lib.hid hb; have HV1 := Lib.hid (HV0.out.keep hb); clear hb
  go_wp2_with fail
  with_reducible refine (A1.out _).mono ?_
  rintro e w2 ⟨rfl, hb⟩
  have HB2 := Lib.hid (below_of_new HB1.out hb); have HV2 := Lib.hid (HV1.out.keep hb); clear hb
  go_wp2_with fail
  with_reducible refine (P1.out _ HV2.out).mono ?_
  rintro e w3 ⟨rfl, hb⟩
  have HB3 := Lib.hid (below_of_new HB2.out hb); clear hb
  dsimp only [lineV]
  go_upto_region 3 with fail
  have hL : LTwo w w3.heap.size R (w3.alloc (.cells #[.int .i64 R.kind, .int .i64 R.sf, .int .i64 R.st, .int .i64 R.ind, .int .i64 R.kf, .int .i64 R.kt, .int .i64 R.rf, .int .i64 R.rt, .int .i64 R.nf, .int .i64 R.nt] 42)) := LTwo.of (heap_alloc_new w3 _) (below_of_new HB3.out (below_alloc1 w3 _))
  obtain ⟨W3, hW⟩ : ∃ W, w3.alloc (.cells #[.int .i64 R.kind, .int .i64 R.sf, .int .i64 R.st, .int .i64 R.ind, .int .i64 R.kf, .int .i64 R.kt, .int .i64 R.rf, .int .i64 R.rt, .int .i64 R.nf, .int .i64 R.nt] 42) = W := ⟨_, rfl⟩
  rw [hW] at hL ⊢
  clear hW
  obtain ⟨X, hXe⟩ : ∃ X, w3.heap.size = X := ⟨_, rfl⟩
  rw [hXe] at hL ⊢
  clear hXe HB3
  rcases hP with ⟨he, rfl, f0, f1⟩ | ⟨rfl, rfl, n, kt, va, vb, F, E, hp⟩
  · have hH := hL.2.out
    obtain ⟨⟨a0, a1, a2, a3, a4, a5, a6, a7, a8, a9, _⟩, _⟩ := hL
    dsimp only [noLine] at a0 a1 a2 a3 a4 a5 a6 a7 a8 a9
    rcases he with rfl | rfl
    all_goals
      go_wp2_with fail
      go_ret
      exact ⟨rfl, hH.2⟩
  obtain ⟨kd, sf, st, ind, kf, kt', rf, rt, nf, nt⟩ := R
  obtain ⟨p1, p2, p3, p4, p5, p6, p7, p8, p9, p10, p11, p12, p13, p14, p15, p16, p17⟩ := hp
  dsimp only at p1 p2 p3 p4 p7 p8 p9 p10 p11 p12 p15
  subst p2 p3 p4 p11 p12
  have hpn := Lib.hid (And.intro p6 (And.intro p14 (And.intro p16 p17)))
  have hpk := Lib.hid (And.intro p7 (And.intro p8 (And.intro p9 (And.intro p10 p15))))
  clear p6 p14 p16 p17 p7 p8 p9 p10 p15
  have d1 : decide (l.length < n) = false := decide_eq_false (by omega)
  have d2 : decide (kd < 1) = false := decide_eq_false (by omega)
  have d3 : decide (5 < kd) = false := decide_eq_false (by omega)
  have d4 : decide ((n : Int) < 0) = false := decide_eq_false (by omega)
  go_upto_region 5 with fail
  go_region_held3 (fun w' => LTwo w X ⟨kd, 0, l.length, n, kf, kt', va, vb, nf, nt⟩ w') ((first | exact LTwo.drew (by assumption) | exact LTwo.step (by assumption) (by assumption) | assumption))
    (first | (go_at_call 17; (with_reducible refine (A1.out _).mono ?_); rintro e w1 ⟨rfl, hb1⟩))
  have hL2 : LTwo w X ⟨kd, 0, l.length, n, kf, kt', va, vb, nf, nt⟩ w1 := by assumption
  have HL := Lib.hid hL2
  clear hL2 hL
  have hcv := Lib.run_convert_string_bytes (P := Tryd.prog) w1 9 46 5 (bs l) (u := .string) Tryd.underlying9 Tryd.underlying46 Tryd.underlying5
  have hb2 : Below w1.heap.size w1 (Lib.bytesWorld w1 5 (bs l)) := ⟨rfl, rfl, rfl, by rw [Lib.bytesWorld_size]; omega, fun j hj => Lib.bytesWorld_at_old w1 _ _ j hj⟩
  have hc2 : ∀ j, j < n → (Lib.bytesWorld w1 5 (bs l)).cell? ⟨w1.heap.size, j, none⟩ = some (.int .u8 32) := fun j hj => by
    have h1 := hpn.out.1 j hj
    rw [Lib.bytesWorld_cell w1 _ _ j (by omega), bs_data, List.getD_eq_getElem?_getD, h1]; rfl
  have HL2 := Lib.hid (LTwo.step HL.out hb2)
  obtain ⟨W2, hW2⟩ : ∃ W, Lib.bytesWorld w1 5 (bs l) = W := ⟨_, rfl⟩
  rw [hW2] at hcv hb2 hc2 HL2
  clear hW2 HL hb2
  have HC := Lib.hid hc2
  clear hc2
  obtain ⟨⟨a0, a1, a2, a3, a4, a5, a6, a7, a8, a9, f0, f1, f2, f3, f4, f5, f6, f7, f8, f9⟩, _⟩ := HL2.out
  dsimp only at a0 a1 a2 a3 a4 a5 a6 a7 a8 a9
  go_upto_block 0 with fail
  go_cut [] (fun wx => W2 = wx)
  case first =>
    as_aux_lemma =>
      go_wp2_with fail
      go_loop [9] (fun s9 => ∃ k : Nat, s9 = .int .i64 k ∧ k ≤ n) (fun s9 => n - (RowKit.intOf s9).toNat)
      case atStart => exact ⟨0, rfl, by omega⟩
      case round =>
        obtain ⟨k, rfl, hk⟩ := hrel
        by_cases hlt : k < n
        · have hck := HC.out k hlt
          go_wp2_with fail
          go_round
          case rel => exact ⟨k + 1, by go_num, by omega⟩
          case measure => simp [RowKit.intOf]; omega
        · obtain rfl : n = k := by omega
          go_wp2_with fail
          go_meet
          exact rfl
  subst hcut
  clear hcv HC
  go_upto_region 14 with fail
  go_cut [10] (fun s10 wx => ∃ Z, s10 = .pointer (some ⟨Z, 0, none⟩) ∧ Hid (LineBox wx X ⟨kd, 0, l.length, n, kf, kt', va, vb, nf, nt⟩ ∧ SpanBox wx Z 0 0 ∧ Below w.heap.size w wx))
  case first =>
    as_aux_lemma =>
      go_wp2_with fail
      go_meet
      have hA := below_alloc1 W2 (.cells #[.int .i64 0, .int .i64 0] 28)
      exact ⟨W2.heap.size, rfl, HL2.out.2.out.1.keep hA, heap_alloc_new W2 _, below_of_new HL2.out.2.out.2 hA⟩
  clear a0 a1 a2 a3 a4 a5 a6 a7 a8 a9 f0 f1 f2 f3 f4 f5 f6 f7 f8 f9
  obtain ⟨Z, rfl, HS⟩ := hcut
  clear HL2
  obtain ⟨a0, a1, a2, a3, a4, a5, a6, a7, a8, a9, f0, f1, f2, f3, f4, f5, f6, f7, f8, f9⟩ := HS.out.1.cells
  obtain ⟨z0, z1⟩ := HS.out.2.1.cells
  dsimp only at a0 a1 a2 a3 a4 a5 a6 a7 a8 a9
  clear f0 f1 f2 f3 f4 f5 f6 f7 f8 f9
  obtain ⟨F1, hF1⟩ : ∃ F1, (if kd = 4 then kt + 1 else n) = F1 := ⟨_, rfl⟩
  have HF1 := Lib.hid hF1
  clear hF1
  go_upto_if 91 with fail
  go_cut [8] (fun s8 wx => s8 = .int .i64 (F1 : Int) ∧ wc = wx)
  case first =>
    as_aux_lemma =>
      by_cases h4 : kd = 4
      · obtain ⟨r1, r2, r3, r4, r5, r6⟩ := hpk.out.1 h4
        have hf1 := HF1.out
        rw [if_pos h4] at hf1
        have HF2 := Lib.hid hf1
        have hkt' : kt < (bs l).size := by omega
        have T58 : ((((bs l)[kt]'hkt').toNat : Int) != 58) = false := by
          have hb := at_bs l kt hkt'
          rw [r5] at hb
          rw [byte_ne _ 58 58 rfl, ← Option.some.inj hb]; rfl
        have e1 : decide (kt ≤ n) = false := decide_eq_false (by omega)
        have e2 : decide (l.length ≤ kt) = false := decide_eq_false (by omega)
        have e3 : (kt : Int) + 1 ≤ (l.length : Int) := by omega
        clear r5 r6 hf1
        subst r1 r2 h4
        go_wp2_with fail
        go_meet
        exact ⟨int_eq2 (by have := HF2.out; omega), rfl⟩
      · obtain ⟨r1, r2⟩ := hpk.out.2.1 h4
        have hf1 := HF1.out
        rw [if_neg h4] at hf1
        have HF2 := Lib.hid hf1
        have t4 : (kd == 4) = false := beq_eq_false_iff_ne.2 h4
        clear hf1 h4
        subst r1 r2
        go_wp2_with fail
        go_meet
        exact ⟨int_eq2 (by have := HF2.out; omega), rfl⟩
  obtain ⟨rfl, rfl⟩ := hcut
  go_upto_if 130 with fail
  go_cut [8] (fun s8 wx => s8 = .int .i64 (F : Int) ∧ wc = wx)
  case first =>
    as_aux_lemma =>
      by_cases h3 : kd = 3
      · obtain ⟨r1, r2, r3⟩ := hpk.out.2.2.1 h3
        have hf1 := HF1.out
        rw [if_neg (by omega)] at hf1
        have hn' : n < (bs l).size := by omega
        have T45 : ((((bs l)[n]'hn').toNat : Int) != 45) = false := by
          have hb := at_bs l n hn'
          rw [r2] at hb
          rw [byte_ne _ 45 45 rfl, ← Option.some.inj hb]; rfl
        have e2 : decide (l.length ≤ n) = false := decide_eq_false (by omega)
        have HF2 := Lib.hid r3
        subst hf1 h3
        clear r2 r3
        go_wp2_with fail
        go_meet
        exact ⟨int_eq2 (by have := HF2.out; omega), rfl⟩
      · have hFF : F1 = F := by
          have hf1 := HF1.out
          by_cases h4 : kd = 4
          · rw [if_pos h4] at hf1; have := (hpk.out.1 h4).2.2.2.2.2; omega
          · rw [if_neg h4] at hf1; have := hpk.out.2.2.2.1 h4 h3; omega
        have t3 : (kd == 3) = false := beq_eq_false_iff_ne.2 h3
        clear h3
        subst hFF
        go_wp2_with fail
        go_meet
        exact ⟨rfl, rfl⟩
  obtain ⟨rfl, rfl⟩ := hcut
  have e5 : decide (va < F) = false := decide_eq_false (by omega)
  have e6 : decide (vb < va) = false := decide_eq_false (by omega)
  have e7 : decide (l.length < vb) = false := decide_eq_false (by omega)
  go_upto_block 2 with fail
  go_cut [] (fun wx => wc = wx)
  case first =>
    as_aux_lemma =>
      go_wp2_with fail
      go_loop [11] (fun s11 => ∃ k : Nat, s11 = .int .i64 k ∧ F ≤ k ∧ k ≤ va) (fun s11 => va - (RowKit.intOf s11).toNat)
      case atStart => exact ⟨F, rfl, by omega, by omega⟩
      case round =>
        obtain ⟨k, rfl, hk1, hk2⟩ := hrel
        by_cases hlt : k < va
        · have hk' : k < (bs l).size := by omega
          have T32 : ((((bs l)[k]'hk').toNat : Int) != 32) = false := by
            have hb := at_bs l k hk'
            rw [hpn.out.2.1 k hk1 hlt] at hb
            rw [byte_ne _ 32 32 rfl, ← Option.some.inj hb]; rfl
          go_wp2_with fail
          go_round
          case rel => exact ⟨k + 1, by go_num, by omega, by omega⟩
          case measure => simp [RowKit.intOf]; omega
        · obtain rfl : va = k := by omega
          go_wp2_with fail
          go_meet
          exact rfl
  subst hcut
  obtain ⟨BN, hBN⟩ : ∃ BN : Bool, (BN = false ∧ nf = 0 ∧ nt = 0 ∧ E = l.length) ∨ (BN = true ∧ nf = E ∧ nt = l.length ∧ vb ≤ E ∧ E < l.length ∧ l[E]? = some 35) := by
    rcases hpk.out.2.2.2.2 with h | h
    · exact ⟨false, .inl ⟨rfl, h⟩⟩
    · exact ⟨true, .inr ⟨rfl, h⟩⟩
  have HN := Lib.hid hBN
  clear hBN
  go_upto_region 33 with fail
  go_cut [182] (fun s182 wx => s182 = .bool BN ∧ wc = wx)
  case first =>
    as_aux_lemma =>
      rcases HN.out with ⟨rfl, r1, r2, r3⟩ | ⟨rfl, r1, r2, r3, r4, r5⟩
      · clear r3
        subst r1 r2
        go_wp2_with fail
        go_meet
        exact ⟨rfl, rfl⟩
      · have tn : (nt == 0) = false := beq_eq_false_iff_ne.2 (by omega)
        clear r1 r2 r3 r4 r5
        go_wp2_with fail
        go_meet
        exact ⟨rfl, rfl⟩
  obtain ⟨rfl, rfl⟩ := hcut
  go_upto_if 182 with fail
  go_cut [12] (fun s12 wx => s12 = .int .i64 (E : Int) ∧ wc = wx)
  case first =>
    as_aux_lemma =>
      rcases HN.out with ⟨rfl, r1, r2, r3⟩ | ⟨rfl, r1, r2, r3, r4, r5⟩
      · have HF2 := Lib.hid r3
        clear r1 r2 r3
        go_wp2_with fail
        go_meet
        exact ⟨int_eq2 (by have := HF2.out; omega), rfl⟩
      · have hE' : E < (bs l).size := by omega
        have T35 : ((((bs l)[E]'hE').toNat : Int) != 35) = false := by
          have hb := at_bs l E hE'
          rw [r5] at hb
          rw [byte_ne _ 35 35 rfl, ← Option.some.inj hb]; rfl
        have e8 : decide (E < vb) = false := decide_eq_false (by omega)
        have e9 : decide (l.length ≤ E) = false := decide_eq_false (by omega)
        have tl : (nt != (l.length : Int)) = false := by rw [r2]; simp
        clear r2 r5
        subst r1
        go_wp2_with fail
        go_meet
        exact ⟨rfl, rfl⟩
  obtain ⟨rfl, rfl⟩ := hcut
  have hvE : vb ≤ E ∧ E ≤ l.length := by rcases hpk.out.2.2.2.2 with ⟨r1, r2, r3⟩ | ⟨r1, r2, r3, r4, r5⟩ <;> omega
  obtain ⟨hvE1, hvE2⟩ := hvE
  go_upto_block 4 with fail
  go_cut [] (fun wx => wc = wx)
  case first =>
    as_aux_lemma =>
      go_wp2_with fail
      go_loop [13] (fun s13 => ∃ k : Nat, s13 = .int .i64 k ∧ vb ≤ k ∧ k ≤ E) (fun s13 => E - (RowKit.intOf s13).toNat)
      case atStart => exact ⟨vb, rfl, by omega, by omega⟩
      case round =>
        obtain ⟨k, rfl, hk1, hk2⟩ := hrel
        by_cases hlt : k < E
        · have hk' : k < (bs l).size := by omega
          have T32 : ((((bs l)[k]'hk').toNat : Int) != 32) = false := by
            have hb := at_bs l k hk'
            rw [hpn.out.2.2.1 k hk1 hlt] at hb
            rw [byte_ne _ 32 32 rfl, ← Option.some.inj hb]; rfl
          go_wp2_with fail
          go_round
          case rel => exact ⟨k + 1, by go_num, by omega, by omega⟩
          case measure => simp [RowKit.intOf]; omega
        · obtain rfl : E = k := by omega
          go_wp2_with fail
          go_meet
          exact rfl
  subst hcut
  by_cases hve : va = vb
  · subst hve
    go_wp2_with fail
    go_ret
    exact ⟨rfl, HS.out.2.2⟩
  · have hne := hpn.out.2.2.2.resolve_left hve
    obtain ⟨j, hj⟩ : ∃ j, vb = j + 1 := ⟨vb - 1, by omega⟩
    have hj' : j < (bs l).size := by omega
    have hva' : va < (bs l).size := by omega
    have tve : ((va : Int) == (vb : Int)) = false := beq_eq_false_iff_ne.2 (by omega)
    have Ta : ((((bs l)[va]'hva').toNat : Int) != 32) = true := by
      have hb := at_bs l va hva'
      rw [byte_ne _ 32 32 rfl]
      rw [beq_eq_false_iff_ne.2 (fun e => hne.1 (by rw [hb, e]))]; rfl
    have Tb : ((((bs l)[j]'hj').toNat : Int) != 32) = true := by
      have hb := at_bs l j hj'
      rw [byte_ne _ 32 32 rfl]
      rw [beq_eq_false_iff_ne.2 (fun e => hne.2 (by rw [hj, Nat.add_sub_cancel, hb, e]))]; rfl
    have hidx : (vb : Int) - 1 = (j : Int) := by omega
    clear hne hve hj
    go_wp2_with fail
    go_ret
    exact ⟨rfl, HS.out.2.2⟩
end Go.Proofs.YtbbjgdnbekoaeaaDoor
