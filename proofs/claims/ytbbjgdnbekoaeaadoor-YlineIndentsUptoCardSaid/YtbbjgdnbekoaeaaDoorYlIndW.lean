import Derived.Test.YtbbjgdnbekoaeaaDoorYlS
/-! The walk of the law YlineIndents. -/
namespace Go.Proofs.YtbbjgdnbekoaeaaDoor
set_option linter.unusedSimpArgs false
set_option linter.unusedVariables false
open Go.RowKit
open Go.Lib hiding intOf

theorem int_bd {e : Int} (h : (Lit.int .i64 e).wf = true) : -9223372036854775808 ≤ e ∧ e ≤ 9223372036854775807 := by
  simp only [Lit.wf, Bool.and_eq_true, decide_eq_true_eq] at h
  have h1 : IntKind.i64.min = -9223372036854775808 := by decide
  have h2 : IntKind.i64.max = 9223372036854775807 := by decide
  omega
theorem lineL_all (l : List UInt8) : lineL l 0 (l.length : Int) = (if l.contains 10 then (noLine, 0, 1) else if wrL true l < l.length then (noLine, (wrL true l : Int), 2) else match coreL (l.drop (spL l)) with | none => (noLine, (spL l : Int), 2) | some c => (lineOf 0 l.length (spL l) c, (l.length : Int), 0) : LineR × Int × Int) := by
  unfold lineL
  rw [if_neg (by omega)]
  simp only [Int.toNat_zero, List.drop_zero, Int.sub_zero, Int.toNat_natCast, List.take_length, Int.zero_add]
  rfl
/-- Where the parts of a line lie. -/
structure LBd (n : Int) (r : LineR) : Prop where
  kind : 1 ≤ r.kind ∧ r.kind ≤ 5
  sf : r.sf = 0
  st : r.st = n
  ind : 0 ≤ r.ind ∧ r.ind ≤ n
  kf : 0 ≤ r.kf ∧ r.kf ≤ n
  kt : 0 ≤ r.kt ∧ r.kt ≤ n
  rf : 0 ≤ r.rf ∧ r.rf ≤ n
  rt : 0 ≤ r.rt ∧ r.rt ≤ n
  nf : 0 ≤ r.nf ∧ r.nf ≤ n
  nt : 0 ≤ r.nt ∧ r.nt ≤ n
  kz : r.kt = 0 → r.kf = 0
  nz : r.nt = 0 → r.nf = 0
theorem line_bd (l : List UInt8) (r : LineR) (f er : Int) (h : lineL l 0 (l.length : Int) = (r, f, er)) :
    (0 ≤ f ∧ f ≤ l.length) ∧ (er = 0 ∨ er = 1 ∨ er = 2) ∧ (er = 0 → LBd l.length r) := by
  rw [lineL_all] at h
  split at h
  · injection h with h1 h; injection h with h2 h3
    subst h2 h3
    exact ⟨by omega, .inr (.inl rfl), fun h => by cases h⟩
  · split at h
    · rename_i hw
      injection h with h1 h; injection h with h2 h3
      subst h2 h3
      exact ⟨by omega, .inr (.inr rfl), fun h => by cases h⟩
    · have hs := spL_le l
      split at h
      · injection h with h1 h; injection h with h2 h3
        subst h2 h3
        exact ⟨by omega, .inr (.inr rfl), fun h => by cases h⟩
      · rename_i c hc
        injection h with h1 h; injection h with h2 h3
        subst h1 h2 h3
        refine ⟨by omega, .inl rfl, fun _ => ?_⟩
        have hp := core_parts _ _ hc
        have hk := hp.key
        have hn := hp.note
        have ho := hp.ord
        have hkd := hp.kind
        rw [List.length_drop] at hk hn ho
        unfold lineOf
        refine ⟨by simp only []; omega, rfl, rfl, by simp only []; omega, ?_, ?_, by simp only []; omega, by simp only []; omega, ?_, ?_, ?_, ?_⟩
        · simp only []
          split <;> omega
        · simp only []
          split
          · rename_i h4
            have := hk (by omega)
            omega
          · omega
        · cases hf : c.nf with
          | none => simp
          | some k => have := hn k hf; simp only []; omega
        · cases hf : c.nf with
          | none => simp
          | some k => have := hn k hf; simp only []; omega
        · simp only []
          split <;> omega
        · cases hf : c.nf with
          | none => simp
          | some k => have := hn k hf; simp only []; omega
theorem and7 (k : Int) : ∃ j : Nat, j ≤ 7 ∧ bits .and .i64 k 7 = j := by
  have h : (BitVec.ofInt 64 k &&& BitVec.ofInt 64 7).toNat ≤ 7 := by
    rw [BitVec.toNat_and]
    exact Nat.le_trans Nat.and_le_right (by decide)
  exact ⟨(BitVec.ofInt 64 k &&& BitVec.ofInt 64 7).toNat, h, (show IntKind.i64.wrap ((BitVec.ofInt 64 k &&& BitVec.ofInt 64 7).toNat : Int) = _ from IntWalk.i64_in _ (by omega))⟩
theorem sp8 (n : Nat) (h : n ≤ 7) : (⟨#[32, 32, 32, 32, 32, 32, 32, 32]⟩ : ByteArray).extract 0 n = bs (List.replicate n 32) := by
  have : n = 0 ∨ n = 1 ∨ n = 2 ∨ n = 3 ∨ n = 4 ∨ n = 5 ∨ n = 6 ∨ n = 7 := by omega
  rcases this with rfl | rfl | rfl | rfl | rfl | rfl | rfl | rfl <;> decide +kernel
set_option maxRecDepth 100000 in
set_option maxHeartbeats 20000000 in
theorem ylineIndents_any (s : ByteArray) (k : Int) (w : World) (hs : s.size ≤ 1048576) (hk : -9223372036854775808 ≤ k ∧ k ≤ 9223372036854775807) (hV : Yv w) :
    Calls Tryd.prog 8 #[.string s, .int .i64 k] w fun e w' => e = .returned (.bool true) ∧ Below w.heap.size w w' := by
  have C0 := Lib.hid (fun w h => ysmall_any w h)
  have HV0 := Lib.hid hV; clear hV
  obtain ⟨l, rfl⟩ : ∃ l, s = bs l := ⟨s.data.toList, (bs_of s).symm⟩
  have sl := bs_size l
  obtain ⟨n, hn, hj⟩ := and7 k
  obtain ⟨L, hL⟩ : ∃ L, List.replicate n (32 : UInt8) ++ l = L := ⟨_, rfl⟩
  have hLl : L.length = n + l.length := by rw [← hL, List.length_append, List.length_replicate]
  have hLb : L.length ≤ n + l.length := Nat.le_of_eq hLl
  clear hLl
  have sL := bs_size L
  have hX : (⟨#[32, 32, 32, 32, 32, 32, 32, 32]⟩ : ByteArray).extract 0 n ++ bs l = bs L := by rw [sp8 n hn, bs_append, hL]
  have hsh := line_shift n l
  rw [hL] at hsh
  obtain ⟨R, f, er, hR⟩ : ∃ R f er, lineL l 0 (l.length : Int) = (R, f, er) := ⟨_, _, _, rfl⟩
  obtain ⟨Q, f2, e2, hQ⟩ : ∃ Q f2 e2, lineL L 0 (L.length : Int) = (Q, f2, e2) := ⟨_, _, _, rfl⟩
  rw [hR, hQ] at hsh
  obtain ⟨h1, h2, h3⟩ := hsh
  simp only [] at h1 h2 h3
  subst h1
  obtain ⟨bf, be, bR⟩ := line_bd l R f e2 hR
  have A1 := Lib.hid (fun w => yall_any l l.length rfl w (by omega))
  have A2 := Lib.hid (fun w => yall_any L L.length rfl w (by omega))
  have P1 := Lib.hid (fun w h => line_at l l.length rfl R f e2 hR w (by omega) h)
  have P2 := Lib.hid (fun w h => line_at L L.length rfl Q f2 e2 hQ w (by omega) h)
  clear hR hQ hL
  go_enter Tryd.func8, Tryd.ntmps8
  go_wp2_with fail
  with_reducible refine (C0.out _ HV0.out).mono ?_
  rintro e w1 ⟨rfl, hb⟩
  have HB1 := Lib.hid hb; have HV1 := Lib.hid (HV0.out.keep hb); clear hb
  go_wp2_with fail
  with_reducible refine (A1.out _).mono ?_
  rintro e w2 ⟨rfl, hb⟩
  have HB2 := Lib.hid (below_of_new HB1.out hb); have HV2 := Lib.hid (HV1.out.keep hb); clear hb
  go_wp2_with fail
  with_reducible refine (P1.out _ HV2.out).mono ?_
  rintro e w3 ⟨rfl, hb⟩
  have HB3 := Lib.hid (below_of_new HB2.out hb); have HV3 := Lib.hid (HV2.out.keep hb); clear hb
  dsimp only [lineV]
  go_wp2_with fail
  have hX : LineBox (w3.alloc (.cells #[.int .i64 R.kind, .int .i64 R.sf, .int .i64 R.st, .int .i64 R.ind, .int .i64 R.kf, .int .i64 R.kt, .int .i64 R.rf, .int .i64 R.rt, .int .i64 R.nf, .int .i64 R.nt] 42)) w3.heap.size R := heap_alloc_new w3 _
  have hA := below_alloc1 w3 (.cells #[.int .i64 R.kind, .int .i64 R.sf, .int .i64 R.st, .int .i64 R.ind, .int .i64 R.kf, .int .i64 R.kt, .int .i64 R.rf, .int .i64 R.rt, .int .i64 R.nf, .int .i64 R.nt] 42)
  obtain ⟨W3, hW⟩ : ∃ W, w3.alloc (.cells #[.int .i64 R.kind, .int .i64 R.sf, .int .i64 R.st, .int .i64 R.ind, .int .i64 R.kf, .int .i64 R.kt, .int .i64 R.rf, .int .i64 R.rt, .int .i64 R.nf, .int .i64 R.nt] 42) = W := ⟨_, rfl⟩
  rw [hW] at hX hA ⊢
  clear hW
  obtain ⟨X1, hXe⟩ : ∃ X, w3.heap.size = X := ⟨_, rfl⟩
  rw [hXe] at hX ⊢
  have HW3 := Lib.hid (HV3.out.keep hA); have HC3 := Lib.hid (below_of_new HB3.out hA)
  have HZ1 : Hid (w.heap.size ≤ X1) := Lib.hid (by rw [← hXe]; exact HB3.out.size)
  have HX1 := Lib.hid hX; clear hX hA HV3 HB3 hXe
  with_reducible refine (A2.out _).mono ?_
  rintro e w4 ⟨rfl, hb⟩
  have HB4 := Lib.hid (below_of_new HC3.out hb); have HV4 := Lib.hid (HW3.out.keep hb); have HX1 := Lib.hid (HX1.out.keep hb); clear hb HW3 HC3
  go_wp2_with fail
  with_reducible refine (P2.out _ HV4.out).mono ?_
  rintro e w5 ⟨rfl, hb⟩
  have HB5 := Lib.hid (below_of_new HB4.out hb); have HV5 := Lib.hid (HV4.out.keep hb); have HX1 := Lib.hid (HX1.out.keep hb); clear hb HV4 HB4
  dsimp only [lineV]
  have hfw : IntKind.i64.wrap (f + (n : Int)) = f + n := by rw [IntKind.wrap_i64]; omega
  go_upto_region 7 with fail
  have hX : LineBox (w5.alloc (.cells #[.int .i64 Q.kind, .int .i64 Q.sf, .int .i64 Q.st, .int .i64 Q.ind, .int .i64 Q.kf, .int .i64 Q.kt, .int .i64 Q.rf, .int .i64 Q.rt, .int .i64 Q.nf, .int .i64 Q.nt] 42)) w5.heap.size Q := heap_alloc_new w5 _
  have hA := below_alloc1 w5 (.cells #[.int .i64 Q.kind, .int .i64 Q.sf, .int .i64 Q.st, .int .i64 Q.ind, .int .i64 Q.kf, .int .i64 Q.kt, .int .i64 Q.rf, .int .i64 Q.rt, .int .i64 Q.nf, .int .i64 Q.nt] 42)
  have hne : X1 ≠ w5.heap.size := Nat.ne_of_lt HX1.out.lt
  obtain ⟨W5, hW⟩ : ∃ W, w5.alloc (.cells #[.int .i64 Q.kind, .int .i64 Q.sf, .int .i64 Q.st, .int .i64 Q.ind, .int .i64 Q.kf, .int .i64 Q.kt, .int .i64 Q.rf, .int .i64 Q.rt, .int .i64 Q.nf, .int .i64 Q.nt] 42) = W := ⟨_, rfl⟩
  rw [hW] at hX hA ⊢
  clear hW
  obtain ⟨X2, hXe⟩ : ∃ X, w5.heap.size = X := ⟨_, rfl⟩
  rw [hXe] at hX ⊢ hne
  have HW5 := Lib.hid (HV5.out.keep hA); have HC5 := Lib.hid (below_of_new HB5.out hA)
  have HX1 := Lib.hid (HX1.out.keep hA)
  have HX2 := Lib.hid hX; clear hX hA HV5 HB5 hXe
  rcases be with rfl | rfl | rfl
  rotate_left
  · clear h2 h3 bR
    go_wp2_with fail
    all_goals (go_ret; exact ⟨rfl, HC5.out⟩)
  · have h2 := h2 (by decide)
    subst h2
    clear h3 bR
    go_wp2_with fail
    go_ret
    exact ⟨rfl, HC5.out⟩
  have h2 := h2 (by decide)
  subst h2
  have h3 := h3 rfl
  have bR := bR rfl
  obtain ⟨kd, sf, st, ind, kf, kt, rf, rt, nf, nt⟩ := R
  obtain ⟨bkd, bsf, bst, bi, bkf, bkt, brf, brt, bnf, bnt, bkz, bnz⟩ := bR
  simp only [] at bkd bsf bst bi bkf bkt brf brt bnf bnt bkz bnz
  subst h3 bsf bst
  obtain ⟨kg, hkg⟩ : ∃ x, (if kf = 0 ∧ kt = 0 then kf else kf + (n : Int)) = x := ⟨_, rfl⟩
  obtain ⟨kh, hkh⟩ : ∃ x, (if kf = 0 ∧ kt = 0 then kt else kt + (n : Int)) = x := ⟨_, rfl⟩
  obtain ⟨ng, hng⟩ : ∃ x, (if nf = 0 ∧ nt = 0 then nf else nf + (n : Int)) = x := ⟨_, rfl⟩
  obtain ⟨nh, hnh⟩ : ∃ x, (if nf = 0 ∧ nt = 0 then nt else nt + (n : Int)) = x := ⟨_, rfl⟩
  have hQ : shiftR n ⟨kd, 0, l.length, ind, kf, kt, rf, rt, nf, nt⟩ = ⟨kd, 0, (l.length : Int) + n, ind + n, kg, kh, rf + n, rt + n, ng, nh⟩ := by unfold shiftR; simp only []; rw [hkg, hkh, hng, hnh]
  rw [hQ] at HX2
  clear hQ
  go_upto_region 11 with fail
  go_cut [15] (fun s15 wx => ∃ Z, s15 = .pointer (some ⟨Z, 0, none⟩) ∧ Hid (LineBox wx X1 ⟨kd, 0, l.length, ind, kf, kt, rf, rt, nf, nt⟩ ∧ LineBox wx X2 ⟨kd, 0, (l.length : Int) + n, ind + n, kg, kh, rf + n, rt + n, ng, nh⟩ ∧ SpanBox wx Z 0 0 ∧ Below w.heap.size w wx))
  case first =>
    go_wp2_with fail
    go_meet
    have hA := below_alloc1 W5 (.cells #[.int .i64 0, .int .i64 0] 28)
    exact ⟨W5.heap.size, rfl, HX1.out.keep hA, HX2.out.keep hA, heap_alloc_new W5 _, below_of_new HC5.out hA⟩
  obtain ⟨Z, rfl, HS⟩ := hcut
  clear HX1 HX2 HC5
  obtain ⟨a0, a1, a2, a3, a4, a5, a6, a7, a8, a9, g0, g1, g2, g3, g4, g5, g6, g7, g8, g9⟩ := HS.out.1.cells
  obtain ⟨c0, c1, c2, c3, c4, c5, c6, c7, c8, c9, _⟩ := HS.out.2.1.cells
  obtain ⟨z0, z1⟩ := HS.out.2.2.1.cells
  simp only [] at a0 a1 a2 a3 a4 a5 a6 a7 a8 a9 c0 c1 c2 c3 c4 c5 c6 c7 c8 c9
  have hne2 : X2 ≠ X1 := fun e => hne e.symm
  have HSET : Hid (∀ (W : World) (i : Nat) (u : Value), Below w.heap.size w W → Below w.heap.size w (W.setCell ⟨X1, i, none⟩ u)) := Lib.hid (fun W i u h => h.setCell (p := ⟨X1, i, none⟩) HZ1.out u)
  have HBK := Lib.hid (And.intro bkz bnz)
  clear bkz bnz
  by_cases hz1 : kt = 0
  · have hz0 := HBK.out.1 hz1
    rw [if_pos ⟨hz0, hz1⟩] at hkg hkh
    subst hkg hkh hz0 hz1
    by_cases hz2 : nt = 0
    · have hz3 := HBK.out.2 hz2
      rw [if_pos ⟨hz3, hz2⟩] at hng hnh
      subst hng hnh hz3 hz2
      go_wp2_with fail
      go_ret
      refine ⟨rfl, ?_⟩
      repeat (with_reducible refine HSET.out _ _ _ ?_)
      exact HS.out.2.2.2
    · rw [if_neg (fun h => hz2 h.2)] at hng hnh
      subst hng hnh
      have tN : (nt == 0) = false := beq_eq_false_iff_ne.2 hz2
      go_wp2_with fail
      go_ret
      refine ⟨rfl, ?_⟩
      repeat (with_reducible refine HSET.out _ _ _ ?_)
      exact HS.out.2.2.2
  · rw [if_neg (fun h => hz1 h.2)] at hkg hkh
    subst hkg hkh
    have tK : (kt == 0) = false := beq_eq_false_iff_ne.2 hz1
    by_cases hz2 : nt = 0
    · have hz3 := HBK.out.2 hz2
      rw [if_pos ⟨hz3, hz2⟩] at hng hnh
      subst hng hnh hz3 hz2
      go_wp2_with fail
      go_ret
      refine ⟨rfl, ?_⟩
      repeat (with_reducible refine HSET.out _ _ _ ?_)
      exact HS.out.2.2.2
    · rw [if_neg (fun h => hz2 h.2)] at hng hnh
      subst hng hnh
      have tN : (nt == 0) = false := beq_eq_false_iff_ne.2 hz2
      go_wp2_with fail
      go_ret
      refine ⟨rfl, ?_⟩
      repeat (with_reducible refine HSET.out _ _ _ ?_)
      exact HS.out.2.2.2
end Go.Proofs.YtbbjgdnbekoaeaaDoor
