import Derived.Test.YtnnlpkbopeiefaaGreatDoorYsS
import Derived.Test.YtnnlpkbopeiefaaGreatDoorYsG
import Derived.Test.YtnnlpkbopeiefaaGreatDoorYlF
/-! The walk of YscalarLines. -/
namespace Go.Proofs.YtnnlpkbopeiefaaGreatDoor
set_option linter.unusedSimpArgs false
set_option linter.unusedVariables false
open Go.RowKit
open Go.Lib hiding intOf
theorem andL7 (k : Int) : ∃ j : Nat, j ≤ 7 ∧ bits .and .i64 k 7 = j := by
  have h : (BitVec.ofInt 64 k &&& BitVec.ofInt 64 7).toNat ≤ 7 := by
    rw [BitVec.toNat_and]
    exact Nat.le_trans Nat.and_le_right (by decide)
  exact ⟨(BitVec.ofInt 64 k &&& BitVec.ofInt 64 7).toNat, h, (show IntKind.i64.wrap ((BitVec.ofInt 64 k &&& BitVec.ofInt 64 7).toNat : Int) = _ from IntWalk.i64_in _ (by omega))⟩
theorem spL8 (n : Nat) (h : n ≤ 7) : (⟨#[32, 32, 32, 32, 32, 32, 32, 32]⟩ : ByteArray).extract 0 n = bs (List.replicate n 32) := by
  have : n = 0 ∨ n = 1 ∨ n = 2 ∨ n = 3 ∨ n = 4 ∨ n = 5 ∨ n = 6 ∨ n = 7 := by omega
  rcases this with rfl | rfl | rfl | rfl | rfl | rfl | rfl | rfl <;> decide +kernel
theorem writeY_len2 (t : VT) : (writeY t).1.length ≤ 700 * t.bulk + 172 := by
  have h1 := compact_len t
  have h2 := safeL_len (compactL t)
  have h3 := quotedY_len2 t.text
  have hbt : t.text.length < t.bulk := by cases t; rw [VT.bulk]; simp only [VT.text]; omega
  unfold writeY
  split
  · split
    · split
      · simp only []; omega
      · omega
    · simp only []; omega
  · simp
theorem str_sameL (x : Stp) : ((bs x).toList == (bs x).toList) = true := by simp
theorem cut_bs (a b c : Stp) (i j : Nat) (hi : i = a.length) (hj : j = a.length + b.length) : (bs (a ++ (b ++ c))).extract i j = bs b := by
  subst hi hj
  refine ByteArray.ext ?_
  rw [ByteArray.data_extract]
  refine Array.toList_inj.1 ?_
  rw [Array.toList_extract]
  show ((a ++ (b ++ c)).drop a.length).take (a.length + b.length - a.length) = b
  rw [List.drop_left, show a.length + b.length - a.length = b.length by omega, List.take_left]
set_option maxRecDepth 100000 in
set_option maxHeartbeats 4000000 in
theorem yscalarLines_any (t : VT) (kv iv : Value) (s : ByteArray) (k : Int) (w : World) (h : VD w t.depth t kv iv) (hbk : t.bulk ≤ 1048576) (hs : s.size ≤ 1048576) (hk : -9223372036854775808 ≤ k ∧ k ≤ 9223372036854775807) (hV : AVar w) :
    Calls Tryz.prog 11 #[vv t kv iv, .string s, .int .i64 k] w fun e w' => e = .returned (.bool true) ∧ Below w.heap.size w w' := by
  obtain ⟨key, rfl⟩ : ∃ l, s = bs l := ⟨s.data.toList, (bs_of s).symm⟩
  have sl := bs_size key
  rw [sl] at hs
  obtain ⟨pk, ck, p, c, rfl, rfl⟩ := h.form
  obtain ⟨X, hX⟩ : ∃ X, w.heap.size = X := ⟨_, rfl⟩
  obtain ⟨W1, hW1⟩ : ∃ W, w.alloc (.cells #[.int .i64 t.kind, .string (bs t.text), .slice pk t.keys.length ck, .slice p t.items.length c] 25) = W := ⟨_, rfl⟩
  have HB1 : Hid (Below w.heap.size w W1) := Lib.hid (by rw [← hW1]; exact below_alloc1 _ _)
  have HXB : Hid (VBox W1 X t (.slice pk t.keys.length ck) (.slice p t.items.length c)) := Lib.hid (by rw [← hW1, ← hX]; exact VBox.new w t _ _)
  have HVD := Lib.hid (h.keep HB1.out)
  have HV := Lib.hid (hV.keep HB1.out)
  have C0 := Lib.hid (small11_any W1 HV.out)
  have CF : Hid (∀ w', Below W1.heap.size W1 w' → Calls Tryz.prog 14 #[vv t (.slice pk t.keys.length ck) (.slice p t.items.length c), .int .i64 200] w' fun e w2 => e = .returned (.bool (FewB t 200)) ∧ Below w'.heap.size w' w2) := Lib.hid (fun w' hb => vFew_any t.depth t _ _ w' 200 (HVD.out.keep hb) (by omega) (by omega) (by omega))
  have CW : Hid (∀ w', Below W1.heap.size W1 w' → Calls Tryz.prog 31 #[vv t (.slice pk t.keys.length ck) (.slice p t.items.length c)] w' fun e w2 => e = QuotedE (writeY t) ∧ Below w'.heap.size w' w2) := Lib.hid (fun w' hb => ywrite_any t.depth t _ _ w' (HVD.out.keep hb) (by omega) (HV.out.keep hb).1)
  have CK : Hid (∀ w', Below W1.heap.size W1 w' → Calls Tryz.prog 33 #[.string (bs key)] w' fun e w2 => e = QuotedE (keyY key) ∧ Below w'.heap.size w' w2) := Lib.hid (fun w' hb => ywritekey_any key w' (by omega) (HV.out.keep hb).1)
  clear h hV
  obtain ⟨y1, hy1⟩ : ∃ y, FewB t 200 = y := ⟨_, rfl⟩
  rw [hy1] at CF
  clear hy1
  obtain ⟨n, hn, hj⟩ := andL7 k
  have hwl := writeY_len2 t
  have hkl := keyY_len2 key
  have hE1 : (writeY t).2 = 0 → RightB t = true := fun h => by
    by_cases hr : RightB t = true
    · exact hr
    · rw [write_no hr] at h; cases h
  have hE2 : (keyY key).2 = 0 → Lib.validD key = true := fun h => by
    by_cases hr : Lib.validD key = true
    · exact hr
    · rw [key_no hr] at h; cases h
  obtain ⟨L1, hL1⟩ : ∃ L, List.replicate n (32 : UInt8) ++ ((keyY key).1 ++ 58 :: 32 :: (writeY t).1) = L := ⟨_, rfl⟩
  obtain ⟨L2, hL2⟩ : ∃ L, List.replicate n (32 : UInt8) ++ (45 :: 32 :: (writeY t).1) = L := ⟨_, rfl⟩
  obtain ⟨n1, hn1⟩ : ∃ m, n + ((keyY key).1.length + 2 + (writeY t).1.length) = m := ⟨_, rfl⟩
  obtain ⟨n2, hn2⟩ : ∃ m, n + (2 + (writeY t).1.length) = m := ⟨_, rfl⟩
  obtain ⟨kt, hkt⟩ : ∃ m, n + (keyY key).1.length = m := ⟨_, rfl⟩
  obtain ⟨rf, hrf⟩ : ∃ m, n + (keyY key).1.length + 2 = m := ⟨_, rfl⟩
  obtain ⟨ri, hri⟩ : ∃ m, n + 2 = m := ⟨_, rfl⟩
  have l1 : L1.length = n1 := by rw [← hL1, ← hn1]; simp; omega
  have l2 : L2.length = n2 := by rw [← hL2, ← hn2]; simp; omega
  have P1 : Hid ((writeY t).2 = 0 → (keyY key).2 = 0 → ¬ 1024 < key.length → ∀ w', Below W1.heap.size W1 w' → Calls Tryz.prog 48 #[.string (bs L1), .agg #[.int .i64 0, .int .i64 n1]] w' fun e w2 => e = LineE (⟨4, 0, n1, n, n, kt, rf, n1, 0, 0⟩, (n1 : Int), 0) ∧ Below w'.heap.size w' w2) := Lib.hid (fun e1 e2 hk w' hb => by
    have hl := written_entry n t key (hE1 e1) (hE2 e2)
    rw [hL1, hn1, hrf, hkt] at hl
    have := line_any L1 0 n1 w' (by rw [l1]; omega) (HV.out.keep hb).2 (HV.out.keep hb).tabs (HV.out.keep hb).1.2.2
    rw [hl] at this
    exact this)
  have P2 : Hid ((writeY t).2 = 0 → ∀ w', Below W1.heap.size W1 w' → Calls Tryz.prog 48 #[.string (bs L2), .agg #[.int .i64 0, .int .i64 n2]] w' fun e w2 => e = LineE (⟨3, 0, n2, n, 0, 0, ri, n2, 0, 0⟩, (n2 : Int), 0) ∧ Below w'.heap.size w' w2) := Lib.hid (fun e1 w' hb => by
    have hl := written_item n t (hE1 e1)
    rw [hL2, hn2, hri] at hl
    have := line_any L2 0 n2 w' (by rw [l2]; omega) (HV.out.keep hb).2 (HV.out.keep hb).tabs (HV.out.keep hb).1.2.2
    rw [hl] at this
    exact this)
  clear hE1 hE2
  obtain ⟨⟨A1, E1⟩, hA1⟩ : ∃ Q, writeY t = Q := ⟨_, rfl⟩
  obtain ⟨⟨A2, E2⟩, hA2⟩ : ∃ Q, keyY key = Q := ⟨_, rfl⟩
  rw [hA1] at CW P1 P2 hL1 hL2 hn1 hn2 hwl
  rw [hA2] at CK P1 hL1 hn1 hkl hkt hrf
  unfold QuotedE at CW CK
  simp only [] at CW CK P1 P2 hL1 hL2 hn1 hn2 hwl hkl hkt hrf
  have g0 := spL8 n hn
  have sB : (bs (List.replicate n (32 : UInt8))).size = n := by rw [bs_size, List.length_replicate]
  have g1 : bs (List.replicate n (32 : UInt8)) ++ bs A2 = bs (List.replicate n 32 ++ A2) := by rw [bs_append]
  have g2 : bs (List.replicate n (32 : UInt8) ++ A2) ++ ⟨#[58, 32]⟩ = bs (List.replicate n 32 ++ A2 ++ [58, 32]) := bs_append _ [58, 32]
  have g3 : bs (List.replicate n (32 : UInt8) ++ A2 ++ [58, 32]) ++ bs A1 = bs L1 := by rw [bs_append, ← hL1]; simp
  have g4 : bs (List.replicate n (32 : UInt8)) ++ ⟨#[45, 32]⟩ = bs (List.replicate n 32 ++ [45, 32]) := bs_append _ [45, 32]
  have g5 : bs (List.replicate n (32 : UInt8) ++ [45, 32]) ++ bs A1 = bs L2 := by rw [bs_append, ← hL2]; simp
  have c1 : (bs L1).extract n kt = bs A2 := by
    rw [← hL1]
    exact cut_bs _ _ _ _ _ (by simp) (by simp; omega)
  have c2 : (bs L1).extract rf n1 = bs A1 := by
    have := cut_bs (List.replicate n (32 : UInt8) ++ A2 ++ [58, 32]) A1 [] rf n1 (by simp; omega) (by simp; omega)
    rw [List.append_nil] at this
    rw [← this, ← hL1]; simp
  have c3 : (bs L2).extract ri n2 = bs A1 := by
    have := cut_bs (List.replicate n (32 : UInt8) ++ [45, 32]) A1 [] ri n2 (by simp; omega) (by simp; omega)
    rw [List.append_nil] at this
    rw [← this, ← hL2]; simp
  have z1 := bs_size L1
  have z2 := bs_size L2
  rw [l1] at z1
  rw [l2] at z2
  have s1 := str_sameL A1
  have s2 := str_sameL A2
  have zA1 := bs_size A1
  have zA2 := bs_size A2
  obtain ⟨B1, hB1⟩ : ∃ B, List.replicate n (32 : UInt8) = B := ⟨_, rfl⟩
  obtain ⟨B2, hB2⟩ : ∃ B, List.replicate n (32 : UInt8) ++ A2 = B := ⟨_, rfl⟩
  obtain ⟨B3, hB3⟩ : ∃ B, List.replicate n (32 : UInt8) ++ A2 ++ [58, 32] = B := ⟨_, rfl⟩
  obtain ⟨B4, hB4⟩ : ∃ B, List.replicate n (32 : UInt8) ++ [45, 32] = B := ⟨_, rfl⟩
  have zB2 : (bs B2).size = n + A2.length := by rw [bs_size, ← hB2]; simp
  have zB3 : (bs B3).size = n + A2.length + 2 := by rw [bs_size, ← hB3]; simp; omega
  have zB4 : (bs B4).size = n + 2 := by rw [bs_size, ← hB4]; simp
  rw [hB3] at g2 g3
  rw [hB2] at g1 g2
  rw [hB4] at g4 g5
  rw [hB1] at g0 g1 g4 sB
  have q1 : n ≤ kt := by omega
  have q2 : kt ≤ n1 := by omega
  have q3 : rf ≤ n1 := by omega
  have q4 : ri ≤ n2 := by omega
  have q5 : n1 ≤ 1073741824 ∨ 1024 < key.length := by omega
  have q6 : n2 ≤ 1073741824 := by omega
  clear hA1 hA2 hL1 hL2 hn1 hn2 hkt hrf hri hB1 hB2 hB3 hB4 l1 l2
  unfold vv at CF CW ⊢
  go_enter Tryz.func11, Tryz.ntmps11
  go_upto_region 1 with fail
  clear hW1
  go_wp2_with fail
  refine C0.out.mono ?_
  rintro e w2 ⟨rfl, hb2⟩
  have HB2 := Lib.hid hb2
  clear hb2
  obtain ⟨b0, b1, b2, b3⟩ := (HXB.out.keep HB2.out).cells
  go_wp2_with fail
  refine (CF.out _ HB2.out).mono ?_
  rintro e w3 ⟨rfl, hb3⟩
  have HB3 := Lib.hid (below_of_new HB2.out hb3)
  clear hb3 b0 b1 b2 b3
  obtain ⟨b0, b1, b2, b3⟩ := (HXB.out.keep HB3.out).cells
  go_wp2_with fail
  refine (CW.out _ HB3.out).mono ?_
  rintro e w4 ⟨rfl, hb4⟩
  have HB4 := Lib.hid (below_of_new HB3.out hb4)
  clear hb4 b0 b1 b2 b3
  go_wp2_with fail
  refine (CK.out _ HB4.out).mono ?_
  rintro e w5 ⟨rfl, hb5⟩
  have HB5 := Lib.hid (below_of_new HB4.out hb5)
  clear hb5
  by_cases hg : y1 = true ∧ ¬ 1024 < key.length ∧ E1 = 0 ∧ E2 = 0
  rotate_left
  · have HR := Lib.hid (below_of_new HB1.out HB5.out)
    cases y1 with
    | false =>
      go_wp2_with fail
      go_ret
      exact ⟨rfl, by first | exact HR.out | (rw [← hX]; exact HR.out)⟩
    | true =>
      by_cases hk : 1024 < key.length
      · have dk : decide ((1024 : Int) < (key.length : Int)) = true := decide_eq_true (by omega)
        go_wp2_with fail
        go_ret
        exact ⟨rfl, by first | exact HR.out | (rw [← hX]; exact HR.out)⟩
      have dk : decide ((1024 : Int) < (key.length : Int)) = false := decide_eq_false (by omega)
      by_cases e1 : E1 = 0
      · have e2 : E2 ≠ 0 := fun h => hg ⟨rfl, hk, e1, h⟩
        subst e1
        have d2 : (E2 == 0) = false := beq_eq_false_iff_ne.2 e2
        go_wp2_with fail
        go_ret
        exact ⟨rfl, by first | exact HR.out | (rw [← hX]; exact HR.out)⟩
      · have d1 : (E1 == 0) = false := beq_eq_false_iff_ne.2 e1
        go_wp2_with fail
        go_ret
        exact ⟨rfl, by first | exact HR.out | (rw [← hX]; exact HR.out)⟩
  obtain ⟨rfl, hk2, rfl, rfl⟩ := hg
  have dk : decide ((1024 : Int) < (key.length : Int)) = false := decide_eq_false (by omega)
  have q5 : n1 ≤ 1073741824 := by omega
  have PL1 := Lib.hid (P1.out rfl rfl hk2)
  have PL2 := Lib.hid (P2.out rfl)
  clear P1 P2
  go_wp2_with fail
  refine (PL1.out _ HB5.out).mono ?_
  rintro e w6 ⟨rfl, hb6⟩
  have HB6 := Lib.hid (below_of_new HB5.out hb6)
  clear hb6
  unfold LineE
  dsimp only [lineV]
  go_wp2_with fail
  have hXb : LineBox (w6.alloc (.cells #[.int .i64 4, .int .i64 0, .int .i64 n1, .int .i64 n, .int .i64 n, .int .i64 kt, .int .i64 rf, .int .i64 n1, .int .i64 0, .int .i64 0] 53)) w6.heap.size ⟨4, 0, n1, n, n, kt, rf, n1, 0, 0⟩ := heap_alloc_new w6 _
  have hA := below_alloc1 w6 (.cells #[.int .i64 4, .int .i64 0, .int .i64 n1, .int .i64 n, .int .i64 n, .int .i64 kt, .int .i64 rf, .int .i64 n1, .int .i64 0, .int .i64 0] 53)
  obtain ⟨W6, hW⟩ : ∃ W, w6.alloc (.cells #[.int .i64 4, .int .i64 0, .int .i64 n1, .int .i64 n, .int .i64 n, .int .i64 kt, .int .i64 rf, .int .i64 n1, .int .i64 0, .int .i64 0] 53) = W := ⟨_, rfl⟩
  rw [hW] at hXb hA ⊢
  clear hW
  obtain ⟨X1, hXe⟩ : ∃ X, w6.heap.size = X := ⟨_, rfl⟩
  rw [hXe] at hXb ⊢
  have HC6 := Lib.hid (below_of_new HB6.out hA)
  have HX1 := Lib.hid hXb
  clear hXb hA hXe HB6 HB5
  refine (PL2.out _ HC6.out).mono ?_
  rintro e w7 ⟨rfl, hb⟩
  have HB7 := Lib.hid (below_of_new HC6.out hb)
  have HX2 := Lib.hid (HX1.out.keep hb)
  clear hb HC6 HX1
  unfold LineE
  dsimp only [lineV]
  go_upto_region 13 with fail
  have hXb : LineBox (w7.alloc (.cells #[.int .i64 3, .int .i64 0, .int .i64 n2, .int .i64 n, .int .i64 0, .int .i64 0, .int .i64 ri, .int .i64 n2, .int .i64 0, .int .i64 0] 53)) w7.heap.size ⟨3, 0, n2, n, 0, 0, ri, n2, 0, 0⟩ := heap_alloc_new w7 _
  have hA := below_alloc1 w7 (.cells #[.int .i64 3, .int .i64 0, .int .i64 n2, .int .i64 n, .int .i64 0, .int .i64 0, .int .i64 ri, .int .i64 n2, .int .i64 0, .int .i64 0] 53)
  have hne : X1 ≠ w7.heap.size := Nat.ne_of_lt HX2.out.lt
  obtain ⟨W7, hW⟩ : ∃ W, w7.alloc (.cells #[.int .i64 3, .int .i64 0, .int .i64 n2, .int .i64 n, .int .i64 0, .int .i64 0, .int .i64 ri, .int .i64 n2, .int .i64 0, .int .i64 0] 53) = W := ⟨_, rfl⟩
  rw [hW] at hXb hA ⊢
  clear hW
  obtain ⟨X2, hXe⟩ : ∃ X, w7.heap.size = X := ⟨_, rfl⟩
  rw [hXe] at hXb hne ⊢
  have HC7 := Lib.hid (below_of_new HB7.out hA)
  have HX1 := Lib.hid (HX2.out.keep hA)
  have HX2' := Lib.hid hXb
  clear hXb hA hXe HB7 HX2
  obtain ⟨a0, a1, a2, a3, a4, a5, a6, a7, a8, a9, _⟩ := HX1.out.cells
  obtain ⟨b0, b1, b2, b3, b4, b5, b6, b7, b8, b9, _⟩ := HX2'.out.cells
  simp only [] at a0 a1 a2 a3 a4 a5 a6 a7 a8 a9 b0 b1 b2 b3 b4 b5 b6 b7 b8 b9
  have hne2 : ¬ X2 = X1 := fun e => hne e.symm
  go_upto_region 15 with fail
  go_cut [23] (fun s23 wx => ∃ Z, s23 = .pointer (some ⟨Z, 0, none⟩) ∧ Hid (LineBox wx X1 ⟨4, 0, n1, n, n, kt, rf, n1, 0, 0⟩ ∧ LineBox wx X2 ⟨3, 0, n2, n, 0, 0, ri, n2, 0, 0⟩ ∧ SpanBox wx Z 0 0 ∧ Below W1.heap.size W1 wx))
  case first =>
    go_wp2_with fail
    go_meet
    have hA := below_alloc1 W7 (.cells #[.int .i64 0, .int .i64 0] 51)
    exact ⟨W7.heap.size, rfl, Lib.hid ⟨HX1.out.keep hA, HX2'.out.keep hA, heap_alloc_new W7 _, below_of_new HC7.out hA⟩⟩
  obtain ⟨Z, rfl, HS⟩ := hcut
  clear a0 a1 a2 a3 a4 a5 a6 a7 a8 a9 b0 b1 b2 b3 b4 b5 b6 b7 b8 b9
  clear HX1 HX2' HC7
  obtain ⟨a0, a1, a2, a3, a4, a5, a6, a7, a8, a9, _⟩ := HS.out.1.cells
  obtain ⟨b0, b1, b2, b3, b4, b5, b6, b7, b8, b9, _⟩ := HS.out.2.1.cells
  obtain ⟨d0, d1⟩ := HS.out.2.2.1.cells
  simp only [] at a0 a1 a2 a3 a4 a5 a6 a7 a8 a9 b0 b1 b2 b3 b4 b5 b6 b7 b8 b9
  have HR := Lib.hid (below_of_new HB1.out HS.out.2.2.2)
  go_wp2_with fail
  go_ret
  exact ⟨by first | rfl | simp, by first | exact HR.out | (rw [← hX]; exact HR.out)⟩
end Go.Proofs.YtnnlpkbopeiefaaGreatDoor
