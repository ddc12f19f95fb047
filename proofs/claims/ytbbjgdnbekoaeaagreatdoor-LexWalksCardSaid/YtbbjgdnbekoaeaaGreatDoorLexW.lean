import Derived.Test.YtbbjgdnbekoaeaaGreatDoorLexT
/-! The walk of the law LexWalks: lex.All's own function with a plain function for its loop's body. -/
namespace Go.Proofs.YtbbjgdnbekoaeaaGreatDoor
set_option linter.unusedSimpArgs false
set_option linter.unusedVariables false
open Go.RowKit Go.Shelf
open Go.Lib hiding intOf

theorem and63 (k : Int) : ∃ j : Nat, j ≤ 63 ∧ bits .and .i64 k 63 = j := by
  have h : (BitVec.ofInt 64 k &&& BitVec.ofInt 64 63).toNat ≤ 63 := by
    rw [BitVec.toNat_and]
    exact Nat.and_le_right
  exact ⟨(BitVec.ofInt 64 k &&& BitVec.ofInt 64 63).toNat, h, (show IntKind.i64.wrap ((BitVec.ofInt 64 k &&& BitVec.ofInt 64 63).toNat : Int) = _ from IntWalk.i64_in _ (by omega))⟩
/-- What a call of the loop's body keeps: what lay below m, and from X on. -/
def KpX (m X : Nat) (A B : World) : Prop := Below m A B ∧ ∀ i, X ≤ i → i < A.heap.size → B.heap[i]? = A.heap[i]?
abbrev bodyV (c0 c1 c2 c3 c4 c5 c6 : Nat) : Value := .func (.func 11) #[] #[.pointer (some ⟨c0, 0, none⟩), .pointer (some ⟨c1, 0, none⟩), .pointer (some ⟨c2, 0, none⟩), .pointer (some ⟨c3, 0, none⟩), .pointer (some ⟨c4, 0, none⟩), .pointer (some ⟨c5, 0, none⟩), .pointer (some ⟨c6, 0, none⟩)]
abbrev bodyA (x : Ev) (c0 c1 c2 c3 c4 c5 c6 : Nat) : Array Value := #[.agg #[.int .i64 x.1, .int .i64 x.2.1, .int .i64 x.2.2.1], .int .i64 x.2.2.2, .pointer (some ⟨c0, 0, none⟩), .pointer (some ⟨c1, 0, none⟩), .pointer (some ⟨c2, 0, none⟩), .pointer (some ⟨c3, 0, none⟩), .pointer (some ⟨c4, 0, none⟩), .pointer (some ⟨c5, 0, none⟩), .pointer (some ⟨c6, 0, none⟩)]
set_option maxRecDepth 100000 in
set_option maxHeartbeats 4000000 in
theorem all1_plain (c0 c1 c2 c3 c4 c5 c6 m X : Nat) (w0 : World) (l : List UInt8) (hs : l.length ≤ 65536) (hV : SVar w0) (hT : Tabs w0) (hm : w0.heap.size ≤ m) (hmX : m ≤ X) (J Jx : List Ev → World → Prop) (hJ : ∀ pre A B, J pre A → Below A.heap.size A B → J pre B)
    (hY : ∀ pre x W, J pre W → pre ++ [x] <+: evL l → Calls Tryz.prog 11 (bodyA x c0 c1 c2 c3 c4 c5 c6) W fun e W' =>
      ((e = .returned (.bool true) ∧ J (pre ++ [x]) W') ∨ (e = .returned (.bool false) ∧ Jx (pre ++ [x]) W')) ∧ KpX m X W W')
    (W : World) (hX : W.heap[X]? = some (.cells #[.string (bs l)] 9 (0, 0))) (hB : Below w0.heap.size w0 W) (h0 : J [] W) :
    Calls Tryz.prog 25 #[bodyV c0 c1 c2 c3 c4 c5 c6, .pointer (some ⟨X, 0, none⟩)] W fun e W' => (∃ v, e = .returned v) ∧
      ((∃ ys, ys = evL l ∧ J ys W') ∨ (∃ pre, pre <+: evL l ∧ Jx pre W')) ∧ Below m W W' := by
  have sl := bs_size l
  have hcX := cell_of_one hX
  obtain ⟨E, hE⟩ : ∃ E, evL l = E := ⟨_, rfl⟩
  rw [hE] at hY ⊢
  unfold evL at hE
  rw [if_neg (by omega)] at hE
  have CN := Lib.hid (fun a w ha hV hT => next_any l a w (by omega) ha hV hT)
  have HV := Lib.hid hV; have HT := Lib.hid hT
  have HJ := Lib.hid hJ
  have HY := Lib.hid hY
  have HS : Hid (∃ f, E = [] ++ evFrom f (l.drop 0) 0 ∧ l.length ≤ 0 + f) := Lib.hid ⟨l.length, by rw [← hE, List.drop_zero, List.nil_append], by omega⟩
  have hXl : X < W.heap.size := cell_it hX
  have HI : Hid (J [] W ∧ Below w0.heap.size w0 W ∧ W.heap[X]? = some (.cells #[.string (bs l)] 9 (0, 0)) ∧ Below m W W) := Lib.hid ⟨h0, hB, hX, Below.refl _ _⟩
  have hlong2 : (l.length : Int) ≤ 65536 := by omega
  have dlong : decide (65536 < (l.length : Int)) = false := decide_eq_false (by omega)
  have dlong2 : decide (65536 < l.length) = false := decide_eq_false (by omega)
  clear hE hV hT hJ hY h0 hB hX
  unfold bodyV
  go_enter Tryz.func25, Tryz.ntmps25
  go_wp2_with fail
  go_loopw [3] (fun s3 wr => ∃ (pre : List Ev) (a : Nat), s3 = .int .i64 a ∧ a ≤ l.length ∧ Hid (∃ f, E = pre ++ evFrom f (l.drop a) a ∧ l.length ≤ a + f) ∧ Hid (J pre wr ∧ Below w0.heap.size w0 wr ∧ wr.heap[X]? = some (.cells #[.string (bs l)] 9 (0, 0)) ∧ Below m W wr)) (fun s3 wr => l.length - (RowKit.intOf s3).toNat)
  case atStart => exact ⟨[], 0, rfl, by omega, HS.out, HI.out⟩
  case round =>
    obtain ⟨pre, a, rfl, ha, HG, HI⟩ := hrel
    have hcX := cell_of_one HI.out.2.2.1
    by_cases hlt : a < l.length
    · obtain ⟨x, hx⟩ : ∃ x, nextR l a = x := ⟨_, rfl⟩
      have hst : ∃ k : Nat, x.2.2.1 = k ∧ k ≤ l.length ∧ (x.2.2.2 = 0 → a < k) ∧ Hid (∃ f, E = pre ++ (x :: (if x.2.2.2 = 0 then evFrom f (l.drop k) k else [])) ∧ l.length ≤ a + f + 1) := by
        obtain ⟨f, h1, h2⟩ := HG.out
        obtain ⟨g, rfl⟩ : ∃ g, f = g + 1 := ⟨f - 1, by omega⟩
        obtain ⟨k, k1, k2, k3, k4⟩ := evFrom_step g l a hlt
        rw [hx] at k1 k3 k4
        rw [k4] at h1
        exact ⟨k, k1, k2, k3, Lib.hid ⟨g, h1, by omega⟩⟩
      obtain ⟨k, hk1, hk2, hk3', HG2⟩ := hst
      have CN2 := Lib.hid (CN.out a wr hlt (HV.out.keep HI.out.2.1) (HT.out.keep HI.out.2.1))
      rw [hx] at CN2
      obtain ⟨xk, xf, xt, xe⟩ := x
      simp only [] at hk1 hk3' HG2
      subst hk1
      unfold NextE at CN2
      simp only [] at CN2
      clear HG hx
      go_wp2_with fail
      with_reducible refine CN2.out.mono ?_
      rintro e w1 ⟨rfl, hb1⟩
      have hb2 : Below wr.heap.size wr (w1.alloc (.cells #[.int .i64 xk, .int .i64 xf, .int .i64 k] 34)) := below_of_new hb1 (below_alloc1 w1 _)
      have hT2 : TokBox (w1.alloc (.cells #[.int .i64 xk, .int .i64 xf, .int .i64 k] 34)) w1.heap.size xk xf k := heap_alloc_new w1 _
      obtain ⟨W2, hW2⟩ : ∃ W2, w1.alloc (.cells #[.int .i64 xk, .int .i64 xf, .int .i64 k] 34) = W2 := ⟨_, rfl⟩
      have hXwr : X < wr.heap.size := cell_it HI.out.2.2.1
      have hX1 : X < w1.heap.size := Nat.lt_of_lt_of_le hXwr hb1.size
      rw [hW2] at hb2 hT2
      obtain ⟨Z, hZ⟩ : ∃ Z, w1.heap.size = Z := ⟨_, rfl⟩
      rw [hZ] at hX1
      have hX2 : W2.heap[X]? = some (.cells #[.string (bs l)] 9 (0, 0)) := (hb2.block X hXwr).trans HI.out.2.2.1
      rw [hZ] at hT2
      have hJ2 := HJ.out pre _ _ HI.out.1 hb2
      have hB2 : Below w0.heap.size w0 W2 := HI.out.2.1.trans (hb2.mono HI.out.2.1.size)
      have hM2 : Below m W W2 := HI.out.2.2.2.trans (hb2.mono (by omega))
      have hpx : pre ++ [(xk, xf, (k : Int), xe)] <+: E := by
        obtain ⟨f, h1, _⟩ := HG2.out
        exact ⟨_, by rw [h1, List.append_assoc, List.singleton_append]⟩
      have CY := Lib.hid (HY.out pre (xk, xf, (k : Int), xe) W2 hJ2 hpx)
      have HQ := Lib.hid (And.intro hX2 (And.intro hB2 (And.intro hM2 (And.intro hT2 hpx))))
      obtain ⟨t0, t1, t2, f0, f1, f2⟩ := hT2.cells
      unfold bodyA at CY
      simp only [] at CY
      clear hJ2 hb1 hb2 hX2 hB2 hM2 HI CN2 hcX hT2 hpx
      go_wp2_with fail
      with_reducible refine CY.out.mono ?_
      clear t0 t1 t2 f0 f1 f2
      rintro e W3 ⟨h3, hk3⟩
      have hT3 : TokBox W3 Z xk xf k := (hk3.2 Z (Nat.le_of_lt hX1) HQ.out.2.2.2.1.lt).trans HQ.out.2.2.2.1
      have hX3 : W3.heap[X]? = some (.cells #[.string (bs l)] 9 (0, 0)) := (hk3.2 X (Nat.le_refl _) (cell_it HQ.out.1)).trans HQ.out.1
      have hB3 : Below w0.heap.size w0 W3 := HQ.out.2.1.trans (hk3.1.mono hm)
      have hM3 : Below m W W3 := HQ.out.2.2.1.trans hk3.1
      have HP := Lib.hid HQ.out.2.2.2.2
      clear hk3 HQ CY
      rcases h3 with ⟨rfl, hJ3⟩ | ⟨rfl, hJx3⟩
      · have HI3 : Hid (J (pre ++ [(xk, xf, (k : Int), xe)]) W3 ∧ Below w0.heap.size w0 W3 ∧ W3.heap[X]? = some (.cells #[.string (bs l)] 9 (0, 0)) ∧ Below m W W3) := Lib.hid ⟨hJ3, hB3, hX3, hM3⟩
        clear hJ3 hX3 hB3 hM3
        by_cases hxe : xe = 0
        · have HS3 : Hid (∃ f, E = (pre ++ [(xk, xf, (k : Int), xe)]) ++ evFrom f (l.drop k) k ∧ l.length ≤ k + f) := Lib.hid (by
            obtain ⟨f, h1, h2⟩ := HG2.out
            rw [if_pos hxe] at h1
            have := hk3' hxe
            exact ⟨f, by rw [h1]; simp, by omega⟩)
          have hak := hk3' hxe
          subst hxe
          clear HG2 hk3' HP
          obtain ⟨t0, t1, t2, f0, f1, f2⟩ := hT3.cells
          go_wp2_with fail
          go_roundw
          case rel => exact ⟨_, k, rfl, hk2, HS3.out, HI3.out⟩
          case measure => simp [RowKit.intOf]; omega
        · have hE3 : E = pre ++ [(xk, xf, (k : Int), xe)] := by
            obtain ⟨f, h1, h2⟩ := HG2.out
            rw [if_neg hxe] at h1
            exact h1
          have HE3 := Lib.hid hE3
          have te : (xe != 0) = true := bne_iff_ne.2 hxe
          clear hE3 hxe HG2 hk3' hT3 HP
          go_wp2_with fail
          refine bodyPost_ret (results_none rfl _ _ _) rfl ?_
          exact ⟨⟨_, rfl⟩, .inl ⟨_, HE3.out.symm, HI3.out.1⟩, HI3.out.2.2.2⟩
      · have HE3 := Lib.hid (And.intro HP.out (And.intro hJx3 hM3))
        clear HG2 hk3' hJx3 hM3 hB3 hX3 HP
        go_wp2_with fail
        refine bodyPost_ret (results_none rfl _ _ _) rfl ?_
        exact ⟨⟨_, rfl⟩, .inr ⟨_, HE3.out.1, HE3.out.2.1⟩, HE3.out.2.2⟩
    · have hE3 : E = pre := by
        obtain ⟨f, h1, h2⟩ := HG.out
        rw [List.drop_of_length_le (by omega), evFrom_nil, List.append_nil] at h1
        exact h1
      have HE3 := Lib.hid hE3
      clear hE3
      go_wp2_with fail
      go_end0
      exact ⟨⟨_, rfl⟩, .inl ⟨_, HE3.out.symm, HI.out.1⟩, HI.out.2.2.2⟩
end Go.Proofs.YtbbjgdnbekoaeaaGreatDoor
