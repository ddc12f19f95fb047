import Derived.Test.YtbbjgdnbekoaeaaGreatDoorLexW2
/-! The walk of the law LexWalks. -/
namespace Go.Proofs.YtbbjgdnbekoaeaaGreatDoor
set_option linter.unusedSimpArgs false
set_option linter.unusedVariables false
open Go.RowKit Go.Shelf
open Go.Lib hiding intOf

theorem evL_evE (l : List UInt8) (hl : l.length ≤ 65536) : evL l = evE (toksGo l.length l 0).1 (toksL l).2.1 (toksL l).2.2 := by
  unfold evL evFrom evE
  rw [if_neg (by omega), toksL_short l hl]
  cases ho : (toksGo l.length l 0).2 with
  | none => simp [errE]
  | some x =>
    obtain ⟨q, e⟩ := x
    have := (toks_err l.length l 0 q e (Nat.le_refl _) ho).2.2
    simp [errE, this]
/-- What the law holds while it goes round. -/
def WH (w : World) (bw be ba bt : Nat) (v : Value) (ts : List Tok) (p er stop : Int) (W : World) : Prop :=
  Below w.heap.size w W ∧ Boxed W bw 23 v ∧ ToksV W v ts ∧ Boxed W be 25 (.int .i64 er) ∧ Boxed W ba 3 (.int .i64 p) ∧ Boxed W bt 3 (.int .i64 stop)
theorem WH.keep {w A B : World} {bw be ba bt : Nat} {v : Value} {ts : List Tok} {p er stop : Int} (h : WH w bw be ba bt v ts p er stop A) (hb : Below A.heap.size A B) : WH w bw be ba bt v ts p er stop B :=
  ⟨below_of_new h.1 hb, boxed_below h.2.1 hb, h.2.2.1.keep hb, boxed_below h.2.2.2.1 hb, boxed_below h.2.2.2.2.1 hb, boxed_below h.2.2.2.2.2 hb⟩
set_option maxRecDepth 100000 in
set_option maxHeartbeats 8000000 in
theorem lexWalks_any (s : ByteArray) (stop : Int) (w : World) (hs : s.size ≤ 140737488351232) (hV : SVar w) (hT : Tabs w) :
    Calls Tryz.prog 3 #[.string s, .int .i64 stop] w fun e w' => e = .returned (.bool true) ∧ Below w.heap.size w w' := by
  have C0 := Lib.hid (fun w hV hT => lsmall_any w hV hT)
  have HV := Lib.hid hV; have HT := Lib.hid hT; clear hV hT
  obtain ⟨l, rfl⟩ : ∃ l, s = bs l := ⟨s.data.toList, (bs_of s).symm⟩
  have sl := bs_size l
  have hB0 : Below w.heap.size w (w.alloc (.cells #[.int .i64 stop] 3)) := below_alloc1 w _
  have it0 : Boxed (w.alloc (.cells #[.int .i64 stop] 3)) w.heap.size 3 (.int .i64 stop) := Boxed.new w _ _
  by_cases hlong : 2048 < l.length
  · have d1 : decide (2048 < l.length) = true := decide_eq_true hlong
    have d3 : decide (2048 < (l.length : Int)) = true := decide_eq_true (by omega)
    clear hlong
    go_enter Tryz.func3, Tryz.ntmps3
    go_wp2_with fail
    with_reducible refine (C0.out _ (HV.out.keep hB0) (HT.out.keep hB0)).mono ?_
    rintro e w1 ⟨rfl, hb⟩
    have HB1 := Lib.hid (below_of_new hB0 hb); clear hb hB0
    go_wp2_with fail
    go_ret
    exact ⟨rfl, HB1.out⟩
  have d1 : decide (2048 < l.length) = false := decide_eq_false hlong
  have d3 : decide (2048 < (l.length : Int)) = false := decide_eq_false (by omega)
  have hE := evL_evE l (by omega)
  have CF := Lib.hid (fun w => refFront_any l w (by omega))
  have CR := Lib.hid (fun w => refTokens_any l w (by omega))
  obtain ⟨R, hR⟩ : ∃ R, toksL l = R := ⟨_, rfl⟩
  obtain ⟨ts, hts⟩ : ∃ ts, (toksGo l.length l 0).1 = ts := ⟨_, rfl⟩
  have hElen := evL_len l
  rw [hR] at CR hE
  rw [hts] at CF hE
  rw [hE] at hElen
  obtain ⟨ts0, p, er⟩ := R
  simp only [] at hE hElen
  have htl : ts.length ≤ 65537 := by unfold evE at hElen; rw [List.length_append, List.length_map] at hElen; omega
  have hEl : (evE ts p er).length = ts.length + (if er = 0 then 0 else 1) := by unfold evE; rw [List.length_append, List.length_map]; split <;> rfl
  obtain ⟨st, hst2, hst⟩ := and63 stop
  have CA : Hid (∀ (c0 c1 c2 c3 c4 c5 c6 m X : Nat) (hm : w.heap.size ≤ m) (hmX : m ≤ X) (J Jx : List Ev → World → Prop) (hJ : ∀ pre A B, J pre A → Below A.heap.size A B → J pre B)
    (hY : ∀ pre x W, J pre W → pre ++ [x] <+: evE ts p er → Calls Tryz.prog 11 (bodyA x c0 c1 c2 c3 c4 c5 c6) W fun e W' =>
      ((e = .returned (.bool true) ∧ J (pre ++ [x]) W') ∨ (e = .returned (.bool false) ∧ Jx (pre ++ [x]) W')) ∧ KpX m X W W')
    (W : World) (hX : W.heap[X]? = some (.cells #[.string (bs l)] 9 (0, 0))) (hB : Below w.heap.size w W) (h0 : J [] W),
    Calls Tryz.prog 25 #[bodyV c0 c1 c2 c3 c4 c5 c6, .pointer (some ⟨X, 0, none⟩)] W fun e W' => (∃ v, e = .returned v) ∧
      ((∃ ys, ys = evE ts p er ∧ J ys W') ∨ (∃ pre, pre <+: evE ts p er ∧ Jx pre W')) ∧ Below m W W') := Lib.hid (fun c0 c1 c2 c3 c4 c5 c6 m X hm hmX J Jx hJ hY W hX hB h0 => by
      have := all1_plain c0 c1 c2 c3 c4 c5 c6 m X w l (by omega) HV.out HT.out hm hmX J Jx hJ (by rw [hE]; exact hY) W hX hB h0
      rw [hE] at this
      exact this)
  have hmf : ∀ (fn : Fn) (first cap : Array Value) (w : World), (Instr.makeFunc fn first cap).run Tryz.prog w = .ok (.func fn first cap) w := fun _ _ _ _ => rfl
  have hnf : ∀ (X : Nat) (w : World), (binOp BinOp.eql 29 (Value.func (Fn.func 25) #[] #[Value.pointer (some { block := X, off := 0 })]) Value.nilFunc).run Tryz.prog w = .ok (.bool false) w := fun _ _ => rfl
  clear hR hts hE hElen hlong
  have HEl := Lib.hid hEl
  have HST := Lib.hid hst
  clear hEl
  go_enter Tryz.func3, Tryz.ntmps3
  go_wp2_with fail
  with_reducible refine (C0.out _ (HV.out.keep hB0) (HT.out.keep hB0)).mono ?_
  rintro e w1 ⟨rfl, hb⟩
  have HB := Lib.hid (And.intro (below_of_new hB0 hb) (boxed_below it0 hb)); clear hb hB0 it0 C0
  go_wp2_with fail
  with_reducible refine (CF.out _).mono ?_
  rintro e w2 ⟨v, rfl, ho, hn, hb⟩
  have HB2 := Lib.hid (And.intro (below_of_new HB.out.1 hb) (And.intro (boxed_below HB.out.2 hb) (ho.toV0 hn)))
  obtain ⟨pp, c, rfl⟩ : ∃ pp c, v = .slice pp ts.length c := by
    rcases HB2.out.2.2 with ⟨e1, e2⟩ | ⟨g, c, e1, _⟩
    · exact ⟨none, 0, by rw [e2, e1]; rfl⟩
    · exact ⟨_, c, e1⟩
  clear hb ho hn HB CF
  go_upto_region 5 with fail
  have HB3 := Lib.hid (And.intro (HB2.out.1.trans ((below_alloc1 w2 (.cells #[.slice pp ts.length c] 23)).mono HB2.out.1.size)) (And.intro (boxed_below HB2.out.2.1 (below_alloc1 w2 (.cells #[.slice pp ts.length c] 23))) (And.intro (HB2.out.2.2.keep (below_alloc1 w2 (.cells #[.slice pp ts.length c] 23))) (Boxed.new w2 23 (.slice pp ts.length c)))))
  obtain ⟨W3, hW3⟩ : ∃ W, w2.alloc (.cells #[.slice pp ts.length c] 23) = W := ⟨_, rfl⟩
  obtain ⟨bw, hbw⟩ : ∃ b, w2.heap.size = b := ⟨_, rfl⟩
  rw [hW3] at HB3 ⊢
  rw [hbw] at HB3 ⊢
  clear hW3 hbw HB2
  go_wp2_with fail
  with_reducible refine (CR.out _).mono ?_
  rintro e w4 ⟨v0, rfl, _, _, hb⟩
  simp only []
  have hH : WH w bw (w4.heap.size + 1) w4.heap.size w.heap.size (.slice pp ts.length c) ts p er stop ((w4.alloc (.cells #[.int .i64 p] 3)).alloc (.cells #[.int .i64 er] 25)) := by
    have b1 := below_of_new hb (below_alloc1 w4 (.cells #[.int .i64 p] 3))
    have b2 := below_of_new b1 (below_alloc1 (w4.alloc (.cells #[.int .i64 p] 3)) (.cells #[.int .i64 er] 25))
    have b3 := Boxed.new (w4.alloc (.cells #[.int .i64 p] 3)) 25 (.int .i64 er)
    rw [World.size_alloc] at b3
    exact ⟨HB3.out.1.trans (b2.mono HB3.out.1.size), boxed_below HB3.out.2.2.2 b2, HB3.out.2.2.1.keep b2, b3, (Boxed.new w4 3 (.int .i64 p)).alloc _, boxed_below HB3.out.2.1 b2⟩
  clear CR HB3
  go_upto_region 6 with fail
  obtain ⟨W5, hW5⟩ : ∃ W, ((w4.alloc (.cells #[.int .i64 p] 3)).alloc (.cells #[.int .i64 er] 25)) = W := ⟨_, rfl⟩
  rw [hW5] at hH ⊢
  obtain ⟨be, hbe⟩ : ∃ b, w4.heap.size + 1 = b := ⟨_, rfl⟩
  obtain ⟨ba, hba⟩ : ∃ b, w4.heap.size = b := ⟨_, rfl⟩
  rw [hbe] at hH ⊢
  rw [hba] at hH ⊢
  have HH := Lib.hid hH
  clear hW5 hbe hba hH hb
  go_wp2_with fail
  go_loopw [10] (fun s10 wr => ∃ i : Nat, s10 = .int .i64 i ∧ i ≤ 2 ∧ Hid (WH w bw be ba w.heap.size (.slice pp ts.length c) ts p er stop wr)) (fun s10 _ => 2 - (RowKit.intOf s10).toNat)
  case atStart => exact ⟨0, rfl, by omega, HH.out⟩
  case round =>
    obtain ⟨i, rfl, hi, HJ⟩ := hrel
    obtain ⟨j1, j2, j3, j4, j5, j6⟩ := HJ.out
    have HJJ := Lib.hid (And.intro j1 (And.intro j2 (And.intro j3 (And.intro j4 (And.intro j5 j6)))))
    clear j1 j2 j3 j4 j5 j6
    by_cases hlt : i < 2
    · have hlz : (i : Int) < 2 := by omega
      go_upto_region 12 with fail
      obtain ⟨m, hm⟩ : ∃ m, wr.heap.size = m := ⟨_, rfl⟩
      have hW6 : ∃ W, ((wr.alloc (.cells #[.int .i64 0] 3)).alloc (.cells #[.bool true] 4)).alloc (.cells #[.bool false] 4) = W ∧ W.heap.size = m + 3 ∧ WJ m st wr [] W := by
        refine ⟨_, rfl, by simp [hm], ?_⟩
        have q0 := Boxed.new wr 3 (.int .i64 0)
        have q1 := Boxed.new (wr.alloc (.cells #[.int .i64 0] 3)) 4 (.bool true)
        have q2 := Boxed.new ((wr.alloc (.cells #[.int .i64 0] 3)).alloc (.cells #[.bool true] 4)) 4 (.bool false)
        simp only [World.size_alloc, Nat.add_assoc, Nat.reduceAdd, hm] at q0 q1 q2
        refine ⟨Nat.zero_le _, (q0.alloc _).alloc _, q1.alloc _, q2, ?_⟩
        rw [← hm]
        exact (((Below.refl _ wr).alloc (Nat.le_refl _) _).alloc (by simp) _).alloc (by simp; omega) _
      obtain ⟨W6, hW6, hs6, hJ6⟩ := hW6
      simp only [World.size_alloc, Nat.add_assoc, Nat.reduceAdd, hm]
      rw [hW6]
      clear hW6
      go_wp2_with (go_at_call 10; (with_reducible refine (lexAll_any _ _).mono ?_); rintro e w' ⟨rfl, rfl⟩; rw [hs6])
      have hX7 : (W6.alloc (.cells #[.string (bs l)] 9)).heap[m + 3]? = some (.cells #[.string (bs l)] 9 (0, 0)) := by rw [← hs6]; exact heap_alloc_new W6 _
      have hb67 := below_alloc1 W6 (.cells #[.string (bs l)] 9)
      have hJ7 := hJ6.keep hb67
      have hB7 : Below w.heap.size w (W6.alloc (.cells #[.string (bs l)] 9)) := HJJ.out.1.trans (hJ7.2.2.2.2.mono (by rw [← hm]; exact HJJ.out.1.size))
      obtain ⟨W7, hW7⟩ : ∃ W, W6.alloc (.cells #[.string (bs l)] 9) = W := ⟨_, rfl⟩
      rw [hW7] at hX7 hJ7 hB7 ⊢
      with_reducible refine (CA.out (m + 1) (m + 2) m bw be ba w.heap.size m (m + 3) (by rw [← hm]; exact HJJ.out.1.size) (by omega) (WJ m st wr) (WX m st wr) (fun _ _ _ h hb => h.keep hb)
        (fun pre x W hJ hp => body_any m st bw be ba w.heap.size stop er p (.slice pp ts.length c) ts wr hst hst2 HJJ.out.2.1 HJJ.out.2.2.1 HJJ.out.2.2.2.1 HJJ.out.2.2.2.2.1 HJJ.out.2.2.2.2.2 hm pre x W hJ hp) W7 hX7 hB7 hJ7).mono ?_
      rintro e w8 ⟨⟨v8, rfl⟩, hc, hb8⟩
      have hHw : WH w bw be ba w.heap.size (.slice pp ts.length c) ts p er stop w8 := HJ.out.keep (by rw [hm]; exact hJ7.2.2.2.2.trans hb8)
      obtain ⟨N, k0, k1, hN⟩ : ∃ N : Nat, Boxed w8 m 3 (.int .i64 N) ∧ Boxed w8 (m + 1) 4 (.bool true) ∧ N = min (ts.length + if er = 0 then 0 else 1) (1 + st) := by
        have hEl := HEl.out
        rcases hc with ⟨ys, rfl, hj⟩ | ⟨pre, hp, hj⟩
        · have := hj.1
          exact ⟨_, hj.2.1, hj.2.2.1, by rw [← hEl]; omega⟩
        · have h1 := hj.1
          have h2 := hp.length_le
          exact ⟨_, hj.2.1, hj.2.2.1, by rw [← hEl]; omega⟩
      have HK := Lib.hid hHw
      have z0 := hHw.2.1.cell; have z1 := hHw.2.2.2.1.cell; have z2 := hHw.2.2.2.2.2.cell; have z3 := k0.cell; have z4 := k1.cell
      clear hc hb8 hJ7 hX7 hB7 hb67 hJ6 hs6 hW7 HJ HJJ hHw k0 k1
      by_cases he : er = 0
      · subst he
        rw [if_pos rfl, Nat.add_zero] at hN
        subst hN
        go_wp2_with fail
        go_roundw
        case rel => exact ⟨i + 1, by go_num, by omega, HK.out⟩
        case measure => simp [RowKit.intOf]; omega
      · rw [if_neg he] at hN
        have tne : (er != 0) = true := bne_iff_ne.2 he
        subst hN
        go_wp2_with fail
        go_roundw
        case rel => exact ⟨i + 1, by go_num, by omega, HK.out⟩
        case measure => simp [RowKit.intOf]; omega
    · go_wp2_with fail
      go_ret
      exact ⟨rfl, HJJ.out.1⟩
end Go.Proofs.YtbbjgdnbekoaeaaGreatDoor
