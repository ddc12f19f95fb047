import Derived.Test.YtdegjfmjjabnnaaDoorMkPc2
/-! The walk of MarkPicks. -/
namespace Go.Proofs.YtdegjfmjjabnnaaDoor
set_option linter.unusedSimpArgs false
set_option linter.unusedVariables false
open Go.RowKit
open Go.Lib hiding intOf

theorem and_1023 (k : Int) : ∃ m : Nat, bits BinOp.and IntKind.i64 k 1023 = (m : Int) ∧ m ≤ 1023 := by
  refine ⟨(BitVec.ofInt 64 k &&& BitVec.ofInt 64 1023).toNat, ?_, ?_⟩
  · have hle : (BitVec.ofInt 64 k &&& BitVec.ofInt 64 1023).toNat ≤ 1023 := by
      rw [BitVec.toNat_and]
      exact Nat.le_trans Nat.and_le_right (by decide)
    show IntKind.i64.wrap ((BitVec.ofInt 64 k &&& BitVec.ofInt 64 1023).toNat : Int) = _
    rw [IntKind.wrap_i64]
    omega
  · rw [BitVec.toNat_and]
    exact Nat.le_trans Nat.and_le_right (by decide)
theorem pg_tot : ∀ (l : List Part) (ps : List Int) (s : List UInt8), pickGo l ps = some s → s.length ≤ totP l
  | [], [], s, h => by rw [pickGo] at h; cases h; exact Nat.zero_le _
  | [], _ :: _, s, h => by rw [pickGo] at h; cases h
  | y :: l, ps, s, h => by
    rw [totP_cons]
    cases hy : y.hunk with
    | false =>
      rw [pg_text l ps hy] at h
      cases ho : pickGo l ps with
      | none => rw [ho] at h; cases h
      | some t =>
        have := pg_tot l ps t ho
        rw [ho] at h
        cases h
        rw [List.length_append]
        omega
    | true =>
      cases ps with
      | nil => rw [pg_short l hy] at h; cases h
      | cons k r =>
        rw [pg_hunk l k r hy] at h
        cases ho : pickGo l r with
        | none => rw [ho] at h; simp at h
        | some t =>
          have := pg_tot l r t ho
          rw [ho] at h
          by_cases h0 : k = 0
          · rw [if_pos h0] at h; cases h; rw [List.length_append]; omega
          rw [if_neg h0] at h
          by_cases h1 : k = 1
          · rw [if_pos h1] at h; cases h; rw [List.length_append]; omega
          rw [if_neg h1] at h
          by_cases h2 : k = 2
          · rw [if_pos h2] at h; cases h; rw [List.length_append]; omega
          rw [if_neg h2] at h; cases h
theorem PBox.mark {W : World} {M : Nat} {x : Part} (h : PBox W M x) : PBox ((W.setCell ⟨M, 0, none⟩ (.bool true)).setCell ⟨M, 1, none⟩ (.string ⟨#[]⟩)) M ⟨true, [], x.s0, x.s1, x.s2⟩ := by
  unfold PBox at h ⊢
  simp [World.setCell, Array.getElem?_modify, h]
  rfl
theorem drewB (w : World) : Below w.heap.size w w.drew := (Below.refl _ _).drew
theorem binds99 {d : Nat → Bool} {i : Nat} (h : d 99 = false) (hi : i < 18) : setB d i 99 = false := by rw [setB_ne (by omega)]; exact h
set_option maxRecDepth 100000 in
set_option maxHeartbeats 8000000 in
theorem markPicks_any (v pv : Value) (l : List Part) (ps : List Int) (x : Part) (k : Int) (w : World) (hv : PV w v l) (hz : totP l + 5 * l.length ≤ 1048576) (hpv : IV w pv ps) (hpl : ps.length ≤ 1048576) (hxz : totP [x] ≤ 1048576) (hV : MkV w) :
    Calls Tryd.prog 6 #[v, pv, partV x, .int .i64 k] w fun e w' => e = .returned (.bool true) ∧ Below w.heap.size w w' := by
  obtain ⟨m, hA, hm⟩ := and_1023 k
  obtain ⟨i3n, hi3⟩ : ∃ i, m % 3 = i := ⟨_, rfl⟩
  have hi3b : i3n ≤ 2 := by omega
  have k3 : (m : Int).tmod 3 = (i3n : Int) := by rw [Int.tmod_eq_emod_of_nonneg (by omega)]; omega
  have hxs : x.text.length + x.s0.length + x.s1.length + x.s2.length ≤ 1048576 := by
    have : totP [x] = (x.text.length + x.s0.length + x.s1.length + x.s2.length) + 0 := rfl
    omega
  have HV := Lib.hid hV
  have HPV := Lib.hid hv
  have HIV := Lib.hid hpv
  have hbig := bulk_big hz
  have hl := hbig.1.1
  have hll : l.length ≤ 1048576 := by omega
  have htp : totP l ≤ 1048576 := by omega
  have CS := Lib.hid (fun w hV => small_any w hV)
  have CF := Lib.hid (fun w hv => few_any v l w hv hbig.1)
  have XP := Lib.hid (fun w hv hp => pick_any v pv l ps w hv hp hl (by omega) (by omega))
  have hpk : ∀ s, pickM l ps = (s, 0) → Few l → pickM (l ++ [⟨true, [], x.s0, x.s1, x.s2⟩]) (ps ++ [(i3n : Int)]) = (s ++ sideP x i3n, 0) ∧ pickM (l ++ [⟨true, [], x.s0, x.s1, x.s2⟩]) ps = ([], 1) := fun s h1 h2 =>
    pick_more (x := ⟨true, [], x.s0, x.s1, x.s2⟩) h1 h2.1 rfl rfl (by omega)
  have htx : totP (l ++ [⟨true, [], x.s0, x.s1, x.s2⟩]) ≤ 1099511627776 := by
    have : ∀ a b : List Part, totP (a ++ b) = totP a + totP b := fun a b => by unfold totP; rw [List.map_append, List.sum_append]
    rw [this]
    have : totP [⟨true, [], x.s0, x.s1, x.s2⟩] = (0 + x.s0.length + x.s1.length + x.s2.length) + 0 := rfl
    omega
  have hsz : ∀ s, pickM l ps = (s, 0) → s.length ≤ 1048576 := fun s h => Nat.le_trans (pg_tot l ps s (pick_shape h).2) htp
  obtain ⟨E, hE⟩ : ∃ E, pickM l ps = E := ⟨_, rfl⟩
  rw [hE] at XP hpk hsz
  obtain ⟨s, E2⟩ := E
  simp only [] at XP
  have hbx0 := PBox.new w x
  have hb0 := below_alloc1 w (.cells #[.bool x.hunk, .string (bs x.text), .string (bs x.s0), .string (bs x.s1), .string (bs x.s2)] 35)
  have HXz := Lib.hid (And.intro hxs (And.intro htx hpk))
  have Hsl : Hid (E2 = 0 → s.length ≤ 1048576) := Lib.hid (fun h => hsz s (by rw [h]))
  clear hE hxs htx hpk hbig hz hxz hm hi3 hsz
  obtain ⟨p, c, rfl, hp⟩ := hv
  obtain ⟨ip, ic, rfl, hic, _⟩ := hpv
  clear hp
  unfold partV
  go_enter Tryd.func6, Tryd.ntmps6
  go_upto_region 1 with fail
  obtain ⟨W0, hW0⟩ : ∃ W, w.alloc (.cells #[.bool x.hunk, .string (bs x.text), .string (bs x.s0), .string (bs x.s1), .string (bs x.s2)] 35) = W := ⟨_, rfl⟩
  obtain ⟨M, hM⟩ : ∃ M, w.heap.size = M := ⟨_, rfl⟩
  have hMw : Hid (w.heap.size ≤ M) := Lib.hid (by omega)
  rw [hW0, hM] at hbx0
  rw [hW0] at hb0
  rw [hW0, hM]
  have HBX0 := Lib.hid hbx0
  have HB0 := Lib.hid hb0
  clear hW0 hM hbx0 hb0
  go_wp2_with (go_at_call 8; (with_reducible refine (CS.out _ (HV.out.keep HB0.out)).mono ?_); rintro e w1 ⟨rfl, hb⟩; have HB1 := Lib.hid (below_of_new HB0.out hb); have HBX1 := Lib.hid (HBX0.out.keep hb); clear hb)
  with_reducible refine (CF.out _ (HPV.out.keep HB1.out)).mono ?_
  rintro e w2 ⟨b, rfl, hfew, hb⟩
  have HB2 := Lib.hid (below_of_new HB1.out hb)
  have HBX2 := Lib.hid (HBX1.out.keep hb)
  have HFew := Lib.hid hfew
  clear hb hfew
  go_upto_region 4 with (go_at_call 12; (with_reducible refine (XP.out _ (HPV.out.keep HB2.out) (HIV.out.keep HB2.out)).mono ?_); rintro e w3 ⟨rfl, hb⟩; have HB3 := Lib.hid (below_of_new HB2.out hb); have HBX3 := Lib.hid (HBX2.out.keep hb); clear hb)
  cases b with
  | false =>
    go_wp2_with fail
    go_ret
    exact ⟨rfl, HB3.out⟩
  | true =>
    by_cases he : E2 = 0
    case neg =>
      have heb : (E2 != 0) = true := bne_iff_ne.2 he
      go_wp2_with fail
      go_ret
      exact ⟨rfl, HB3.out⟩
    subst he
    obtain ⟨hpk1, hpk2⟩ := HXz.out.2.2 s rfl (HFew.out rfl)
    have htx := HXz.out.2.1
    have hsl := Hsl.out rfl
    have hxs := HXz.out.1
    obtain ⟨X, hX⟩ : ∃ X : Part, X = ⟨true, [], x.s0, x.s1, x.s2⟩ := ⟨_, rfl⟩
    rw [← hX] at hpk1 hpk2 htx
    obtain ⟨i3, hi3⟩ : ∃ i : Int, (i3n : Int) = i := ⟨_, rfl⟩
    obtain ⟨T, hT⟩ : ∃ T, bs (s ++ sideP x i3n) = T := ⟨_, rfl⟩
    rw [hi3] at hpk1 hT k3
    have XM : Hid (∀ u q w, PV w u (l ++ [X]) → IV w q (ps ++ [i3]) → Calls Tryd.prog 12 #[u, q] w fun e w' => e = .returned (.tuple #[.string T, .int .i64 0]) ∧ Below w.heap.size w w') := Lib.hid (fun u q w hv hp => by
      have := pick_any u q (l ++ [X]) (ps ++ [i3]) w hv hp (by simp; omega) (by simp; omega) htx
      rw [hpk1, hT] at this
      exact this)
    have XL : Hid (∀ u q w, PV w u (l ++ [X]) → IV w q ps → Calls Tryd.prog 12 #[u, q] w fun e w' => e = .returned (.tuple #[.string (bs []), .int .i64 1]) ∧ Below w.heap.size w w') := Lib.hid (fun u q w hv hp => by
      have := pick_any u q (l ++ [X]) ps w hv hp (by simp; omega) (by omega) htx
      rw [hpk2] at this
      exact this)
    have HTd := Lib.hid (And.intro hT hi3)
    have HXd := Lib.hid hX
    have HBX4 := Lib.hid (show PBox ((w3.setCell ⟨M, 0, none⟩ (.bool true)).setCell ⟨M, 1, none⟩ (.string ⟨#[]⟩)) M X from by rw [hX]; exact HBX3.out.mark)
    have HB4 := Lib.hid ((HB3.out.setCell (p := ⟨M, 0, none⟩) hMw.out (.bool true)).setCell (p := ⟨M, 1, none⟩) hMw.out (.string ⟨#[]⟩))
    obtain ⟨⟨y0, y1, y2, y3, y4⟩, ⟨z0, z1, z2, z3, z4⟩⟩ := HBX3.out.cells
    clear hpk1 hpk2 htx hT hX HXz HFew HBX0 HBX1 HBX2 XP CS CF
    go_upto_region 9 with fail
    obtain ⟨w4, hw4⟩ : ∃ W, (w3.setCell ⟨M, 0, none⟩ (.bool true)).setCell ⟨M, 1, none⟩ (.string ⟨#[]⟩) = W := ⟨_, rfl⟩
    rw [hw4] at HBX4 HB4
    rw [hw4]
    clear hw4 y0 y1 y2 y3 y4 z0 z1 z2 z3 z4

    have hfol : Tryd.prog.follows .mixedOrders = true := by kernel_rfl
    obtain ⟨B, hB⟩ : ∃ B, w4.heap.size = B := ⟨_, rfl⟩
    have hMB : M < B := by rw [← hB]; exact HBX4.out.lt
    have hKw : Hid (∀ W, Below B w4 W → Below w.heap.size w W) := Lib.hid (fun W h => by rw [← hB] at h; exact below_of_new HB4.out h)
    have hst := steady9 B (.slice p l.length c) (.slice ip ps.length ic) X l ps i3 T
    have inj := dstOf_inj (l := [40, 41, 42, 43, 44, 45, 46, 47, 48, 49, 50, 51, 52, 39, 53, 54, 14, 15]) (by decide)
    have hstart : Below B w4 w4.drew := by rw [← hB]; exact drewB w4
    have HX := HBX4
    refine wp_region_facts hfol [40, 41, 42, 43, 44, 45, 46, 47, 48, 49, 50, 51, 52, 39, 53, 54, 14, 15] 85 rfl (by kernel_rfl) (by kernel_rfl) (fun d v w' => d 99 = false ∧ RF (dstOf [40, 41, 42, 43, 44, 45, 46, 47, 48, 49, 50, 51, 52, 39, 53, 54, 14, 15]) dead9 own9 (claim9 B (.slice p l.length c) (.slice ip ps.length ic) X l ps i3 T) B w4 d v w') ⟨rfl, RF.start hstart (by rw [← hB]; exact Nat.le_refl _)⟩ ?_ ?_
    · intro d a w' i o ho hi hall hfr hF R hR
      have hi18 : i < 18 := (Array.getElem?_eq_some_iff.1 ho).1
      obtain ⟨h99d, hRF⟩ := hF
      have h99 := binds99 h99d hi18
      have q0 : a.tmps.getD 0 undef = .slice p l.length c := hfr 0 (by decide)
      have q1 : a.tmps.getD 1 undef = .slice ip ps.length ic := hfr 1 (by decide)
      have q6 : a.tmps.getD 6 undef = .pointer (some ⟨M, 0, none⟩) := hfr 6 (by decide)
      have q13 : a.tmps.getD 13 undef = .int .i64 i3 := hfr 13 (by decide)
      clear hfr
      rcases lt18 hi18 with rfl | rfl | rfl | rfl | rfl | rfl | rfl | rfl | rfl | rfl | rfl | rfl | rfl | rfl | rfl | rfl | rfl | rfl
      · simp only [List.getElem?_toArray, List.getElem?_cons_zero, List.getElem?_cons_succ, Option.some.injEq] at ho
        subst ho
        go_simp
        exact hR _ _ ⟨h99, hRF.step' hst inj (i := 0) (t := 40) rfl hi (below_alloc1 w' _) (rowC.new B w' 35 5 0 #[] hRF.sz (by unfold maxLen; omega) rfl) (fun _ => ⟨_, rfl, Nat.le_refl _⟩)⟩
      · simp only [List.getElem?_toArray, List.getElem?_cons_zero, List.getElem?_cons_succ, Option.some.injEq] at ho
        subst ho
        go_simp
        exact hR _ _ ⟨h99, hRF.step' hst inj (i := 1) (t := 41) rfl hi (Below.refl _ _) rfl (fun h => absurd h (by decide))⟩
      · simp only [List.getElem?_toArray, List.getElem?_cons_zero, List.getElem?_cons_succ, Option.some.injEq] at ho
        subst ho
        simp [Region.binds] at hall
        have e0 : d 0 = true := by first | exact hall | exact hall.1 | exact hall.2 | exact hall.2.1 | exact hall.2.2 | exact hall.2.2.1 | exact hall.2.2.2
        have e1 : d 1 = true := by first | exact hall | exact hall.1 | exact hall.2 | exact hall.2.1 | exact hall.2.2 | exact hall.2.2.1 | exact hall.2.2.2
        have c40 : OwnsP B [] (a.tmps.getD 40 undef) w' := hRF.at_ (i := 0) (t := 40) rfl e0 hi
        have c41 : a.tmps.getD 41 undef = .slice p l.length c := hRF.at_ (i := 1) (t := 41) rfl e1 h99d
        exact wp_partsP (.tmp 40) (.tmp 41) rfl B w' _ [] l rfl c40 _ c41 (HPV.out.keep (hKw.out _ hRF.bel)) (by simp; omega) hRF.sz (fun v' w'' h1 h2 h3 h4 => hR _ _ ⟨h99, hRF.app' hst inj (i := 2) (i0 := 0) (t := 42) (t0 := 40) rfl rfl hi e0 rfl rfl h2 h3 h1 h4⟩)
      · simp only [List.getElem?_toArray, List.getElem?_cons_zero, List.getElem?_cons_succ, Option.some.injEq] at ho
        subst ho
        obtain ⟨⟨x0, x1, x2, x3, x4⟩, _⟩ := PBox.cells ((hRF.bel.block M hMB).trans HX.out)
        go_simp
        exact hR _ _ ⟨h99, hRF.step' hst inj (i := 3) (t := 43) rfl hi (Below.refl _ _) rfl (fun h => absurd h (by decide))⟩
      · simp only [List.getElem?_toArray, List.getElem?_cons_zero, List.getElem?_cons_succ, Option.some.injEq] at ho
        subst ho
        simp [Region.binds] at hall
        have c43 : a.tmps[43]?.getD undef = .agg #[.bool X.hunk, .string (bs X.text), .string (bs X.s0), .string (bs X.s1), .string (bs X.s2)] := by rw [← Array.getD_eq_getD_getElem?]; exact hRF.at_ (i := 3) (t := 43) rfl (by first | exact hall | exact hall.1 | exact hall.2.1) h99d
        go_simp
        exact hR _ _ ⟨h99, hRF.step' hst inj (i := 4) (t := 44) rfl hi (below_alloc1 w' _) (rowC.new B w' 35 5 1 #[.bool X.hunk, .string (bs X.text), .string (bs X.s0), .string (bs X.s1), .string (bs X.s2)] hRF.sz (by unfold maxLen; omega) rfl) (fun _ => ⟨_, rfl, Nat.le_refl _⟩)⟩
      · simp only [List.getElem?_toArray, List.getElem?_cons_zero, List.getElem?_cons_succ, Option.some.injEq] at ho
        subst ho
        simp [Region.binds] at hall
        have e2 : d 2 = true := by first | exact hall | exact hall.1 | exact hall.2 | exact hall.2.1 | exact hall.2.2 | exact hall.2.2.1 | exact hall.2.2.2
        have e4 : d 4 = true := by first | exact hall | exact hall.1 | exact hall.2 | exact hall.2.1 | exact hall.2.2 | exact hall.2.2.1 | exact hall.2.2.2
        have c42 : OwnsP B l (a.tmps.getD 42 undef) w' := hRF.at_ (i := 2) (t := 42) rfl e2 hi
        have c44 : OwnsP B [X] (a.tmps.getD 44 undef) w' := hRF.at_ (i := 4) (t := 44) rfl e4 hi
        exact wp_partsP (.tmp 42) (.tmp 44) rfl B w' _ l [X] rfl c42 _ rfl c44.toPV (by simp; omega) hRF.sz (fun v' w'' h1 h2 h3 h4 => hR _ _ ⟨h99, hRF.app' hst inj (i := 5) (i0 := 2) (t := 45) (t0 := 42) rfl rfl hi e2 rfl rfl h2 h3 h1 h4⟩)
      · simp only [List.getElem?_toArray, List.getElem?_cons_zero, List.getElem?_cons_succ, Option.some.injEq] at ho
        subst ho
        go_simp
        exact hR _ _ ⟨h99, hRF.step' hst inj (i := 6) (t := 46) rfl hi (below_alloc1 w' _) (rowC.new B w' 3 1 0 #[] hRF.sz (by unfold maxLen; omega) rfl) (fun _ => ⟨_, rfl, Nat.le_refl _⟩)⟩
      · simp only [List.getElem?_toArray, List.getElem?_cons_zero, List.getElem?_cons_succ, Option.some.injEq] at ho
        subst ho
        go_simp
        exact hR _ _ ⟨h99, hRF.step' hst inj (i := 7) (t := 47) rfl hi (Below.refl _ _) rfl (fun h => absurd h (by decide))⟩
      · simp only [List.getElem?_toArray, List.getElem?_cons_zero, List.getElem?_cons_succ, Option.some.injEq] at ho
        subst ho
        simp [Region.binds] at hall
        have e6 : d 6 = true := by first | exact hall | exact hall.1 | exact hall.2 | exact hall.2.1 | exact hall.2.2 | exact hall.2.2.1 | exact hall.2.2.2
        have e7 : d 7 = true := by first | exact hall | exact hall.1 | exact hall.2 | exact hall.2.1 | exact hall.2.2 | exact hall.2.2.1 | exact hall.2.2.2
        have c46 : OwnsI B [] (a.tmps.getD 46 undef) w' := hRF.at_ (i := 6) (t := 46) rfl e6 hi
        have c47 : a.tmps.getD 47 undef = .slice ip ps.length ic := hRF.at_ (i := 7) (t := 47) rfl e7 h99d
        exact wp_ints (.tmp 46) (.tmp 47) rfl B w' _ [] ps rfl c46 _ c47 (HIV.out.keep (hKw.out _ hRF.bel)) (by simp; omega) hRF.sz (fun v' w'' h1 h2 h3 h4 => hR _ _ ⟨h99, hRF.app' hst inj (i := 8) (i0 := 6) (t := 48) (t0 := 46) rfl rfl hi e6 rfl rfl h2 h3 h1 h4⟩)
      · simp only [List.getElem?_toArray, List.getElem?_cons_zero, List.getElem?_cons_succ, Option.some.injEq] at ho
        subst ho
        go_simp
        exact hR _ _ ⟨h99, hRF.step' hst inj (i := 9) (t := 49) rfl hi (Below.refl _ _) rfl (fun h => absurd h (by decide))⟩
      · simp only [List.getElem?_toArray, List.getElem?_cons_zero, List.getElem?_cons_succ, Option.some.injEq] at ho
        subst ho
        simp [Region.binds] at hall
        have c49 : a.tmps[49]?.getD undef = .int .i64 i3 := by rw [← Array.getD_eq_getD_getElem?]; exact hRF.at_ (i := 9) (t := 49) rfl (by first | exact hall | exact hall.1 | exact hall.2.1) h99d
        go_simp
        exact hR _ _ ⟨h99, hRF.step' hst inj (i := 10) (t := 50) rfl hi (below_alloc1 w' _) (rowC.new B w' 3 1 1 #[.int .i64 i3] hRF.sz (by unfold maxLen; omega) rfl) (fun _ => ⟨_, rfl, Nat.le_refl _⟩)⟩
      · simp only [List.getElem?_toArray, List.getElem?_cons_zero, List.getElem?_cons_succ, Option.some.injEq] at ho
        subst ho
        simp [Region.binds] at hall
        have e8 : d 8 = true := by first | exact hall | exact hall.1 | exact hall.2 | exact hall.2.1 | exact hall.2.2 | exact hall.2.2.1 | exact hall.2.2.2
        have e10 : d 10 = true := by first | exact hall | exact hall.1 | exact hall.2 | exact hall.2.1 | exact hall.2.2 | exact hall.2.2.1 | exact hall.2.2.2
        have c48 : OwnsI B ps (a.tmps.getD 48 undef) w' := hRF.at_ (i := 8) (t := 48) rfl e8 hi
        have c50 : OwnsI B [i3] (a.tmps.getD 50 undef) w' := hRF.at_ (i := 10) (t := 50) rfl e10 hi
        exact wp_ints (.tmp 48) (.tmp 50) rfl B w' _ ps [i3] rfl c48 _ rfl c50.toIV (by simp; omega) hRF.sz (fun v' w'' h1 h2 h3 h4 => hR _ _ ⟨h99, hRF.app' hst inj (i := 11) (i0 := 8) (t := 51) (t0 := 48) rfl rfl hi e8 rfl rfl h2 h3 h1 h4⟩)
      · simp only [List.getElem?_toArray, List.getElem?_cons_zero, List.getElem?_cons_succ, Option.some.injEq] at ho
        subst ho
        simp [Region.binds] at hall
        have e5 : d 5 = true := by first | exact hall | exact hall.1 | exact hall.2 | exact hall.2.1 | exact hall.2.2 | exact hall.2.2.1 | exact hall.2.2.2
        have e11 : d 11 = true := by first | exact hall | exact hall.1 | exact hall.2 | exact hall.2.1 | exact hall.2.2 | exact hall.2.2.1 | exact hall.2.2.2
        have c45 : OwnsP B (l ++ [X]) (a.tmps[45]?.getD undef) w' := by rw [← Array.getD_eq_getD_getElem?]; exact hRF.at_ (i := 5) (t := 45) rfl e5 h99d
        have c51 : OwnsI B (ps ++ [i3]) (a.tmps[51]?.getD undef) w' := by rw [← Array.getD_eq_getD_getElem?]; exact hRF.at_ (i := 11) (t := 51) rfl e11 h99d
        go_simp
        refine (XM.out _ _ _ c45.toPV c51.toIV).mono ?_
        rintro e w'' ⟨rfl, hb⟩
        exact hR _ _ ⟨h99, hRF.step' hst inj (i := 12) (t := 52) rfl hi hb rfl (fun h => absurd h (by decide))⟩
      · simp only [List.getElem?_toArray, List.getElem?_cons_zero, List.getElem?_cons_succ, Option.some.injEq] at ho
        subst ho
        simp [Region.binds] at hall
        have c52 : a.tmps[52]?.getD undef = .tuple #[.string T, .int .i64 0] := by rw [← Array.getD_eq_getD_getElem?]; exact hRF.at_ (i := 12) (t := 52) rfl (by first | exact hall | exact hall.1 | exact hall.2.1) h99d
        go_simp
        exact hR _ _ ⟨h99, hRF.step' hst inj (i := 13) (t := 39) rfl hi (Below.refl _ _) rfl (fun h => absurd h (by decide))⟩
      · simp only [List.getElem?_toArray, List.getElem?_cons_zero, List.getElem?_cons_succ, Option.some.injEq] at ho
        subst ho
        simp [Region.binds] at hall
        have c39 : a.tmps[39]?.getD undef = .tuple #[.string T, .int .i64 0] := by rw [← Array.getD_eq_getD_getElem?]; exact hRF.at_ (i := 13) (t := 39) rfl (by first | exact hall | exact hall.1 | exact hall.2.1) h99d
        go_simp
        exact hR _ _ ⟨h99, hRF.step' hst inj (i := 14) (t := 53) rfl hi (Below.refl _ _) rfl (fun h => absurd h (by decide))⟩
      · simp only [List.getElem?_toArray, List.getElem?_cons_zero, List.getElem?_cons_succ, Option.some.injEq] at ho
        subst ho
        simp [Region.binds] at hall
        have c39 : a.tmps[39]?.getD undef = .tuple #[.string T, .int .i64 0] := by rw [← Array.getD_eq_getD_getElem?]; exact hRF.at_ (i := 13) (t := 39) rfl (by first | exact hall | exact hall.1 | exact hall.2.1) h99d
        go_simp
        exact hR _ _ ⟨h99, hRF.step' hst inj (i := 15) (t := 54) rfl hi (Below.refl _ _) rfl (fun h => absurd h (by decide))⟩
      · simp only [List.getElem?_toArray, List.getElem?_cons_zero, List.getElem?_cons_succ, Option.some.injEq] at ho
        subst ho
        simp [Region.binds] at hall
        have c53 : a.tmps[53]?.getD undef = .string T := by rw [← Array.getD_eq_getD_getElem?]; exact hRF.at_ (i := 14) (t := 53) rfl (by first | exact hall | exact hall.1 | exact hall.2.1) h99d
        go_simp
        exact hR _ _ ⟨h99, hRF.step' hst inj (i := 16) (t := 14) rfl hi (Below.refl _ _) rfl (fun h => absurd h (by decide))⟩
      · simp only [List.getElem?_toArray, List.getElem?_cons_zero, List.getElem?_cons_succ, Option.some.injEq] at ho
        subst ho
        simp [Region.binds] at hall
        have c54 : a.tmps[54]?.getD undef = .int .i64 0 := by rw [← Array.getD_eq_getD_getElem?]; exact hRF.at_ (i := 15) (t := 54) rfl (by first | exact hall | exact hall.1 | exact hall.2.1) h99d
        go_simp
        exact hR _ _ ⟨h99, hRF.step' hst inj (i := 17) (t := 15) rfl hi (Below.refl _ _) rfl (fun h => absurd h (by decide))⟩
    intro v w5 hF
    obtain ⟨_, hRF⟩ := hF
    have c14 : v 14 = .string T := hRF.at_ (i := 16) (t := 14) rfl (by decide) (by decide)
    have c15 : v 15 = .int .i64 0 := hRF.at_ (i := 17) (t := 15) rfl (by decide) (by decide)
    have HB5 := Lib.hid (hKw.out _ hRF.bel)
    have HBX5 : Hid (PBox w5 M X) := Lib.hid ((hRF.bel.block M hMB).trans HX.out)
    simp only [fillT, List.setIfInBounds_toArray, List.set_cons_succ, List.set_cons_zero, c14, c15]
    clear hRF c14 c15 hKw hMB hB hst inj hstart HX HBX4 HB4 XM
    go_upto_region 10 with fail
    obtain ⟨B, hB⟩ : ∃ B, w5.heap.size = B := ⟨_, rfl⟩
    have hMB : M < B := by rw [← hB]; exact HBX5.out.lt
    have hKw : Hid (∀ W, Below B w5 W → Below w.heap.size w W) := Lib.hid (fun W h => by rw [← hB] at h; exact below_of_new HB5.out h)
    have hst := steady10 B (.slice p l.length c) (.slice ip ps.length ic) X l (bs []) 1
    have inj := dstOf_inj (l := [56, 57, 58, 59, 60, 61, 62, 63, 55, 64, 65, 16, 17]) (by decide)
    have hstart : Below B w5 w5.drew := by rw [← hB]; exact drewB w5
    have HX := HBX5
    refine wp_region_facts hfol [56, 57, 58, 59, 60, 61, 62, 63, 55, 64, 65, 16, 17] 85 rfl (by kernel_rfl) (by kernel_rfl) (fun d v w' => d 99 = false ∧ RF (dstOf [56, 57, 58, 59, 60, 61, 62, 63, 55, 64, 65, 16, 17]) dead10 own10 (claim10 B (.slice p l.length c) (.slice ip ps.length ic) X l (bs []) 1) B w5 d v w') ⟨rfl, RF.start hstart (by rw [← hB]; exact Nat.le_refl _)⟩ ?_ ?_
    · intro d a w' i o ho hi hall hfr hF R hR
      have hi13 : i < 13 := (Array.getElem?_eq_some_iff.1 ho).1
      obtain ⟨h99d, hRF⟩ := hF
      have h99 := binds99 h99d (by omega : i < 18)
      have q0 : a.tmps.getD 0 undef = .slice p l.length c := hfr 0 (by decide)
      have q1 : a.tmps.getD 1 undef = .slice ip ps.length ic := hfr 1 (by decide)
      have q6 : a.tmps.getD 6 undef = .pointer (some ⟨M, 0, none⟩) := hfr 6 (by decide)
      clear hfr
      rcases (show i = 0 ∨ i = 1 ∨ i = 2 ∨ i = 3 ∨ i = 4 ∨ i = 5 ∨ i = 6 ∨ i = 7 ∨ i = 8 ∨ i = 9 ∨ i = 10 ∨ i = 11 ∨ i = 12 by omega) with rfl | rfl | rfl | rfl | rfl | rfl | rfl | rfl | rfl | rfl | rfl | rfl | rfl
      · simp only [List.getElem?_toArray, List.getElem?_cons_zero, List.getElem?_cons_succ, Option.some.injEq] at ho
        subst ho
        go_simp
        exact hR _ _ ⟨h99, hRF.step' hst inj (i := 0) (t := 56) rfl hi (below_alloc1 w' _) (rowC.new B w' 35 5 0 #[] hRF.sz (by unfold maxLen; omega) rfl) (fun _ => ⟨_, rfl, Nat.le_refl _⟩)⟩
      · simp only [List.getElem?_toArray, List.getElem?_cons_zero, List.getElem?_cons_succ, Option.some.injEq] at ho
        subst ho
        go_simp
        exact hR _ _ ⟨h99, hRF.step' hst inj (i := 1) (t := 57) rfl hi (Below.refl _ _) rfl (fun h => absurd h (by decide))⟩
      · simp only [List.getElem?_toArray, List.getElem?_cons_zero, List.getElem?_cons_succ, Option.some.injEq] at ho
        subst ho
        simp [Region.binds] at hall
        have e0 : d 0 = true := by first | exact hall | exact hall.1 | exact hall.2 | exact hall.2.1 | exact hall.2.2 | exact hall.2.2.1 | exact hall.2.2.2
        have e1 : d 1 = true := by first | exact hall | exact hall.1 | exact hall.2 | exact hall.2.1 | exact hall.2.2 | exact hall.2.2.1 | exact hall.2.2.2
        have c56 : OwnsP B [] (a.tmps.getD 56 undef) w' := hRF.at_ (i := 0) (t := 56) rfl e0 hi
        have c57 : a.tmps.getD 57 undef = .slice p l.length c := hRF.at_ (i := 1) (t := 57) rfl e1 h99d
        exact wp_partsP (.tmp 56) (.tmp 57) rfl B w' _ [] l rfl c56 _ c57 (HPV.out.keep (hKw.out _ hRF.bel)) (by simp; omega) hRF.sz (fun v' w'' h1 h2 h3 h4 => hR _ _ ⟨h99, hRF.app' hst inj (i := 2) (i0 := 0) (t := 58) (t0 := 56) rfl rfl hi e0 rfl rfl h2 h3 h1 h4⟩)
      · simp only [List.getElem?_toArray, List.getElem?_cons_zero, List.getElem?_cons_succ, Option.some.injEq] at ho
        subst ho
        obtain ⟨⟨x0, x1, x2, x3, x4⟩, _⟩ := PBox.cells ((hRF.bel.block M hMB).trans HX.out)
        go_simp
        exact hR _ _ ⟨h99, hRF.step' hst inj (i := 3) (t := 59) rfl hi (Below.refl _ _) rfl (fun h => absurd h (by decide))⟩
      · simp only [List.getElem?_toArray, List.getElem?_cons_zero, List.getElem?_cons_succ, Option.some.injEq] at ho
        subst ho
        simp [Region.binds] at hall
        have c59 : a.tmps[59]?.getD undef = .agg #[.bool X.hunk, .string (bs X.text), .string (bs X.s0), .string (bs X.s1), .string (bs X.s2)] := by rw [← Array.getD_eq_getD_getElem?]; exact hRF.at_ (i := 3) (t := 59) rfl (by first | exact hall | exact hall.1 | exact hall.2.1) h99d
        go_simp
        exact hR _ _ ⟨h99, hRF.step' hst inj (i := 4) (t := 60) rfl hi (below_alloc1 w' _) (rowC.new B w' 35 5 1 #[.bool X.hunk, .string (bs X.text), .string (bs X.s0), .string (bs X.s1), .string (bs X.s2)] hRF.sz (by unfold maxLen; omega) rfl) (fun _ => ⟨_, rfl, Nat.le_refl _⟩)⟩
      · simp only [List.getElem?_toArray, List.getElem?_cons_zero, List.getElem?_cons_succ, Option.some.injEq] at ho
        subst ho
        simp [Region.binds] at hall
        have e2 : d 2 = true := by first | exact hall | exact hall.1 | exact hall.2 | exact hall.2.1 | exact hall.2.2 | exact hall.2.2.1 | exact hall.2.2.2
        have e4 : d 4 = true := by first | exact hall | exact hall.1 | exact hall.2 | exact hall.2.1 | exact hall.2.2 | exact hall.2.2.1 | exact hall.2.2.2
        have c58 : OwnsP B l (a.tmps.getD 58 undef) w' := hRF.at_ (i := 2) (t := 58) rfl e2 hi
        have c60 : OwnsP B [X] (a.tmps.getD 60 undef) w' := hRF.at_ (i := 4) (t := 60) rfl e4 hi
        exact wp_partsP (.tmp 58) (.tmp 60) rfl B w' _ l [X] rfl c58 _ rfl c60.toPV (by simp; omega) hRF.sz (fun v' w'' h1 h2 h3 h4 => hR _ _ ⟨h99, hRF.app' hst inj (i := 5) (i0 := 2) (t := 61) (t0 := 58) rfl rfl hi e2 rfl rfl h2 h3 h1 h4⟩)
      · simp only [List.getElem?_toArray, List.getElem?_cons_zero, List.getElem?_cons_succ, Option.some.injEq] at ho
        subst ho
        go_simp
        exact hR _ _ ⟨h99, hRF.step' hst inj (i := 6) (t := 62) rfl hi (Below.refl _ _) rfl (fun h => absurd h (by decide))⟩
      · simp only [List.getElem?_toArray, List.getElem?_cons_zero, List.getElem?_cons_succ, Option.some.injEq] at ho
        subst ho
        simp [Region.binds] at hall
        have e5 : d 5 = true := by first | exact hall | exact hall.1 | exact hall.2 | exact hall.2.1 | exact hall.2.2 | exact hall.2.2.1 | exact hall.2.2.2
        have e6 : d 6 = true := by first | exact hall | exact hall.1 | exact hall.2 | exact hall.2.1 | exact hall.2.2 | exact hall.2.2.1 | exact hall.2.2.2
        have c61 : OwnsP B (l ++ [X]) (a.tmps[61]?.getD undef) w' := by rw [← Array.getD_eq_getD_getElem?]; exact hRF.at_ (i := 5) (t := 61) rfl e5 h99d
        have c62 : a.tmps[62]?.getD undef = .slice ip ps.length ic := by rw [← Array.getD_eq_getD_getElem?]; exact hRF.at_ (i := 6) (t := 62) rfl e6 h99d
        go_simp
        refine (XL.out _ _ _ c61.toPV (HIV.out.keep (hKw.out _ hRF.bel))).mono ?_
        rintro e w'' ⟨rfl, hb⟩
        exact hR _ _ ⟨h99, hRF.step' hst inj (i := 7) (t := 63) rfl hi hb rfl (fun h => absurd h (by decide))⟩
      · simp only [List.getElem?_toArray, List.getElem?_cons_zero, List.getElem?_cons_succ, Option.some.injEq] at ho
        subst ho
        simp [Region.binds] at hall
        have c63 : a.tmps[63]?.getD undef = .tuple #[.string (bs []), .int .i64 1] := by rw [← Array.getD_eq_getD_getElem?]; exact hRF.at_ (i := 7) (t := 63) rfl (by first | exact hall | exact hall.1 | exact hall.2.1) h99d
        go_simp
        exact hR _ _ ⟨h99, hRF.step' hst inj (i := 8) (t := 55) rfl hi (Below.refl _ _) rfl (fun h => absurd h (by decide))⟩
      · simp only [List.getElem?_toArray, List.getElem?_cons_zero, List.getElem?_cons_succ, Option.some.injEq] at ho
        subst ho
        simp [Region.binds] at hall
        have c55 : a.tmps[55]?.getD undef = .tuple #[.string (bs []), .int .i64 1] := by rw [← Array.getD_eq_getD_getElem?]; exact hRF.at_ (i := 8) (t := 55) rfl (by first | exact hall | exact hall.1 | exact hall.2.1) h99d
        go_simp
        exact hR _ _ ⟨h99, hRF.step' hst inj (i := 9) (t := 64) rfl hi (Below.refl _ _) rfl (fun h => absurd h (by decide))⟩
      · simp only [List.getElem?_toArray, List.getElem?_cons_zero, List.getElem?_cons_succ, Option.some.injEq] at ho
        subst ho
        simp [Region.binds] at hall
        have c55 : a.tmps[55]?.getD undef = .tuple #[.string (bs []), .int .i64 1] := by rw [← Array.getD_eq_getD_getElem?]; exact hRF.at_ (i := 8) (t := 55) rfl (by first | exact hall | exact hall.1 | exact hall.2.1) h99d
        go_simp
        exact hR _ _ ⟨h99, hRF.step' hst inj (i := 10) (t := 65) rfl hi (Below.refl _ _) rfl (fun h => absurd h (by decide))⟩
      · simp only [List.getElem?_toArray, List.getElem?_cons_zero, List.getElem?_cons_succ, Option.some.injEq] at ho
        subst ho
        simp [Region.binds] at hall
        have c64 : a.tmps[64]?.getD undef = .string (bs []) := by rw [← Array.getD_eq_getD_getElem?]; exact hRF.at_ (i := 9) (t := 64) rfl (by first | exact hall | exact hall.1 | exact hall.2.1) h99d
        go_simp
        exact hR _ _ ⟨h99, hRF.step' hst inj (i := 11) (t := 16) rfl hi (Below.refl _ _) rfl (fun h => absurd h (by decide))⟩
      · simp only [List.getElem?_toArray, List.getElem?_cons_zero, List.getElem?_cons_succ, Option.some.injEq] at ho
        subst ho
        simp [Region.binds] at hall
        have c65 : a.tmps[65]?.getD undef = .int .i64 1 := by rw [← Array.getD_eq_getD_getElem?]; exact hRF.at_ (i := 10) (t := 65) rfl (by first | exact hall | exact hall.1 | exact hall.2.1) h99d
        go_simp
        exact hR _ _ ⟨h99, hRF.step' hst inj (i := 12) (t := 17) rfl hi (Below.refl _ _) rfl (fun h => absurd h (by decide))⟩
    intro v w6 hF
    obtain ⟨_, hRF⟩ := hF
    have c16 : v 16 = .string (bs []) := hRF.at_ (i := 11) (t := 16) rfl (by decide) (by decide)
    have c17 : v 17 = .int .i64 1 := hRF.at_ (i := 12) (t := 17) rfl (by decide) (by decide)
    have HB6 := Lib.hid (hKw.out _ hRF.bel)
    obtain ⟨⟨x0, x1, x2, x3, x4⟩, _⟩ := PBox.cells ((hRF.bel.block M hMB).trans HX.out)
    simp only [fillT, List.setIfInBounds_toArray, List.set_cons_succ, List.set_cons_zero, c16, c17]
    have hXs : X.s0 = x.s0 ∧ X.s1 = x.s1 ∧ X.s2 = x.s2 := by rw [HXd.out]; exact ⟨rfl, rfl, rfl⟩
    obtain ⟨e0, e1, e2⟩ := hXs
    have sS := bs_size s; have s0 := bs_size X.s0; have s1 := bs_size X.s1; have s2 := bs_size X.s2
    have n0 : ¬ 9223372036854775807 < s.length + X.s0.length := by rw [e0]; omega
    have n1 : ¬ 9223372036854775807 < s.length + X.s1.length := by rw [e1]; omega
    have n2 : ¬ 9223372036854775807 < s.length + X.s2.length := by rw [e2]; omega
    have hT3 := HTd.out.1
    have hT4 := HTd.out.2
    have t0 : i3 = 0 → bs s ++ bs X.s0 = T := fun h => by rw [← hT3, e0, bs_append]; unfold sideP; rw [if_pos h]
    have t1 : i3 = 1 → bs s ++ bs X.s1 = T := fun h => by rw [← hT3, e1, bs_append]; unfold sideP; rw [if_neg (by omega), if_pos h]
    have t2 : i3 = 2 → bs s ++ bs X.s2 = T := fun h => by rw [← hT3, e2, bs_append]; unfold sideP; rw [if_neg (by omega), if_neg (by omega)]
    have hcase : i3 = 0 ∨ i3 = 1 ∨ i3 = 2 := by omega
    clear hRF hKw hMB hB hst inj hstart HX HBX5 HB5 XL hT3 hT4 HTd e0 e1 e2 HXd k3
    rcases hcase with rfl | rfl | rfl
    · have t3 := t0 rfl
      clear t0 t1 t2
      go_wp2_with fail
      go_ret
      exact ⟨rfl, HB6.out⟩
    · have t3 := t1 rfl
      clear t0 t1 t2
      go_wp2_with fail
      go_ret
      exact ⟨rfl, HB6.out⟩
    · have t3 := t2 rfl
      clear t0 t1 t2
      go_wp2_with fail
      go_ret
      exact ⟨rfl, HB6.out⟩
end Go.Proofs.YtdegjfmjjabnnaaDoor
