import Derived.Test.YtbbjgdnbekoaeaaGreatDoorYlL2
/-! The walk of scarfref10.Line: it returns lineL. Printed by gen_refline.py. -/
namespace Go.Proofs.YtbbjgdnbekoaeaaGreatDoor
set_option linter.unusedSimpArgs false
set_option linter.unusedVariables false
open Go.RowKit
open Go.Lib hiding intOf

set_option maxRecDepth 100000 in
set_option maxHeartbeats 20000000 in
theorem refLine_in6 (l : List UInt8) (x y : Nat) (w : World) (hs : l.length ≤ 1073741824) (hxy : x ≤ y) (hyl : y ≤ l.length) (T : List UInt8) (hTd : (l.drop x).take (y - x) = T) (R : LineR × Int × Int)
    (hC1 : Hid (T.contains 10 = false)) (hC2 : Hid (¬ wrL true T < T.length)) (hC3 : Hid (¬ spL T = T.length)) (hC4 : Hid (¬ (T.drop (spL T)).head? = some 35)) (hC5 : Hid (¬ (((T.drop (spL T)).head? = some 34 ∨ (T.drop (spL T)).head? = some 39) ∧ qdL (T.drop (spL T)) = 0))) (hR : (if T.contains 10 then (noLine, 0, 1) else if wrL true T < T.length then (noLine, (x : Int) + wrL true T, 2) else lineG x y (spL T) (coreL (T.drop (spL T))) : LineR × Int × Int) = R) :
    Calls Tryz.prog 18 #[.string (bs l), .agg #[.int .i64 x, .int .i64 y]] w fun e w' => e = LineE R ∧ Below w.heap.size w w' := by
  have sl := bs_size l
  have hTl : T.length = y - x := by rw [← hTd, List.length_take, List.length_drop]; omega
  have hex : (bs l).extract x y = bs T := by rw [bs_extract, bs_data, hTd]
  have CG := Lib.hid (fun w => refWrong_any T true w (by omega))
  have sT := bs_size T
  have hTb : T.length ≤ 1073741824 := by omega
  have hxT : x + T.length ≤ 1073741824 := by omega
  have HTl := Lib.hid hTl
  obtain ⟨wr, hwr⟩ : ∃ wr, wrL true T = wr := ⟨_, rfl⟩
  have hwb : wr ≤ T.length := by have := (wrGo_bd true T.length T 0).2; unfold wrL at hwr; omega
  rw [hwr] at CG hR hC2
  obtain ⟨n, hn⟩ : ∃ n, spL T = n := ⟨_, rfl⟩
  have hnl := spL_le T
  have hna := spL_at T
  have hne := spL_end T
  rw [hn] at hnl hna hne hR hC3 hC4 hC5
  have HR := Lib.hid hR
  have HNA := Lib.hid (And.intro hna (And.intro hne hn))
  have d1 : decide ((x : Int) < 0) = false := decide_eq_false (by omega)
  have d2 : decide (y < x) = false := decide_eq_false (by omega)
  have d3 : decide (l.length < y) = false := decide_eq_false (by omega)
  have hxyi : (x : Int) ≤ (y : Int) := by omega
  have hyli : (y : Int) ≤ (l.length : Int) := by omega
  clear hTl hTd hwr hn hna hne hR
  go_enter Tryz.func18, Tryz.ntmps18
  go_upto_region 1 with fail
  have HL0 := Lib.hid (LSt.start w x y)
  obtain ⟨W1, hW1⟩ : ∃ W, ((w.alloc (.cells #[.int .i64 x, .int .i64 y] 32)).alloc (.cells #[.int .i64 0, .int .i64 0, .int .i64 0, .int .i64 0, .int .i64 0, .int .i64 0, .int .i64 0, .int .i64 0, .int .i64 0, .int .i64 0] 42)) = W := ⟨_, rfl⟩
  rw [hW1] at HL0 ⊢
  clear hW1
  obtain ⟨s0, s1⟩ := HL0.out.s.cells
  obtain ⟨b0, b1, b2, b3, b4, b5, b6, b7, b8, b9, h0, h1, h2, h3, h4, h5, h6, h7, h8, h9⟩ := HL0.out.l.cells
  go_wp2_with fail
  go_loop [8] (fun s8 => ∃ k : Nat, s8 = .int .i64 k ∧ k ≤ T.length ∧ Hid (∀ j, j < k → T[j]? ≠ some 10)) (fun s8 => T.length - (RowKit.intOf s8).toNat)
  case atStart => exact ⟨0, rfl, by omega, Lib.hid (fun j hj => by omega)⟩
  case round =>
    obtain ⟨k, rfl, hk, HK⟩ := hrel
    by_cases hlt : k < T.length
    · have hlt' : k < (bs T).size := by omega
      have hb := at_bs T k hlt'
      have T1 := byte_eq ((bs T)[k]'hlt') 10 10 rfl
      obtain ⟨c, hc⟩ : ∃ c, (bs T)[k]'hlt' = c := ⟨_, rfl⟩
      rw [hc] at T1 hb
      have hc2 : (((bs T)[k]'hlt').toNat : Int) = (c.toNat : Int) := by rw [hc]
      obtain ⟨ci, hci⟩ : ∃ ci : Int, (c.toNat : Int) = ci := ⟨_, rfl⟩
      rw [hci] at T1 hc2
      by_cases h10 : c = 10
      · exact absurd (yes10 (by rw [hb, h10])) (by rw [hC1.out]; simp)
      · have HK2 : Hid (∀ j, j < k + 1 → T[j]? ≠ some 10) := Lib.hid (fun j hj => by
          by_cases h : j < k
          · exact HK.out j h
          · obtain rfl : j = k := by omega
            rw [hb]; simpa using h10)
        rw [show (c == 10) = false from beq_eq_false_iff_ne.2 h10] at T1
        clear h10 hb hc hci HK
        go_wp2_with fail
        go_round
        case rel => exact ⟨k + 1, by go_num, by omega, HK2.out⟩
        case measure => simp [RowKit.intOf]; omega
    · have h10 : T.contains 10 = false := no10_all (fun j hj => HK.out j (by omega))
      have HR1 : Hid ((if wr < T.length then (noLine, (x : Int) + wr, 2) else lineG x y n (coreL (T.drop n)) : LineR × Int × Int) = R) := Lib.hid (by
        have := HR.out
        rw [if_neg (by rw [h10]; simp)] at this
        exact this)
      clear h10 HK HR
      by_cases hw : wr < T.length
      · exact absurd hw hC2.out
      · rw [if_neg hw] at HR1
        have dw : decide (wr < T.length) = false := decide_eq_false hw
        have hTx : (bs T).extract n T.length = bs (T.drop n) := bs_from T n _ rfl
        obtain ⟨U, hU⟩ : ∃ U, T.drop n = U := ⟨_, rfl⟩
        have hUl : U.length = T.length - n := by rw [← hU, List.length_drop]
        have hhead : U.head? = T[n]? := by rw [← hU, head_drop]
        rw [hU] at hTx HR1 hC4 hC5
        have wxn : IntKind.i64.wrap ((x : Int) + (n : Int)) = (x : Int) + (n : Int) := by rw [IntKind.wrap_i64]; omega
        have hxn : (x : Int) + (n : Int) ≤ 1073741824 := by omega
        have HTU : Hid (T = List.replicate n 32 ++ U) := Lib.hid (by have := split_sp T; rw [HNA.out.2.2, hU] at this; exact this)
        have HUL := Lib.hid hUl
        clear hw hU hUl
        by_cases hUe : n = T.length
        · exact absurd hUe hC3.out
        · have hnT : n < T.length := by omega
          clear hUe
          go_wp2_with (go_at_call 33; (with_reducible refine (CG.out _).mono ?_); rintro e w' ⟨rfl, rfl⟩)
          clear CG
          go_loop [9] (fun s9 => ∃ k2 : Nat, s9 = .int .i64 k2 ∧ k2 ≤ n) (fun s9 => T.length - (RowKit.intOf s9).toNat)
          case atStart => exact ⟨0, rfl, by omega⟩
          case round =>
            obtain ⟨k2, rfl, hk2⟩ := hrel
            by_cases hlt2 : k2 < n
            · have hlt2' : k2 < (bs T).size := by omega
              have hb := at_bs T k2 hlt2'
              rw [HNA.out.1 k2 hlt2] at hb
              have T2 : ((((bs T)[k2]'hlt2').toNat : Int) == 32) = true := by rw [byte_eq _ 32 32 rfl, ← Option.some.inj hb]; rfl
              clear hb
              go_wp2_with fail
              go_round
              case rel => exact ⟨k2 + 1, by go_num, by omega⟩
              case measure => simp [RowKit.intOf]; omega
            · obtain rfl : n = k2 := by omega
              have hn' : n < (bs T).size := by omega
              have hbn := at_bs T n hn'
              have T32 := byte_some ((bs T)[n]'hn') 32 32 rfl
              have T35 := byte_some ((bs T)[n]'hn') 35 35 rfl
              have T34 := byte_some ((bs T)[n]'hn') 34 34 rfl
              have T39 := byte_some ((bs T)[n]'hn') 39 39 rfl
              rw [← hbn] at T32
              rw [← hbn, ← hhead] at T35 T34 T39
              rw [show (T[n]? == some 32) = false from beq_eq_false_iff_ne.2 HNA.out.2.1] at T32
              obtain ⟨cc, hcc⟩ : ∃ cc : Int, (((bs T)[n]'hn').toNat : Int) = cc := ⟨_, rfl⟩
              rw [hcc] at T32 T35 T34 T39
              clear hbn hhead
              go_upto_region 14 with fail
              go_cut [10] (fun s10 wx => ∃ X, s10 = .pointer (some ⟨X, 0, none⟩) ∧ w.heap.size + 2 ≤ X ∧ Hid (LSt w x y noLine wx ∧ LineBox wx X ⟨1, x, y, n, 0, 0, 0, 0, 0, 0⟩))
              case first =>
                as_aux_lemma =>
                  go_wp2_with fail
                  go_meet
                  exact ⟨W1.heap.size, rfl, HL0.out.z, HL0.out.keep (below_alloc1 _ _), heap_alloc_new W1 _⟩
              clear s0 s1 b0 b1 b2 b3 b4 b5 b6 b7 b8 b9 h0 h1 h2 h3 h4 h5 h6 h7 h8 h9
              obtain ⟨X, rfl, hX, HS⟩ := hcut
              obtain ⟨s0, s1⟩ := HS.out.1.s.cells
              obtain ⟨a0, a1, a2, a3, a4, a5, a6, a7, a8, a9, g0, g1, g2, g3, g4, g5, g6, g7, g8, g9⟩ := HS.out.2.cells
              obtain ⟨b0, b1, b2, b3, b4, b5, b6, b7, b8, b9, h0, h1, h2, h3, h4, h5, h6, h7, h8, h9⟩ := HS.out.1.l.cells
              go_upto_region 16 with fail
              go_cut [] (fun wx => Hid (LSt w x y noLine wx ∧ LineBox wx X ⟨1, x, y, n, 0, 0, x + n, x + n, 0, 0⟩))
              case first =>
                as_aux_lemma =>
                  go_wp2_with fail
                  go_meet
                  exact ⟨(HS.out.1.set hX 6 _).set hX 7 _, blk_set (blk_set HS.out.2 6 _) 7 _⟩
              clear s0 s1 a0 a1 a2 a3 a4 a5 a6 a7 a8 a9 g0 g1 g2 g3 g4 g5 g6 g7 g8 g9 b0 b1 b2 b3 b4 b5 b6 b7 b8 b9 h0 h1 h2 h3 h4 h5 h6 h7 h8 h9
              have HS := hcut
              obtain ⟨s0, s1⟩ := HS.out.1.s.cells
              obtain ⟨a0, a1, a2, a3, a4, a5, a6, a7, a8, a9, g0, g1, g2, g3, g4, g5, g6, g7, g8, g9⟩ := HS.out.2.cells
              obtain ⟨b0, b1, b2, b3, b4, b5, b6, b7, b8, b9, h0, h1, h2, h3, h4, h5, h6, h7, h8, h9⟩ := HS.out.1.l.cells
              have hUne : U ≠ [] := by intro e; have := HUL.out; rw [e] at this; simp at this; omega
              have hcore : coreL U = if U.head? = some 35 then some ⟨2, 0, 0, 0, some 0⟩ else if (U.head? = some 34 ∨ U.head? = some 39) ∧ qdL U = 0 then none else some (restL U (headL U) (behindL U (fromL (headL U))) (noteL U (behindL U (fromL (headL U)) + qdL (U.drop (behindL U (fromL (headL U))))))) := by unfold coreL; rw [if_neg hUne]
              have tnT : ((n : Int) == (T.length : Int)) = false := beq_eq_false_iff_ne.2 (by omega)
              by_cases h35 : U.head? = some 35
              · exact absurd h35 hC4.out
              · rw [if_neg h35] at hcore
                rw [show (U.head? == some 35) = false from beq_eq_false_iff_ne.2 h35] at T35
                have hUb : U.length ≤ 1073741824 := by have := HUL.out; omega
                have CQ := Lib.hid (fun w => refEnds_any U w hUb)
                by_cases hbq : (U.head? = some 34 ∨ U.head? = some 39) ∧ qdL U = 0
                · exact absurd hbq hC5.out
                · rw [if_neg hbq] at hcore
                  have HC := Lib.hid hcore
                  have hsp := headL_spec U hbq
                  have CH := Lib.hid (fun w => refHead_any U w hUne hUb)
                  have HU35 := Lib.hid h35
                  obtain ⟨H, hH⟩ : ∃ H, headL U = H := ⟨_, rfl⟩
                  rw [hH] at HC hsp CH
                  obtain ⟨kdN, keyN⟩ := H
                  unfold HeadR at CH
                  simp only [] at CH
                  have hF : fromL (kdN, keyN) ≤ U.length ∧ (kdN = 3 ∨ kdN = 4 ∨ kdN = 5) ∧ keyN < U.length + 1 := by
                    have hU0 : 0 < U.length := List.length_pos_iff.2 hUne
                    unfold fromL
                    rcases hsp with ⟨h, _⟩ | h | ⟨k, h, _, h2, _⟩
                    all_goals (obtain ⟨rfl, rfl⟩ := Prod.mk.inj h)
                    · exact ⟨by simp; omega, by omega, by omega⟩
                    · exact ⟨by simp, by omega, by omega⟩
                    · exact ⟨by simp; omega, by omega, by omega⟩
                  obtain ⟨hF1, hF2, hF3⟩ := hF
                  have hfr : fromL (kdN, keyN) = if kdN = 3 then 1 else if kdN = 4 then keyN + 1 else 0 := rfl
                  obtain ⟨F, hFe⟩ : ∃ F, fromL (kdN, keyN) = F := ⟨_, rfl⟩
                  have hLR := fun r hr => lineOf_rest U T n x y (kdN, keyN) HU35.out HTU.out r hr
                  rw [hFe] at HC hF1 hfr hLR
                  have hq0 : ∀ q : Nat, qdL U = q → (cc = 34 ∧ ((q : Int) == 0) = false) ∨ ((cc == 34) = false ∧ cc = 39 ∧ ((q : Int) == 0) = false) ∨ ((cc == 34) = false ∧ (cc == 39) = false) := by
                    rintro q rfl
                    by_cases hc34 : cc = 34
                    · left; exact ⟨hc34, beq_eq_false_iff_ne.2 (fun e => hbq ⟨.inl (by rw [hc34] at T34; exact beq_iff_eq.1 T34.symm), by omega⟩)⟩
                    · right
                      by_cases hc39 : cc = 39
                      · left; exact ⟨beq_eq_false_iff_ne.2 hc34, hc39, beq_eq_false_iff_ne.2 (fun e => hbq ⟨.inr (by rw [hc39] at T39; exact beq_iff_eq.1 T39.symm), by omega⟩)⟩
                      · right; exact ⟨beq_eq_false_iff_ne.2 hc34, beq_eq_false_iff_ne.2 hc39⟩
                  obtain ⟨q, hqq⟩ : ∃ q, qdL U = q := ⟨_, rfl⟩
                  have hq1 := hq0 q hqq
                  rw [hqq] at CQ
                  have HLR := Lib.hid hLR
                  have HFR := Lib.hid hfr
                  have hUTn : n + U.length = T.length := by have := HUL.out; omega
                  have hnF : n + F ≤ T.length := by omega
                  clear hcore h35 hbq T34 T39 hsp hH hFe hLR hq0 hqq hfr hUne
                  go_upto_region 23 with fail
                  go_cut [121] (fun s121 wx => s121 = .bool false ∧ Hid (LSt w x y noLine wx ∧ LineBox wx X ⟨1, x, y, n, 0, 0, x + n, x + n, 0, 0⟩))
                  case first =>
                    as_aux_lemma =>
                      rcases hq1 with ⟨rfl, tq⟩ | ⟨t34, rfl, tq⟩ | ⟨t34, t39⟩
                      · go_wp2_with fail
                        with_reducible refine (CQ.out _).mono ?_
                        rintro e w3 ⟨rfl, hb3⟩
                        go_wp2_with fail
                        go_meet
                        exact ⟨rfl, HS.out.1.keep hb3, HS.out.2.keep hb3⟩
                      · go_wp2_with fail
                        with_reducible refine (CQ.out _).mono ?_
                        rintro e w3 ⟨rfl, hb3⟩
                        go_wp2_with fail
                        go_meet
                        exact ⟨rfl, HS.out.1.keep hb3, HS.out.2.keep hb3⟩
                      · go_wp2_with fail
                        go_meet
                        exact ⟨rfl, HS.out⟩
                  clear s0 s1 a0 a1 a2 a3 a4 a5 a6 a7 a8 a9 g0 g1 g2 g3 g4 g5 g6 g7 g8 g9 b0 b1 b2 b3 b4 b5 b6 b7 b8 b9 h0 h1 h2 h3 h4 h5 h6 h7 h8 h9
                  obtain ⟨rfl, HS⟩ := hcut
                  clear hq1 CQ
                  go_wp2_with fail
                  with_reducible refine (CH.out _).mono ?_
                  rintro e w3 ⟨rfl, hb3⟩
                  have HS3 := Lib.hid (And.intro (HS.out.1.keep hb3) (HS.out.2.keep hb3)); clear hb3 HS CH
                  obtain ⟨s0, s1⟩ := HS3.out.1.s.cells
                  obtain ⟨a0, a1, a2, a3, a4, a5, a6, a7, a8, a9, g0, g1, g2, g3, g4, g5, g6, g7, g8, g9⟩ := HS3.out.2.cells
                  obtain ⟨b0, b1, b2, b3, b4, b5, b6, b7, b8, b9, h0, h1, h2, h3, h4, h5, h6, h7, h8, h9⟩ := HS3.out.1.l.cells
                  go_upto_region 27 with fail
                  have HS4 : Hid (LSt w x y noLine (w3.setCell ⟨X, 0, none⟩ (.int .i64 (kdN : Int))) ∧ LineBox (w3.setCell ⟨X, 0, none⟩ (.int .i64 (kdN : Int))) X ⟨kdN, x, y, n, 0, 0, x + n, x + n, 0, 0⟩) := Lib.hid ⟨HS3.out.1.set hX 0 _, blk_set HS3.out.2 0 _⟩
                  obtain ⟨W4, hW4⟩ : ∃ W, w3.setCell ⟨X, 0, none⟩ (.int .i64 (kdN : Int)) = W := ⟨_, rfl⟩
                  rw [hW4] at HS4 ⊢
                  clear hW4 HS3
                  clear s0 s1 a0 a1 a2 a3 a4 a5 a6 a7 a8 a9 g0 g1 g2 g3 g4 g5 g6 g7 g8 g9 b0 b1 b2 b3 b4 b5 b6 b7 b8 b9 h0 h1 h2 h3 h4 h5 h6 h7 h8 h9
                  obtain ⟨s0, s1⟩ := HS4.out.1.s.cells
                  obtain ⟨a0, a1, a2, a3, a4, a5, a6, a7, a8, a9, g0, g1, g2, g3, g4, g5, g6, g7, g8, g9⟩ := HS4.out.2.cells
                  obtain ⟨b0, b1, b2, b3, b4, b5, b6, b7, b8, b9, h0, h1, h2, h3, h4, h5, h6, h7, h8, h9⟩ := HS4.out.1.l.cells
                  have hkbd : n + keyN ≤ T.length := by omega
                  have hxk : (x : Int) + (n : Int) + (keyN : Int) ≤ 1073741824 := by omega
                  have hnk : (n : Int) + (keyN : Int) ≤ 1073741824 := by omega
                  obtain ⟨f0, hf0⟩ : ∃ f0, (if kdN = 3 then n + 1 else n) = f0 := ⟨_, rfl⟩
                  obtain ⟨kf, hkf⟩ : ∃ kf : Int, (if kdN = 4 then (x : Int) + (n : Int) else 0) = kf := ⟨_, rfl⟩
                  obtain ⟨kt, hkt⟩ : ∃ kt : Int, (if kdN = 4 then (x : Int) + (n : Int) + (keyN : Int) else 0) = kt := ⟨_, rfl⟩
                  have HF0 := Lib.hid hf0
                  have HKF := Lib.hid (And.intro hkf hkt)
                  clear hf0 hkf hkt
                  go_upto_if 135 with fail
                  go_cut [14] (fun s14 wx => s14 = .int .i64 (f0 : Int) ∧ W4 = wx)
                  case first =>
                    as_aux_lemma =>
                      rcases hF2 with rfl | rfl | rfl
                      all_goals
                        go_wp2_with fail
                        go_meet
                        exact ⟨int_eq (by have h := HF0.out; simp at h; omega), rfl⟩
                  obtain ⟨rfl, rfl⟩ := hcut
                  go_upto_if 139 with fail
                  go_cut [14] (fun s14 wx => s14 = .int .i64 ((n + F : Nat) : Int) ∧ Hid (LSt w x y noLine wx ∧ LineBox wx X ⟨kdN, x, y, n, kf, kt, x + n, x + n, 0, 0⟩))
                  case first =>
                    as_aux_lemma =>
                      rcases hF2 with rfl | rfl | rfl
                      · go_wp2_with fail
                        go_meet
                        refine ⟨int_eq (by have h := HF0.out; have h2 := HFR.out; simp at h h2; omega), HS4.out.1, ?_⟩
                        have h := HKF.out
                        simp only [Nat.reduceEqDiff, if_false] at h
                        rw [← h.1, ← h.2]; exact HS4.out.2
                      · go_wp2_with fail
                        go_meet
                        refine ⟨int_eq (by have h := HF0.out; have h2 := HFR.out; simp at h h2; omega), (HS4.out.1.set hX 4 _).set hX 5 _, ?_⟩
                        have h := HKF.out
                        simp only [if_true] at h
                        rw [← h.1, ← h.2]; exact blk_set (blk_set HS4.out.2 4 _) 5 _
                      · go_wp2_with fail
                        go_meet
                        refine ⟨int_eq (by have h := HF0.out; have h2 := HFR.out; simp at h h2; omega), HS4.out.1, ?_⟩
                        have h := HKF.out
                        simp only [Nat.reduceEqDiff, if_false] at h
                        rw [← h.1, ← h.2]; exact HS4.out.2
                  clear s0 s1 a0 a1 a2 a3 a4 a5 a6 a7 a8 a9 g0 g1 g2 g3 g4 g5 g6 g7 g8 g9 b0 b1 b2 b3 b4 b5 b6 b7 b8 b9 h0 h1 h2 h3 h4 h5 h6 h7 h8 h9
                  obtain ⟨rfl, HS⟩ := hcut
                  clear HS4
                  obtain ⟨B1, B2, B3, B4⟩ := behindL_spec T (n + F) hnF
                  obtain ⟨f2, hf2⟩ : ∃ f2, behindL T (n + F) = f2 := ⟨_, rfl⟩
                  rw [hf2] at B1 B2 B3 B4
                  have HB := Lib.hid (And.intro B3 B4)
                  have CQ2 := Lib.hid (fun w => refEnds_any (T.drop f2) w (by rw [List.length_drop]; omega))
                  have hqd := qdL_le (T.drop f2)
                  rw [List.length_drop] at hqd
                  obtain ⟨q2, hq2⟩ : ∃ q2, qdL (T.drop f2) = q2 := ⟨_, rfl⟩
                  rw [hq2] at CQ2 hqd
                  have hT2 : (bs T).extract f2 T.length = bs (T.drop f2) := bs_from T f2 _ rfl
                  have CC := Lib.hid (fun w => comment_any T (f2 + q2) w hTb (by omega))
                  have hns := noteL_spec T (f2 + q2)
                  obtain ⟨tw, htw⟩ : ∃ tw, noteL T (f2 + q2) = tw := ⟨_, rfl⟩
                  rw [htw] at CC hns
                  rw [show ((f2 + q2 : Nat) : Int) = (f2 : Int) + (q2 : Int) by omega] at CC
                  obtain ⟨n1, n2, _⟩ := hns
                  have hft : f2 ≤ tw := by
                    by_cases hl : tw < T.length
                    · have := (n2 hl).1; omega
                    · omega
                  obtain ⟨M, hM⟩ : ∃ M, (T.take tw).drop f2 = M := ⟨_, rfl⟩
                  have hMl : M.length = tw - f2 := by rw [← hM, List.length_drop, List.length_take]; omega
                  have hMi : ∀ i, i < tw - f2 → M[i]? = T[f2 + i]? := fun i hi => by rw [← hM, List.getElem?_drop, List.getElem?_take, if_pos (by omega)]
                  obtain ⟨z, hz⟩ : ∃ z, trL M = z := ⟨_, rfl⟩
                  have hzl := trL_le M
                  have hza := trL_at M
                  have hze := trL_end M
                  rw [hz] at hzl hza hze
                  obtain ⟨e4, he4⟩ : ∃ e4, f2 + z = e4 := ⟨_, rfl⟩
                  have HE : Hid ((∀ j, e4 ≤ j → j < tw → T[j]? = some 32) ∧ (e4 = f2 ∨ (f2 < e4 ∧ T[e4 - 1]? ≠ some 32))) := Lib.hid ⟨fun j h1 h2 => by
                      have := hza (j - f2) (by omega) (by omega)
                      rw [hMi _ (by omega), show f2 + (j - f2) = j by omega] at this
                      exact this, by
                      by_cases h : z = 0
                      · left; omega
                      · right
                        refine ⟨by omega, ?_⟩
                        have := hze (by omega)
                        rw [hMi _ (by omega), show f2 + (z - 1) = e4 - 1 by omega] at this
                        exact this⟩
                  have he1 : f2 ≤ e4 := by omega
                  have he2 : e4 ≤ tw := by omega
                  obtain ⟨nf, hnf⟩ : ∃ nf : Int, (if tw < T.length then (x : Int) + (tw : Int) else 0) = nf := ⟨_, rfl⟩
                  obtain ⟨nt, hnt⟩ : ∃ nt : Int, (if tw < T.length then (y : Int) else 0) = nt := ⟨_, rfl⟩
                  have HRT : Hid (restR T (n + F) ⟨kdN, x, y, n, kf, kt, x + n, x + n, 0, 0⟩ = ⟨kdN, x, y, n, kf, kt, x + f2, x + e4, nf, nt⟩) := Lib.hid (by
                    unfold restR
                    rw [hf2, hq2, htw]
                    unfold restAt
                    rw [hM, hz, ← hnf, ← hnt]
                    simp only [LineR.mk.injEq, true_and, and_true]
                    omega)
                  have HNF := Lib.hid (And.intro hnf hnt)
                  have hxf : (x : Int) + (f2 : Int) ≤ 1073741824 := by omega
                  have hxe : (x : Int) + (e4 : Int) ≤ 1073741824 := by omega
                  have hxt : (x : Int) + (tw : Int) ≤ 1073741824 := by omega
                  have hfq : (f2 : Int) + (q2 : Int) ≤ 1073741824 := by omega
                  have hf2i : (f2 : Int) ≤ (T.length : Int) := by omega
                  have hmx : max (e4 : Int) (f2 : Int) = (e4 : Int) := by omega
                  have HMX := Lib.hid hmx
                  clear B3 B4 hf2 hq2 htw n2 hM hMl hMi hz hzl hza hze he4 hnf hnt hmx
                  go_upto_block 4 with fail
                  go_cut [14] (fun s14 wx => s14 = .int .i64 (f2 : Int) ∧ wc = wx)
                  case first =>
                    as_aux_lemma =>
                      go_wp2_with fail
                      go_loop [14] (fun s14 => ∃ k3 : Nat, s14 = .int .i64 k3 ∧ n + F ≤ k3 ∧ k3 ≤ f2) (fun s14 => T.length - (RowKit.intOf s14).toNat)
                      case atStart => exact ⟨n + F, rfl, by omega, B1⟩
                      case round =>
                        obtain ⟨k3, rfl, h31, h32⟩ := hrel
                        by_cases hlt3 : k3 < f2
                        · have hlt3' : k3 < (bs T).size := by omega
                          have hb3 := at_bs T k3 hlt3'
                          rw [HB.out.1 k3 h31 hlt3] at hb3
                          have T3 : ((((bs T)[k3]'hlt3').toNat : Int) == 32) = true := by rw [byte_eq _ 32 32 rfl, ← Option.some.inj hb3]; rfl
                          clear hb3
                          go_wp2_with fail
                          go_round
                          case rel => exact ⟨k3 + 1, by go_num, by omega, by omega⟩
                          case measure => simp [RowKit.intOf]; omega
                        · obtain rfl : f2 = k3 := by omega
                          by_cases hend : f2 < T.length
                          · have hlt3' : f2 < (bs T).size := by omega
                            have hb3 := at_bs T f2 hlt3'
                            have T3 : ((((bs T)[f2]'hlt3').toNat : Int) == 32) = false := by
                              rw [byte_some _ 32 32 rfl, ← hb3]
                              exact beq_eq_false_iff_ne.2 HB.out.2
                            clear hb3
                            go_wp2_with fail
                            go_meet
                            exact ⟨rfl, rfl⟩
                          · have dend : decide (f2 < T.length) = false := decide_eq_false hend
                            go_wp2_with fail
                            go_meet
                            exact ⟨rfl, rfl⟩
                  obtain ⟨rfl, rfl⟩ := hcut
                  go_wp2_with fail
                  with_reducible refine (CQ2.out _).mono ?_
                  rintro e w5 ⟨rfl, hb5⟩
                  have HS5 := Lib.hid (And.intro (HS.out.1.keep hb5) (HS.out.2.keep hb5)); clear hb5 HS CQ2
                  obtain ⟨s0, s1⟩ := HS5.out.1.s.cells
                  obtain ⟨a0, a1, a2, a3, a4, a5, a6, a7, a8, a9, g0, g1, g2, g3, g4, g5, g6, g7, g8, g9⟩ := HS5.out.2.cells
                  obtain ⟨b0, b1, b2, b3, b4, b5, b6, b7, b8, b9, h0, h1, h2, h3, h4, h5, h6, h7, h8, h9⟩ := HS5.out.1.l.cells
                  obtain ⟨BT, hBT⟩ : ∃ B, decide (tw < T.length) = B := ⟨_, rfl⟩
                  go_upto_if 173 with (go_at_call 36; (with_reducible refine (CC.out _).mono ?_); rintro e w' ⟨rfl, rfl⟩)
                  have HBT := Lib.hid hBT
                  clear hBT
                  go_cut [] (fun wx => Hid (LSt w x y noLine wx ∧ LineBox wx X ⟨kdN, x, y, n, kf, kt, x + n, x + n, nf, nt⟩))
                  case first =>
                    as_aux_lemma =>
                      cases BT with
                      | true =>
                        have htw : tw < T.length := of_decide_eq_true HBT.out
                        have h := HNF.out
                        rw [if_pos htw, if_pos htw] at h
                        have HN2 := Lib.hid h
                        clear h htw
                        go_wp2_with fail
                        go_meet
                        rw [← HN2.out.1, ← HN2.out.2]
                        exact ⟨(HS5.out.1.set hX 8 _).set hX 9 _, blk_set (blk_set HS5.out.2 8 _) 9 _⟩
                      | false =>
                        have htw : ¬ tw < T.length := of_decide_eq_false HBT.out
                        have h := HNF.out
                        rw [if_neg htw, if_neg htw] at h
                        have HN2 := Lib.hid h
                        clear h htw
                        go_wp2_with fail
                        go_meet
                        rw [← HN2.out.1, ← HN2.out.2]
                        exact HS5.out
                  clear s0 s1 a0 a1 a2 a3 a4 a5 a6 a7 a8 a9 g0 g1 g2 g3 g4 g5 g6 g7 g8 g9 b0 b1 b2 b3 b4 b5 b6 b7 b8 b9 h0 h1 h2 h3 h4 h5 h6 h7 h8 h9
                  have HS6 := hcut
                  clear HS5 CC
                  obtain ⟨s0, s1⟩ := HS6.out.1.s.cells
                  obtain ⟨a0, a1, a2, a3, a4, a5, a6, a7, a8, a9, g0, g1, g2, g3, g4, g5, g6, g7, g8, g9⟩ := HS6.out.2.cells
                  obtain ⟨b0, b1, b2, b3, b4, b5, b6, b7, b8, b9, h0, h1, h2, h3, h4, h5, h6, h7, h8, h9⟩ := HS6.out.1.l.cells
                  go_upto_block 6 with fail
                  go_cut [15] (fun s15 wx => s15 = .int .i64 (e4 : Int) ∧ wc = wx)
                  case first =>
                    as_aux_lemma =>
                      go_wp2_with fail
                      go_loop [15] (fun s15 => ∃ k4 : Nat, s15 = .int .i64 k4 ∧ e4 ≤ k4 ∧ k4 ≤ tw) (fun s15 => (RowKit.intOf s15).toNat)
                      case atStart => exact ⟨tw, rfl, he2, Nat.le_refl _⟩
                      case round =>
                        obtain ⟨k4, rfl, h41, h42⟩ := hrel
                        by_cases hlt4 : e4 < k4
                        · obtain ⟨j, rfl⟩ : ∃ j, k4 = j + 1 := ⟨k4 - 1, by omega⟩
                          have hj' : j < (bs T).size := by omega
                          have hb4 := at_bs T j hj'
                          rw [HE.out.1 j (by omega) (by omega)] at hb4
                          have T4 : ((((bs T)[j]'hj').toNat : Int) == 32) = true := by rw [byte_eq _ 32 32 rfl, ← Option.some.inj hb4]; rfl
                          have dj : decide (f2 < j + 1) = true := decide_eq_true (by omega)
                          have dj2 : decide ((f2 : Int) < (j : Int) + 1) = true := decide_eq_true (by omega)
                          clear hb4
                          go_wp2_with fail
                          go_round
                          case rel => exact ⟨j, by go_num, by omega, by omega⟩
                          case measure => simp [RowKit.intOf]
                        · obtain rfl : e4 = k4 := by omega
                          rcases HE.out.2 with h5 | ⟨h5, h6⟩
                          · subst h5
                            have dj : decide (e4 < e4) = false := decide_eq_false (Nat.lt_irrefl _)
                            go_wp2_with fail
                            go_meet
                            exact ⟨rfl, rfl⟩
                          · obtain ⟨j, hje⟩ : ∃ j, e4 = j + 1 := ⟨e4 - 1, by omega⟩
                            have hj' : j < (bs T).size := by omega
                            have hb4 := at_bs T j hj'
                            rw [hje, Nat.add_sub_cancel] at h6
                            have T4 : ((((bs T)[j]'hj').toNat : Int) == 32) = false := by
                              rw [byte_some _ 32 32 rfl, ← hb4]
                              exact beq_eq_false_iff_ne.2 h6
                            have hidx : (e4 : Int) - 1 = (j : Int) := by omega
                            have dj : decide (f2 < e4) = true := decide_eq_true h5
                            clear hb4 h6 hje h41 h42 hlt4 h5 he1 he2
                            go_wp2_with fail
                            go_meet
                            exact ⟨rfl, rfl⟩
                  obtain ⟨rfl, rfl⟩ := hcut
                  have hmx := HMX.out
                  go_upto_region 41 with fail
                  have HS7 : Hid (LSt w x y noLine ((wc.setCell ⟨X, 6, none⟩ (.int .i64 ((x : Int) + (f2 : Int)))).setCell ⟨X, 7, none⟩ (.int .i64 ((x : Int) + (e4 : Int)))) ∧ LineBox ((wc.setCell ⟨X, 6, none⟩ (.int .i64 ((x : Int) + (f2 : Int)))).setCell ⟨X, 7, none⟩ (.int .i64 ((x : Int) + (e4 : Int)))) X ⟨kdN, x, y, n, kf, kt, x + f2, x + e4, nf, nt⟩) :=
                    Lib.hid ⟨(HS6.out.1.set hX 6 _).set hX 7 _, blk_set (blk_set HS6.out.2 6 _) 7 _⟩
                  obtain ⟨W7, hW7⟩ : ∃ W, ((wc.setCell ⟨X, 6, none⟩ (.int .i64 ((x : Int) + (f2 : Int)))).setCell ⟨X, 7, none⟩ (.int .i64 ((x : Int) + (e4 : Int)))) = W := ⟨_, rfl⟩
                  rw [hW7] at HS7 ⊢
                  clear hW7 HS6
                  clear s0 s1 a0 a1 a2 a3 a4 a5 a6 a7 a8 a9 g0 g1 g2 g3 g4 g5 g6 g7 g8 g9 b0 b1 b2 b3 b4 b5 b6 b7 b8 b9 h0 h1 h2 h3 h4 h5 h6 h7 h8 h9
                  obtain ⟨s0, s1⟩ := HS7.out.1.s.cells
                  obtain ⟨a0, a1, a2, a3, a4, a5, a6, a7, a8, a9, g0, g1, g2, g3, g4, g5, g6, g7, g8, g9⟩ := HS7.out.2.cells
                  obtain ⟨b0, b1, b2, b3, b4, b5, b6, b7, b8, b9, h0, h1, h2, h3, h4, h5, h6, h7, h8, h9⟩ := HS7.out.1.l.cells
                  go_wp2_with fail
                  go_region
                  obtain ⟨WF, hWF⟩ : ∃ W, (putR W7 (w.heap.size + 1) ⟨kdN, x, y, n, kf, kt, x + f2, x + e4, nf, nt⟩).drew = W := ⟨_, rfl⟩
                  have HF := (LSt.put (r2 := ⟨kdN, x, y, n, kf, kt, x + f2, x + e4, nf, nt⟩) HS7.out.1).drew
                  rw [hWF] at HF
                  have HF2 := Lib.hid HF; clear HF
                  dsimp only [putR, noLine] at hWF
                  rw [hWF]
                  clear hWF
                  clear s0 s1 a0 a1 a2 a3 a4 a5 a6 a7 a8 a9 g0 g1 g2 g3 g4 g5 g6 g7 g8 g9 b0 b1 b2 b3 b4 b5 b6 b7 b8 b9 h0 h1 h2 h3 h4 h5 h6 h7 h8 h9
                  obtain ⟨c0, c1, c2, c3, c4, c5, c6, c7, c8, c9, _⟩ := HF2.out.l.cells
                  go_wp2_with fail
                  refine bodyPost_ret (v := .tuple #[lineV ⟨kdN, x, y, n, kf, kt, x + f2, x + e4, nf, nt⟩, .int .i64 y, .int .i64 0]) ?_ rfl ⟨by rw [← HR1.out, HC.out]; exact lineE_of ((HLR.out _ (by rw [← HKF.out.1, ← HKF.out.2])).trans HRT.out), HF2.out.b⟩
                  simp [results, Tryz.results18, go_sem, lineV, noLine, c0, c1, c2, c3, c4, c5, c6, c7, c8, c9]
theorem refLine_in (l : List UInt8) (x y : Nat) (w : World) (hs : l.length ≤ 1073741824) (hxy : x ≤ y) (hyl : y ≤ l.length) (T : List UInt8) (hTd : (l.drop x).take (y - x) = T) (R : LineR × Int × Int)
    (hR : (if T.contains 10 then (noLine, 0, 1) else if wrL true T < T.length then (noLine, (x : Int) + wrL true T, 2) else lineG x y (spL T) (coreL (T.drop (spL T))) : LineR × Int × Int) = R) :
    Calls Tryz.prog 18 #[.string (bs l), .agg #[.int .i64 x, .int .i64 y]] w fun e w' => e = LineE R ∧ Below w.heap.size w w' := by
  by_cases h1 : T.contains 10 = true
  · exact refLine_in1 l x y w hs hxy hyl T hTd R h1 hR
  have h1 : T.contains 10 = false := by simpa using h1
  by_cases h2 : wrL true T < T.length
  · exact refLine_in2 l x y w hs hxy hyl T hTd R h1 h2 hR
  by_cases h3 : spL T = T.length
  · exact refLine_in3 l x y w hs hxy hyl T hTd R h1 h2 h3 hR
  by_cases h4 : (T.drop (spL T)).head? = some 35
  · exact refLine_in4 l x y w hs hxy hyl T hTd R h1 h2 h3 h4 hR
  by_cases h5 : ((T.drop (spL T)).head? = some 34 ∨ (T.drop (spL T)).head? = some 39) ∧ qdL (T.drop (spL T)) = 0
  · exact refLine_in5 l x y w hs hxy hyl T hTd R h1 h2 h3 h4 h5 hR
  · exact refLine_in6 l x y w hs hxy hyl T hTd R h1 h2 h3 h4 h5 hR
theorem refLine_any (l : List UInt8) (a b : Int) (w : World) (hs : l.length ≤ 1073741824) :
    Calls Tryz.prog 18 #[.string (bs l), .agg #[.int .i64 a, .int .i64 b]] w fun e w' => e = LineE (lineL l a b) ∧ Below w.heap.size w w' := by
  by_cases hout : a < 0 ∨ b < a ∨ (l.length : Int) < b
  · have e : lineL l a b = (noLine, 0, 1) := by unfold lineL; rw [if_pos hout]
    rw [e]
    exact refLine_out l a b w hs hout
  · obtain ⟨x, rfl⟩ : ∃ x : Nat, a = x := ⟨a.toNat, by omega⟩
    obtain ⟨y, rfl⟩ : ∃ y : Nat, b = y := ⟨b.toNat, by omega⟩
    refine refLine_in l x y w hs (by omega) (by omega) ((l.drop x).take (y - x)) rfl (lineL l x y) ?_
    unfold lineL
    rw [if_neg hout]
    simp only [Int.toNat_natCast, show ((y : Int) - (x : Int)).toNat = y - x by omega]
    rfl
end Go.Proofs.YtbbjgdnbekoaeaaGreatDoor
