import Derived.Test.YtfklmopnifkieaaGreatDoorRuW
import Derived.Test.YtfklmopnifkieaaGreatDoorQuoI2
import Derived.Test.YtfklmopnifkieaaGreatDoorQuoI
/-! The walks of scarfref18.line, one, Print, Parse. Printed by gen_refone.py. -/
namespace Go.Proofs.YtfklmopnifkieaaGreatDoor
set_option linter.unusedSimpArgs false
set_option linter.unusedVariables false
open Go.RowKit
open Go.Lib hiding intOf

set_option maxRecDepth 100000 in
set_option maxHeartbeats 4000000 in
theorem refLine_any (pv : Value) (p : List Stp) (k : Stp) (w : World) (hv : SV w pv p) (hp : PB p) (hk : k.length ≤ 536870912) :
    Calls Tryz.prog 32 #[.agg #[pv, .string (bs k)]] w fun e w' => e = .returned (.string (bs (lineR (p, k) ++ [10]))) ∧ Below w.heap.size w w' := by
  have ba := below_alloc1 w (.cells #[pv, .string (bs k)] 38)
  have C1 := refText_any pv p _ (hv.keep ba) hp
  have hpt := hp.text
  have hL : lineR (p, k) = (quoteL (textR p).1).1 ++ [32] ++ (quoteL k).1 := rfl
  obtain ⟨T, hT⟩ : ∃ T, textR p = T := ⟨_, rfl⟩
  obtain ⟨t, te⟩ := T
  rw [hT] at C1 hpt hL
  simp only [] at hpt hL
  have C2 : Hid (∀ w, Calls Tryz.prog 46 #[.string (bs t)] w fun e w' => e = .returned (.tuple #[.string (bs (quoteL t).1), .int .i64 (quoteL t).2]) ∧ Below w.heap.size w w') := Lib.hid (fun w => refQuote_any t w (by omega))
  have C3 : Hid (∀ w, Calls Tryz.prog 46 #[.string (bs k)] w fun e w' => e = .returned (.tuple #[.string (bs (quoteL k).1), .int .i64 (quoteL k).2]) ∧ Below w.heap.size w w') := Lib.hid (fun w => refQuote_any k w (by omega))
  have l1 := quoteL_len6 t
  have l2 := quoteL_len6 k
  obtain ⟨Q1, hQ1⟩ : ∃ Q, quoteL t = Q := ⟨_, rfl⟩
  obtain ⟨q1, e1⟩ := Q1
  obtain ⟨Q2, hQ2⟩ : ∃ Q, quoteL k = Q := ⟨_, rfl⟩
  obtain ⟨q2, e2⟩ := Q2
  rw [hQ1] at C2 l1 hL
  rw [hQ2] at C3 l2 hL
  simp only [] at l1 l2 hL
  have hcat : bs q1 ++ (⟨#[32]⟩ : ByteArray) ++ bs q2 ++ (⟨#[10]⟩ : ByteArray) = bs (lineR (p, k) ++ [10]) := by rw [cat32, cat10, ← hL]
  have s1 := bs_size q1
  have s2 := bs_size q2
  have s3 : (bs q1 ++ (⟨#[32]⟩ : ByteArray)).size = q1.length + 1 := by rw [ByteArray.size_append, s1]; rfl
  have g3 : ¬ 9223372036854775807 < (bs q1 ++ (⟨#[32]⟩ : ByteArray) ++ bs q2).size + (⟨#[10]⟩ : ByteArray).size := by rw [ByteArray.size_append, s3, s2]; show ¬ _ < _ + 1; omega
  have HC1 := Lib.hid C1
  have HL := Lib.hid hcat
  have g1 : ¬ 9223372036854775807 < (bs q1).size + (⟨#[32]⟩ : ByteArray).size := by rw [s1]; show ¬ _ < _ + 1; omega
  have g2 : ¬ 9223372036854775807 < (bs q1 ++ (⟨#[32]⟩ : ByteArray)).size + (bs q2).size := by rw [s3, s2]; omega
  clear C1 hL hT hQ1 hQ2 hcat hp hpt hk s1 s2 s3 l1 l2 hv
  go_enter Tryz.func32, Tryz.ntmps32
  go_wp2_with fail
  refine HC1.out.mono ?_
  rintro e w1 ⟨rfl, hb1⟩
  unfold TextE
  have HB1 := Lib.hid (below_of_new (Below.refl w.heap.size w) (ba.trans (hb1.mono (by simp))))
  have cx1 : w1.cell? ⟨w.heap.size, 1, none⟩ = some (.string (bs k)) := by
    rw [hb1.cell (p := ⟨w.heap.size, 1, none⟩) (by simp)]
    exact cell_new w _ _ 1 _ rfl
  have hcl := Lib.hid (cell_lt cx1)
  clear hb1 ba
  go_wp2_with fail
  with_reducible refine (C2.out _).mono ?_
  rintro e w2 ⟨rfl, hb2⟩
  have HB2 := Lib.hid (below_of_new HB1.out hb2)
  have cx2 : w2.cell? ⟨w.heap.size, 1, none⟩ = some (.string (bs k)) := by
    rw [hb2.cell (p := ⟨w.heap.size, 1, none⟩) hcl.out]; exact cx1
  clear hb2 cx1
  go_wp2_with fail
  with_reducible refine (C3.out _).mono ?_
  rintro e w3 ⟨rfl, hb3⟩
  have HB3 := Lib.hid (below_of_new HB2.out hb3)
  clear hb3 cx2
  go_wp2_with fail
  go_ret
  exact ⟨by rw [← HL.out] <;> rfl, HB3.out⟩
set_option maxRecDepth 100000 in
set_option maxHeartbeats 4000000 in
theorem refOne_any (s : List UInt8) (w : World) (hs : s.length ≤ 67108864) (hV : RuV w) :
    Calls Tryz.prog 33 #[.string (bs s)] w (RuleE (ruleR s) w) := by
  have sl := bs_size s
  have hz := endL_zero s
  have hbd := endL_bd s
  have hr0 : (endL s 0).2 ≠ 0 ∨ (endL s 0).1 = (s.length : Int) → ruleR s = (([], []), false) := fun h => by unfold ruleR; rw [if_pos h]
  have hr1 := ruleR_of s
  obtain ⟨E, hE⟩ : ∃ E, endL s 0 = E := ⟨_, rfl⟩
  obtain ⟨kz, er⟩ := E
  rw [hE] at hz hbd hr0 hr1
  simp only [] at hz hbd hr0
  obtain ⟨k, rfl⟩ : ∃ k : Nat, kz = k := ⟨kz.toNat, by omega⟩
  have CE : Hid (∀ w, RuV w → Calls Tryz.prog 47 #[.string (bs s), .int .i64 0] w fun e w' => e = .returned (.tuple #[.int .i64 (k : Int), .int .i64 er]) ∧ Below w.heap.size w w') := Lib.hid (fun w h => by
    have := refEnd_any s 0 w (by omega)
    rw [hE] at this
    exact this)
  have hB0 := RBox.new w (.slice none 0 0) []
  have ba := below_alloc1 w (.cells #[.slice none 0 0, .string (bs [])] 38)
  have HV := Lib.hid hV
  have hk : k ≤ s.length := by omega
  clear hE hV hbd
  by_cases h1 : er = 0
  · subst h1
    by_cases h2 : k = s.length
    · subst h2
      have HF := Lib.hid (hr0 (.inr rfl))
      clear hr0 hr1 hz
      go_enter Tryz.func33, Tryz.ntmps33
      go_wp2_with fail
      refine (CE.out _ (HV.out.keep ba)).mono ?_
      rintro e w1 ⟨rfl, hb1⟩
      have hB1 := hB0.keep hb1
      have HB1 := Lib.hid (below_of_new (Below.refl w.heap.size w) (ba.trans (hb1.mono (by simp))))
      obtain ⟨c0, c1, f0, f1⟩ := hB1.cells
      clear hb1 ba hB0
      go_wp2_with fail
      have hP := hB1.put (pv2 := .slice none 0 0) (k2 := [])
      have hPB := below_putR (pv := .slice none 0 0) (k := []) HB1.out (Nat.le_refl w.heap.size)
      obtain ⟨WF, hWF⟩ : ∃ W, putR w1 w.heap.size (.slice none 0 0) [] = W := ⟨_, rfl⟩
      rw [hWF] at hP hPB
      have hWF' : (w1.setCell ⟨w.heap.size, 0, none⟩ (.slice none 0 0)).setCell ⟨w.heap.size, 1, none⟩ (.string ⟨#[]⟩) = WF := hWF
      rw [hWF']
      obtain ⟨d0, d1, _⟩ := hP.cells
      clear c0 c1 f0 f1 hWF hWF' hB1
      refine bodyPost_ret (v := .tuple #[.agg #[.slice none 0 0, .string (bs [])], .bool false]) ?_ rfl (by rw [HF.out]; exact ⟨_, rfl, OwnsS.nil _ _, hPB⟩)
      simp [results, Tryz.results33, go_sem, d0, d1]
    · have hr := hr1 k rfl h2
      have hkl : k < s.length := by omega
      have hkz : decide ((s.length : Int) ≤ (k : Int)) = false := decide_eq_false (by omega)
      have hkz2 : decide (s.length ≤ k) = false := decide_eq_false (by omega)
      have u1 := unqL_len (s.take k)
      have u2 := unqL_len (s.drop (k + 1))
      rw [List.length_take] at u1
      rw [List.length_drop] at u2
      have CU1 : Hid (∀ w, RuV w → Calls Tryz.prog 48 #[.string ((bs s).extract 0 k)] w fun e w' => e = ReadE (unqL (s.take k)) ∧ Below w.heap.size w w') := Lib.hid (fun w h => by
        have e : (bs s).extract 0 k = bs (s.take k) := by rw [bs_front, bs_data]
        rw [e]
        exact refUnquote_any _ w (by rw [List.length_take]; omega))
      have CU2 : Hid (∀ w, RuV w → Calls Tryz.prog 48 #[.string ((bs s).extract (k + 1) s.length)] w fun e w' => e = ReadE (unqL (s.drop (k + 1))) ∧ Below w.heap.size w w') := Lib.hid (fun w h => by
        rw [bs_from _ _ _ rfl]
        exact refUnquote_any _ w (by rw [List.length_drop]; omega))
      obtain ⟨U1, hU1⟩ : ∃ U, unqL (s.take k) = U := ⟨_, rfl⟩
      obtain ⟨U2, hU2⟩ : ∃ U, unqL (s.drop (k + 1)) = U := ⟨_, rfl⟩
      obtain ⟨t, n1, e1⟩ := U1
      obtain ⟨key, n2, e2⟩ := U2
      rw [hU1] at CU1 hr u1
      rw [hU2] at CU2 hr u2
      simp only [] at hr u1 u2
      have hpr := parse_right t
      have CP : Hid (∀ w, RuV w → Calls Tryz.prog 49 #[.string (bs t)] w (PathE (parseP t) w)) := Lib.hid (fun w h => refParse_any t w (by omega))
      obtain ⟨P, hP⟩ : ∃ P, parseP t = P := ⟨_, rfl⟩
      obtain ⟨p, bad⟩ := P
      rw [hP] at CP hr hpr
      simp only [] at hr hpr
      have hpb : PB p := by unfold PB; have := hpr.2.2.1; omega
      have hkey : key.length ≤ 536870912 := by omega
      have CL : Hid (∀ w pv, RuV w → SV w pv p → Calls Tryz.prog 32 #[.agg #[pv, .string (bs key)]] w fun e w' => e = .returned (.string (bs (lineR (p, key) ++ [10]))) ∧ Below w.heap.size w w') := Lib.hid (fun w pv h hv => refLine_any pv p key w hv hpb hkey)
      obtain ⟨Z, hZ⟩ : ∃ Z, lineR (p, key) = Z := ⟨_, rfl⟩
      rw [hZ] at CL hr
      have hqz : ((bs (Z ++ [10])).toList == (bs s ++ (⟨#[10]⟩ : ByteArray)).toList) = (Z == s) := by
        rw [cat10, Lib.toList_data, Lib.toList_data, bs_data, bs_data]
        rw [Bool.eq_iff_iff, beq_iff_eq, beq_iff_eq]
        exact ⟨fun h => List.append_cancel_right h, fun h => by rw [h]⟩
      have hss : ¬ 9223372036854775807 < (bs s).size + (⟨#[10]⟩ : ByteArray).size := by rw [bs_size]; show ¬ _ < _ + 1; omega
      have hs1 : ¬ 9223372036854775807 < (bs s).size + 1 := by omega
      have hs2 : ¬ 9223372036854775807 < s.length + 1 := by omega
      have hs3 : ¬ (9223372036854775807 : Int) < (s.length : Int) + 1 := by omega
      have hs4 : ¬ (9223372036854775807 : Int) < ((bs s).size : Int) + 1 := by omega
      obtain ⟨b3, hb3⟩ : ∃ b, (Z == s) = b := ⟨_, rfl⟩
      rw [hb3] at hr
      rw [hb3] at hqz
      have HF := Lib.hid hr
      have he2 : e2 = 0 ∨ e2 = 2 := by
        have := (unq_facts (s.drop (k + 1))).1
        rw [hU2] at this
        by_cases h : e2 = 0
        · exact .inl h
        · exact .inr (this h).2.2.2
      have hbad : bad = 0 ∨ bad = 2 ∨ bad = 3 := by
        have := parse_err t
        rw [hP] at this
        exact this
      clear hr0 hr1 hz h2 u1 u2 hU1 hU2 hpr hP hpb hkey hZ hb3 hr
      go_enter Tryz.func33, Tryz.ntmps33
      go_wp2_with fail
      refine (CE.out _ (HV.out.keep ba)).mono ?_
      rintro e w1 ⟨rfl, hb1⟩
      have hB1 := Lib.hid (hB0.keep hb1)
      have HB1 := Lib.hid (below_of_new (Below.refl w.heap.size w) (ba.trans (hb1.mono (by simp))))
      clear hb1 ba hB0
      go_wp2_with fail
      refine (CU1.out _ (HV.out.keep HB1.out)).mono ?_
      rintro e w2 ⟨rfl, hb2⟩
      unfold ReadE
      have hB2 := Lib.hid (hB1.out.keep hb2)
      have HB2 := Lib.hid (below_of_new HB1.out hb2)
      clear hb2 hB1
      go_wp2_with fail
      refine (CU2.out _ (HV.out.keep HB2.out)).mono ?_
      rintro e w3 ⟨rfl, hb3⟩
      unfold ReadE
      have hB3 := Lib.hid (hB2.out.keep hb3)
      have HB3 := Lib.hid (below_of_new HB2.out hb3)
      clear hb3 hB2
      go_wp2_with fail
      with_reducible refine (CP.out _ (HV.out.keep HB3.out)).mono ?_
      rintro e w4 ⟨pv, rfl, ho, hb4⟩
      have hB4 := hB3.out.keep hb4
      have HB4 := below_of_new HB3.out hb4
      have ho4 : OwnsS w.heap.size p pv w4 := World.ownsRow.mono ho HB3.out.size
      have ba4 := below_alloc1 w4 (.cells #[pv, .string (bs key)] 38)
      have hS : RTwo w w4.heap.size p key pv (w4.alloc (.cells #[pv, .string (bs key)] 38)) := RTwo.of ⟨⟨_, _, hB4.keep ba4⟩, RBox.new w4 pv key, hB4.lt, ho4.keep ba4, HB4.trans (ba4.mono HB4.size)⟩
      clear hb4 hB3 hB4 ho ho4 ba4 HB4
      obtain ⟨ap, al, ac, rfl⟩ : ∃ ap al ac, pv = .slice ap al ac := by
        obtain ⟨q, c, rfl, _⟩ := hS.own
        exact ⟨_, _, _, rfl⟩
      obtain ⟨g0, k0, y0, y1, f0, f1⟩ := hS.free
      go_upto_region 8 with fail
      rcases he2 with rfl | rfl
      · rcases hbad with rfl | rfl | rfl
        · have HF2 : Hid (ruleR s = ((p, key), b3)) := HF
          clear y0 y1 f0 f1
          go_region_held3 (fun w' => RTwo w w4.heap.size p key (.slice ap al ac) w') ((first | exact RTwo.drew (by assumption) | exact RTwo.step (by assumption) (by assumption) | exact RTwo.put (by assumption) | assumption))
            ((go_at_call 32; (with_reducible refine (CL.out _ _ (HV.out.keep (RTwo.bel (by assumption : RTwo w w4.heap.size p key (.slice ap al ac) _))) (RTwo.own (by assumption : RTwo w w4.heap.size p key (.slice ap al ac) _))).mono ?_); rintro e w5 ⟨rfl, hb5⟩; have hn5 : RTwo w w4.heap.size p key (.slice ap al ac) w5 := RTwo.step (by assumption) hb5; obtain ⟨g5, k5, y0, y1, f0, f1⟩ := hn5.free))
          all_goals
            have HG := Lib.hid hn5.putG
            go_wp2_with fail
            obtain ⟨hP, hO, hPB⟩ := HG.out
            obtain ⟨WF, hWF⟩ : ∃ W, putR w5 w.heap.size (.slice ap al ac) key = W := ⟨_, rfl⟩
            rw [hWF] at hP hO hPB
            have hWF' : (w5.setCell ⟨w.heap.size, 0, none⟩ (.slice ap al ac)).setCell ⟨w.heap.size, 1, none⟩ (.string (bs key)) = WF := hWF
            rw [hWF']
            obtain ⟨d0, d1, _⟩ := hP.cells
            clear y0 y1 f0 f1 hWF hWF' HG
            refine bodyPost_ret (v := .tuple #[.agg #[.slice ap al ac, .string (bs key)], .bool b3]) ?_ rfl (by rw [HF2.out]; exact ⟨_, rfl, hO, hPB⟩)
            simp [results, Tryz.results33, go_sem, d0, d1]
        · have HF2 : Hid (ruleR s = ((p, key), false)) := HF
          have HG := Lib.hid hS.putG
          obtain ⟨z0, z1, _⟩ := hS
          clear CL CU1 CU2 CP CE
          go_region
          go_wp2_with fail
          obtain ⟨hP, hO, hPB⟩ := HG.out
          obtain ⟨WF, hWF⟩ : ∃ W, (putR (w4.alloc (.cells #[.slice ap al ac, .string (bs key)] 38)) w.heap.size (.slice ap al ac) key).drew = W := ⟨_, rfl⟩
          have hP' : RBox WF w.heap.size (.slice ap al ac) key := by rw [← hWF]; exact hP
          have hO' : OwnsS w.heap.size p (.slice ap al ac) WF := by rw [← hWF]; exact hO
          have hPB' : Below w.heap.size w WF := by rw [← hWF]; exact hPB.drew
          have hWF' : (((w4.alloc (.cells #[.slice ap al ac, .string (bs key)] 38)).setCell ⟨w.heap.size, 0, none⟩ (.slice ap al ac)).setCell ⟨w.heap.size, 1, none⟩ (.string (bs key))).drew = WF := hWF
          rw [hWF']
          obtain ⟨d0, d1, _⟩ := hP'.cells
          clear y0 y1 f0 f1 z0 z1 hWF hWF' hP hO hPB hP' HG
          refine bodyPost_ret (v := .tuple #[.agg #[.slice ap al ac, .string (bs key)], .bool false]) ?_ rfl (by rw [HF2.out]; exact ⟨_, rfl, hO', hPB'⟩)
          simp [results, Tryz.results33, go_sem, d0, d1]
        · have HF2 : Hid (ruleR s = ((p, key), false)) := HF
          have HG := Lib.hid hS.putG
          obtain ⟨z0, z1, _⟩ := hS
          clear CL CU1 CU2 CP CE
          go_region
          go_wp2_with fail
          obtain ⟨hP, hO, hPB⟩ := HG.out
          obtain ⟨WF, hWF⟩ : ∃ W, (putR (w4.alloc (.cells #[.slice ap al ac, .string (bs key)] 38)) w.heap.size (.slice ap al ac) key).drew = W := ⟨_, rfl⟩
          have hP' : RBox WF w.heap.size (.slice ap al ac) key := by rw [← hWF]; exact hP
          have hO' : OwnsS w.heap.size p (.slice ap al ac) WF := by rw [← hWF]; exact hO
          have hPB' : Below w.heap.size w WF := by rw [← hWF]; exact hPB.drew
          have hWF' : (((w4.alloc (.cells #[.slice ap al ac, .string (bs key)] 38)).setCell ⟨w.heap.size, 0, none⟩ (.slice ap al ac)).setCell ⟨w.heap.size, 1, none⟩ (.string (bs key))).drew = WF := hWF
          rw [hWF']
          obtain ⟨d0, d1, _⟩ := hP'.cells
          clear y0 y1 f0 f1 z0 z1 hWF hWF' hP hO hPB hP' HG
          refine bodyPost_ret (v := .tuple #[.agg #[.slice ap al ac, .string (bs key)], .bool false]) ?_ rfl (by rw [HF2.out]; exact ⟨_, rfl, hO', hPB'⟩)
          simp [results, Tryz.results33, go_sem, d0, d1]
      · have HF2 : Hid (ruleR s = ((p, key), false)) := HF
        have HG := Lib.hid hS.putG
        obtain ⟨z0, z1, _⟩ := hS
        clear CL CU1 CU2 CP CE
        go_region
        go_wp2_with fail
        obtain ⟨hP, hO, hPB⟩ := HG.out
        obtain ⟨WF, hWF⟩ : ∃ W, (putR (w4.alloc (.cells #[.slice ap al ac, .string (bs key)] 38)) w.heap.size (.slice ap al ac) key).drew = W := ⟨_, rfl⟩
        have hP' : RBox WF w.heap.size (.slice ap al ac) key := by rw [← hWF]; exact hP
        have hO' : OwnsS w.heap.size p (.slice ap al ac) WF := by rw [← hWF]; exact hO
        have hPB' : Below w.heap.size w WF := by rw [← hWF]; exact hPB.drew
        have hWF' : (((w4.alloc (.cells #[.slice ap al ac, .string (bs key)] 38)).setCell ⟨w.heap.size, 0, none⟩ (.slice ap al ac)).setCell ⟨w.heap.size, 1, none⟩ (.string (bs key))).drew = WF := hWF
        rw [hWF']
        obtain ⟨d0, d1, _⟩ := hP'.cells
        clear y0 y1 f0 f1 z0 z1 hWF hWF' hP hO hPB hP' HG
        refine bodyPost_ret (v := .tuple #[.agg #[.slice ap al ac, .string (bs key)], .bool false]) ?_ rfl (by rw [HF2.out]; exact ⟨_, rfl, hO', hPB'⟩)
        simp [results, Tryz.results33, go_sem, d0, d1]
  · have he2 : er = 2 := by rcases hz with h | h; exact absurd h h1; exact h
    subst he2
    have HF := Lib.hid (hr0 (.inl (by decide)))
    clear hr0 hr1 hz h1
    go_enter Tryz.func33, Tryz.ntmps33
    go_wp2_with fail
    refine (CE.out _ (HV.out.keep ba)).mono ?_
    rintro e w1 ⟨rfl, hb1⟩
    have hB1 := hB0.keep hb1
    have HB1 := Lib.hid (below_of_new (Below.refl w.heap.size w) (ba.trans (hb1.mono (by simp))))
    obtain ⟨c0, c1, f0, f1⟩ := hB1.cells
    clear hb1 ba hB0
    go_wp2_with fail
    have hP := hB1.put (pv2 := .slice none 0 0) (k2 := [])
    have hPB := below_putR (pv := .slice none 0 0) (k := []) HB1.out (Nat.le_refl w.heap.size)
    obtain ⟨WF, hWF⟩ : ∃ W, putR w1 w.heap.size (.slice none 0 0) [] = W := ⟨_, rfl⟩
    rw [hWF] at hP hPB
    have hWF' : (w1.setCell ⟨w.heap.size, 0, none⟩ (.slice none 0 0)).setCell ⟨w.heap.size, 1, none⟩ (.string ⟨#[]⟩) = WF := hWF
    rw [hWF']
    obtain ⟨d0, d1, _⟩ := hP.cells
    clear c0 c1 f0 f1 hWF hWF' hB1
    refine bodyPost_ret (v := .tuple #[.agg #[.slice none 0 0, .string (bs [])], .bool false]) ?_ rfl (by rw [HF.out]; exact ⟨_, rfl, OwnsS.nil _ _, hPB⟩)
    simp [results, Tryz.results33, go_sem, d0, d1]
set_option maxRecDepth 100000 in
set_option maxHeartbeats 4000000 in
theorem refPrint_any (v : Value) (l : List Rul) (w : World) (hv : RV w v l) (hl : RB l) (hpr : rightR l = true → (prR l).length ≤ 67108864) :
    Calls Tryz.prog 17 #[v] w fun e w' => e = TextE (printR l) ∧ Below w.heap.size w w' := by
  have C := refRight_any v l w hv hl
  have HC := Lib.hid C
  have hlen := hl.1
  clear C
  unfold printR
  cases hr : rightR l with
  | false =>
    rw [hr] at HC
    obtain ⟨pp, c, rfl, hc, hlies⟩ := hv
    clear hlies hr hpr hl
    go_enter Tryz.func17, Tryz.ntmps17
    go_wp2_with fail
    refine HC.out.mono ?_
    rintro e w1 ⟨rfl, hb1⟩
    go_wp2_with fail
    go_ret2
    exact ⟨rfl, hb1⟩
  | true =>
    rw [hr] at HC
    rw [if_pos rfl]
    have hpl := hpr hr
    clear hr hpr
    obtain ⟨pp, c, rfl, hc, hlies⟩ := hv
    have HP := Lib.hid hlies
    have HL := Lib.hid hl
    clear hlies hl
    go_enter Tryz.func17, Tryz.ntmps17
    go_wp2_with fail
    refine HC.out.mono ?_
    rintro e w1 ⟨rfl, hb1⟩
    have HB1 := Lib.hid hb1
    clear hb1
    go_wp2_with fail
    go_loopw [5, 6] (fun s5 s6 wr => ∃ (i : Nat) (o : List UInt8), s6 = .int .i64 i ∧ i ≤ l.length ∧ s5 = .string (bs o) ∧ Hid (o = prR (l.take i)) ∧ Hid (Below w.heap.size w wr)) (fun _ s6 _ => l.length - (RowKit.intOf s6).toNat)
    case atStart => exact ⟨0, [], rfl, by omega, rfl, Lib.hid rfl, HB1⟩
    case round =>
      obtain ⟨i, o, rfl, hi, rfl, HQ, HB⟩ := hrel
      by_cases hlt : i < l.length
      · have hiz : (i : Int) < (l.length : Int) := by omega
        obtain ⟨x, hx⟩ : ∃ x, l[i]? = some x := ⟨_, List.getElem?_eq_getElem hlt⟩
        obtain ⟨gx, ox, pv, rfl, hgx, cx0, cx1, hsv⟩ := (HP.out.keep HB.out).at_ hx
        have hbx := HL.out.2 x (List.mem_of_getElem? hx)
        have hX := prR_take hx
        have hll : o.length + ((lineR x).length + 1) ≤ 67108864 := by
          have h1 := prR_take_le l (i + 1)
          rw [hX] at h1
          simp only [List.length_append, List.length_cons, List.length_nil] at h1
          rw [HQ.out]
          omega
        obtain ⟨xp, xc, rfl, hxc, hxl⟩ := hsv
        have hsv : SV wr (.slice xp x.1.length xc) x.1 := ⟨xp, xc, rfl, hxc, hxl⟩
        have CL := refLine_any (.slice xp x.1.length xc) x.1 x.2 wr hsv hbx.1 hbx.2
        have hq : lineR (x.1, x.2) = lineR x := rfl
        rw [hq] at CL
        have HQ2 : Hid (o ++ (lineR x ++ [10]) = prR (l.take (i + 1))) := Lib.hid (by rw [hX, HQ.out])
        obtain ⟨L, hL⟩ : ∃ L, lineR x ++ [10] = L := ⟨_, rfl⟩
        have hLl : L.length = (lineR x).length + 1 := by rw [← hL]; simp
        rw [hL] at CL HQ2
        have HCL := Lib.hid CL
        have g1 : ¬ 9223372036854775807 < (bs o).size + (bs L).size := by rw [bs_size, bs_size]; omega
        have hcat : bs o ++ bs L = bs (o ++ L) := bs_append _ _
        have HCT := Lib.hid hcat
        clear hx hbx hX hsv hxl hq hL CL hcat hll hLl
        go_wp2_with fail
        refine HCL.out.mono ?_
        rintro e w2 ⟨rfl, b2⟩
        have HB2 := Lib.hid (below_of_new HB.out b2)
        clear b2
        go_wp2_with fail
        go_roundw
        case rel => exact ⟨i + 1, o ++ L, by go_num, by omega, congrArg _ HCT.out, Lib.hid HQ2.out, HB2⟩
        case measure => simp [RowKit.intOf]; omega
      · have hiz : ¬ (i : Int) < (l.length : Int) := by omega
        have HF : Hid (o = prR l) := Lib.hid (by rw [HQ.out, List.take_of_length_le (by omega)])
        go_wp2_with fail
        go_ret2
        exact ⟨by rw [← HF.out]; rfl, HB.out⟩
end Go.Proofs.YtfklmopnifkieaaGreatDoor
