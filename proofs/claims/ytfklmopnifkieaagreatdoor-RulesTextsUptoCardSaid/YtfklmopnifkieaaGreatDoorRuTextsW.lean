import Derived.Test.YtfklmopnifkieaaGreatDoorRuY
import Derived.Test.YtfklmopnifkieaaGreatDoorRuBackW
/-! The walk of the law RulesTexts. -/
namespace Go.Proofs.YtfklmopnifkieaaGreatDoor
set_option linter.unusedSimpArgs false
set_option linter.unusedVariables false
open Go.RowKit
open Go.Lib hiding intOf

/-- A row of rules that a call owns, whatever stands in it. -/
def SpRow (B n : Nat) (v : Value) (w : World) : Prop := ∃ xs, w.ownsRow B 38 2 v n xs
theorem SpRow.cells {B n g cap : Nat} {w : World} (h : SpRow B n (.slice (some ⟨g, 0, none⟩) n cap) w) (j : Nat) (hj : j < n) : (∃ u, w.cell? ⟨g, j * 2 + 1, none⟩ = some u) ∧ w.frozen? ⟨g, j * 2 + 1, none⟩ = false ∧ B ≤ g := by
  obtain ⟨xs, h⟩ := h
  have hl := h.1
  refine ⟨⟨xs[j * 2 + 1]'(by omega), ?_⟩, World.ownsRow.frozenAt h _, (World.ownsRow.lt h g rfl).1⟩
  rw [World.ownsRow.cellAt h _ (by omega), List.getElem?_eq_getElem (by omega)]
theorem SpRow.put {B n g cap : Nat} {w : World} (h : SpRow B n (.slice (some ⟨g, 0, none⟩) n cap) w) (j : Nat) (u : Value) : SpRow B n (.slice (some ⟨g, 0, none⟩) n cap) (w.setCell ⟨g, j * 2 + 1, none⟩ u) := by
  obtain ⟨xs, h⟩ := h
  exact ⟨_, (World.ownsRow.stored h (j * 2 + 1) u).1⟩
set_option maxRecDepth 100000 in
set_option maxHeartbeats 8000000 in
theorem rulesTexts_any (v : Value) (l : List Rul) (s : List UInt8) (w : World) (hv : RV w v l) (sl : SmallR l) (hs : s.length ≤ 1073741824) (hV : RuV w) :
    Calls Tryz.prog 4 #[v, .string (bs s)] w fun e w' => e = .returned (.bool true) ∧ Below w.heap.size w w' := by
  have HV := Lib.hid hV
  have HR := Lib.hid hv
  have zs := bs_size s
  have C0 := Lib.hid (rsmall_any w hV)
  have C1 : Hid (∀ w', Below w.heap.size w w' → Calls Tryz.prog 8 #[v] w' fun e w2 => FewE l e ∧ Below w'.heap.size w' w2) := Lib.hid (fun w' hb => few_any v l w' (hv.keep hb) sl)
  obtain ⟨vp, vc, rfl, hvc, hvl⟩ := hv
  clear hV hvl sl
  go_enter Tryz.func4, Tryz.ntmps4
  go_wp2_with fail
  with_reducible refine C0.out.mono ?_
  rintro e w1 ⟨rfl, hb1⟩
  have HB1 := Lib.hid hb1
  clear hb1
  go_wp2_with fail
  with_reducible refine (C1.out _ HB1.out).mono ?_
  rintro e w2 ⟨⟨b1, rfl, hf1⟩, hb2⟩
  have HB2 := Lib.hid (below_of_new HB1.out hb2)
  have HF1 := Lib.hid hf1
  clear hb2 hf1
  cases b1 with
  | false =>
    go_wp2_with fail
    go_ret
    exact ⟨rfl, HB2.out⟩
  | true =>
    have hf : FewP l := by first | exact HF1.out rfl | exact HF1.out trivial
    by_cases hbig : 4096 < s.length
    · have g1 : decide ((4096 : Int) < (s.length : Int)) = true := decide_eq_true (by omega)
      have g2 : decide (4096 < s.length) = true := decide_eq_true hbig
      clear hf HF1 hbig
      go_wp2_with fail
      go_ret
      exact ⟨rfl, HB2.out⟩
    · have g1 : decide ((4096 : Int) < (s.length : Int)) = false := decide_eq_false (by omega)
      have g2 : decide (4096 < s.length) = false := decide_eq_false hbig
      have hrb := Lib.hid hf.rb
      have hpl := Lib.hid (fun h => few_pr hf h)
      have CP1 : Hid (∀ w', Below w.heap.size w w' → Calls Tryz.prog 16 #[.slice vp l.length vc] w' fun e w2 => e = TextE (printR l) ∧ Below w'.heap.size w' w2) := Lib.hid (fun w' hb => rulesPrint_any _ l w' (HR.out.keep hb) hrb.out hpl.out (HV.out.keep hb))
      have CP2 : Hid (∀ w', Below w.heap.size w w' → Calls Tryz.prog 17 #[.slice vp l.length vc] w' fun e w2 => e = TextE (printR l) ∧ Below w'.heap.size w' w2) := Lib.hid (fun w' hb => refPrint_any _ l w' (HR.out.keep hb) hrb.out hpl.out)
      have hps := print_of_parse s
      have CPs : Hid (∀ w', Below w.heap.size w w' → Calls Tryz.prog 19 #[.string (bs s)] w' (ParseE (parseR s) w')) := Lib.hid (fun w' hb => rulesParse_any s w' (by omega) (HV.out.keep hb))
      have CRs : Hid (∀ w', Below w.heap.size w w' → Calls Tryz.prog 18 #[.string (bs s)] w' (ParseE (parseR s) w')) := Lib.hid (fun w' hb => refRulesParse_any s w' (by omega) (HV.out.keep hb))
      have hmb : RB (parseR s).1 ∧ (parseR s).1.length ≤ 67108864 := by
        by_cases h0 : (parseR s).2.2 = 0
        · have h1 := hps.1 h0
          have hprm : prR (parseR s).1 = s := by
            have := h1.2.1
            unfold printR at this
            rw [if_pos h1.1] at this
            exact congrArg Prod.fst this
          have hl := prR_len (parseR s).1
          rw [hprm] at hl
          exact ⟨print_rb h1.1 (by rw [hprm]; omega), by omega⟩
        · have h1 := (hps.2 h0).1
          rw [h1]
          exact ⟨⟨by decide, fun x hx => by cases hx⟩, by decide⟩
      obtain ⟨M, hM⟩ : ∃ M, parseR s = M := ⟨_, rfl⟩
      obtain ⟨m, n, f⟩ := M
      rw [hM] at CPs CRs hmb
      obtain ⟨hmb, hml⟩ := hmb
      simp only [] at hmb hml
      have HMB := Lib.hid hmb
      obtain ⟨T, hT⟩ : ∃ T, printR l = T := ⟨_, rfl⟩
      obtain ⟨t, er⟩ := T
      rw [hT] at CP1 CP2
      have et : ((bs t).toList == (bs t).toList) = true := beq_self_eq_true _
      have ee : (er == er) = true := beq_self_eq_true _
      have en : (n != n) = false := by rw [bne, beq_self_eq_true]; rfl
      have ef : (f != f) = false := by rw [bne, beq_self_eq_true]; rfl
      clear hM hps hf HF1 hbig hT hmb
      go_wp2_with fail
      with_reducible refine (CP1.out _ HB2.out).mono ?_
      rintro e w3 ⟨rfl, hb3⟩
      unfold TextE
      have HB3 := Lib.hid (below_of_new HB2.out hb3)
      clear hb3
      go_wp2_with fail
      with_reducible refine (CP2.out _ HB3.out).mono ?_
      rintro e w4 ⟨rfl, hb4⟩
      unfold TextE
      have HB4 := Lib.hid (below_of_new HB3.out hb4)
      clear hb4
      go_wp2_with fail
      with_reducible refine (CRs.out _ HB4.out).mono ?_
      rintro e w5 ⟨yv, rfl, ho, hb5⟩
      have HB5 := Lib.hid (below_of_new HB4.out hb5)
      have HY := Lib.hid ho.toRV
      clear hb5 ho
      obtain ⟨yp, yc, rfl, _⟩ := HY.out
      go_wp2_with fail
      go_loopw [14] (fun s14 wr => ∃ i : Nat, s14 = .int .i64 i ∧ i ≤ 2 ∧ Hid (Below w5.heap.size w5 wr)) (fun s14 _ => 2 - (RowKit.intOf s14).toNat)
      case atStart => exact ⟨0, rfl, by omega, Lib.hid (Below.refl _ _)⟩
      case round =>
        obtain ⟨i, rfl, hi, HW⟩ := hrel
        have HBr := Lib.hid (below_of_new HB5.out HW.out)
        by_cases hlt : i < 2
        · have hiz : (i : Int) < 2 := by omega
          obtain ⟨w6, hw6⟩ : ∃ w6, w6 = wr := ⟨_, rfl⟩
          subst hw6
          have HW0 := HW
          go_wp2_with fail
          with_reducible refine (CPs.out _ HBr.out).mono ?_
          rintro e w7 ⟨xv, rfl, ho, hb7⟩
          have HB7 := Lib.hid (below_of_new HBr.out hb7)
          have HBx := Lib.hid hb7
          have HX := Lib.hid ho.toRV
          have HY7 := Lib.hid (HY.out.keep (HW.out.trans (hb7.mono HW.out.size)))
          have HS7 : Hid (SpRow w6.heap.size m.length xv w7) := Lib.hid (by
            obtain ⟨z, h1, h2, _⟩ := ho
            exact ⟨_, h2⟩)
          clear hb7 ho
          obtain ⟨xp, xc, rfl, hxc, hxl⟩ := HX.out
          clear hxl
          have CSa := Lib.hid (rulesSame_yes (.slice xp m.length xc) (.slice yp m.length yc) m w7 HX.out HY7.out HMB.out)
          go_wp2_with fail
          with_reducible refine CSa.out.mono ?_
          rintro e w8 ⟨rfl, hb8⟩
          have HB8 := Lib.hid (below_of_new HBx.out hb8)
          have HS8 : Hid (SpRow w6.heap.size m.length (.slice xp m.length xc) w8) := Lib.hid (by
            obtain ⟨xs, h⟩ := HS7.out
            exact ⟨xs, owns_below h hb8⟩)
          clear hb8 HS7
          have HBz : Hid (Below w5.heap.size w5 w8) := Lib.hid (HW.out.trans (HB8.out.mono HW.out.size))
          go_wp2_with fail
          go_loopw [19] (fun s19 wq => ∃ j : Nat, s19 = .int .i64 j ∧ j ≤ m.length ∧ Hid (SpRow w6.heap.size m.length (.slice xp m.length xc) wq) ∧ Hid (Below w6.heap.size w6 wq)) (fun s19 _ => m.length - (RowKit.intOf s19).toNat)
          case atStart => exact ⟨0, rfl, by omega, HS8, HB8⟩
          case round =>
            obtain ⟨j, rfl, hj, HS, HQ⟩ := hrel
            by_cases hjl : j < m.length
            · have hjz : (j : Int) < (m.length : Int) := by omega
              have hform : ∃ g, xp = some ⟨g, 0, none⟩ := by
                obtain ⟨xs, h⟩ := HS.out
                rcases h.2 with ⟨_, h1⟩ | ⟨g, cap, cur, h1, _⟩
                · omega
                · injection h1 with h1 h2 h3
                  exact ⟨g, h1⟩
              obtain ⟨g, rfl⟩ := hform
              obtain ⟨⟨u, cu⟩, fu, hBg⟩ := HS.out.cells j hjl
              have HS2 := Lib.hid (HS.out.put j (.string ⟨#[115, 112, 111, 105, 108, 116]⟩))
              have HQ2 := Lib.hid (HQ.out.setCell (p := ⟨g, j * 2 + 1, none⟩) hBg (.string ⟨#[115, 112, 111, 105, 108, 116]⟩))
              go_wp2_with fail
              go_roundw
              case rel => exact ⟨j + 1, by go_num, by omega, HS2, HQ2⟩
              case measure => simp [RowKit.intOf]; omega
            · have hjz : ¬ (j : Int) < (m.length : Int) := by omega
              have HW2 : Hid (Below w5.heap.size w5 wr) := Lib.hid (HW.out.trans (HQ.out.mono HW.out.size))
              go_wp2_with fail
              go_roundw
              case rel => exact ⟨i + 1, by go_num, by omega, HW2⟩
              case measure => simp [RowKit.intOf]; omega
        · have hiz : ¬ (i : Int) < 2 := by omega
          go_wp2_with fail
          go_ret
          exact ⟨rfl, HBr.out⟩
theorem rulesTexts_b (v : Value) (l : List Rul) (s : ByteArray) (w : World) (hv : RV w v l) (sl : SmallR l) (hs : s.size ≤ 1048576) (hV : RuV w) :
    Calls Tryz.prog 4 #[v, .string s] w fun e w' => e = .returned (.bool true) ∧ Below w.heap.size w w' := by
  have h := rulesTexts_any v l s.data.toList w hv sl (by have : s.data.toList.length = s.size := rfl; omega) hV
  rw [bs_of] at h
  exact h
end Go.Proofs.YtfklmopnifkieaaGreatDoor
