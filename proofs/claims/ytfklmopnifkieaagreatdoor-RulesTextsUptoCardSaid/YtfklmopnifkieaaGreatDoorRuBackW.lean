import Derived.Test.YtfklmopnifkieaaGreatDoorRuV
import Derived.Test.YtfklmopnifkieaaGreatDoorRuTellsW
/-! The walk of the law RulesBack. Printed by gen_back.py. -/
namespace Go.Proofs.YtfklmopnifkieaaGreatDoor
set_option linter.unusedSimpArgs false
set_option linter.unusedVariables false
open Go.RowKit
open Go.Lib hiding intOf

theorem few_pr {l : List Rul} (h : FewP l) (hr : rightR l = true) : (prR l).length ≤ 67108864 := by
  unfold rightR at hr
  rw [Bool.and_eq_true, decide_eq_true_iff] at hr
  have key : ∀ (n : Nat) (l : List Rul), l.length ≤ n → (∀ x ∈ l, rightX x = true ∧ (∀ y ∈ x.1, y.length ≤ 1024) ∧ x.2.length ≤ 1024) → (prR l).length ≤ n * 800000 := by
    intro n
    induction n with
    | zero =>
      intro l hl _
      obtain rfl : l = [] := List.eq_nil_of_length_eq_zero (by omega)
      decide
    | succ n ih =>
      intro l hl hx
      cases l with
      | nil => simp [prR]
      | cons x l =>
        have i := ih l (by simpa using hl) (fun y hy => hx y (List.mem_cons_of_mem _ hy))
        obtain ⟨h1, h2, h3⟩ := hx x List.mem_cons_self
        unfold rightX at h1
        rw [Bool.and_eq_true] at h1
        have hp := h1.2
        have h64 : x.1.length ≤ 64 := by unfold pathOk at hp; rw [Bool.and_eq_true, decide_eq_true_iff] at hp; exact hp.1
        have ht := short_text x.1 64 h64 h2
        have q1 := quoteL_len6 (textP x.1)
        have q2 := quoteL_len6 x.2
        rw [prR_cons, List.length_append, List.length_cons]
        unfold lineR
        rw [text_ok hp]
        simp only [List.length_append, List.length_cons, List.length_nil]
        omega
  have := key 32 l hr.1 (fun x hx => ⟨List.all_eq_true.1 hr.2 x hx, (h.2 x hx).1.2, (h.2 x hx).2⟩)
  omega
theorem line_parts {x : Rul} (h : rightX x = true) : (textP x.1).length + x.2.length ≤ (lineR x).length := by
  unfold rightX at h
  rw [Bool.and_eq_true] at h
  have hv : validD (textP x.1) = true := by
    have hp := h.2
    unfold pathOk at hp
    rw [Bool.and_eq_true] at hp
    exact textP_valid x.1 hp.2
  have key : ∀ t : List UInt8, validD t = true → t.length ≤ (quoteL t).1.length := by
    intro t ht
    unfold quoteL
    rw [if_pos ht]
    have := (qBs_len t).1
    simp only [List.length_cons, List.length_append, List.length_nil]
    omega
  have k1 := key _ hv
  have k2 := key _ h.1
  unfold lineR
  rw [text_ok h.2]
  simp only [List.length_append, List.length_cons, List.length_nil]
  omega
theorem print_rb {l : List Rul} (h : rightR l = true) (hs : (prR l).length ≤ 67108864) : RB l := by
  have hl := prR_len l
  refine ⟨by omega, fun x hx => ?_⟩
  unfold rightR at h
  rw [Bool.and_eq_true] at h
  have h1 := line_parts (List.all_eq_true.1 h.2 x hx)
  have h2 : ∀ (l : List Rul), x ∈ l → (lineR x).length ≤ (prR l).length := by
    intro l
    induction l with
    | nil => intro h; cases h
    | cons y l ih =>
      intro h
      rw [prR_cons, List.length_append, List.length_cons]
      rcases List.mem_cons.1 h with rfl | h
      · omega
      · have := ih h; omega
  have h3 := h2 l hx
  unfold PB
  omega
set_option maxRecDepth 100000 in
set_option maxHeartbeats 8000000 in
theorem rulesBack_any (v : Value) (l : List Rul) (s : List UInt8) (w : World) (hv : RV w v l) (sl : SmallR l) (hs : s.length ≤ 1073741824) (hV : RuV w) :
    Calls Tryz.prog 5 #[v, .string (bs s)] w fun e w' => e = .returned (.bool true) ∧ Below w.heap.size w w' := by
  have HV := Lib.hid hV
  have HR := Lib.hid hv
  have zs := bs_size s
  have C0 := Lib.hid (rsmall_any w hV)
  have C1 : Hid (∀ w', Below w.heap.size w w' → Calls Tryz.prog 8 #[v] w' fun e w2 => FewE l e ∧ Below w'.heap.size w' w2) := Lib.hid (fun w' hb => few_any v l w' (hv.keep hb) sl)
  obtain ⟨vp, vc, rfl, hvc, hvl⟩ := hv
  clear hV hvl sl
  go_enter Tryz.func5, Tryz.ntmps5
  go_wp2_with fail
  with_reducible refine C0.out.mono ?_
  rintro e w1 ⟨rfl, hb1⟩
  have HB1 := Lib.hid hb1
  clear hb1
  go_wp2_with fail
  with_reducible refine (C1.out _ HB1.out).mono ?_
  rintro e w2 ⟨⟨b1, rfl, hf1⟩, hb2⟩
  have HB2 := Lib.hid (below_of_new HB1.out hb2)
  have HF1 := Lib.hid hf1
  clear hb2 hf1
  cases b1 with
  | false =>
    go_wp2_with fail
    go_ret
    exact ⟨rfl, HB2.out⟩
  | true =>
    have hf : FewP l := by first | exact HF1.out rfl | exact HF1.out trivial
    have hlen : l.length ≤ 60 := hf.1
    by_cases hbig : 4096 < s.length
    · have g1 : decide ((4096 : Int) < (s.length : Int)) = true := decide_eq_true (by omega)
      have g2 : decide (4096 < s.length) = true := decide_eq_true hbig
      clear hf HF1 hbig
      go_wp2_with fail
      go_ret
      exact ⟨rfl, HB2.out⟩
    · have g1 : decide ((4096 : Int) < (s.length : Int)) = false := decide_eq_false (by omega)
      have g2 : decide (4096 < s.length) = false := decide_eq_false hbig
      have hrb := Lib.hid hf.rb
      have hpl := Lib.hid (fun h => few_pr hf h)
      have CPr : Hid (∀ w', Below w.heap.size w w' → Calls Tryz.prog 16 #[.slice vp l.length vc] w' fun e w2 => e = TextE (printR l) ∧ Below w'.heap.size w' w2) := Lib.hid (fun w' hb => rulesPrint_any _ l w' (HR.out.keep hb) hrb.out hpl.out (HV.out.keep hb))
      have CRi : Hid (∀ w', Below w.heap.size w w' → Calls Tryz.prog 12 #[.slice vp l.length vc] w' fun e w2 => e = .returned (.bool (rightR l)) ∧ Below w'.heap.size w' w2) := Lib.hid (fun w' hb => rulesRight_any _ l w' (HR.out.keep hb) hrb.out (HV.out.keep hb).t)
      have hback := fun h => parse_of_print l h
      have hps := print_of_parse s
      have CPs : Hid (∀ w', Below w.heap.size w w' → Calls Tryz.prog 19 #[.string (bs s)] w' (ParseE (parseR s) w')) := Lib.hid (fun w' hb => rulesParse_any s w' (by omega) (HV.out.keep hb))
      obtain ⟨M, hM⟩ : ∃ M, parseR s = M := ⟨_, rfl⟩
      obtain ⟨m, n, f⟩ := M
      rw [hM] at hps CPs
      simp only [] at hps
      have HPs := Lib.hid hps
      have hs6 : s.length ≤ 67108864 := by omega
      clear hM hps hf HF1 hbig
      have hprn : printR l = if rightR l = true then (prR l, 0) else ([], 1) := rfl
      obtain ⟨br, hbr⟩ : ∃ b, rightR l = b := ⟨_, rfl⟩
      rw [hbr] at CRi hprn hback
      have HBR := Lib.hid hbr
      cases br with
      | false =>
        rw [if_neg (by decide)] at hprn
        rw [hprn] at CPr
        clear hprn hback hbr
        go_wp2_with fail
        with_reducible refine (CPr.out _ HB2.out).mono ?_
        rintro e w3 ⟨rfl, hb3⟩
        unfold TextE
        have HB3 := Lib.hid (below_of_new HB2.out hb3)
        clear hb3
        go_wp2_with fail
        with_reducible refine (CRi.out _ HB3.out).mono ?_
        rintro e w4 ⟨rfl, hb4⟩
        have HBx := Lib.hid (below_of_new HB3.out hb4)
        clear hb4
        by_cases hf0 : f = 0
        · subst hf0
          have h0 := HPs.out.1 rfl
          have hprm : prR m = s := by
            have := h0.2.1
            unfold printR at this
            rw [if_pos h0.1] at this
            exact congrArg Prod.fst this
          have hrbm := Lib.hid (print_rb h0.1 (by rw [hprm]; exact hs6))
          have HM := Lib.hid (And.intro h0 hprm)
          have hnm : n = (m.length : Int) := h0.2.2
          subst hnm
          clear h0 hprm
          go_wp2_with fail
          with_reducible refine (CPs.out _ HBx.out).mono ?_
          rintro e w7 ⟨mv, rfl, ho, hb7⟩
          have HB7 := Lib.hid (below_of_new HBx.out hb7)
          have HO7 := Lib.hid ho.toRV
          clear hb7 ho
          obtain ⟨mp, mc, rfl, _⟩ := HO7.out
          have CPm : Hid (Calls Tryz.prog 16 #[.slice mp m.length mc] w7 fun e w2 => e = TextE (s, 0) ∧ Below w7.heap.size w7 w2) := Lib.hid (by
            have := rulesPrint_any _ m w7 HO7.out hrbm.out (fun _ => by rw [HM.out.2]; exact hs6) (HV.out.keep HB7.out)
            rw [HM.out.1.2.1] at this
            exact this)
          have es : ((bs s).toList == (bs s).toList) = true := beq_self_eq_true _
          clear HM
          go_wp2_with fail
          with_reducible refine CPm.out.mono ?_
          rintro e w8 ⟨rfl, hb8⟩
          unfold TextE
          have HB8 := Lib.hid (below_of_new HB7.out hb8)
          clear hb8
          go_wp2_with fail
          go_ret
          exact ⟨rfl, HB8.out⟩
        · have h0 := HPs.out.2 hf0
          obtain ⟨hm0, hn0, hn1⟩ := h0
          have n1 : (f != 0) = true := bne_iff_ne.2 hf0
          have d1 : decide (n ≥ 0) = true := decide_eq_true hn0
          have d2 : decide (0 ≤ n) = true := decide_eq_true hn0
          have d3 : decide (n ≤ 32) = true := decide_eq_true hn1
          subst hm0
          clear hf0
          go_wp2_with fail
          with_reducible refine (CPs.out _ HBx.out).mono ?_
          rintro e w7 ⟨mv, rfl, ho, hb7⟩
          have HB7 := Lib.hid (below_of_new HBx.out hb7)
          obtain ⟨mp, mc, rfl, _⟩ := ho.toRV
          clear hb7 ho
          go_wp2_with fail
          go_ret
          exact ⟨rfl, HB7.out⟩
      | true =>
        rw [if_pos rfl] at hprn
        rw [hprn] at CPr
        have hb0 := hback rfl
        rw [hprn] at hb0
        simp only [] at hb0
        have hpl2 := hpl.out hbr
        obtain ⟨T, hT⟩ : ∃ T, prR l = T := ⟨_, rfl⟩
        rw [hT] at CPr hb0 hpl2
        have CPt : Hid (∀ w', Below w.heap.size w w' → Calls Tryz.prog 19 #[.string (bs T)] w' (ParseE (l, (l.length : Int), 0) w')) := Lib.hid (fun w' hb => by
          have := rulesParse_any T w' hpl2 (HV.out.keep hb)
          rw [hb0] at this
          exact this)
        clear hprn hback hbr hb0 hT
        go_wp2_with fail
        with_reducible refine (CPr.out _ HB2.out).mono ?_
        rintro e w3 ⟨rfl, hb3⟩
        unfold TextE
        have HB3 := Lib.hid (below_of_new HB2.out hb3)
        clear hb3
        go_wp2_with fail
        with_reducible refine (CRi.out _ HB3.out).mono ?_
        rintro e w4 ⟨rfl, hb4⟩
        have HB4 := Lib.hid (below_of_new HB3.out hb4)
        clear hb4
        go_wp2_with fail
        with_reducible refine (CPt.out _ HB4.out).mono ?_
        rintro e w5 ⟨mv, rfl, ho, hb5⟩
        have HB5 := Lib.hid (below_of_new HB4.out hb5)
        have HO5 := Lib.hid ho.toRV
        clear hb5 ho
        obtain ⟨mp, mc, rfl, _⟩ := HO5.out
        have CSa := Lib.hid (rulesSame_yes (.slice vp l.length vc) (.slice mp l.length mc) l w5 (HR.out.keep HB5.out) HO5.out hrb.out)
        go_wp2_with fail
        with_reducible refine CSa.out.mono ?_
        rintro e w6 ⟨rfl, hb6⟩
        have HBx := Lib.hid (below_of_new HB5.out hb6)
        clear hb6
        by_cases hf0 : f = 0
        · subst hf0
          have h0 := HPs.out.1 rfl
          have hprm : prR m = s := by
            have := h0.2.1
            unfold printR at this
            rw [if_pos h0.1] at this
            exact congrArg Prod.fst this
          have hrbm := Lib.hid (print_rb h0.1 (by rw [hprm]; exact hs6))
          have HM := Lib.hid (And.intro h0 hprm)
          have hnm : n = (m.length : Int) := h0.2.2
          subst hnm
          clear h0 hprm
          go_wp2_with fail
          with_reducible refine (CPs.out _ HBx.out).mono ?_
          rintro e w7 ⟨mv, rfl, ho, hb7⟩
          have HB7 := Lib.hid (below_of_new HBx.out hb7)
          have HO7 := Lib.hid ho.toRV
          clear hb7 ho
          obtain ⟨mp, mc, rfl, _⟩ := HO7.out
          have CPm : Hid (Calls Tryz.prog 16 #[.slice mp m.length mc] w7 fun e w2 => e = TextE (s, 0) ∧ Below w7.heap.size w7 w2) := Lib.hid (by
            have := rulesPrint_any _ m w7 HO7.out hrbm.out (fun _ => by rw [HM.out.2]; exact hs6) (HV.out.keep HB7.out)
            rw [HM.out.1.2.1] at this
            exact this)
          have es : ((bs s).toList == (bs s).toList) = true := beq_self_eq_true _
          clear HM
          go_wp2_with fail
          with_reducible refine CPm.out.mono ?_
          rintro e w8 ⟨rfl, hb8⟩
          unfold TextE
          have HB8 := Lib.hid (below_of_new HB7.out hb8)
          clear hb8
          go_wp2_with fail
          go_ret
          exact ⟨rfl, HB8.out⟩
        · have h0 := HPs.out.2 hf0
          obtain ⟨hm0, hn0, hn1⟩ := h0
          have n1 : (f != 0) = true := bne_iff_ne.2 hf0
          have d1 : decide (n ≥ 0) = true := decide_eq_true hn0
          have d2 : decide (0 ≤ n) = true := decide_eq_true hn0
          have d3 : decide (n ≤ 32) = true := decide_eq_true hn1
          subst hm0
          clear hf0
          go_wp2_with fail
          with_reducible refine (CPs.out _ HBx.out).mono ?_
          rintro e w7 ⟨mv, rfl, ho, hb7⟩
          have HB7 := Lib.hid (below_of_new HBx.out hb7)
          obtain ⟨mp, mc, rfl, _⟩ := ho.toRV
          clear hb7 ho
          go_wp2_with fail
          go_ret
          exact ⟨rfl, HB7.out⟩
theorem rulesBack_b (v : Value) (l : List Rul) (s : ByteArray) (w : World) (hv : RV w v l) (sl : SmallR l) (hs : s.size ≤ 1048576) (hV : RuV w) :
    Calls Tryz.prog 5 #[v, .string s] w fun e w' => e = .returned (.bool true) ∧ Below w.heap.size w w' := by
  have h := rulesBack_any v l s.data.toList w hv sl (by have : s.data.toList.length = s.size := rfl; omega) hV
  rw [bs_of] at h
  exact h
end Go.Proofs.YtfklmopnifkieaaGreatDoor
