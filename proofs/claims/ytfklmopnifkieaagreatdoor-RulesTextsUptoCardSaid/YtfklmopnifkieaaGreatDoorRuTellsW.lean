import Derived.Test.YtfklmopnifkieaaGreatDoorRuT
/-! The walk of the law RulesTells. -/
namespace Go.Proofs.YtfklmopnifkieaaGreatDoor
set_option linter.unusedSimpArgs false
set_option linter.unusedVariables false
open Go.RowKit
open Go.Lib hiding intOf

theorem short_text : ∀ (p : List Stp) (n : Nat), p.length ≤ n → (∀ x ∈ p, x.length ≤ 1024) → (textP p).length ≤ n * 2049
  | [], n, _, _ => by simp [textP]
  | s :: p, n, hn, h => by
    obtain ⟨m, rfl⟩ : ∃ m, n = m + 1 := ⟨n - 1, by simp at hn; omega⟩
    have ih := short_text p m (by simpa using hn) (fun x hx => h x (List.mem_cons_of_mem _ hx))
    have h1 := h s List.mem_cons_self
    have h2 := (escS_len s).2
    rw [textP_cons, List.length_cons, List.length_append]
    omega
theorem ShortP.pb {p : List Stp} (h : ShortP p) : PB p := by
  have := short_text p 200 h.1 h.2
  unfold PB; omega
theorem FewP.rb {l : List Rul} (h : FewP l) : RB l := ⟨by have := h.1; omega, fun x hx => ⟨(h.2 x hx).1.pb, by have := (h.2 x hx).2; omega⟩⟩
set_option maxRecDepth 100000 in
set_option maxHeartbeats 4000000 in
theorem rulesTells_any (v pv av : Value) (l : List Rul) (p a : List Stp) (w : World) (hv : RV w v l) (hp : SV w pv p) (ha : SV w av a) (sl : SmallR l) (sp : SmallS p) (sa : SmallS a) (hV : RuV w) :
    Calls Tryz.prog 3 #[v, pv, av] w fun e w' => e = .returned (.bool true) ∧ Below w.heap.size w w' := by
  have HV := Lib.hid hV
  have HR := Lib.hid hv; have HP := Lib.hid hp; have HA := Lib.hid ha
  have C0 := Lib.hid (rsmall_any w hV)
  have C1 : Hid (∀ w', Below w.heap.size w w' → Calls Tryz.prog 8 #[v] w' fun e w2 => FewE l e ∧ Below w'.heap.size w' w2) := Lib.hid (fun w' hb => few_any v l w' (hv.keep hb) sl)
  have C2 : Hid (∀ w', Below w.heap.size w w' → Calls Tryz.prog 9 #[pv] w' fun e w2 => ShortE p e ∧ Below w'.heap.size w' w2) := Lib.hid (fun w' hb => short_any pv p w' (hp.keep hb) sp)
  have C3 : Hid (∀ w', Below w.heap.size w w' → Calls Tryz.prog 9 #[av] w' fun e w2 => ShortE a e ∧ Below w'.heap.size w' w2) := Lib.hid (fun w' hb => short_any av a w' (ha.keep hb) sa)
  obtain ⟨vp, vc, rfl, hvc, hvl⟩ := hv
  obtain ⟨pp, pc, rfl, hpc, hpl⟩ := hp
  obtain ⟨ap, ac, rfl, hac, hal⟩ := ha
  clear hV hvl hpl hal sl sp sa
  go_enter Tryz.func3, Tryz.ntmps3
  go_wp2_with fail
  with_reducible refine C0.out.mono ?_
  rintro e w1 ⟨rfl, hb1⟩
  have HB1 := Lib.hid hb1
  clear hb1
  go_wp2_with fail
  with_reducible refine (C1.out _ HB1.out).mono ?_
  rintro e w2 ⟨⟨b1, rfl, hf1⟩, hb2⟩
  have HB2 := Lib.hid (below_of_new HB1.out hb2)
  have HF1 := Lib.hid hf1
  clear hb2 hf1
  cases b1 with
  | false =>
    go_wp2_with fail
    go_ret
    exact ⟨rfl, HB2.out⟩
  | true =>
    have hf : FewP l := by first | exact HF1.out rfl | exact HF1.out trivial
    have hrb := Lib.hid hf.rb
    clear hf HF1
    go_wp2_with fail
    with_reducible refine (C2.out _ HB2.out).mono ?_
    rintro e w3 ⟨⟨b2, rfl, hf2⟩, hb3⟩
    have HB3 := Lib.hid (below_of_new HB2.out hb3)
    have HF2 := Lib.hid hf2
    clear hb3 hf2
    cases b2 with
    | false =>
      go_wp2_with fail
      go_ret
      exact ⟨rfl, HB3.out⟩
    | true =>
      have hf : ShortP p := by first | exact HF2.out rfl | exact HF2.out trivial
      have hpl : p.length ≤ 1073741824 := by have := hf.1; omega
      clear hf HF2
      go_wp2_with fail
      with_reducible refine (C3.out _ HB3.out).mono ?_
      rintro e w4 ⟨⟨b3, rfl, hf3⟩, hb4⟩
      have HB4 := Lib.hid (below_of_new HB3.out hb4)
      have HF3 := Lib.hid hf3
      clear hb4 hf3
      cases b3 with
      | false =>
        go_wp2_with fail
        go_ret
        exact ⟨rfl, HB4.out⟩
      | true =>
        have hf : ShortP a := by first | exact HF3.out rfl | exact HF3.out trivial
        have hal : a.length ≤ 1073741824 := by have := hf.1; omega
        clear hf HF3
        have F1 : Hid (∀ w', Below w.heap.size w w' → Calls Tryz.prog 10 #[.slice vp l.length vc, .slice ap a.length ac] w' fun e w2 => e = FindE (findR l a) ∧ Below w'.heap.size w' w2) := Lib.hid (fun w' hb => rulesFind_any _ _ l a w' (HR.out.keep hb) (HA.out.keep hb) hrb.out hal)
        have F2 : Hid (∀ w', Below w.heap.size w w' → Calls Tryz.prog 11 #[.slice vp l.length vc, .slice ap a.length ac] w' fun e w2 => e = FindE (findR l a) ∧ Below w'.heap.size w' w2) := Lib.hid (fun w' hb => refFind_any _ _ l a w' (HR.out.keep hb) (HA.out.keep hb) hrb.out hal)
        have R1 : Hid (∀ w', Below w.heap.size w w' → Calls Tryz.prog 12 #[.slice vp l.length vc] w' fun e w2 => e = .returned (.bool (rightR l)) ∧ Below w'.heap.size w' w2) := Lib.hid (fun w' hb => rulesRight_any _ l w' (HR.out.keep hb) hrb.out (HV.out.keep hb).t)
        have R2 : Hid (∀ w', Below w.heap.size w w' → Calls Tryz.prog 13 #[.slice vp l.length vc] w' fun e w2 => e = .returned (.bool (rightR l)) ∧ Below w'.heap.size w' w2) := Lib.hid (fun w' hb => refRight_any _ l w' (HR.out.keep hb) hrb.out)
        have M1 : Hid (∀ w', Below w.heap.size w w' → Calls Tryz.prog 14 #[.slice pp p.length pc, .slice ap a.length ac] w' fun e w2 => e = .returned (.bool (mMatch p a)) ∧ Below w'.heap.size w' w2) := Lib.hid (fun w' hb => match_any _ _ p a w' (HP.out.keep hb) (HA.out.keep hb) hpl hal)
        have M2 : Hid (∀ w', Below w.heap.size w w' → Calls Tryz.prog 15 #[.slice pp p.length pc, .slice ap a.length ac] w' fun e w2 => e = .returned (.bool (mMatch p a)) ∧ Below w'.heap.size w' w2) := Lib.hid (fun w' hb => refMatch_any _ _ p a w' (HP.out.keep hb) (HA.out.keep hb) hpl hal)
        obtain ⟨FR, hFR⟩ : ∃ F, findR l a = F := ⟨_, rfl⟩
        obtain ⟨k, is⟩ := FR
        obtain ⟨br, hbr⟩ : ∃ b, rightR l = b := ⟨_, rfl⟩
        obtain ⟨bm, hbm⟩ : ∃ b, mMatch p a = b := ⟨_, rfl⟩
        rw [hFR] at F1 F2
        rw [hbr] at R1 R2
        rw [hbm] at M1 M2
        have ek : ((bs k).toList == (bs k).toList) = true := beq_self_eq_true _
        have e1 : (br == br) = true := beq_self_eq_true _
        have e2 : (bm == bm) = true := beq_self_eq_true _
        have e3 : (is == is) = true := beq_self_eq_true _
        clear hFR hbr hbm hpl hal
        go_wp2_with fail
        with_reducible refine (F1.out _ HB4.out).mono ?_
        rintro e w5 ⟨rfl, hb5⟩
        unfold FindE
        have HB5 := Lib.hid (below_of_new HB4.out hb5)
        clear hb5
        go_wp2_with fail
        with_reducible refine (F2.out _ HB5.out).mono ?_
        rintro e w6 ⟨rfl, hb6⟩
        unfold FindE
        have HB6 := Lib.hid (below_of_new HB5.out hb6)
        clear hb6
        go_wp2_with fail
        with_reducible refine (R1.out _ HB6.out).mono ?_
        rintro e w7 ⟨rfl, hb7⟩
        have HB7 := Lib.hid (below_of_new HB6.out hb7)
        clear hb7
        go_wp2_with fail
        with_reducible refine (R2.out _ HB7.out).mono ?_
        rintro e w8 ⟨rfl, hb8⟩
        have HB8 := Lib.hid (below_of_new HB7.out hb8)
        clear hb8
        go_wp2_with fail
        with_reducible refine (M1.out _ HB8.out).mono ?_
        rintro e w9 ⟨rfl, hb9⟩
        have HB9 := Lib.hid (below_of_new HB8.out hb9)
        clear hb9
        go_wp2_with fail
        with_reducible refine (M2.out _ HB9.out).mono ?_
        rintro e w10 ⟨rfl, hb10⟩
        have HB10 := Lib.hid (below_of_new HB9.out hb10)
        clear hb10
        go_wp2_with fail
        go_ret
        exact ⟨rfl, HB10.out⟩
end Go.Proofs.YtfklmopnifkieaaGreatDoor
