import Derived.Test.YtfklmopnifkieaaGreatDoorRuG
/-! The walk of RulesFits (the small case's contract as an argument). -/
namespace Go.Proofs.YtfklmopnifkieaaGreatDoor
set_option linter.unusedSimpArgs false
set_option linter.unusedVariables false
open Go.RowKit
open Go.Lib hiding intOf

def plainPt (p : List Stp) : Bool := p.all fun x => x != oneS && x != anyS
theorem plain_is {p : List Stp} (h : plainPt p = true) : ∀ x ∈ p, x ≠ oneS ∧ x ≠ anyS := fun x hx => by
  have := List.all_eq_true.1 h x hx
  rw [Bool.and_eq_true] at this
  exact ⟨bne_iff_ne.1 this.1, bne_iff_ne.1 this.2⟩
theorem mMatch_is {p a : List Stp} (hp : p.length ≤ 200) (ha : a.length ≤ 200) : mMatch p a = fits p a := by unfold mMatch; rw [decide_eq_true hp, decide_eq_true ha]; rfl
set_option maxRecDepth 100000 in
set_option maxHeartbeats 8000000 in
theorem rulesFits_any (va vb vp vq : Value) (a b p q : List Stp) (w : World) (ha : SV w va a) (hb : SV w vb b) (hp : SV w vp p) (hq : SV w vq q) (sa : SmallS a) (sb : SmallS b) (sp : SmallS p) (sq : SmallS q)
    (hsm : Calls Tryz.prog 7 #[] w fun e w' => e = .returned (.bool true) ∧ Below w.heap.size w w') :
    Calls Tryz.prog 6 #[va, vb, vp, vq] w fun e w' => e = .returned (.bool true) ∧ Below w.heap.size w w' := by
  have HSM := Lib.hid hsm
  have HA := Lib.hid ha; have HB := Lib.hid hb; have HP := Lib.hid hp; have HQ := Lib.hid hq
  have CA := Lib.hid (fun w h => short_any va a w h sa)
  have CB := Lib.hid (fun w h => short_any vb b w h sb)
  have CP := Lib.hid (fun w h => short_any vp p w h sp)
  have CQ := Lib.hid (fun w h => short_any vq q w h sq)
  have CM := Lib.hid (fun u v x y w h1 h2 h3 h4 => match_any u v x y w h1 h2 h3 h4)
  have CC := Lib.hid (fun w h1 h2 => compare_any vp va p a w h1 h2 sp.1 sa.1)
  have al := sa.1; have bl := sb.1; have pl := sp.1; have ql := sq.1
  clear hsm sa sb sp sq
  obtain ⟨ap, ac, rfl, hac, ha⟩ := ha
  obtain ⟨bo, bn, rfl, hbc, hb⟩ := hb
  obtain ⟨pp, pc, rfl, hpc, hp⟩ := hp
  obtain ⟨qp, qc, rfl, hqc, hq⟩ := hq
  have HPL := Lib.hid hp
  clear ha hb hp hq
  go_enter Tryz.func6, Tryz.ntmps6
  go_upto_region 2 with (go_at_call 7; (with_reducible refine HSM.out.mono ?_); rintro e w1 ⟨rfl, hb⟩; have HB1 := Lib.hid hb; clear hb)
  go_wp2_with (go_at_call 9; (with_reducible refine (CA.out _ (HA.out.keep HB1.out)).mono ?_); rintro e w2 ⟨⟨ba, rfl, ka⟩, hb⟩; have HB2 := Lib.hid (below_of_new HB1.out hb); have KA := Lib.hid ka; clear hb ka; cases ba)
  · go_ret
    exact ⟨rfl, HB2.out⟩
  with_reducible refine (CB.out _ (HB.out.keep HB2.out)).mono ?_
  rintro e w3 ⟨⟨bb, rfl, kb⟩, hb⟩
  have HB3 := Lib.hid (below_of_new HB2.out hb)
  have KB := Lib.hid kb
  clear hb kb
  cases bb with
  | false =>
    go_wp2_with fail
    go_ret
    exact ⟨rfl, HB3.out⟩
  | true =>
    go_wp2_with (go_at_call 9; (with_reducible refine (CP.out _ (HP.out.keep HB3.out)).mono ?_); rintro e w4 ⟨⟨bp', rfl, kp⟩, hb⟩; have HB4 := Lib.hid (below_of_new HB3.out hb); have KP := Lib.hid kp; clear hb kp; cases bp')
    · go_ret
      exact ⟨rfl, HB4.out⟩
    with_reducible refine (CQ.out _ (HQ.out.keep HB4.out)).mono ?_
    rintro e w5 ⟨⟨bq, rfl, kq⟩, hb⟩
    have HB5 := Lib.hid (below_of_new HB4.out hb)
    have KQ := Lib.hid kq
    clear hb kq
    cases bq with
    | false =>
      go_wp2_with fail
      go_ret
      exact ⟨rfl, HB5.out⟩
    | true =>
      have la := (show ShortP a from by first | exact KA.out rfl | exact KA.out trivial).1
      have lb := (show ShortP b from by first | exact KB.out rfl | exact KB.out trivial).1
      have lp := (show ShortP p from by first | exact KP.out rfl | exact KP.out trivial).1
      have lq := (show ShortP q from by first | exact KQ.out rfl | exact KQ.out trivial).1
      clear KA KB KP KQ
      by_cases h1 : 190 < a.length + b.length
      · have d1 : decide ((190 : Int) < (a.length : Int) + (b.length : Int)) = true := decide_eq_true (by omega)
        have d2 : decide (190 < a.length + b.length) = true := decide_eq_true h1
        have z1 : (190 : Int) < (a.length : Int) + (b.length : Int) := by omega
        clear h1
        go_wp2_with fail
        go_ret
        exact ⟨rfl, HB5.out⟩
      have z1 : ¬ (190 : Int) < (a.length : Int) + (b.length : Int) := by omega
      have d1 : decide ((190 : Int) < (a.length : Int) + (b.length : Int)) = false := decide_eq_false z1
      by_cases h2 : 190 < p.length + q.length
      · have d3 : decide ((190 : Int) < (p.length : Int) + (q.length : Int)) = true := decide_eq_true (by omega)
        have z2 : (190 : Int) < (p.length : Int) + (q.length : Int) := by omega
        clear h1 h2
        go_wp2_with fail
        go_ret
        exact ⟨rfl, HB5.out⟩
      have z2 : ¬ (190 : Int) < (p.length : Int) + (q.length : Int) := by omega
      have d3 : decide ((190 : Int) < (p.length : Int) + (q.length : Int)) = false := decide_eq_false z2
      obtain ⟨m1, hm1⟩ : ∃ m, fits p a = m := ⟨_, rfl⟩
      obtain ⟨m2, hm2⟩ : ∃ m, fits q b = m := ⟨_, rfl⟩
      obtain ⟨P, hP⟩ : ∃ P, plainPt p = P := ⟨_, rfl⟩
      have XM1 : Hid (∀ w, SV w (.slice pp p.length pc) p → SV w (.slice ap a.length ac) a → Calls Tryz.prog 14 #[.slice pp p.length pc, .slice ap a.length ac] w fun e w' => e = .returned (.bool m1) ∧ Below w.heap.size w w') := Lib.hid (fun w h1 h2 => by
        have := CM.out _ _ p a w h1 h2 pl al
        rw [mMatch_is lp la, hm1] at this
        exact this)
      have XM2 : Hid (∀ w, SV w (.slice qp q.length qc) q → SV w (.slice bo b.length bn) b → Calls Tryz.prog 14 #[.slice qp q.length qc, .slice bo b.length bn] w fun e w' => e = .returned (.bool m2) ∧ Below w.heap.size w w') := Lib.hid (fun w h1 h2 => by
        have := CM.out _ _ q b w h1 h2 ql bl
        rw [mMatch_is lq lb, hm2] at this
        exact this)
      have XM3 : Hid (m1 = true → m2 = true → ∀ u v w, SV w u (p ++ q) → SV w v (a ++ b) → Calls Tryz.prog 14 #[u, v] w fun e w' => e = .returned (.bool true) ∧ Below w.heap.size w w') := Lib.hid (fun e1 e2 u v w h1 h2 => by
        have := CM.out u v (p ++ q) (a ++ b) w h1 h2 (by simp; omega) (by simp; omega)
        rw [mMatch_is (by simp; omega) (by simp; omega), fits_app _ p a q b (Nat.le_refl _) (hm1.trans e1) (hm2.trans e2)] at this
        exact this)
      have XM4 : Hid (∀ u w, SV w u [anyS] → SV w (.slice ap a.length ac) a → Calls Tryz.prog 14 #[u, .slice ap a.length ac] w fun e w' => e = .returned (.bool true) ∧ Below w.heap.size w w') := Lib.hid (fun u w h1 h2 => by
        have := CM.out u _ [anyS] a w h1 h2 (by simp) al
        rw [mMatch_is (by simp) la, fits_all] at this
        exact this)
      have XM5 : Hid (m1 = true → ∀ u v w, SV w u (anyS :: p) → SV w v (b ++ a) → Calls Tryz.prog 14 #[u, v] w fun e w' => e = .returned (.bool true) ∧ Below w.heap.size w w') := Lib.hid (fun e1 u v w h1 h2 => by
        have := CM.out u v (anyS :: p) (b ++ a) w h1 h2 (by simp; omega) (by simp; omega)
        rw [mMatch_is (by simp; omega) (by simp; omega), fits_any_less p (b ++ a) b.length (by rw [List.drop_left]; exact fits_any_of p a (hm1.trans e1))] at this
        exact this)
      have XC : Hid (P = true → ∀ w, SV w (.slice pp p.length pc) p → SV w (.slice ap a.length ac) a → Calls Tryz.prog 21 #[.slice pp p.length pc, .slice ap a.length ac] w fun e w' => (∃ r : Int, e = .returned (.int .i64 r) ∧ (r == 0) = m1) ∧ Below w.heap.size w w') := Lib.hid (fun e1 w h1 h2 => by
        have := CC.out w h1 h2
        rw [← fits_plain p a (plain_is (hP.trans e1)), hm1] at this
        exact this)
      have HPd := Lib.hid hP
      clear hm1 hm2 hP CM CC CA CB CP CQ h1 h2
      go_upto_block 0 with fail
      go_cut [11] (fun s11 wx => s11 = .bool P ∧ Hid (Below w.heap.size w wx))
      case first =>
        have HR0 : Hid ((true && plainPt (p.drop 0)) = P) := Lib.hid (by rw [List.drop_zero, Bool.true_and]; exact HPd.out)
        go_wp2_with fail
        go_loopw [11, 12] (fun s11 s12 wr => ∃ (c : Bool) (j : Nat), s11 = .bool c ∧ s12 = .int .i64 j ∧ j ≤ p.length ∧ Hid ((c && plainPt (p.drop j)) = P) ∧ Hid (Below w.heap.size w wr)) (fun _ s12 _ => p.length - (RowKit.intOf s12).toNat)
        case atStart => exact ⟨true, 0, rfl, rfl, by omega, HR0, HB5⟩
        case round =>
          obtain ⟨c, j, rfl, rfl, hj, HC, HBr⟩ := hrel
          by_cases hlt : j < p.length
          · have hlz : (j : Int) < (p.length : Int) := by omega
            obtain ⟨x, hx⟩ : ∃ x, p[j]? = some x := ⟨_, List.getElem?_eq_getElem hlt⟩
            obtain ⟨gx, ox, rfl, cx⟩ := (HPL.out.keep HBr.out).at_ hx
            obtain ⟨c1, hc1⟩ : ∃ c, (x != oneS) = c := ⟨_, rfl⟩
            obtain ⟨c2, hc2⟩ : ∃ c, (x != anyS) = c := ⟨_, rfl⟩
            have e1 : ((bs x).toList != [42]) = c1 := by rw [bne, str_lit]; exact hc1
            have e2 : ((bs x).toList != [42, 42]) = c2 := by rw [bne, str_lit]; exact hc2
            have e1' : ((bs x).toList == [42]) = !c1 := by rw [← e1, bne, Bool.not_not]
            have e2' : ((bs x).toList == [42, 42]) = !c2 := by rw [← e2, bne, Bool.not_not]
            have HC2 : Hid ((c && c1 && c2 && plainPt (p.drop (j + 1))) = P) := Lib.hid (by
              have := HC.out
              unfold plainPt at this ⊢
              rw [drop_cons hx, List.all_cons, hc1, hc2] at this
              rw [← this]
              cases c <;> cases c1 <;> cases c2 <;> rfl)
            clear hx hc1 hc2 HC
            cases c with
            | false =>
              go_wp2_with fail
              go_roundw
              case rel => exact ⟨false, j + 1, rfl, by go_num, by omega, by simpa using HC2, HBr⟩
              case measure => simp [RowKit.intOf]; omega
            | true =>
              cases c1 with
              | false =>
                go_wp2_with fail
                go_roundw
                case rel => exact ⟨false, j + 1, rfl, by go_num, by omega, by simpa using HC2, HBr⟩
                case measure => simp [RowKit.intOf]; omega
              | true =>
                go_wp2_with fail
                go_roundw
                case rel => exact ⟨c2, j + 1, by first | rfl | simp, by go_num, by omega, by simpa using HC2, HBr⟩
                case measure => simp [RowKit.intOf]; omega
          · have hlz : ¬ (j : Int) < (p.length : Int) := by omega
            have HF : Hid (c = P) := Lib.hid (by
              have := HC.out
              rw [List.drop_of_length_le (by omega)] at this
              unfold plainPt at this
              simpa using this)
            go_wp2_with fail
            go_meet
            exact ⟨congrArg Value.bool HF.out, HBr⟩
      case rest =>
        obtain ⟨rfl, HB6⟩ := hcut
        go_upto_region 10 with fail
        go_cut [79] (fun s79 wx => s79 = .bool false ∧ Hid (Below w.heap.size w wx))
        case first =>
          cases P with
          | false =>
            go_wp2_with fail
            go_meet
            exact ⟨rfl, HB6⟩
          | true =>
            have XC1 := Lib.hid (fun w h1 h2 => (show _ → _ from by first | exact (fun x => XC.out rfl w h1 x) | exact (fun x => XC.out trivial w h1 x)) h2)
            go_wp2_with (go_at_call 14; (with_reducible refine (XM1.out _ (HP.out.keep HB6.out) (HA.out.keep HB6.out)).mono ?_); rintro e w7 ⟨rfl, hb⟩; have HB7 := Lib.hid (below_of_new HB6.out hb); clear hb)
            with_reducible refine (XC1.out _ (HP.out.keep HB7.out) (HA.out.keep HB7.out)).mono ?_
            rintro e w8 ⟨⟨r, rfl, hr⟩, hb⟩
            have HB8 := Lib.hid (below_of_new HB7.out hb)
            clear hb
            go_wp2_with fail
            go_meet
            exact ⟨by first | rfl | simp, HB8⟩
        case rest =>
          obtain ⟨rfl, HB8⟩ := hcut
          clear XC HB6 HPd
          go_upto_region 12 with fail
          go_cut [101] (fun s101 wx => s101 = .bool false ∧ Hid (Below w.heap.size w wx))
          case first =>
            cases m1 with
            | false =>
              go_wp2_with (go_at_call 14; (with_reducible refine (XM1.out _ (HP.out.keep HB8.out) (HA.out.keep HB8.out)).mono ?_); rintro e w9 ⟨rfl, hb⟩; have HB9 := Lib.hid (below_of_new HB8.out hb); clear hb)
              go_meet
              exact ⟨by first | rfl | simp, HB9⟩
            | true =>
              go_upto_region 12 with fail
              go_wp2_with (go_at_call 14; (with_reducible refine (XM1.out _ (HP.out.keep HB8.out) (HA.out.keep HB8.out)).mono ?_); rintro e w9 ⟨rfl, hb⟩; have HB9 := Lib.hid (below_of_new HB8.out hb); clear hb)
              cases m2 with
              | false =>
                with_reducible refine (XM2.out _ (HQ.out.keep HB9.out) (HB.out.keep HB9.out)).mono ?_
                rintro e w10 ⟨rfl, hb⟩
                have HB10 := Lib.hid (below_of_new HB9.out hb)
                clear hb
                go_wp2_with fail
                go_meet
                exact ⟨by first | rfl | simp, HB10⟩
              | true =>
                have XM3' : Hid (∀ u v w, SV w u (p ++ q) → SV w v (a ++ b) → Calls Tryz.prog 14 #[u, v] w fun e w' => e = .returned (.bool true) ∧ Below w.heap.size w w') := Lib.hid (by first | exact XM3.out rfl rfl | exact XM3.out trivial rfl | exact XM3.out rfl trivial | exact XM3.out trivial trivial)
                with_reducible refine (XM2.out _ (HQ.out.keep HB9.out) (HB.out.keep HB9.out)).mono ?_
                rintro e w10 ⟨rfl, hb⟩
                have HB10 := Lib.hid (below_of_new HB9.out hb)
                clear hb
                have HBa := Lib.hid (below_of_new HB10.out (below_alloc1 w10 (.cells #[] 9)))
                have hza : w10.heap.size ≤ (w10.alloc (.cells #[] 9)).heap.size := by simp
                go_wp2_with (first
                  | (at_builtin; refine wpList_step fun K hK => ?_; rw [if_pos (by rfl)]; refine wp_texts (.tmp 89) (.tmp 90) rfl w10.heap.size (w10.alloc (.cells #[] 9)) (.slice (some ⟨w10.heap.size, 0, none⟩) 0 0) [] p rfl (OwnsS.new w10 [] #[] rfl (by decide)) (.slice pp p.length pc) rfl (HP.out.keep HBa.out) (by simp; omega) hza ?_; intro u1 w11 o1 hb1; have HO1 := Lib.hid o1; have HB11 := Lib.hid (HBa.out.trans (hb1.mono HB10.out.size)); have hz11 : w10.heap.size ≤ w11.heap.size := (by have := hb1.size; omega); clear o1 hb1 hza; refine hK _ _ ?_)
                  | (at_builtin; refine wpList_step fun K hK => ?_; rw [if_pos (by rfl)]; refine wp_texts (.tmp 91) (.tmp 92) rfl w10.heap.size w11 u1 ([] ++ p) q rfl HO1.out (.slice qp q.length qc) rfl (HQ.out.keep HB11.out) (by simp; omega) hz11 ?_; intro u2 w12 o2 hb2; have HO2 := Lib.hid o2.toSV; have HB12 := Lib.hid (HB11.out.trans (hb2.mono HB10.out.size)); clear o2 hb2 hz11 HO1 HBa; have HBb := Lib.hid (below_of_new HB12.out (below_alloc1 w12 (.cells #[] 9))); have hzb : w12.heap.size ≤ (w12.alloc (.cells #[] 9)).heap.size := (by simp); have hba := below_alloc1 w12 (.cells #[] 9); refine hK _ _ ?_)
                  | (at_builtin; refine wpList_step fun K hK => ?_; rw [if_pos (by rfl)]; refine wp_texts (.tmp 94) (.tmp 95) rfl w12.heap.size (w12.alloc (.cells #[] 9)) (.slice (some ⟨w12.heap.size, 0, none⟩) 0 0) [] a rfl (OwnsS.new w12 [] #[] rfl (by decide)) (.slice ap a.length ac) rfl (HA.out.keep HBb.out) (by simp; omega) hzb ?_; intro u3 w13 o3 hb3; have HO3 := Lib.hid o3; have hba2 := hba.trans hb3; have HB13 := Lib.hid (below_of_new HB12.out hba2); have hz13 : w12.heap.size ≤ w13.heap.size := hba2.size; clear o3 hb3 hzb hba; refine hK _ _ ?_)
                  | (at_builtin; refine wpList_step fun K hK => ?_; rw [if_pos (by rfl)]; refine wp_texts (.tmp 96) (.tmp 97) rfl w12.heap.size w13 u3 ([] ++ a) b rfl HO3.out (.slice bo b.length bn) rfl (HB.out.keep HB13.out) (by simp; omega) hz13 ?_; intro u4 w14 o4 hb4; have hba3 := hba2.trans hb4; have HO4 := Lib.hid o4.toSV; have HO2' := Lib.hid (HO2.out.keep hba3); have HB14 := Lib.hid (below_of_new HB12.out hba3); clear o4 hb4 hba2 hba3 hz13 HO3 HBb; refine hK _ _ ?_))
                with_reducible refine (XM3'.out _ _ _ HO2'.out HO4.out).mono ?_
                rintro e w15 ⟨rfl, hb⟩
                have HB15 := Lib.hid (below_of_new HB14.out hb)
                clear hb
                go_wp2_with fail
                go_meet
                exact ⟨by first | rfl | simp, HB15⟩
          case rest =>
            obtain ⟨rfl, HB9⟩ := hcut
            clear HB8 XM2 XM3
            rename_i w9
            have HBa := Lib.hid (below_of_new HB9.out (below_alloc1 wc (.cells #[.string ⟨#[42, 42]⟩] 9)))
            have hza : wc.heap.size ≤ (wc.alloc (.cells #[.string ⟨#[42, 42]⟩] 9)).heap.size := by simp
            have ho0 : OwnsS wc.heap.size [anyS] (.slice (some ⟨wc.heap.size, 0, none⟩) 1 1) (wc.alloc (.cells #[.string ⟨#[42, 42]⟩] 9)) := OwnsS.new wc [anyS] #[.string ⟨#[42, 42]⟩] rfl (by decide)
            go_wp2_with (at_builtin; go_must (refine wpList_texts (by rfl) (.tmp 102) (.tmp 103) rfl wc.heap.size (wc.alloc (.cells #[.string ⟨#[42, 42]⟩] 9)) (.slice (some ⟨wc.heap.size, 0, none⟩) 1 1) [anyS] p rfl ho0 (.slice pp p.length pc) rfl (HP.out.keep HBa.out) (by simp; omega) hza ?_); intro u1 w11 o1 hb1)
            have HO1 := Lib.hid o1.toSV
            have HB10 := Lib.hid (HBa.out.trans (hb1.mono HB9.out.size))
            clear o1 hb1 hza ho0
            have hb2 := below_alloc1 w11 (.cells #[.string ⟨#[42, 42]⟩] 9)
            have HB11 := Lib.hid (below_of_new HB10.out hb2)
            have HO1a := Lib.hid (HO1.out.keep hb2)
            have hsv : SV (w11.alloc (.cells #[.string ⟨#[42, 42]⟩] 9)) (.slice (some ⟨w11.heap.size, 0, none⟩) 1 1) [anyS] := OwnsS.toSV (OwnsS.new w11 [anyS] #[.string ⟨#[42, 42]⟩] rfl (by decide))
            with_reducible refine (XM4.out _ _ hsv (HA.out.keep HB11.out)).mono ?_
            rintro e w12 ⟨rfl, hb⟩
            have HB12 := Lib.hid (below_of_new HB11.out hb)
            have HO2 := Lib.hid (HO1a.out.keep hb)
            clear hb hb2 hsv
            cases m1 with
            | false =>
              go_wp2_with (go_at_call 14; (with_reducible refine (XM1.out _ (HP.out.keep HB12.out) (HA.out.keep HB12.out)).mono ?_); rintro e w13 ⟨rfl, hb⟩; have HB13 := Lib.hid (below_of_new HB12.out hb); have HO3 := Lib.hid (HO2.out.keep hb); clear hb)
              go_ret
              exact ⟨rfl, HB13.out⟩
            | true =>
              have XM5' : Hid (∀ u v w, SV w u (anyS :: p) → SV w v (b ++ a) → Calls Tryz.prog 14 #[u, v] w fun e w' => e = .returned (.bool true) ∧ Below w.heap.size w w') := Lib.hid (by first | exact XM5.out rfl | exact XM5.out trivial)
              go_wp2_with (first
                | (go_at_call 14; (with_reducible refine (XM1.out _ (HP.out.keep HB12.out) (HA.out.keep HB12.out)).mono ?_); rintro e w13 ⟨rfl, hb⟩; have HB13 := Lib.hid (below_of_new HB12.out hb); have HO3 := Lib.hid (HO2.out.keep hb); clear hb; have HBb := Lib.hid (below_of_new HB13.out (below_alloc1 w13 (.cells #[] 9))); have hzb : w13.heap.size ≤ (w13.alloc (.cells #[] 9)).heap.size := (by simp); have hba := below_alloc1 w13 (.cells #[] 9))
                | (at_builtin; refine wpList_step fun K hK => ?_; rw [if_pos (by rfl)]; refine wp_texts (.tmp 118) (.tmp 119) rfl w13.heap.size (w13.alloc (.cells #[] 9)) (.slice (some ⟨w13.heap.size, 0, none⟩) 0 0) [] b rfl (OwnsS.new w13 [] #[] rfl (by decide)) (.slice bo b.length bn) rfl (HB.out.keep HBb.out) (by simp; omega) hzb ?_; intro u3 w14 o3 hb3; have HO4 := Lib.hid o3; have hba2 := hba.trans hb3; have HB14 := Lib.hid (below_of_new HB13.out hba2); have hz14 : w13.heap.size ≤ w14.heap.size := hba2.size; clear o3 hb3 hzb hba; refine hK _ _ ?_)
                | (at_builtin; refine wpList_step fun K hK => ?_; rw [if_pos (by rfl)]; refine wp_texts (.tmp 120) (.tmp 121) rfl w13.heap.size w14 u3 ([] ++ b) a rfl HO4.out (.slice ap a.length ac) rfl (HA.out.keep HB14.out) (by simp; omega) hz14 ?_; intro u4 w15 o4 hb4; have hba3 := hba2.trans hb4; have HO5 := Lib.hid o4.toSV; have HO6 := Lib.hid (HO3.out.keep hba3); have HB15 := Lib.hid (below_of_new HB13.out hba3); clear o4 hb4 hba2 hba3 hz14 HO4 HBb; refine hK _ _ ?_))
              with_reducible refine (XM5'.out _ _ _ HO6.out HO5.out).mono ?_
              rintro e w16 ⟨rfl, hb⟩
              have HB16 := Lib.hid (below_of_new HB15.out hb)
              clear hb
              go_wp2_with fail
              go_ret
              exact ⟨rfl, HB16.out⟩
end Go.Proofs.YtfklmopnifkieaaGreatDoor
