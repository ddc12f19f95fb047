import Derived.Test.YtfklmopnifkieaaGreatDoorRuX
/-! The walk of scarfref18.Parse. Printed by gen_refparse.py. -/
namespace Go.Proofs.YtfklmopnifkieaaGreatDoor
set_option linter.unusedSimpArgs false
set_option linter.unusedVariables false
open Go.RowKit
open Go.Lib hiding intOf

theorem cut_none {q : List UInt8} (h : ∀ (j : Nat) (c : UInt8), j < q.length → q[j]? = some c → c ≠ 10) : cut q [10] = (q, [], false) := by
  rcases cut_byte q 10 with ⟨_, hc⟩ | ⟨a, r, hsr, _, hc⟩
  · exact hc
  · exact absurd rfl (h a.length 10 (by rw [hsr, List.length_append, List.length_cons]; omega) (by rw [hsr]; simp))
theorem cut_some {q : List UInt8} {k : Nat} (h : ∀ (j : Nat) (c : UInt8), j < k → q[j]? = some c → c ≠ 10) (hk : q[k]? = some 10) : cut q [10] = (q.take k, q.drop (k + 1), true) := by
  have hd : q = q.take k ++ 10 :: q.drop (k + 1) := by rw [← drop_cons hk, List.take_append_drop]
  conv => lhs; rw [hd]
  refine cut_hit _ _ _ (fun x hx => ?_)
  obtain ⟨j, hj, rfl⟩ := List.getElem_of_mem hx
  rw [List.length_take] at hj
  refine h j _ (by omega) ?_
  rw [List.getElem_take, List.getElem?_eq_getElem (by omega)]
set_option maxRecDepth 100000 in
set_option maxHeartbeats 8000000 in
theorem refRulesParse_any (s : List UInt8) (w : World) (hs : s.length ≤ 67108864) (hV : RuV w) :
    Calls Tryz.prog 18 #[.string (bs s)] w (ParseE (parseR s) w) := by
  obtain ⟨R, hR⟩ : ∃ R, parseR s = R := ⟨_, rfl⟩
  rw [hR]
  unfold parseR at hR
  have HR := Lib.hid hR
  have HV := Lib.hid hV
  clear hR hV
  go_enter Tryz.func18, Tryz.ntmps18
  go_wp2_with fail
  go_loopw [0, 5] (fun s0 s5 wr => ∃ (r : List UInt8) (acc : List Rul) (f : Nat), s0 = .string (bs r) ∧ acc.length ≤ 32 ∧ r.length ≤ s.length ∧ r.length < f ∧ Hid (parseGo f acc r = R) ∧ Hid (OwnsR w.heap.size acc s5 wr) ∧ Hid (Below w.heap.size w wr)) (fun s0 _ _ => strN s0)
  case atStart => exact ⟨s, [], s.length + 1, rfl, by simp, Nat.le_refl _, by omega, HR, Lib.hid (OwnsR.nil _ _), Lib.hid (Below.refl _ _)⟩
  case round =>
    obtain ⟨q, acc, f, rfl, hacc, hrs, hrf, HG, HO, HB⟩ := hrel
    obtain ⟨g, rfl⟩ : ∃ g, f = g + 1 := ⟨f - 1, by omega⟩
    obtain ⟨p, c, rfl, hc, _⟩ := HO.out.toRV
    have hg := HG.out
    have sq := bs_size q
    unfold parseGo at hg
    clear HG
    by_cases h0 : q = []
    · rw [if_pos h0] at hg
      subst hg
      subst h0
      go_wp2_with fail
      go_ret3
      exact ⟨_, rfl, HO.out, HB.out⟩
    · rw [if_neg h0] at hg
      have hql : 0 < q.length := List.length_pos_iff.2 h0
      have hqz : (0 : Int) < (q.length : Int) := by omega
      clear h0
      by_cases h32 : acc.length = 32
      · rw [if_pos h32] at hg
        subst hg
        have d1 : ((acc.length : Int) == 32) = true := by rw [beq_iff_eq]; omega
        go_wp2_with fail
        go_ret3
        exact ⟨_, rfl, OwnsR.nil _ _, HB.out⟩
      · rw [if_neg h32] at hg
        have d1 : ((acc.length : Int) == 32) = false := by rw [beq_eq_false_iff_ne]; omega
        have HG := Lib.hid hg
        have ha31 : acc.length ≤ 31 := by omega
        clear hg h32
        have HO0 := HO
        have HB0 := HB
        go_wp2_with fail
        clear d1 hqz
        go_loopw [6] (fun s6 wq => ∃ k : Nat, s6 = .int .i64 k ∧ k ≤ q.length ∧ Hid (∀ (j : Nat) (c : UInt8), j < k → q[j]? = some c → c ≠ 10) ∧ Hid (OwnsR w.heap.size acc (.slice p acc.length c) wq) ∧ Hid (Below w.heap.size w wq)) (fun s6 _ => q.length - (RowKit.intOf s6).toNat)
        case atStart => exact ⟨0, rfl, by omega, Lib.hid (fun j c h => by omega), HO, HB⟩
        case round =>
          obtain ⟨k, rfl, hk, HN, HO, HB⟩ := hrel
          by_cases hkl : k < q.length
          · have hkz : (k : Int) < (q.length : Int) := by omega
            have dk1 : decide ((k : Int) < (q.length : Int)) = true := decide_eq_true hkz
            have dk2 : decide (k < q.length) = true := decide_eq_true hkl
            have hks : k < (bs q).size := by omega
            obtain ⟨c', hc'⟩ : ∃ c', q[k]? = some c' := ⟨_, List.getElem?_eq_getElem hkl⟩
            have hge : (bs q)[k]'hks = c' := by
              have := at_bs q k hks
              rw [hc'] at this
              exact (Option.some.inj this).symm
            have n10 : ((((bs q)[k]'hks).toNat : Int) != 10) = !(c' == 10) := by rw [byte_ne _ 10 10 rfl, hge]
            by_cases e10 : c' = 10
            · subst e10
              rw [show ((10 : UInt8) == 10) = true from rfl, Bool.not_true] at n10
              have hcut := cut_some HN.out hc'
              have hcx : cut q [10] = (q.take k, q.drop (k + 1), true) := hcut
              have dk3 : ((k : Int) == (q.length : Int)) = false := beq_eq_false_iff_ne.2 (by omega)
              clear hge hc' hcut
              have hg := HG.out
              rw [hcx] at hg
              simp only [] at hg
              have CR : Hid (∀ w, RuV w → Calls Tryz.prog 33 #[.string ((bs q).extract 0 k)] w (RuleE (ruleR (q.take k)) w)) := Lib.hid (fun w h => by
                have e : (bs q).extract 0 k = bs (q.take k) := by rw [bs_front, bs_data]
                rw [e]
                exact refOne_any _ w (by rw [List.length_take]; omega) h)
              obtain ⟨X, hX⟩ : ∃ X, ruleR (q.take k) = X := ⟨_, rfl⟩
              obtain ⟨x, is⟩ := X
              rw [hX] at hg CR
              simp only [] at hg
              clear hX hcx HG
              cases is with
              | false =>
                rw [Bool.false_and, if_pos rfl] at hg
                have HF := Lib.hid hg
                clear hg
                go_wp2_with fail
                with_reducible refine (CR.out _ (HV.out.keep HB.out)).mono ?_
                rintro e w2 ⟨pv, rfl, ho, hb2⟩
                have HB2 := Lib.hid (below_of_new HB.out hb2)
                obtain ⟨pp, pc, rfl, _⟩ := ho.toSV
                clear hb2 ho
                go_wp2_with fail
                go_ret3
                rw [← HF.out]
                exact ⟨_, rfl, OwnsR.nil _ _, HB2.out.trans ((below_alloc1 w2 _).mono HB2.out.size)⟩
              | true =>
                rw [Bool.and_self, if_neg (by decide)] at hg
                have HG2 := Lib.hid hg
                have hsl : (bs q).extract (k + 1) q.length = bs (q.drop (k + 1)) := bs_from _ _ _ rfl
                have hbl : (q.drop (k + 1)).length < q.length := by rw [List.length_drop]; omega
                have HSL := Lib.hid (And.intro hsl hbl)
                have hk1 : (k : Int) + 1 ≤ (q.length : Int) := by omega
                have hes : ((bs q).extract (k + 1) q.length).size < (bs q).size := by rw [hsl, bs_size, bs_size]; exact hbl
                have HES := Lib.hid hes
                clear hg hsl hbl hes
                go_wp2_with fail
                with_reducible refine (CR.out _ (HV.out.keep HB.out)).mono ?_
                rintro e w2 ⟨pv, rfl, ho, hb2⟩
                have HO2 := Lib.hid (HO.out.keep hb2)
                have HB2 := Lib.hid (below_of_new HB.out hb2)
                have ho0 : OwnsS 0 x.1 pv w2 := World.ownsRow.mono ho (Nat.zero_le _)
                have ba := below_alloc1 w2 (.cells #[pv, .string (bs x.2)] 38)
                have HP := Lib.hid (ho0.keep ba)
                have HO3 := Lib.hid (HO2.out.keep ba)
                have HB3 := Lib.hid (HB2.out.trans (ba.mono HB2.out.size))
                obtain ⟨pp, pc, rfl, _⟩ := ho0.toSV
                clear hb2 ho ho0 ba
                have hz : w.heap.size ≤ (w2.alloc (.cells #[.slice pp x.1.length pc, .string (bs x.2)] 38)).heap.size := HB3.out.size
                have hsz2 : (w2.alloc (.cells #[.slice pp x.1.length pc, .string (bs x.2)] 38)).heap.size = w2.heap.size + 1 := by simp
                go_wp2_with (at_builtin; go_must (refine wpList_rule (by rfl) (.tmp 44) (.tmp 46) rfl w.heap.size (w2.alloc (.cells #[.slice pp x.1.length pc, .string (bs x.2)] 38)) (.slice p acc.length c) acc x (.slice pp x.1.length pc) rfl HO3.out HP.out (by rw [hsz2]; rfl) (by omega) hz ?_); intro u1 w4 o1 hb4)
                have HO4 := Lib.hid o1
                have HB4 := Lib.hid (HB3.out.trans hb4)
                clear o1 hb4 hz hsz2
                go_roundw
                case rel => exact ⟨q.drop (k + 1), acc ++ [x], g, congrArg _ HSL.out.1, by rw [List.length_append]; simp; omega, by have := HSL.out.2; omega, by have := HSL.out.2; omega, HG2, HO4, HB4⟩
                case measure => exact HES.out
            · rw [beq_eq_false_iff_ne.2 e10, Bool.not_false] at n10
              have HN2 : Hid (∀ (j : Nat) (c : UInt8), j < k + 1 → q[j]? = some c → c ≠ 10) := Lib.hid (fun j d hj hd => by
                by_cases h : j < k
                · exact HN.out j d h hd
                · obtain rfl : j = k := by omega
                  rw [hc'] at hd
                  rw [← Option.some.inj hd]
                  exact e10)
              clear hge hc' e10 HN
              go_wp2_with fail
              go_roundw
              case rel => exact ⟨k + 1, by go_num, by omega, HN2, HO, HB⟩
              case measure => simp [RowKit.intOf]; omega
          · have hkz : ¬ (k : Int) < (q.length : Int) := by omega
            have dk1 : decide ((k : Int) < (q.length : Int)) = false := decide_eq_false hkz
            have dk2 : decide (k < q.length) = false := decide_eq_false hkl
            obtain rfl : k = q.length := by omega
            have hcx : cut q [10] = (q.take q.length, [], false) := by rw [List.take_length]; exact cut_none HN.out
            have hg := HG.out
            rw [hcx] at hg
            simp only [] at hg
            have CR : Hid (∀ w, RuV w → Calls Tryz.prog 33 #[.string ((bs q).extract 0 q.length)] w (RuleE (ruleR (q.take q.length)) w)) := Lib.hid (fun w h => by
              have e : (bs q).extract 0 q.length = bs (q.take q.length) := by rw [bs_front, bs_data]
              rw [e]
              exact refOne_any _ w (by rw [List.length_take]; omega) h)
            obtain ⟨X, hX⟩ : ∃ X, ruleR (q.take q.length) = X := ⟨_, rfl⟩
            obtain ⟨x, is⟩ := X
            rw [hX] at hg CR
            simp only [] at hg
            clear hX hcx HG
            cases is with
            | false =>
              rw [Bool.false_and, if_pos rfl] at hg
              have HF := Lib.hid hg
              clear hg
              go_wp2_with fail
              with_reducible refine (CR.out _ (HV.out.keep HB.out)).mono ?_
              rintro e w2 ⟨pv, rfl, ho, hb2⟩
              have HB2 := Lib.hid (below_of_new HB.out hb2)
              obtain ⟨pp, pc, rfl, _⟩ := ho.toSV
              clear hb2 ho
              go_wp2_with fail
              go_ret3
              rw [← HF.out]
              exact ⟨_, rfl, OwnsR.nil _ _, HB2.out.trans ((below_alloc1 w2 _).mono HB2.out.size)⟩
            | true =>
              rw [Bool.and_false, if_pos rfl] at hg
              have HF := Lib.hid hg
              clear hg
              go_wp2_with fail
              with_reducible refine (CR.out _ (HV.out.keep HB.out)).mono ?_
              rintro e w2 ⟨pv, rfl, ho, hb2⟩
              have HB2 := Lib.hid (below_of_new HB.out hb2)
              obtain ⟨pp, pc, rfl, _⟩ := ho.toSV
              clear hb2 ho
              go_wp2_with fail
              go_ret3
              rw [← HF.out]
              exact ⟨_, rfl, OwnsR.nil _ _, HB2.out.trans ((below_alloc1 w2 _).mono HB2.out.size)⟩
end Go.Proofs.YtfklmopnifkieaaGreatDoor
