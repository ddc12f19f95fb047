import Derived.Test.YtbbjgdnbekoaeaaDoorLexS
/-! The walk of the law LexWhole. -/
namespace Go.Proofs.YtbbjgdnbekoaeaaDoor
set_option linter.unusedSimpArgs false
set_option linter.unusedVariables false
open Go.RowKit
open Go.Lib hiding intOf

set_option maxRecDepth 100000 in
set_option maxHeartbeats 4000000 in
theorem lexWhole_any (s : ByteArray) (w : World) (hs : s.size ≤ 140737488351232) (hV : SVar w) (hT : Tabs w) :
    Calls Tryd.prog 3 #[.string s] w fun e w' => e = .returned (.bool true) ∧ Below w.heap.size w w' := by
  have C0 := Lib.hid (fun w hV hT => lsmall_any w hV hT)
  obtain ⟨l, rfl⟩ : ∃ l, s = bs l := ⟨s.data.toList, (bs_of s).symm⟩
  have sl := bs_size l
  obtain ⟨R, hR⟩ : ∃ R, toksL l = R := ⟨_, rfl⟩
  have CT := Lib.hid (fun w hV hT => tokens_at l R hR w (by omega) hV hT)
  have hc := toks_cases l
  have hlen := toks_len l
  rw [hR] at hc hlen
  clear hR
  obtain ⟨ts, n, er⟩ := R
  simp only [] at hc hlen
  have HV := Lib.hid hV; have HT := Lib.hid hT; clear hV hT
  go_enter Tryd.func3, Tryd.ntmps3
  go_wp2_with fail
  with_reducible refine (C0.out _ HV.out HT.out).mono ?_
  rintro e w1 ⟨rfl, hb⟩
  have HB1 := Lib.hid hb; clear hb
  go_wp2_with fail
  with_reducible refine (CT.out _ (HV.out.keep HB1.out) (HT.out.keep HB1.out)).mono ?_
  rintro e w2 ⟨v, rfl, hv, hb⟩
  dsimp only at hv ⊢
  have HB2 := Lib.hid (below_of_new HB1.out hb); clear hb HB1 HV HT C0 CT
  rcases hc with ⟨he, hch, hnb⟩ | ⟨he, rfl, h0, h1⟩
  · obtain ⟨rfl, rfl⟩ := Prod.mk.inj he
    clear he
    rcases hv with ⟨rfl, rfl⟩ | ⟨g, c, rfl, hg, ha⟩
    · have hz : l.length = 0 := hch.symm
      obtain rfl : l = [] := List.length_eq_zero_iff.1 hz
      clear hz hch hnb
      go_wp2_with fail
      refine wp_loop_rounds 1 ?_
      rw [rounds_succ]
      go_wp2_with fail
      go_ret
      exact ⟨rfl, HB2.out⟩
    · have HC := Lib.hid hch
      have HN := Lib.hid hnb
      have HA := Lib.hid ha
      clear hch hnb ha
      go_wp2_with fail
      go_loop [7, 8] (fun s7 s8 => ∃ (p k : Nat), s7 = .int .i64 p ∧ s8 = .int .i64 k ∧ k ≤ ts.length ∧ p ≤ l.length ∧ Hid (Chain (ts.drop k) p l.length)) (fun _ s8 => ts.length - (RowKit.intOf s8).toNat)
      case atStart => exact ⟨0, 0, rfl, rfl, by omega, by omega, by rw [List.drop_zero]; exact HC⟩
      case round =>
        obtain ⟨p, k, rfl, rfl, hk, hp, HD⟩ := hrel
        by_cases hlt : k < ts.length
        · obtain ⟨t, ht⟩ : ∃ t, ts[k]? = some t := ⟨_, List.getElem?_eq_getElem hlt⟩
          obtain ⟨q1, q2, q3, q4, q5, q6⟩ := Chain.at_ k p t HC.out HD.out ht
          obtain ⟨c0, c1, c2⟩ := HA.out k t ht
          have HD2 := Lib.hid q6
          have hst := q3
          obtain ⟨kd, hkd⟩ : ∃ kd : Int, (t.kind : Int) = kd := ⟨_, rfl⟩
          obtain ⟨a, hae⟩ : ∃ a : Int, (t.sf : Int) = a := ⟨_, rfl⟩
          obtain ⟨b, hbe⟩ : ∃ b : Int, (t.st : Int) = b := ⟨_, rfl⟩
          have hpa : (p : Int) = a := by omega
          rw [hkd] at c0
          rw [hae] at c1
          rw [hbe] at c2
          rw [hpa]
          have d0 : (a != a) = false := by simp
          have d1 : decide (b ≤ a) = false := decide_eq_false (by omega)
          have d2 : decide ((l.length : Int) < b) = false := decide_eq_false (by omega)
          have d3 : decide (kd < 1) = false := decide_eq_false (by omega)
          have d4 : decide (12 < kd) = false := decide_eq_false (by omega)
          cases k with
          | zero =>
            clear q1 q2 q3 q4 q5 q6 HD
            simp only [Nat.zero_mul, Nat.zero_add] at c0 c1 c2
            go_wp2_with fail
            go_round
            case rel => exact ⟨t.st, 1, by rw [hbe], by go_num, by omega, hst, HD2.out⟩
            case measure => simp [RowKit.intOf]; omega
          | succ j =>
            obtain ⟨u, hu⟩ : ∃ u, ts[j]? = some u := ⟨_, List.getElem?_eq_getElem (by omega)⟩
            have hnn := NoBB.at_ j u t HN.out hu ht
            obtain ⟨e0, _, _⟩ := HA.out j u hu
            obtain ⟨ku, hku⟩ : ∃ ku : Int, (u.kind : Int) = ku := ⟨_, rfl⟩
            rw [hku] at e0
            by_cases hk1 : kd = 1
            · have tu : (ku == 1) = false := beq_eq_false_iff_ne.2 (fun e => hnn ⟨by omega, by omega⟩)
              have tk : (kd == 1) = true := beq_iff_eq.2 hk1
              clear q1 q2 q3 q4 q5 q6 HD hnn hk1
              go_wp2_with fail
              go_round
              case rel => exact ⟨t.st, j + 1 + 1, by rw [hbe], by go_num, by omega, hst, HD2.out⟩
              case measure => simp [RowKit.intOf]; omega
            · have tk : (kd == 1) = false := beq_eq_false_iff_ne.2 hk1
              clear q1 q2 q3 q4 q5 q6 HD hnn hk1
              go_wp2_with fail
              go_round
              case rel => exact ⟨t.st, j + 1 + 1, by rw [hbe], by go_num, by omega, hst, HD2.out⟩
              case measure => simp [RowKit.intOf]; omega
        · have hke : k = ts.length := by omega
          have hpl : p = l.length := by
            have := HD.out
            rw [List.drop_of_length_le (by omega)] at this
            exact this
          have tp : ((p : Int) == (l.length : Int)) = true := beq_iff_eq.2 (by omega)
          have tp2 : ((l.length : Int) == (p : Int)) = true := beq_iff_eq.2 (by omega)
          have HP := Lib.hid (And.intro hke hpl)
          clear hke hpl
          go_wp2_with fail
          go_ret
          exact ⟨rfl, HB2.out⟩
  · have te : (er != 0) = true := bne_iff_ne.2 he
    clear he
    rcases hv with ⟨_, rfl⟩ | ⟨g, c, rfl, _, _⟩
    all_goals
      go_wp2_with fail
      go_ret
      exact ⟨rfl, HB2.out⟩
end Go.Proofs.YtbbjgdnbekoaeaaDoor
