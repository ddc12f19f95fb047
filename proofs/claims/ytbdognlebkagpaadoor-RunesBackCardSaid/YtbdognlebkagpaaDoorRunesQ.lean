import Derived.Test.YtbdognlebkagpaaDoorRunesP
namespace Go.Proofs.YtbdognlebkagpaaDoor
open Go.RowKit
open Go.Lib hiding intOf

/-! The walk of RunesBack. -/
theorem atRes_no (s : ByteArray) (line col x : Int) (h : atRes s line col = (x, false)) : x = 0 := by
  unfold atRes at h
  by_cases hbad : line < 1 ∨ ((linesOf s).length : Int) < line ∨ col < 1
  · rw [if_pos hbad] at h; injection h with h1 _; exact h1.symm
  · rw [if_neg hbad] at h
    cases hc : (linesOf s)[line.toNat - 1]? with
    | none => rw [hc] at h; injection h with h1 _; exact h1.symm
    | some y => rw [hc] at h; exact seek_no s _ _ _ x h

set_option maxHeartbeats 4000000 in
set_option maxRecDepth 100000 in
theorem runesBack_walk (s : ByteArray) (line col : Int) (w : World) (hT : Tabs w) :
    Calls Tryd.prog 6 #[.string s, .int .i64 line, .int .i64 col] w fun e w' => e = .returned (.bool true) ∧ Below w.heap.size w w' := by
  by_cases hbig : 1024 < s.size
  · have hbz : (1024 : Int) < (s.size : Int) := by omega
    go_enter Tryd.func6, Tryd.ntmps6
    go_wp2_with fail
    refine (small_any _ hT).mono ?_
    rintro e w1 ⟨rfl, hb1⟩
    go_wp2_with fail
    go_ret
    exact ⟨rfl, hb1⟩
  · have hs : s.size ≤ 4294967000 := by omega
    have hbz : ¬ (1024 : Int) < (s.size : Int) := by omega
    have c4 := fun (w : World) => at_any s line col w hs
    obtain ⟨x, ok, hx⟩ : ∃ x ok, atRes s line col = (x, ok) := ⟨_, _, rfl⟩
    rw [hx] at c4
    have C4 := Lib.hid c4; have HX := Lib.hid hx; clear c4 hx
    go_enter Tryd.func6, Tryd.ntmps6
    go_wp2_with fail
    refine (small_any _ hT).mono ?_
    rintro e w1 ⟨rfl, hb1⟩
    have HB1 := Lib.hid hb1
    clear hb1
    go_wp2_with fail
    go_loopw [8] (fun a wr => ∃ p : Nat, p ≤ s.size ∧ a = .int .i64 p ∧ Hid (Aligned s p) ∧ Hid (Below w.heap.size w wr)) (fun a _ => s.size + 1 - (RowKit.intOf a).toNat)
    case atStart => exact ⟨0, by omega, rfl, Aligned.zero s, HB1.out⟩
    case round =>
      obtain ⟨p, hp, rfl, HA, HW⟩ := hrel
      have hTr := hT.keep HW.out
      have cp := place_at s p wr hp hs hTr
      have hnl := lineNo_le s p
      have ca := fun (w : World) => at_any s ((lineNo s p : Int) + 1) (colOf s p) w hs
      rw [at_place s p hp HA.out] at ca
      have CP := Lib.hid cp; have CA := Lib.hid ca; clear cp ca
      generalize lineNo s p = N at *
      generalize colOf s p = K at *
      go_wp2_with fail
      refine CP.out.mono ?_
      rintro e w2 ⟨rfl, hb2⟩
      have HB2 := Lib.hid (below_of_new HW.out hb2)
      have hT2 := hTr.keep hb2
      clear hb2
      go_wp2_with fail
      refine (CA.out _).mono ?_
      rintro e w3 ⟨rfl, hb3⟩
      have HB3 := Lib.hid (below_of_new HB2.out hb3)
      have hT3 := hT2.keep hb3
      clear hb3
      by_cases hlt : p < s.size
      · have hw := widN_bd s p hlt
        have HN := Lib.hid (HA.out.next hlt)
        have CN := Lib.hid (next_at s p w3 hlt hT3)
        generalize widN s p = k at *
        have hk0 : ((k : Int) == 0) = false := beq_eq_false_iff_ne.2 (by omega)
        go_wp2_with fail
        refine CN.out.mono ?_
        rintro e w4 ⟨rfl, hb4⟩
        have HB4 := Lib.hid (below_of_new HB3.out hb4)
        clear hb4
        go_wp2_with fail
        go_roundw
        case rel => exact ⟨p + k, by omega, by go_num, HN.out, HB4.out⟩
        case measure => simp [RowKit.intOf]; omega
      · obtain rfl : p = s.size := by omega
        have CN := Lib.hid (next_out s (s.size : Int) w3 (.inr (by omega)))
        go_wp2_with fail
        refine CN.out.mono ?_
        rintro e w4 ⟨rfl, rfl⟩
        go_wp2_with fail
        refine (C4.out _).mono ?_
        rintro e w5 ⟨rfl, hb5⟩
        have HB5 := Lib.hid (below_of_new HB3.out hb5)
        have hT5 := hT3.keep hb5
        clear hb5
        cases ok with
        | false =>
          obtain rfl := atRes_no s line col x HX.out
          go_wp2_with fail
          go_ret
          exact ⟨rfl, HB5.out⟩
        | true =>
          obtain ⟨q, rfl, hq, hl1, hl2, hor⟩ := place_at_back s line col x HX.out
          have cq := place_at s q w5 hq hs hT5
          have hnq := lineNo_le s q
          generalize lineNo s q = M at *
          generalize colOf s q = J at *
          have CQ := Lib.hid cq; clear cq
          rcases hor with ⟨h1, h2⟩ | ⟨h1, h2⟩
          · have e1 : ((M : Int) + 1 == line) = true := beq_iff_eq.2 h1
            have e2 : ((J : Int) == col) = true := beq_iff_eq.2 h2
            have e3 : ((M : Int) + 1 == line + 1) = false := beq_eq_false_iff_ne.2 (by omega)
            have e3' : ((M : Int) == line) = false := beq_eq_false_iff_ne.2 (by omega)
            clear h1 h2
            go_wp2_with fail
            refine CQ.out.mono ?_
            rintro e w6 ⟨rfl, hb6⟩
            have HB6 := Lib.hid (below_of_new HB5.out hb6)
            clear hb6
            go_wp2_with fail
            go_ret
            exact ⟨rfl, HB6.out⟩
          · have e1 : ((M : Int) + 1 == line) = false := beq_eq_false_iff_ne.2 (by omega)
            have e2 : ((J : Int) == 1) = true := beq_iff_eq.2 (by omega)
            have e3 : ((M : Int) + 1 == line + 1) = true := beq_iff_eq.2 h1
            have e3' : ((M : Int) == line) = true := beq_iff_eq.2 (by omega)
            clear h1 h2
            go_wp2_with fail
            refine CQ.out.mono ?_
            rintro e w6 ⟨rfl, hb6⟩
            have HB6 := Lib.hid (below_of_new HB5.out hb6)
            clear hb6
            go_wp2_with fail
            go_ret
            exact ⟨rfl, HB6.out⟩
end Go.Proofs.YtbdognlebkagpaaDoor
