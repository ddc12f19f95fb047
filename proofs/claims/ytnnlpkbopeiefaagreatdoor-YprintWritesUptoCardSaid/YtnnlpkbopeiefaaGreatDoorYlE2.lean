import Derived.Test.YtnnlpkbopeiefaaGreatDoorYlA
import Derived.Test.YtnnlpkbopeiefaaGreatDoorYlC2
import Derived.Test.YtnnlpkbopeiefaaGreatDoorApp
/-! The walk of scarfref10.Quoted: it returns sqw. -/
namespace Go.Proofs.YtnnlpkbopeiefaaGreatDoor
set_option linter.unusedSimpArgs false
set_option linter.unusedVariables false
open Go.RowKit
open Go.Lib hiding intOf
theorem dbl_snoc (l : List UInt8) (k : Nat) (h : k < l.length) : dbl (l.take (k + 1)) = dbl (l.take k) ++ (if l[k]'h = 39 then [39, 39] else [l[k]'h]) := by
  rw [List.take_succ_eq_append_getElem h, dbl_append]
  simp [dbl]
set_option maxRecDepth 100000 in
set_option maxHeartbeats 2000000 in
theorem refQuoted_any (l : List UInt8) (w : World) (hs : l.length ≤ 268435456) :
    Calls Tryz.prog 115 #[.string (bs l)] w fun e w' => e = QuotedE (sqw l) ∧ Below w.heap.size w w' := by
  have sl := bs_size l
  have CW := Lib.hid (fun w => refWrong_any l false w (by omega))
  obtain ⟨R, hR⟩ : ∃ R, sqw l = R := ⟨_, rfl⟩
  rw [hR]
  unfold sqw at hR
  obtain ⟨W, hW⟩ : ∃ W, wrL false l = W := ⟨_, rfl⟩
  rw [hW] at CW hR
  clear hW
  by_cases hw : W < l.length
  · rw [if_pos hw] at hR
    subst hR
    have dw : decide (W < l.length) = true := decide_eq_true hw
    go_enter Tryz.func115, Tryz.ntmps115
    go_wp2_with fail
    with_reducible refine (CW.out _).mono ?_
    rintro e w' ⟨rfl, rfl⟩
    go_wp2_with fail
    go_ret2
    exact ⟨rfl, Below.refl _ _⟩
  · rw [if_neg hw] at hR
    have dw : decide (W < l.length) = false := decide_eq_false hw
    have HR := Lib.hid hR
    clear hR hw
    go_enter Tryz.func115, Tryz.ntmps115
    go_wp2_with fail
    with_reducible refine (CW.out _).mono ?_
    rintro e w' ⟨rfl, rfl⟩
    go_wp2_with fail
    go_loopw [4, 5] (fun s4 s5 wr => ∃ (k : Nat) (o : List UInt8), s5 = .int .i64 k ∧ k ≤ l.length ∧ o.length ≤ 2 * k + 1 ∧ Hid (o = 39 :: dbl (l.take k)) ∧ Hid (OwnB w.heap.size wr s4 o) ∧ Hid (Below w.heap.size w wr) ∧ w.heap.size ≤ wr.heap.size) (fun _ s5 _ => l.length - (RowKit.intOf s5).toNat)
    case atStart => exact ⟨0, [39], rfl, by omega, by simp, rfl, OwnB.new w [39] (by simp), below_alloc1 _ _, by simp⟩
    case round =>
      obtain ⟨k, o, rfl, hk, hol, HQ, HO, HW, hz⟩ := hrel
      by_cases hlt : k < l.length
      · have hlt' : k < (bs l).size := by omega
        have hge : (bs l)[k]'hlt' = l[k]'hlt := by
          have := at_bs l k hlt'
          rw [List.getElem?_eq_getElem hlt] at this
          exact (Option.some.inj this).symm
        have hsn := dbl_snoc l k hlt
        rw [← hge] at hsn
        obtain ⟨c, hc⟩ : ∃ c, (bs l)[k]'hlt' = c := ⟨_, rfl⟩
        rw [hc] at hsn
        obtain ⟨n, hn⟩ : ∃ n : Int, (c.toNat : Int) = n := ⟨_, rfl⟩
        have hge3 : (((bs l)[k]'hlt').toNat : Int) = n := by rw [hc, hn]
        have HSN := Lib.hid hsn
        clear hge hc hsn
        by_cases h39 : n = 39
        · have t39 : (n == 39) = true := beq_iff_eq.2 h39
          have hc39 : c = 39 := UInt8.toNat_inj.1 (by show c.toNat = 39; omega)
          have HS2 : Hid (o ++ [39] ++ [c] = 39 :: dbl (l.take (k + 1))) := by
            rw [HSN.out, if_pos hc39, HQ.out, hc39]
            exact Lib.hid (by simp)
          clear hc39
          subst h39
          go_wp2_with (first | (at_builtin; (refine wpList_bytes rfl (.tmp 22) (.tmp 23) rfl w.heap.size wr u4 o [39] rfl HO.out _ rfl rfl (by simp; omega) hz ?_); intro v1 w1 hown1 hbel1; have hz1 := Nat.le_trans hz hbel1.size) | (at_builtin; (refine wpList_bytes rfl (.tmp 25) (.tmp 29) rfl w.heap.size w1 v1 (o ++ [39]) [c] rfl hown1 _ rfl (by unfold byteCells; simp [hn]) (by simp; omega) hz1 ?_); intro v2 w2 hown2 hbel2))
          go_roundw
          case rel => exact ⟨k + 1, o ++ [39] ++ [c], by go_num, by omega, by simp; omega, HS2.out, hown2, (HW.out.trans hbel1).trans hbel2, Nat.le_trans hz1 hbel2.size⟩
          case measure => simp [RowKit.intOf]; omega
        · have t39 : (n == 39) = false := beq_eq_false_iff_ne.2 h39
          have hc39 : ¬ c = 39 := fun e => h39 (by rw [← hn, e]; rfl)
          have HS2 : Hid (o ++ [c] = 39 :: dbl (l.take (k + 1))) := by
            rw [HSN.out, if_neg hc39, HQ.out]
            exact Lib.hid (by simp)
          clear hc39 h39
          go_wp2_with (at_builtin; go_must (refine wpList_bytes rfl _ _ rfl w.heap.size wr u4 o [c] rfl HO.out _ rfl (by unfold byteCells; simp [hn]) (by simp; omega) hz ?_); intro v1 w1 hown1 hbel1)
          go_roundw
          case rel => exact ⟨k + 1, o ++ [c], by go_num, by omega, by simp; omega, HS2.out, hown1, HW.out.trans hbel1, Nat.le_trans hz hbel1.size⟩
          case measure => simp [RowKit.intOf]; omega
      · have HF : Hid (R = (o ++ [39], 0)) := by
          have h1 := HQ.out
          rw [show k = l.length by omega, List.take_length] at h1
          rw [← HR.out, h1]
          exact Lib.hid rfl
        go_wp2_with (first | (at_builtin; go_must (refine wpList_bytes rfl _ _ rfl w.heap.size wr u4 o [39] rfl HO.out _ rfl rfl (by simp; omega) hz ?_); intro v1 w1 hown1 hbel1; have hcv := run_text hown1))
        go_ret2
        exact ⟨by rw [HF.out]; rfl, HW.out.trans hbel1⟩
end Go.Proofs.YtnnlpkbopeiefaaGreatDoor
