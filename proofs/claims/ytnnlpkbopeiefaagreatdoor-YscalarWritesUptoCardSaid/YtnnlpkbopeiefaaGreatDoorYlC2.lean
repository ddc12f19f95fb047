import Derived.Test.YtnnlpkbopeiefaaGreatDoorYlA
import Derived.Test.YtnnlpkbopeiefaaGreatDoorRnB
import Derived.Test.YtnnlpkbopeiefaaGreatDoorApp
/-! The walk of scarfref10.wrong. -/
namespace Go.Proofs.YtnnlpkbopeiefaaGreatDoor
set_option linter.unusedSimpArgs false
set_option linter.unusedVariables false
open Go.RowKit
open Go.Lib hiding intOf
theorem Wr.good {del : Bool} {l : List UInt8} {p W : Nat} (h : Wr del l p W) (hp : p < l.length) :
    ((goodB (bs l) p = false ∨ (l[p]'hp).toNat < 32 ∨ (del = true ∧ (l[p]'hp).toNat = 127)) → W = p) ∧ (goodB (bs l) p = true → ¬ (l[p]'hp).toNat < 32 → ¬ (del = true ∧ (l[p]'hp).toNat = 127) → Wr del l (p + widN (bs l) p) W) := by
  have hs := h.step hp
  have hd := decodeL_drop (bs l) p
  rw [bs_data] at hd
  have h32 := rune_lt32 (l.drop (p + 1)) (l[p]'hp)
  rw [← List.drop_eq_getElem_cons hp, hd] at h32
  rw [hd] at hs
  have hg : plainB (Utf8.decode (bs l) p) = (decide ((l[p]'hp).toNat < 32) || !goodB (bs l) p) := by
    unfold plainB goodB runeI widN
    rw [Bool.not_not, show decide ((Utf8.decode (bs l) p).1 < 32) = decide ((l[p]'hp).toNat < 32) from by rw [decide_eq_decide]; exact h32]
    congr 1
    rw [Bool.eq_iff_iff]; simp; omega
  have h127 : (l[p]'hp == 127) = decide ((l[p]'hp).toNat = 127) := by
    rw [Bool.eq_iff_iff, beq_iff_eq, decide_eq_true_eq]
    exact ⟨fun h => by rw [h]; rfl, fun h => UInt8.toNat_inj.1 h⟩
  rw [hg, h127] at hs
  refine ⟨fun hb => hs.1 ?_, fun h1 h2 h3 => hs.2 ?_⟩
  · rcases hb with hb | hb | ⟨hb1, hb2⟩
    · rw [hb]; simp
    · rw [decide_eq_true hb]; rfl
    · rw [hb1, decide_eq_true hb2]; simp
  · rw [h1, decide_eq_false h2]
    cases del with
    | false => rfl
    | true => rw [decide_eq_false (fun h => h3 ⟨rfl, h⟩)]; rfl
set_option maxRecDepth 100000 in
set_option maxHeartbeats 1000000 in
theorem refWrong_any (l : List UInt8) (del : Bool) (w : World) (hs : l.length ≤ 1073741824) :
    Calls Tryz.prog 174 #[.string (bs l), .bool del] w fun e w' => e = .returned (.int .i64 (wrL del l)) ∧ w = w' := by
  have sl := bs_size l
  obtain ⟨W, hW⟩ : ∃ W, wrL del l = W := ⟨_, rfl⟩
  have HZ := Lib.hid (Wr.zero del l)
  rw [hW] at HZ ⊢
  clear hW
  go_enter Tryz.func174, Tryz.ntmps174
  go_wp2_with fail
  go_loop [5] (fun s5 => ∃ p : Nat, s5 = .int .i64 p ∧ p ≤ l.length ∧ Hid (Wr del l p W)) (fun s5 => l.length - (RowKit.intOf s5).toNat)
  case atStart => exact ⟨0, rfl, by omega, HZ.out⟩
  case round =>
    obtain ⟨p, rfl, hp, HB⟩ := hrel
    by_cases hlt : p < l.length
    · have hlt' : p < (bs l).size := by omega
      have hge := at_bs l p hlt'
      rw [List.getElem?_eq_getElem hlt] at hge
      have hge2 : (bs l)[p]'hlt' = l[p]'hlt := by simpa using hge.symm
      obtain ⟨hyes, hno⟩ := HB.out.good hlt
      rw [← hge2] at hyes hno
      obtain ⟨c, hc⟩ : ∃ c, (bs l)[p]'hlt' = c := ⟨_, rfl⟩
      rw [hc] at hyes hno
      obtain ⟨n, hn⟩ : ∃ n : Int, (c.toNat : Int) = n := ⟨_, rfl⟩
      have hge3 : (((bs l)[p]'hlt').toNat : Int) = n := by rw [hc, hn]
      have CG := Lib.hid (fun w => good_at (bs l) p w hlt' (by omega))
      have CN := Lib.hid (fun w => refNext_at (bs l) p w hlt' (by omega))
      have hwb := widN_bd (bs l) p hlt'
      obtain ⟨GB, hGB⟩ : ∃ GB, goodB (bs l) p = GB := ⟨_, rfl⟩
      obtain ⟨RU, hRU⟩ : ∃ RU, runeI (bs l) p = RU := ⟨_, rfl⟩
      obtain ⟨WD, hWD⟩ : ∃ WD, widN (bs l) p = WD := ⟨_, rfl⟩
      rw [hGB] at CG hyes hno
      rw [hRU, hWD] at CN
      rw [hWD] at hwb hno
      clear hge hge2 hc hGB hRU hWD
      cases GB with
      | false =>
        have HF := Lib.hid (hyes (.inl rfl))
        clear hyes hno
        go_wp2_with (go_at_call 117; refine (CG.out _).mono ?_; rintro e w' ⟨rfl, rfl⟩)
        go_ret
        exact ⟨ret_int (by rw [HF.out]), rfl⟩
      | true =>
        by_cases h3 : n < 32
        · have HF := Lib.hid (hyes (.inr (.inl (by omega))))
          clear hyes hno
          go_wp2_with (go_at_call 117; refine (CG.out _).mono ?_; rintro e w' ⟨rfl, rfl⟩)
          go_ret
          exact ⟨ret_int (by rw [HF.out]), rfl⟩
        · have d3 : decide (n < 32) = false := decide_eq_false h3
          cases del with
          | false =>
            have HG := Lib.hid (hno rfl (by omega) (by simp))
            clear hyes hno
            go_wp2_with (first | (go_at_call 117; refine (CG.out _).mono ?_; rintro e w' ⟨rfl, rfl⟩) | (go_at_call 118; refine (CN.out _).mono ?_; rintro e w' ⟨rfl, rfl⟩))
            go_round
            case rel => exact ⟨p + WD, by go_num, by omega, HG.out⟩
            case measure => simp [RowKit.intOf]; omega
          | true =>
            by_cases h4 : n = 127
            · have HF := Lib.hid (hyes (.inr (.inr ⟨rfl, by omega⟩)))
              have t4 : (n == 127) = true := beq_iff_eq.2 h4
              clear hyes hno h4
              go_wp2_with (go_at_call 117; refine (CG.out _).mono ?_; rintro e w' ⟨rfl, rfl⟩)
              go_ret
              exact ⟨ret_int (by rw [HF.out]), rfl⟩
            · have HG := Lib.hid (hno rfl (by omega) (by rintro ⟨_, h⟩; omega))
              have t4 : (n == 127) = false := beq_eq_false_iff_ne.2 h4
              clear hyes hno h4
              go_wp2_with (first | (go_at_call 117; refine (CG.out _).mono ?_; rintro e w' ⟨rfl, rfl⟩) | (go_at_call 118; refine (CN.out _).mono ?_; rintro e w' ⟨rfl, rfl⟩))
              go_round
              case rel => exact ⟨p + WD, by go_num, by omega, HG.out⟩
              case measure => simp [RowKit.intOf]; omega
    · have HF := Lib.hid (HB.out.fin (by omega))
      go_wp2_with fail
      go_ret
      exact ⟨ret_int (by rw [HF.out]), rfl⟩
end Go.Proofs.YtnnlpkbopeiefaaGreatDoor
/-! The walk of scarfref10.Single: it returns sqL. -/
namespace Go.Proofs.YtnnlpkbopeiefaaGreatDoor
set_option linter.unusedSimpArgs false
set_option linter.unusedVariables false
open Go.RowKit
open Go.Lib hiding intOf
end Go.Proofs.YtnnlpkbopeiefaaGreatDoor
/-! The walk of scarfref10.Quoted: it returns sqw. -/
namespace Go.Proofs.YtnnlpkbopeiefaaGreatDoor
set_option linter.unusedSimpArgs false
set_option linter.unusedVariables false
open Go.RowKit
open Go.Lib hiding intOf
theorem dbl_snoc (l : List UInt8) (k : Nat) (h : k < l.length) : dbl (l.take (k + 1)) = dbl (l.take k) ++ (if l[k]'h = 39 then [39, 39] else [l[k]'h]) := by
  rw [List.take_succ_eq_append_getElem h, dbl_append]
  simp [dbl]
set_option maxRecDepth 100000 in
set_option maxHeartbeats 2000000 in
theorem refQuoted_any (l : List UInt8) (w : World) (hs : l.length ≤ 268435456) :
    Calls Tryz.prog 115 #[.string (bs l)] w fun e w' => e = QuotedE (sqw l) ∧ Below w.heap.size w w' := by
  have sl := bs_size l
  have CW := Lib.hid (fun w => refWrong_any l false w (by omega))
  obtain ⟨R, hR⟩ : ∃ R, sqw l = R := ⟨_, rfl⟩
  rw [hR]
  unfold sqw at hR
  obtain ⟨W, hW⟩ : ∃ W, wrL false l = W := ⟨_, rfl⟩
  rw [hW] at CW hR
  clear hW
  by_cases hw : W < l.length
  · rw [if_pos hw] at hR
    subst hR
    have dw : decide (W < l.length) = true := decide_eq_true hw
    go_enter Tryz.func115, Tryz.ntmps115
    go_wp2_with fail
    with_reducible refine (CW.out _).mono ?_
    rintro e w' ⟨rfl, rfl⟩
    go_wp2_with fail
    go_ret2
    exact ⟨rfl, Below.refl _ _⟩
  · rw [if_neg hw] at hR
    have dw : decide (W < l.length) = false := decide_eq_false hw
    have HR := Lib.hid hR
    clear hR hw
    go_enter Tryz.func115, Tryz.ntmps115
    go_wp2_with fail
    with_reducible refine (CW.out _).mono ?_
    rintro e w' ⟨rfl, rfl⟩
    go_wp2_with fail
    go_loopw [4, 5] (fun s4 s5 wr => ∃ (k : Nat) (o : List UInt8), s5 = .int .i64 k ∧ k ≤ l.length ∧ o.length ≤ 2 * k + 1 ∧ Hid (o = 39 :: dbl (l.take k)) ∧ Hid (OwnB w.heap.size wr s4 o) ∧ Hid (Below w.heap.size w wr) ∧ w.heap.size ≤ wr.heap.size) (fun _ s5 _ => l.length - (RowKit.intOf s5).toNat)
    case atStart => exact ⟨0, [39], rfl, by omega, by simp, rfl, OwnB.new w [39] (by simp), below_alloc1 _ _, by simp⟩
    case round =>
      obtain ⟨k, o, rfl, hk, hol, HQ, HO, HW, hz⟩ := hrel
      by_cases hlt : k < l.length
      · have hlt' : k < (bs l).size := by omega
        have hge : (bs l)[k]'hlt' = l[k]'hlt := by
          have := at_bs l k hlt'
          rw [List.getElem?_eq_getElem hlt] at this
          exact (Option.some.inj this).symm
        have hsn := dbl_snoc l k hlt
        rw [← hge] at hsn
        obtain ⟨c, hc⟩ : ∃ c, (bs l)[k]'hlt' = c := ⟨_, rfl⟩
        rw [hc] at hsn
        obtain ⟨n, hn⟩ : ∃ n : Int, (c.toNat : Int) = n := ⟨_, rfl⟩
        have hge3 : (((bs l)[k]'hlt').toNat : Int) = n := by rw [hc, hn]
        have HSN := Lib.hid hsn
        clear hge hc hsn
        by_cases h39 : n = 39
        · have t39 : (n == 39) = true := beq_iff_eq.2 h39
          have hc39 : c = 39 := UInt8.toNat_inj.1 (by show c.toNat = 39; omega)
          have HS2 : Hid (o ++ [39] ++ [c] = 39 :: dbl (l.take (k + 1))) := by
            rw [HSN.out, if_pos hc39, HQ.out, hc39]
            exact Lib.hid (by simp)
          clear hc39
          subst h39
          go_wp2_with (first | (at_builtin; (refine wpList_bytes rfl (.tmp 22) (.tmp 23) rfl w.heap.size wr u4 o [39] rfl HO.out _ rfl rfl (by simp; omega) hz ?_); intro v1 w1 hown1 hbel1; have hz1 := Nat.le_trans hz hbel1.size) | (at_builtin; (refine wpList_bytes rfl (.tmp 25) (.tmp 29) rfl w.heap.size w1 v1 (o ++ [39]) [c] rfl hown1 _ rfl (by unfold byteCells; simp [hn]) (by simp; omega) hz1 ?_); intro v2 w2 hown2 hbel2))
          go_roundw
          case rel => exact ⟨k + 1, o ++ [39] ++ [c], by go_num, by omega, by simp; omega, HS2.out, hown2, (HW.out.trans hbel1).trans hbel2, Nat.le_trans hz1 hbel2.size⟩
          case measure => simp [RowKit.intOf]; omega
        · have t39 : (n == 39) = false := beq_eq_false_iff_ne.2 h39
          have hc39 : ¬ c = 39 := fun e => h39 (by rw [← hn, e]; rfl)
          have HS2 : Hid (o ++ [c] = 39 :: dbl (l.take (k + 1))) := by
            rw [HSN.out, if_neg hc39, HQ.out]
            exact Lib.hid (by simp)
          clear hc39 h39
          go_wp2_with (at_builtin; go_must (refine wpList_bytes rfl _ _ rfl w.heap.size wr u4 o [c] rfl HO.out _ rfl (by unfold byteCells; simp [hn]) (by simp; omega) hz ?_); intro v1 w1 hown1 hbel1)
          go_roundw
          case rel => exact ⟨k + 1, o ++ [c], by go_num, by omega, by simp; omega, HS2.out, hown1, HW.out.trans hbel1, Nat.le_trans hz hbel1.size⟩
          case measure => simp [RowKit.intOf]; omega
      · have HF : Hid (R = (o ++ [39], 0)) := by
          have h1 := HQ.out
          rw [show k = l.length by omega, List.take_length] at h1
          rw [← HR.out, h1]
          exact Lib.hid rfl
        go_wp2_with (first | (at_builtin; go_must (refine wpList_bytes rfl _ _ rfl w.heap.size wr u4 o [39] rfl HO.out _ rfl rfl (by simp; omega) hz ?_); intro v1 w1 hown1 hbel1; have hcv := run_text hown1))
        go_ret2
        exact ⟨by rw [HF.out]; rfl, HW.out.trans hbel1⟩
end Go.Proofs.YtnnlpkbopeiefaaGreatDoor
