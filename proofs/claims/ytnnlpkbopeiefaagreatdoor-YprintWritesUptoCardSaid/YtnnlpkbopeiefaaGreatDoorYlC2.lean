import Derived.Test.YtnnlpkbopeiefaaGreatDoorYlA
import Derived.Test.YtnnlpkbopeiefaaGreatDoorRnB
/-! The walk of scarfref10.wrong. -/
namespace Go.Proofs.YtnnlpkbopeiefaaGreatDoor
set_option linter.unusedSimpArgs false
set_option linter.unusedVariables false
open Go.RowKit
open Go.Lib hiding intOf
theorem Wr.good {del : Bool} {l : List UInt8} {p W : Nat} (h : Wr del l p W) (hp : p < l.length) :
    ((goodB (bs l) p = false ∨ (l[p]'hp).toNat < 32 ∨ (del = true ∧ (l[p]'hp).toNat = 127)) → W = p) ∧ (goodB (bs l) p = true → ¬ (l[p]'hp).toNat < 32 → ¬ (del = true ∧ (l[p]'hp).toNat = 127) → Wr del l (p + widN (bs l) p) W) := by
  have hs := h.step hp
  have hd := decodeL_drop (bs l) p
  rw [bs_data] at hd
  have h32 := rune_lt32 (l.drop (p + 1)) (l[p]'hp)
  rw [← List.drop_eq_getElem_cons hp, hd] at h32
  rw [hd] at hs
  have hg : plainB (Utf8.decode (bs l) p) = (decide ((l[p]'hp).toNat < 32) || !goodB (bs l) p) := by
    unfold plainB goodB runeI widN
    rw [Bool.not_not, show decide ((Utf8.decode (bs l) p).1 < 32) = decide ((l[p]'hp).toNat < 32) from by rw [decide_eq_decide]; exact h32]
    congr 1
    rw [Bool.eq_iff_iff]; simp; omega
  have h127 : (l[p]'hp == 127) = decide ((l[p]'hp).toNat = 127) := by
    rw [Bool.eq_iff_iff, beq_iff_eq, decide_eq_true_eq]
    exact ⟨fun h => by rw [h]; rfl, fun h => UInt8.toNat_inj.1 h⟩
  rw [hg, h127] at hs
  refine ⟨fun hb => hs.1 ?_, fun h1 h2 h3 => hs.2 ?_⟩
  · rcases hb with hb | hb | ⟨hb1, hb2⟩
    · rw [hb]; simp
    · rw [decide_eq_true hb]; rfl
    · rw [hb1, decide_eq_true hb2]; simp
  · rw [h1, decide_eq_false h2]
    cases del with
    | false => rfl
    | true => rw [decide_eq_false (fun h => h3 ⟨rfl, h⟩)]; rfl
set_option maxRecDepth 100000 in
set_option maxHeartbeats 1000000 in
theorem refWrong_any (l : List UInt8) (del : Bool) (w : World) (hs : l.length ≤ 1073741824) :
    Calls Tryz.prog 174 #[.string (bs l), .bool del] w fun e w' => e = .returned (.int .i64 (wrL del l)) ∧ w = w' := by
  have sl := bs_size l
  obtain ⟨W, hW⟩ : ∃ W, wrL del l = W := ⟨_, rfl⟩
  have HZ := Lib.hid (Wr.zero del l)
  rw [hW] at HZ ⊢
  clear hW
  go_enter Tryz.func174, Tryz.ntmps174
  go_wp2_with fail
  go_loop [5] (fun s5 => ∃ p : Nat, s5 = .int .i64 p ∧ p ≤ l.length ∧ Hid (Wr del l p W)) (fun s5 => l.length - (RowKit.intOf s5).toNat)
  case atStart => exact ⟨0, rfl, by omega, HZ.out⟩
  case round =>
    obtain ⟨p, rfl, hp, HB⟩ := hrel
    by_cases hlt : p < l.length
    · have hlt' : p < (bs l).size := by omega
      have hge := at_bs l p hlt'
      rw [List.getElem?_eq_getElem hlt] at hge
      have hge2 : (bs l)[p]'hlt' = l[p]'hlt := by simpa using hge.symm
      obtain ⟨hyes, hno⟩ := HB.out.good hlt
      rw [← hge2] at hyes hno
      obtain ⟨c, hc⟩ : ∃ c, (bs l)[p]'hlt' = c := ⟨_, rfl⟩
      rw [hc] at hyes hno
      obtain ⟨n, hn⟩ : ∃ n : Int, (c.toNat : Int) = n := ⟨_, rfl⟩
      have hge3 : (((bs l)[p]'hlt').toNat : Int) = n := by rw [hc, hn]
      have CG := Lib.hid (fun w => good_at (bs l) p w hlt' (by omega))
      have CN := Lib.hid (fun w => refNext_at (bs l) p w hlt' (by omega))
      have hwb := widN_bd (bs l) p hlt'
      obtain ⟨GB, hGB⟩ : ∃ GB, goodB (bs l) p = GB := ⟨_, rfl⟩
      obtain ⟨RU, hRU⟩ : ∃ RU, runeI (bs l) p = RU := ⟨_, rfl⟩
      obtain ⟨WD, hWD⟩ : ∃ WD, widN (bs l) p = WD := ⟨_, rfl⟩
      rw [hGB] at CG hyes hno
      rw [hRU, hWD] at CN
      rw [hWD] at hwb hno
      clear hge hge2 hc hGB hRU hWD
      cases GB with
      | false =>
        have HF := Lib.hid (hyes (.inl rfl))
        clear hyes hno
        go_wp2_with (go_at_call 117; refine (CG.out _).mono ?_; rintro e w' ⟨rfl, rfl⟩)
        go_ret
        exact ⟨ret_int (by rw [HF.out]), rfl⟩
      | true =>
        by_cases h3 : n < 32
        · have HF := Lib.hid (hyes (.inr (.inl (by omega))))
          clear hyes hno
          go_wp2_with (go_at_call 117; refine (CG.out _).mono ?_; rintro e w' ⟨rfl, rfl⟩)
          go_ret
          exact ⟨ret_int (by rw [HF.out]), rfl⟩
        · have d3 : decide (n < 32) = false := decide_eq_false h3
          cases del with
          | false =>
            have HG := Lib.hid (hno rfl (by omega) (by simp))
            clear hyes hno
            go_wp2_with (first | (go_at_call 117; refine (CG.out _).mono ?_; rintro e w' ⟨rfl, rfl⟩) | (go_at_call 118; refine (CN.out _).mono ?_; rintro e w' ⟨rfl, rfl⟩))
            go_round
            case rel => exact ⟨p + WD, by go_num, by omega, HG.out⟩
            case measure => simp [RowKit.intOf]; omega
          | true =>
            by_cases h4 : n = 127
            · have HF := Lib.hid (hyes (.inr (.inr ⟨rfl, by omega⟩)))
              have t4 : (n == 127) = true := beq_iff_eq.2 h4
              clear hyes hno h4
              go_wp2_with (go_at_call 117; refine (CG.out _).mono ?_; rintro e w' ⟨rfl, rfl⟩)
              go_ret
              exact ⟨ret_int (by rw [HF.out]), rfl⟩
            · have HG := Lib.hid (hno rfl (by omega) (by rintro ⟨_, h⟩; omega))
              have t4 : (n == 127) = false := beq_eq_false_iff_ne.2 h4
              clear hyes hno h4
              go_wp2_with (first | (go_at_call 117; refine (CG.out _).mono ?_; rintro e w' ⟨rfl, rfl⟩) | (go_at_call 118; refine (CN.out _).mono ?_; rintro e w' ⟨rfl, rfl⟩))
              go_round
              case rel => exact ⟨p + WD, by go_num, by omega, HG.out⟩
              case measure => simp [RowKit.intOf]; omega
    · have HF := Lib.hid (HB.out.fin (by omega))
      go_wp2_with fail
      go_ret
      exact ⟨ret_int (by rw [HF.out]), rfl⟩
end Go.Proofs.YtnnlpkbopeiefaaGreatDoor
