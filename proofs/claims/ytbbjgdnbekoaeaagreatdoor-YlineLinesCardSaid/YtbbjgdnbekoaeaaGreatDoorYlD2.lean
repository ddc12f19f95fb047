import Derived.Test.YtbbjgdnbekoaeaaGreatDoorYlD
import Derived.Test.YtbbjgdnbekoaeaaGreatDoorYlC2
/-! The walk of scarfref10.Single: it returns sqL. -/
namespace Go.Proofs.YtbbjgdnbekoaeaaGreatDoor
set_option linter.unusedSimpArgs false
set_option linter.unusedVariables false
open Go.RowKit
open Go.Lib hiding intOf

theorem plain_good (l : List UInt8) (i : Nat) (hi : i < l.length) : plainB (decodeL (l.drop i)) = (decide ((l[i]'hi).toNat < 32) || !goodB (bs l) i) := by
  have hd := decodeL_drop (bs l) i
  rw [bs_data] at hd
  have h32 := rune_lt32 (l.drop (i + 1)) (l[i]'hi)
  rw [← List.drop_eq_getElem_cons hi, hd] at h32
  rw [hd]
  unfold plainB goodB runeI widN
  rw [Bool.not_not, show decide ((Utf8.decode (bs l) i).1 < 32) = decide ((l[i]'hi).toNat < 32) from by rw [decide_eq_decide]; exact h32]
  congr 1
  rw [Bool.eq_iff_iff]; simp; omega
set_option maxRecDepth 100000 in
set_option maxHeartbeats 4000000 in
theorem refSingle_any (l : List UInt8) (a : Int) (w : World) (hs : l.length ≤ 1073741824) :
    Calls Tryz.prog 21 #[.string (bs l), .int .i64 a] w fun e w' => e = ReadE (sqL l a) ∧ w = w' := by
  have sl := bs_size l
  obtain ⟨R, hR⟩ : ∃ R, sqL l a = R := ⟨_, rfl⟩
  rw [hR]
  unfold sqL at hR
  by_cases hout : a < 0 ∨ (l.length : Int) < a
  · rw [if_pos hout] at hR
    subst hR
    rcases hout with h | h
    · go_enter Tryz.func21, Tryz.ntmps21
      go_wp2_with fail
      go_ret3
      exact ⟨rfl, rfl⟩
    · have hn : ¬ a < 0 := by omega
      go_enter Tryz.func21, Tryz.ntmps21
      go_wp2_with fail
      go_ret3
      exact ⟨rfl, rfl⟩
  rw [if_neg hout] at hR
  obtain ⟨k, rfl⟩ : ∃ k : Nat, a = k := ⟨a.toNat, by omega⟩
  rw [Int.toNat_natCast] at hR
  have hk0 : decide ((k : Int) < 0) = false := decide_eq_false (by omega)
  have hk1 : decide (l.length < k) = false := decide_eq_false (by omega)
  have hk2 : k ≤ l.length := by omega
  clear hout
  by_cases h39 : l[k]? = some 39
  · rw [if_pos h39] at hR
    have hkl : k < l.length := (List.getElem?_eq_some_iff.1 h39).1
    have hkl' : k < (bs l).size := by omega
    have t1 : ((((bs l)[k]'hkl').toNat : Int) != 39) = false := by
      have := at_bs l k hkl'
      rw [h39] at this
      have h2 : (bs l)[k]'hkl' = 39 := by simpa using this.symm
      rw [h2]; rfl
    have t2 : ((k : Int) == (l.length : Int)) = false := beq_eq_false_iff_ne.2 (by omega)
    have HR := Lib.hid hR; clear hR h39
    go_enter Tryz.func21, Tryz.ntmps21
    go_wp2_with fail
    go_loop [7, 8] (fun s7 s8 => ∃ (i f : Nat) (acc : List UInt8), s7 = .string (bs acc) ∧ s8 = .int .i64 i ∧ i ≤ l.length ∧ acc.length ≤ i ∧ l.length < i + f ∧ Hid (sqGo f (l.drop i) i acc = R)) (fun _ s8 => l.length - (RowKit.intOf s8).toNat)
    case atStart => exact ⟨k + 1, l.length + 1, [], rfl, by go_num, by omega, by simp, by omega, HR.out⟩
    case round =>
      obtain ⟨i, f, acc, rfl, rfl, hi, hacc, hf, HG⟩ := hrel
      obtain ⟨g, rfl⟩ : ∃ g, f = g + 1 := ⟨f - 1, by omega⟩
      have sa := bs_size acc
      by_cases hlt : i < l.length
      · have hlt' : i < (bs l).size := by omega
        have hdr : l.drop i = l[i]'hlt :: l.drop (i + 1) := List.drop_eq_getElem_cons hlt
        have hdd := decodeL_drop (bs l) i
        rw [bs_data] at hdd
        have hg := HG.out
        rw [hdr, sqGo_cons, ← hdr] at hg
        have hge := at_bs l i hlt'
        rw [List.getElem?_eq_getElem hlt] at hge
        have hge2 : (bs l)[i]'hlt' = l[i]'hlt := by simpa using hge.symm
        have T39 := byte_eq ((bs l)[i]'hlt') 39 39 rfl
        have hwb := widN_bd (bs l) i hlt'
        have hw2 : (decodeL (l.drop i)).2 = widN (bs l) i := by rw [hdd]; rfl
        rw [hw2, plain_good l i hlt, ← hge2] at hg
        by_cases hc : (bs l)[i]'hlt' = 39
        · rw [if_pos hc, List.head?_drop] at hg
          rw [beq_iff_eq.2 hc] at T39
          by_cases hn : l[i + 1]? = some 39
          · rw [if_pos hn, List.drop_drop] at hg
            have hi2 : i + 1 < l.length := (List.getElem?_eq_some_iff.1 hn).1
            have hi2' : i + 1 < (bs l).size := by omega
            have e39 : ((((bs l)[i + 1]'hi2').toNat : Int) != 39) = false := by
              have := at_bs l (i + 1) hi2'
              rw [hn] at this
              rw [show (bs l)[i + 1]'hi2' = 39 from (Option.some.inj this).symm]; rfl
            have dge : decide (l.length ≤ i + 1) = false := decide_eq_false (by omega)
            have HG2 := Lib.hid hg
            have hcat : ¬ 9223372036854775807 < (bs acc).size + (⟨#[39]⟩ : ByteArray).size := by show ¬ _ < _ + 1; omega
            clear hg hn hc hge hge2 hdr hdd hw2
            go_wp2_with fail
            go_round
            case rel => exact ⟨i + 2, g, acc ++ [39], by first | exact congrArg _ (bs_append acc [39]) | rfl, by go_num, by omega, by simp; omega, by omega, HG2.out⟩
            case measure => simp [RowKit.intOf]; omega
          · rw [if_neg hn] at hg
            have HF := Lib.hid hg
            by_cases hi2 : i + 1 < l.length
            · have hi2' : i + 1 < (bs l).size := by omega
              have e39 : ((((bs l)[i + 1]'hi2').toNat : Int) != 39) = true := by
                rw [bne_iff_ne]
                intro h
                apply hn
                rw [at_bs l (i + 1) hi2', show (bs l)[i + 1]'hi2' = 39 from UInt8.toNat_inj.1 (by show _ = 39; omega)]
              have dge : decide (l.length ≤ i + 1) = false := decide_eq_false (by omega)
              clear hg hn hc hge hge2 hdr hdd hw2
              go_wp2_with fail
              go_ret3
              exact ⟨by rw [← HF.out]; rfl, rfl⟩
            · have dge : decide (l.length ≤ i + 1) = true := decide_eq_true (by omega)
              clear hg hn hc hge hge2 hdr hdd hw2
              go_wp2_with fail
              go_ret3
              exact ⟨by rw [← HF.out]; rfl, rfl⟩
        · rw [if_neg hc] at hg
          rw [beq_eq_false_iff_ne.2 hc] at T39
          have CG := Lib.hid (fun w => good_at (bs l) i w hlt' (by omega))
          have CN := Lib.hid (fun w => refNext_at (bs l) i w hlt' (by omega))
          obtain ⟨c, hcc⟩ : ∃ c, (bs l)[i]'hlt' = c := ⟨_, rfl⟩
          rw [hcc] at hg
          obtain ⟨n, hn⟩ : ∃ n : Int, (c.toNat : Int) = n := ⟨_, rfl⟩
          have hge3 : (((bs l)[i]'hlt').toNat : Int) = n := by rw [hcc, hn]
          rw [hge3] at T39
          obtain ⟨RU, hRU⟩ : ∃ RU, runeI (bs l) i = RU := ⟨_, rfl⟩
          obtain ⟨WD, hWD⟩ : ∃ WD, widN (bs l) i = WD := ⟨_, rfl⟩
          obtain ⟨GB, hGB⟩ : ∃ GB, goodB (bs l) i = GB := ⟨_, rfl⟩
          rw [hGB] at CG hg
          rw [hRU, hWD] at CN
          rw [hWD] at hwb hg
          clear hdd hRU hWD hGB hdr hge hge2 hc hcc hw2
          by_cases h3 : n < 32
          · rw [decide_eq_true (show c.toNat < 32 by omega), Bool.true_or, if_pos rfl] at hg
            have HF := Lib.hid hg
            clear hg hn
            cases GB with
            | true =>
              go_wp2_with (go_at_call 41; refine (CG.out _).mono ?_; rintro e w' ⟨rfl, rfl⟩)
              go_ret3
              exact ⟨by rw [← HF.out]; rfl, rfl⟩
            | false =>
              go_wp2_with (go_at_call 41; refine (CG.out _).mono ?_; rintro e w' ⟨rfl, rfl⟩)
              go_ret3
              exact ⟨by rw [← HF.out]; rfl, rfl⟩
          · have d3 : decide (n < 32) = false := decide_eq_false h3
            rw [decide_eq_false (show ¬ c.toNat < 32 by omega), Bool.false_or] at hg
            cases GB with
            | false =>
              rw [if_pos (show (!false) = true from rfl)] at hg
              have HF := Lib.hid hg
              clear hg hn
              go_wp2_with (go_at_call 41; refine (CG.out _).mono ?_; rintro e w' ⟨rfl, rfl⟩)
              go_ret3
              exact ⟨by rw [← HF.out]; rfl, rfl⟩
            | true =>
              rw [if_neg (by simp), List.drop_drop] at hg
              have HG2 := Lib.hid hg
              have hsl : (bs l).extract i (i + WD) = bs ((l.drop i).take WD) := by
                apply ByteArray.ext
                apply Array.ext'
                simp [bs, List.drop_take]
              have stk := bs_size ((l.drop i).take WD)
              rw [List.length_take, List.length_drop] at stk
              have hcat : ¬ 9223372036854775807 < (bs acc).size + (bs ((l.drop i).take WD)).size := by omega
              clear hg hn
              go_wp2_with (go_at_call 41; refine (CG.out _).mono ?_; rintro e w' ⟨rfl, rfl⟩)
              refine (CN.out _).mono ?_
              rintro e w' ⟨rfl, rfl⟩
              go_wp2_with fail
              go_round
              case rel => exact ⟨i + WD, g, acc ++ (l.drop i).take WD, by congr 1 <;> first | rw [hsl, bs_append] | rw [hsl] | rfl, by go_num, by omega, by rw [List.length_append, List.length_take, List.length_drop]; omega, by omega, HG2.out⟩
              case measure => simp [RowKit.intOf]; omega
      · have hg := HG.out
        rw [List.drop_of_length_le (by omega)] at hg
        have HF := Lib.hid (show ([], (i : Int), 2) = R from hg)
        obtain rfl : i = l.length := by omega
        clear hg HG
        go_wp2_with fail
        go_ret3
        exact ⟨by rw [← HF.out]; rfl, rfl⟩
  · rw [if_neg h39] at hR
    subst hR
    by_cases hkl : k < l.length
    · have hkl' : k < (bs l).size := by omega
      have t1 : ((((bs l)[k]'hkl').toNat : Int) != 39) = true := by
        rw [bne_iff_ne]
        intro h
        apply h39
        rw [at_bs l k hkl']
        have : ((bs l)[k]'hkl') = 39 := UInt8.toNat_inj.1 (by show _ = 39; omega)
        rw [this]
      have t2 : ((k : Int) == (l.length : Int)) = false := beq_eq_false_iff_ne.2 (by omega)
      clear h39
      go_enter Tryz.func21, Tryz.ntmps21
      go_wp2_with fail
      go_ret3
      exact ⟨rfl, rfl⟩
    · obtain rfl : k = l.length := by omega
      clear h39 hkl
      go_enter Tryz.func21, Tryz.ntmps21
      go_wp2_with fail
      go_ret3
      exact ⟨rfl, rfl⟩
end Go.Proofs.YtbbjgdnbekoaeaaGreatDoor
