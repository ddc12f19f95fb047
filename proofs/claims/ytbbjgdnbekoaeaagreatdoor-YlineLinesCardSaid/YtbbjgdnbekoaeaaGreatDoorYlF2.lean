import Derived.Test.YtbbjgdnbekoaeaaGreatDoorYlF
import Derived.Test.YtbbjgdnbekoaeaaGreatDoorYlD2
import Derived.Test.YtbbjgdnbekoaeaaGreatDoorQuoI
/-! The walks of scarfref10: ends (qdL), comment (noteL), colon (signL). -/
namespace Go.Proofs.YtbbjgdnbekoaeaaGreatDoor
set_option linter.unusedSimpArgs false
set_option linter.unusedVariables false
open Go.RowKit
open Go.Lib hiding intOf

set_option maxHeartbeats 1000000 in
theorem refEnds_any (l : List UInt8) (w : World) (hs : l.length ≤ 1073741824) :
    Calls Tryz.prog 34 #[.string (bs l)] w fun e w' => e = .returned (.int .i64 (qdL l)) ∧ Below w.heap.size w w' := by
  have sl := bs_size l
  obtain ⟨R, hR⟩ : ∃ R, qdL l = R := ⟨_, rfl⟩
  rw [hR]
  unfold qdL at hR
  cases l with
  | nil =>
    simp at hR
    subst hR
    have he : (bs ([] : List UInt8)).toList = [] := by rw [Lib.toList_data, bs_data]
    have he2 : (bs ([] : List UInt8)).toList.isEmpty = true := by rw [Lib.toList_data, bs_data]; rfl
    go_enter Tryz.func34, Tryz.ntmps34
    go_wp2_with fail
    go_ret
    exact ⟨rfl, Below.refl _ _⟩
  | cons c r =>
    have h0 : 0 < (bs (c :: r)).size := by rw [bs_size]; simp
    have hne : (bs (c :: r)).toList.isEmpty = false := by rw [Lib.toList_data, bs_data]; rfl
    have hne2 : ¬ (bs (c :: r)).toList = [] := by rw [Lib.toList_data, bs_data]; simp
    have T34 := head_is (c :: r) 34 34 rfl h0
    have T39 := head_is (c :: r) 39 39 rfl h0
    rw [List.head?_cons] at T34 T39 hR
    have hlen : (c :: r).length = r.length + 1 := rfl
    obtain ⟨L, hL⟩ : ∃ L, c :: r = L := ⟨_, rfl⟩
    have CE := Lib.hid (fun w => refEnd_any (c :: r) 0 w hs)
    have CS := Lib.hid (fun w => refSingle_any (c :: r) 0 w hs)
    have eb := end0_bd (c :: r)
    have sb := sq0_bd (c :: r)
    obtain ⟨E, hE⟩ : ∃ E, endL (c :: r) 0 = E := ⟨_, rfl⟩
    obtain ⟨k1, e1⟩ := E
    obtain ⟨Q, hQ⟩ : ∃ Q, sqL (c :: r) 0 = Q := ⟨_, rfl⟩
    obtain ⟨q1, k2, e2⟩ := Q
    rw [hE] at CE eb hR
    rw [hQ] at CS sb hR
    unfold ReadE at CS
    simp only [] at CE CS eb sb hR
    obtain ⟨x, hx⟩ : ∃ x : Int, (((bs (c :: r))[0]'h0).toNat : Int) = x := ⟨_, rfl⟩
    rw [hx] at T34 T39
    clear hE hQ hL
    by_cases g1 : c = 34
    · rw [if_pos (by rw [g1])] at hR
      rw [show (some c == some 34) = true from by rw [g1]; rfl] at T34
      rw [show (some c == some 39) = false from by rw [g1]; rfl] at T39
      clear g1
      by_cases ge : e1 = 0
      · rw [if_pos ge] at hR
        obtain ⟨n, rfl⟩ : ∃ n : Nat, k1 = n := ⟨k1.toNat, by omega⟩
        rw [Int.toNat_natCast] at hR
        subst hR ge
        go_enter Tryz.func34, Tryz.ntmps34
        go_wp2_with fail
        with_reducible refine (CE.out _).mono ?_
        rintro e w1 ⟨rfl, hb1⟩
        go_wp2_with fail
        go_ret
        exact ⟨rfl, hb1⟩
      · rw [if_neg ge] at hR
        subst hR
        have te : (e1 != 0) = true := bne_iff_ne.2 ge
        clear ge
        go_enter Tryz.func34, Tryz.ntmps34
        go_wp2_with fail
        with_reducible refine (CE.out _).mono ?_
        rintro e w1 ⟨rfl, hb1⟩
        go_wp2_with fail
        go_ret
        exact ⟨rfl, hb1⟩
    rw [if_neg (by simpa using g1)] at hR
    rw [show (some c == some 34) = false from by rw [beq_eq_false_iff_ne]; simpa using g1] at T34
    by_cases g2 : c = 39
    · rw [if_pos (by rw [g2])] at hR
      rw [show (some c == some 39) = true from by rw [g2]; rfl] at T39
      clear g1 g2
      by_cases ge : e2 = 0
      · rw [if_pos ge] at hR
        obtain ⟨n, rfl⟩ : ∃ n : Nat, k2 = n := ⟨k2.toNat, by omega⟩
        rw [Int.toNat_natCast] at hR
        subst hR ge
        go_enter Tryz.func34, Tryz.ntmps34
        go_wp2_with fail
        with_reducible refine (CS.out _).mono ?_
        rintro e w1 ⟨rfl, rfl⟩
        go_wp2_with fail
        go_ret
        exact ⟨rfl, Below.refl _ _⟩
      · rw [if_neg ge] at hR
        subst hR
        have te : (e2 != 0) = true := bne_iff_ne.2 ge
        clear ge
        go_enter Tryz.func34, Tryz.ntmps34
        go_wp2_with fail
        with_reducible refine (CS.out _).mono ?_
        rintro e w1 ⟨rfl, rfl⟩
        go_wp2_with fail
        go_ret
        exact ⟨rfl, Below.refl _ _⟩
    · rw [if_neg (by simpa using g2)] at hR
      rw [show (some c == some 39) = false from by rw [beq_eq_false_iff_ne]; simpa using g2] at T39
      subst hR
      clear g1 g2
      go_enter Tryz.func34, Tryz.ntmps34
      go_wp2_with fail
      go_ret
      exact ⟨rfl, Below.refl _ _⟩
set_option maxHeartbeats 1000000 in
theorem comment_any (l : List UInt8) (a : Nat) (w : World) (hs : l.length ≤ 1073741824) (ha : a ≤ l.length) :
    Calls Tryz.prog 36 #[.string (bs l), .int .i64 a] w fun e w' => e = .returned (.int .i64 (noteL l a)) ∧ w = w' := by
  have sl := bs_size l
  obtain ⟨R, hR⟩ : ∃ R, noteL l a = R := ⟨_, rfl⟩
  rw [hR]
  unfold noteL at hR
  obtain ⟨m, hm⟩ : ∃ m, max a 1 = m := ⟨_, rfl⟩
  have hm1 : 1 ≤ m := by omega
  have hm2 : m ≤ l.length + 1 := by omega
  have hmax : max (a : Int) 1 = (m : Int) := by omega
  rw [hm] at hR
  have HR := Lib.hid hR
  have ha0 : (a : Int) ≤ (l.length : Int) := by omega
  clear hR hm
  go_enter Tryz.func36, Tryz.ntmps36
  go_wp2_with fail
  go_loop [5] (fun s3 => ∃ k f : Nat, s3 = .int .i64 k ∧ 1 ≤ k ∧ k ≤ l.length + 1 ∧ l.length < k + f ∧ Hid (noteGo l f k = R)) (fun s3 => l.length + 1 - (RowKit.intOf s3).toNat)
  case atStart => exact ⟨m, l.length + 1, rfl, hm1, hm2, by omega, HR.out⟩
  case round =>
    obtain ⟨k, f, rfl, hk1, hk2, hf, HG⟩ := hrel
    have hg := HG.out
    by_cases hlt : k < l.length
    · have hlt' : k < (bs l).size := by omega
      obtain ⟨j, rfl⟩ : ∃ j, k = j + 1 := ⟨k - 1, by omega⟩
      have hj' : j < (bs l).size := by omega
      obtain ⟨g, rfl⟩ : ∃ g, f = g + 1 := ⟨f - 1, by omega⟩
      have T1 := byte_eq ((bs l)[j + 1]'hlt') 35 35 rfl
      have T2 := byte_eq ((bs l)[j]'hj') 32 32 rfl
      have e1 := at_bs l (j + 1) hlt'
      have e2 := at_bs l j hj'
      unfold noteGo at hg
      rw [if_neg (by omega), Nat.add_sub_cancel, e1, e2] at hg
      obtain ⟨x, hx⟩ : ∃ x, (bs l)[j + 1]'hlt' = x := ⟨_, rfl⟩
      obtain ⟨y, hy⟩ : ∃ y, (bs l)[j]'hj' = y := ⟨_, rfl⟩
      rw [hx] at T1 hg
      rw [hy] at T2 hg
      have hx2 : (((bs l)[j + 1]'hlt').toNat : Int) = (x.toNat : Int) := by rw [hx]
      have hy2 : (((bs l)[j]'hj').toNat : Int) = (y.toNat : Int) := by rw [hy]
      obtain ⟨xi, hxi⟩ : ∃ xi : Int, (x.toNat : Int) = xi := ⟨_, rfl⟩
      obtain ⟨yi, hyi⟩ : ∃ yi : Int, (y.toNat : Int) = yi := ⟨_, rfl⟩
      rw [hxi] at T1 hx2
      rw [hyi] at T2 hy2
      have hj1 : ((j + 1 : Nat) : Int) = (j : Int) + 1 := by omega
      by_cases h1 : x = 35
      · rw [show (x == 35) = true from beq_iff_eq.2 h1] at T1
        by_cases h2 : y = 32
        · rw [show (y == 32) = true from beq_iff_eq.2 h2] at T2
          rw [if_pos ⟨by rw [h1], by rw [h2]⟩] at hg
          have HF := Lib.hid hg
          clear hg HG e1 e2 hx hy hxi hyi h1 h2
          go_wp2_with fail
          go_ret
          exact ⟨ret_int (by rw [← HF.out]; omega), rfl⟩
        · rw [show (y == 32) = false from beq_eq_false_iff_ne.2 h2] at T2
          rw [if_neg (fun h => h2 (by simpa using h.2))] at hg
          have HG2 := Lib.hid hg
          clear hg HG e1 e2 hx hy hxi hyi h1 h2
          go_wp2_with fail
          go_round
          case rel => exact ⟨j + 1 + 1, g, by go_num, by omega, by omega, by omega, HG2.out⟩
          case measure => simp [RowKit.intOf]; omega
      · rw [show (x == 35) = false from beq_eq_false_iff_ne.2 h1] at T1
        rw [if_neg (fun h => h1 (by simpa using h.1))] at hg
        have HG2 := Lib.hid hg
        clear hg HG e1 e2 hx hy hxi hyi h1
        go_wp2_with fail
        go_round
        case rel => exact ⟨j + 1 + 1, g, by go_num, by omega, by omega, by omega, HG2.out⟩
        case measure => simp [RowKit.intOf]; omega
    · have HF : Hid (R = l.length) := by
        cases f with
        | zero => exact Lib.hid hg.symm
        | succ f => unfold noteGo at hg; rw [if_pos (by omega)] at hg; exact Lib.hid hg.symm
      clear hg HG
      go_wp2_with fail
      go_ret
      exact ⟨ret_int (by rw [HF.out]), rfl⟩
set_option maxHeartbeats 1000000 in
theorem colon_any (l : List UInt8) (k : Nat) (w : World) (hs : l.length ≤ 1073741824) (hk : k ≤ 1073741824) :
    Calls Tryz.prog 65 #[.string (bs l), .int .i64 k] w fun e w' => e = .returned (.bool (signL l k 58)) ∧ w = w' := by
  have sl := bs_size l
  obtain ⟨R, hR⟩ : ∃ R, signL l k 58 = R := ⟨_, rfl⟩
  rw [hR]
  unfold signL at hR
  by_cases hlt : k < l.length
  · have hlt' : k < (bs l).size := by omega
    have hb := bs_at l k hlt hlt'
    have T1 := byte_eq ((bs l)[k]'hlt') 58 58 rfl
    rw [List.getElem?_eq_getElem hlt, ← hb] at hR
    have d1 : decide (k < l.length) = true := decide_eq_true hlt
    obtain ⟨x, hx⟩ : ∃ x, (bs l)[k]'hlt' = x := ⟨_, rfl⟩
    rw [hx] at T1 hR
    have hx2 : (((bs l)[k]'hlt').toNat : Int) = (x.toNat : Int) := by rw [hx]
    obtain ⟨y, hy⟩ : ∃ y : Int, (x.toNat : Int) = y := ⟨_, rfl⟩
    rw [hy] at T1 hx2
    by_cases he : x = 58
    · rw [show (x == 58) = true from beq_iff_eq.2 he] at T1
      rw [show (some x == some 58) = true from by rw [he]; exact beq_self_eq_true _, Bool.true_and] at hR
      by_cases hl1 : k + 1 = l.length
      · have t2 : ((k : Int) + 1 == (l.length : Int)) = true := beq_iff_eq.2 (by omega)
        rw [List.getElem?_eq_none (by omega)] at hR
        have hRt : R = true := by rw [← hR]; rfl
        subst hRt
        clear hR hb he hx hy hl1
        go_enter Tryz.func65, Tryz.ntmps65
        go_wp2_with fail
        go_ret
        exact ⟨rfl, rfl⟩
      · have t2 : ((k : Int) + 1 == (l.length : Int)) = false := beq_eq_false_iff_ne.2 (by omega)
        have hk1 : k + 1 < l.length := by omega
        have hk1' : k + 1 < (bs l).size := by omega
        have hb1 := bs_at l (k + 1) hk1 hk1'
        have T2 := byte_eq ((bs l)[k + 1]'hk1') 32 32 rfl
        rw [List.getElem?_eq_getElem hk1, ← hb1] at hR
        have hRt : ((bs l)[k + 1]'hk1' == 32) = R := by rw [← hR]; simp
        rw [hRt] at T2
        clear hR hb hb1 he hx hy hl1 hRt
        go_enter Tryz.func65, Tryz.ntmps65
        go_wp2_with fail
        go_ret
        exact ⟨rfl, rfl⟩
    · rw [show (x == 58) = false from beq_eq_false_iff_ne.2 he] at T1
      rw [show (some x == some 58) = false from beq_eq_false_iff_ne.2 (fun h => he (Option.some.inj h)), Bool.false_and] at hR
      subst hR
      clear hb he hx hy
      go_enter Tryz.func65, Tryz.ntmps65
      go_wp2_with fail
      go_ret
      exact ⟨rfl, rfl⟩
  · have d1 : decide (k < l.length) = false := decide_eq_false hlt
    rw [List.getElem?_eq_none (by omega)] at hR
    have hRf : R = false := by rw [← hR]; rfl
    subst hRf
    clear hR
    go_enter Tryz.func65, Tryz.ntmps65
    go_wp2_with fail
    go_ret
    exact ⟨rfl, rfl⟩
end Go.Proofs.YtbbjgdnbekoaeaaGreatDoor
