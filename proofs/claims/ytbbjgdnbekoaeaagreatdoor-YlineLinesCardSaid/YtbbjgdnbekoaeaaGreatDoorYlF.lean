import Derived.Test.YtbbjgdnbekoaeaaGreatDoorYlE
import Derived.Test.YtbbjgdnbekoaeaaGreatDoorQuoP
import Derived.Lib.IndexMore
/-! The walks of yline: quoted, note, sign, head. -/
namespace Go.Proofs.YtbbjgdnbekoaeaaGreatDoor
set_option linter.unusedSimpArgs false
set_option linter.unusedVariables false
open Go.RowKit
open Go.Lib hiding intOf

theorem end0_bd (l : List UInt8) : 0 ≤ (endL l 0).1 ∧ (endL l 0).1 ≤ l.length := by
  unfold endL
  rw [if_neg (by omega)]
  unfold readL
  by_cases h1 : 0 ≤ (0 : Int) ∧ l[(0 : Int).toNat]? = some 34
  · rw [if_pos h1]
    have := (read_bd (l.length + 1) (l.drop ((0 : Int).toNat + 1)) ((0 : Int).toNat + 1) []).1
    rw [List.length_drop] at this
    have hl := (List.getElem?_eq_some_iff.1 h1.2).1
    simp only [Int.toNat_zero] at this hl ⊢
    omega
  · rw [if_neg h1]; simp
theorem sqGo_bd : ∀ (f : Nat) (l : List UInt8) (i : Nat) (acc : List UInt8), (i : Int) ≤ (sqGo f l i acc).2.1 ∧ (sqGo f l i acc).2.1 ≤ i + l.length
  | 0, _, _, _ => by simp [sqGo]; omega
  | _ + 1, [], _, _ => by simp [sqGo]
  | f + 1, c :: r, i, acc => by
    rw [sqGo_cons]
    split
    · split
      · rename_i h
        have := sqGo_bd f (r.drop 1) (i + 2) (acc ++ [39])
        rw [List.length_drop] at this
        have h0 : 0 < r.length := by cases r with | nil => simp at h | cons _ _ => simp
        simp only [List.length_cons]
        omega
      · simp only [List.length_cons]; omega
    · split
      · simp only [List.length_cons]; omega
      · have hle := decodeL_le (c :: r) (List.cons_ne_nil _ _)
        have := sqGo_bd f ((c :: r).drop (decodeL (c :: r)).2) (i + (decodeL (c :: r)).2) (acc ++ (c :: r).take (decodeL (c :: r)).2)
        rw [List.length_drop] at this
        omega
theorem sq0_bd (l : List UInt8) : 0 ≤ (sqL l 0).2.1 ∧ (sqL l 0).2.1 ≤ l.length := by
  unfold sqL
  rw [if_neg (by omega)]
  by_cases h1 : l[(0 : Int).toNat]? = some 39
  · rw [if_pos h1]
    have := sqGo_bd (l.length + 1) (l.drop ((0 : Int).toNat + 1)) ((0 : Int).toNat + 1) []
    rw [List.length_drop] at this
    have hl := (List.getElem?_eq_some_iff.1 h1).1
    simp only [Int.toNat_zero] at this hl ⊢
    omega
  · rw [if_neg h1]; simp
theorem qdL_le (l : List UInt8) : qdL l ≤ l.length := by
  have h1 := end0_bd l
  have h2 := sq0_bd l
  unfold qdL
  repeat' split
  all_goals omega
set_option maxHeartbeats 1000000 in
theorem qd_any (l : List UInt8) (w : World) (hs : l.length ≤ 1073741824) (hV : SVar w) (hT : Tabs w) :
    Calls Tryz.prog 30 #[.string (bs l)] w fun e w' => e = .returned (.int .i64 (qdL l)) ∧ Below w.heap.size w w' := by
  have sl := bs_size l
  obtain ⟨R, hR⟩ : ∃ R, qdL l = R := ⟨_, rfl⟩
  rw [hR]
  unfold qdL at hR
  have HV := Lib.hid hV; have HT := Lib.hid hT; clear hV hT
  cases l with
  | nil =>
    simp at hR
    subst hR
    have he : (bs ([] : List UInt8)).toList = [] := by rw [Lib.toList_data, bs_data]
    have he2 : (bs ([] : List UInt8)).toList.isEmpty = true := by rw [Lib.toList_data, bs_data]; rfl
    go_enter Tryz.func30, Tryz.ntmps30
    go_wp2_with fail
    go_ret
    exact ⟨rfl, Below.refl _ _⟩
  | cons c r =>
    have h0 : 0 < (bs (c :: r)).size := by rw [bs_size]; simp
    have hne : (bs (c :: r)).toList.isEmpty = false := by rw [Lib.toList_data, bs_data]; rfl
    have hne2 : ¬ (bs (c :: r)).toList = [] := by rw [Lib.toList_data, bs_data]; simp
    have T34 := head_is (c :: r) 34 34 rfl h0
    have T39 := head_is (c :: r) 39 39 rfl h0
    rw [List.head?_cons] at T34 T39 hR
    have hlen : (c :: r).length = r.length + 1 := rfl
    obtain ⟨L, hL⟩ : ∃ L, c :: r = L := ⟨_, rfl⟩
    have CE := Lib.hid (fun w hV hT => end_any (c :: r) 0 w hs hV hT)
    have CS := Lib.hid (fun w hT => single_any (c :: r) 0 w hs hT)
    have eb := end0_bd (c :: r)
    have sb := sq0_bd (c :: r)
    obtain ⟨E, hE⟩ : ∃ E, endL (c :: r) 0 = E := ⟨_, rfl⟩
    obtain ⟨k1, e1⟩ := E
    obtain ⟨Q, hQ⟩ : ∃ Q, sqL (c :: r) 0 = Q := ⟨_, rfl⟩
    obtain ⟨q1, k2, e2⟩ := Q
    rw [hE] at CE eb hR
    rw [hQ] at CS sb hR
    unfold ReadE at CS
    simp only [] at CE CS eb sb hR
    obtain ⟨x, hx⟩ : ∃ x : Int, (((bs (c :: r))[0]'h0).toNat : Int) = x := ⟨_, rfl⟩
    rw [hx] at T34 T39
    clear hE hQ hL
    by_cases g1 : c = 34
    · rw [if_pos (by rw [g1])] at hR
      rw [show (some c == some 34) = true from by rw [g1]; rfl] at T34
      clear T39 g1
      by_cases ge : e1 = 0
      · rw [if_pos ge] at hR
        obtain ⟨n, rfl⟩ : ∃ n : Nat, k1 = n := ⟨k1.toNat, by omega⟩
        rw [Int.toNat_natCast] at hR
        subst hR ge
        go_enter Tryz.func30, Tryz.ntmps30
        go_wp2_with fail
        with_reducible refine (CE.out _ HV.out HT.out).mono ?_
        rintro e w1 ⟨rfl, hb1⟩
        go_wp2_with fail
        go_ret
        exact ⟨rfl, hb1⟩
      · rw [if_neg ge] at hR
        subst hR
        have te : (e1 != 0) = true := bne_iff_ne.2 ge
        clear ge
        go_enter Tryz.func30, Tryz.ntmps30
        go_wp2_with fail
        with_reducible refine (CE.out _ HV.out HT.out).mono ?_
        rintro e w1 ⟨rfl, hb1⟩
        go_wp2_with fail
        go_ret
        exact ⟨rfl, hb1⟩
    rw [if_neg (by simpa using g1)] at hR
    rw [show (some c == some 34) = false from by rw [beq_eq_false_iff_ne]; simpa using g1] at T34
    by_cases g2 : c = 39
    · rw [if_pos (by rw [g2])] at hR
      rw [show (some c == some 39) = true from by rw [g2]; rfl] at T39
      clear g1 g2
      by_cases ge : e2 = 0
      · rw [if_pos ge] at hR
        obtain ⟨n, rfl⟩ : ∃ n : Nat, k2 = n := ⟨k2.toNat, by omega⟩
        rw [Int.toNat_natCast] at hR
        subst hR ge
        go_enter Tryz.func30, Tryz.ntmps30
        go_wp2_with fail
        with_reducible refine (CS.out _ HT.out).mono ?_
        rintro e w1 ⟨rfl, hb1⟩
        go_wp2_with fail
        go_ret
        exact ⟨rfl, hb1⟩
      · rw [if_neg ge] at hR
        subst hR
        have te : (e2 != 0) = true := bne_iff_ne.2 ge
        clear ge
        go_enter Tryz.func30, Tryz.ntmps30
        go_wp2_with fail
        with_reducible refine (CS.out _ HT.out).mono ?_
        rintro e w1 ⟨rfl, hb1⟩
        go_wp2_with fail
        go_ret
        exact ⟨rfl, hb1⟩
    · rw [if_neg (by simpa using g2)] at hR
      rw [show (some c == some 39) = false from by rw [beq_eq_false_iff_ne]; simpa using g2] at T39
      subst hR
      clear g1 g2
      go_enter Tryz.func30, Tryz.ntmps30
      go_wp2_with fail
      go_ret
      exact ⟨rfl, Below.refl _ _⟩
theorem occ2 (s : List UInt8) (j : Nat) : Lib.occAt s [32, 35] j = true ↔ s[j]? = some 32 ∧ s[j + 1]? = some 35 := by
  unfold Lib.occAt
  have h1 : s[j]? = (s.drop j)[0]? := by rw [List.getElem?_drop, Nat.add_zero]
  have h2 : s[j + 1]? = (s.drop j)[1]? := by rw [List.getElem?_drop]
  rw [h1, h2]
  match s.drop j with
  | [] => simp [List.isPrefixOf]
  | [a] => simp [List.isPrefixOf]
  | a :: b :: r =>
    simp [List.isPrefixOf]
    constructor
    · rintro ⟨rfl, rfl⟩; exact ⟨rfl, rfl⟩
    · rintro ⟨rfl, rfl⟩; exact ⟨rfl, rfl⟩
/-- What note makes of strings.Index. -/
theorem note_index (l : List UInt8) (a m : Nat) (ha : a ≤ l.length) (hm : m + 1 = max a 1) (hl : m ≤ l.length) :
    (Lib.index (l.drop m) [32, 35] = -1 → noteL l a = l.length) ∧ (∀ i : Nat, Lib.index (l.drop m) [32, 35] = i → noteL l a = m + i + 1 ∧ m + i + 1 ≤ l.length) := by
  have hocc : ∀ j, Lib.occAt (l.drop m) [32, 35] j = true ↔ l[m + j]? = some 32 ∧ l[m + j + 1]? = some 35 := fun j => by
    rw [occ2, List.getElem?_drop, List.getElem?_drop]; rfl
  have hnot : ∀ i, (∀ j, j < i → Lib.occAt (l.drop m) [32, 35] j = false) → ∀ j, max a 1 ≤ j → j < m + i + 1 → ¬ (l[j]? = some 35 ∧ l[j - 1]? = some 32) := by
    rintro i h j h1 h2 ⟨e1, e2⟩
    have := h (j - 1 - m) (by omega)
    have h3 := (hocc (j - 1 - m)).2 ⟨by rw [show m + (j - 1 - m) = j - 1 by omega]; exact e2, by rw [show m + (j - 1 - m) + 1 = j by omega]; exact e1⟩
    rw [this] at h3; cases h3
  rcases Lib.index_spec (l.drop m) [32, 35] with ⟨h1, h2⟩ | ⟨i, h1, h2, h3, h4⟩
  · refine ⟨fun _ => noteL_unique l a l.length (Nat.le_refl _) (fun h => absurd h (Nat.lt_irrefl _)) (fun j g1 g2 => ?_), fun i hi => by rw [h1] at hi; omega⟩
    refine hnot (l.length - m) (fun j hj => h2 j (by rw [List.length_drop]; omega)) j g1 (by omega)
  · refine ⟨fun h => by rw [h1] at h; omega, fun i' hi => ?_⟩
    obtain rfl : i = i' := by rw [h1] at hi; omega
    have ho := (hocc i).1 h3
    have hlt := (List.getElem?_eq_some_iff.1 ho.2).1
    refine ⟨noteL_unique l a (m + i + 1) (by omega) (fun _ => ⟨by omega, ho.2, by rw [Nat.add_sub_cancel]; exact ho.1⟩) (hnot i (fun j hj => ?_)), by omega⟩
    exact h4 j hj
set_option maxHeartbeats 1000000 in
theorem note_any (l : List UInt8) (a : Nat) (w : World) (hs : l.length ≤ 1073741824) (ha : a ≤ l.length) (hM : MVar w) :
    Calls Tryz.prog 63 #[.string (bs l), .int .i64 a] w fun e w' => e = .returned (.int .i64 (noteL l a)) ∧ w = w' := by
  have sl := bs_size l
  obtain ⟨M, hM⟩ := hM
  obtain ⟨m, hm⟩ : ∃ m, m + 1 = max a 1 := ⟨max a 1 - 1, by omega⟩
  have hml : m ≤ l.length := by omega
  have hni := note_index l a m ha hm hml
  obtain ⟨X, hX⟩ : ∃ X, Lib.index (l.drop m) [32, 35] = X := ⟨_, rfl⟩
  have hge := Lib.index_ge (l.drop m) [32, 35]
  have CI : Hid (Calls Tryz.prog 79 #[.string ((bs l).extract m l.length), .string ⟨#[32, 35]⟩] w fun e w' => e = .returned (.int .i64 X) ∧ w = w') := Lib.hid (by
    have h := Tryz.strings_Index ((bs l).extract m l.length) ⟨#[32, 35]⟩ M w (by rw [bs_from _ _ _ rfl, bs_size, List.length_drop]; omega) hM
    rw [bs_from _ _ _ rfl, bs_data, show (⟨#[32, 35]⟩ : ByteArray).data.toList = [32, 35] from rfl, hX] at h
    rw [bs_from _ _ _ rfl]
    exact h.mono fun _ _ ⟨a, b⟩ => ⟨a, b.symm⟩)
  rw [hX] at hni hge
  obtain ⟨N, hN⟩ : ∃ N, noteL l a = N := ⟨_, rfl⟩
  rw [hN] at hni ⊢
  have hmax : max ((a : Int) - 1) 0 = (m : Int) := by omega
  clear hX hN hM
  have ha0 : (a : Int) ≤ (l.length : Int) := by omega
  have hm0 : (0 : Int) ≤ (m : Int) := by omega
  have hm1 : (m : Int) ≤ (l.length : Int) := by omega
  have HM := Lib.hid hm; clear hm
  by_cases hx : X < 0
  · have HF := Lib.hid (hni.1 (by omega))
    clear hni
    go_enter Tryz.func63, Tryz.ntmps63
    go_wp2_with (go_at_call 79; refine CI.out.mono ?_; rintro e w' ⟨rfl, rfl⟩)
    go_ret
    exact ⟨ret_int (by rw [HF.out]), rfl⟩
  · obtain ⟨i, rfl⟩ : ∃ i : Nat, X = i := ⟨X.toNat, by omega⟩
    obtain ⟨n1, n2⟩ := hni.2 i rfl
    have HF := Lib.hid n1
    have dx : decide ((i : Int) < 0) = false := decide_eq_false (by omega)
    clear hni hx n1
    go_enter Tryz.func63, Tryz.ntmps63
    go_wp2_with (go_at_call 79; refine CI.out.mono ?_; rintro e w' ⟨rfl, rfl⟩)
    go_ret
    exact ⟨ret_int (by rw [HF.out]; omega), rfl⟩
theorem bs_at (l : List UInt8) (k : Nat) (h : k < l.length) (h2 : k < (bs l).size) : (bs l)[k]'h2 = l[k]'h := by
  have := at_bs l k h2
  rw [List.getElem?_eq_getElem h] at this
  exact (Option.some.inj this).symm
theorem sign_any (l : List UInt8) (k : Nat) (c : UInt8) (w : World) (hs : l.length ≤ 1073741824) (hk : k ≤ 1073741824) :
    Calls Tryz.prog 62 #[.string (bs l), .int .i64 k, .int .u8 (c.toNat : Int)] w fun e w' => e = .returned (.bool (signL l k c)) ∧ w = w' := by
  have sl := bs_size l
  obtain ⟨R, hR⟩ : ∃ R, signL l k c = R := ⟨_, rfl⟩
  rw [hR]
  unfold signL at hR
  by_cases hlt : k < l.length
  · have hlt' : k < (bs l).size := by omega
    have hb := bs_at l k hlt hlt'
    have T1 := byte_eq ((bs l)[k]'hlt') c _ rfl
    rw [List.getElem?_eq_getElem hlt, ← hb] at hR
    have d1 : decide (k < l.length) = true := decide_eq_true hlt
    obtain ⟨n, hn⟩ : ∃ n : Int, (c.toNat : Int) = n := ⟨_, rfl⟩
    rw [hn] at T1 ⊢
    obtain ⟨x, hx⟩ : ∃ x, (bs l)[k]'hlt' = x := ⟨_, rfl⟩
    rw [hx] at T1 hR
    have hx2 : (((bs l)[k]'hlt').toNat : Int) = (x.toNat : Int) := by rw [hx]
    obtain ⟨y, hy⟩ : ∃ y : Int, (x.toNat : Int) = y := ⟨_, rfl⟩
    rw [hy] at T1 hx2
    by_cases he : x = c
    · rw [show (x == c) = true from beq_iff_eq.2 he] at T1
      rw [show (some x == some c) = true from by rw [he]; exact beq_self_eq_true _, Bool.true_and] at hR
      by_cases hl1 : k + 1 = l.length
      · have t2 : ((k : Int) + 1 == (l.length : Int)) = true := beq_iff_eq.2 (by omega)
        rw [List.getElem?_eq_none (by omega)] at hR
        have hRt : R = true := by rw [← hR]; rfl
        subst hRt
        clear hR hb he hx hy hn hl1
        go_enter Tryz.func62, Tryz.ntmps62
        go_wp2_with fail
        go_ret
        exact ⟨rfl, rfl⟩
      · have t2 : ((k : Int) + 1 == (l.length : Int)) = false := beq_eq_false_iff_ne.2 (by omega)
        have hk1 : k + 1 < l.length := by omega
        have hk1' : k + 1 < (bs l).size := by omega
        have hb1 := bs_at l (k + 1) hk1 hk1'
        have T2 := byte_eq ((bs l)[k + 1]'hk1') 32 32 rfl
        rw [List.getElem?_eq_getElem hk1, ← hb1] at hR
        have hRt : ((bs l)[k + 1]'hk1' == 32) = R := by rw [← hR]; simp
        rw [hRt] at T2
        clear hR hb hb1 he hx hy hn hl1 hRt
        go_enter Tryz.func62, Tryz.ntmps62
        go_wp2_with fail
        go_ret
        exact ⟨rfl, rfl⟩
    · rw [show (x == c) = false from beq_eq_false_iff_ne.2 he] at T1
      rw [show (some x == some c) = false from beq_eq_false_iff_ne.2 (fun h => he (Option.some.inj h)), Bool.false_and] at hR
      subst hR
      clear hb he hx hy hn
      go_enter Tryz.func62, Tryz.ntmps62
      go_wp2_with fail
      go_ret
      exact ⟨rfl, rfl⟩
  · have d1 : decide (k < l.length) = false := decide_eq_false hlt
    rw [List.getElem?_eq_none (by omega)] at hR
    have hRf : R = false := by rw [← hR]; rfl
    subst hRf
    clear hR
    go_enter Tryz.func62, Tryz.ntmps62
    go_wp2_with fail
    go_ret
    exact ⟨rfl, rfl⟩
end Go.Proofs.YtbbjgdnbekoaeaaGreatDoor
