import Derived.Test.YtdegjfmjjabnnaaGreatDoorNumPl
import Derived.Deep.CutBlock
/-! The walks of the reference: digits, nought, Right, parts. -/
namespace Go.Proofs.YtdegjfmjjabnnaaGreatDoor
set_option linter.unusedSimpArgs false
set_option linter.unusedVariables false
open Go.RowKit
open Go.Lib hiding intOf

theorem isDig_int (b : UInt8) : isDig b = (decide (48 ≤ (b.toNat : Int)) && decide ((b.toNat : Int) ≤ 57)) := by
  unfold isDig
  rw [← Bool.decide_and]
  exact decide_eq_decide.2 (by omega)
set_option maxHeartbeats 1000000 in
theorem refDigits_any (s : ByteArray) (w : World) (hs : s.size ≤ 4294967296) :
    Calls Tryz.prog 54 #[.string s] w fun e w' => e = .returned (.bool (allDig s.data.toList)) ∧ Below w.heap.size w w' := by
  obtain ⟨R, hR⟩ : ∃ R, allDig s.data.toList = R := ⟨_, rfl⟩
  rw [hR]
  have HR := Lib.hid hR; clear hR
  go_enter Tryz.func54, Tryz.ntmps54
  go_wp2_with fail
  go_loopw [3] (fun i wr => ∃ p : Nat, p ≤ s.size ∧ i = .int .i64 p ∧ Hid (Digs s p) ∧ wr = w) (fun i _ => s.size - (RowKit.intOf i).toNat)
  case atStart => exact ⟨0, by omega, rfl, Digs.zero s, rfl⟩
  case round =>
    obtain ⟨p, hp, rfl, HD, rfl⟩ := hrel
    by_cases hlt : p < s.size
    · have hlt' : (p : Int) < (s.size : Int) := by omega
      cases hd : isDig (s[p]'hlt) with
      | true =>
        have HN := Lib.hid (HD.out.next hlt hd)
        have hb := of_decide_eq_true hd
        clear hd
        go_wp2_with fail
        go_roundw
        case rel => exact ⟨p + 1, by omega, by rw [show ((p : Int) + 1) = ((p + 1 : Nat) : Int) by omega], HN.out, by first | rfl | trivial⟩
        case measure => simp [RowKit.intOf]; omega
      | false =>
        have hno : (s[p]'hlt).toNat < 48 ∨ 57 < (s[p]'hlt).toNat := by have h1 := of_decide_eq_false hd; omega
        have HF := Lib.hid (HR.out.symm.trans (digs_no hlt hd))
        clear hd
        rcases hno with hno | hno
        all_goals
          go_wp2_with fail
          go_ret
          exact ⟨ret_bool HF.out.symm, Below.refl _ _⟩
    · have hp2 : p = s.size := by omega
      subst hp2
      have HF := Lib.hid (HR.out.symm.trans (HD.out.fin (Nat.le_refl _)))
      go_wp2_with fail
      go_ret
      refine ⟨ret_bool ?_, Below.refl _ _⟩
      rw [HF.out, Lib.toList_data]
      have hl : s.data.toList.length = s.size := rfl
      cases h : s.data.toList with
      | nil => rw [h] at hl; rw [← hl]; rfl
      | cons x t => rw [h] at hl; rw [← hl]; exact decide_eq_true (by simp)
theorem refDigits_is (s : ByteArray) (w : World) (R : Bool) (hs : s.size ≤ 4294967296) (h : allDig s.data.toList = R) :
    Calls Tryz.prog 54 #[.string s] w fun e w' => e = .returned (.bool R) ∧ Below w.heap.size w w' := by
  rw [← h]; exact refDigits_any s w hs
theorem refNought_any (neg : Bool) (d : ByteArray) (e : Int) (w : World) :
    Calls Tryz.prog 55 #[.agg #[.bool neg, .string d, .int .i64 e]] w fun en w' => en = .returned (.bool (decide ((⟨neg, d.data.toList, e⟩ : Num) = nought))) ∧ Below w.heap.size w w' := by
  obtain ⟨R, hR⟩ : ∃ R, decide ((⟨neg, d.data.toList, e⟩ : Num) = nought) = R := ⟨_, rfl⟩
  rw [hR]
  have HR := Lib.hid hR; clear hR
  go_enter Tryz.func55, Tryz.ntmps55
  go_wp2_with fail
  all_goals go_ret
  all_goals refine ⟨ret_bool ?_, (Below.refl _ _).alloc (Nat.le_refl _) _⟩
  all_goals rw [← HR.out]
  all_goals clear HR
  all_goals try simp only [Lib.toList_data] at *
  all_goals first
    | (symm; apply decide_eq_true; simp_all [nought])
    | (symm; apply decide_eq_false; simp_all [nought])
theorem rightB_of {n : Num} : rightB n = (decide (n = nought) || decide (rightP n)) := by
  unfold rightB; by_cases h1 : n = nought <;> by_cases h2 : rightP n <;> simp [h1, h2]
set_option maxHeartbeats 2000000 in
theorem refRight_any (neg : Bool) (d : ByteArray) (e : Int) (w : World) (hd : d.size ≤ 4294967296) :
    Calls Tryz.prog 35 #[.agg #[.bool neg, .string d, .int .i64 e]] w fun en w' => en = .returned (.bool (rightB ⟨neg, d.data.toList, e⟩)) ∧ Below w.heap.size w w' := by
  have hl : d.data.toList.length = d.size := rfl
  obtain ⟨N, hN⟩ : ∃ N, decide ((⟨neg, d.data.toList, e⟩ : Num) = nought) = N := ⟨_, rfl⟩
  have CN := Lib.hid (show ∀ w, Calls Tryz.prog 55 #[.agg #[.bool neg, .string d, .int .i64 e]] w fun en w' => en = .returned (.bool N) ∧ Below w.heap.size w w' from fun w => hN ▸ refNought_any neg d e w)
  have hB := rightB_of (n := ⟨neg, d.data.toList, e⟩)
  rw [hN] at hB
  clear hN
  generalize rightB ⟨neg, d.data.toList, e⟩ = R at *
  cases N with
  | true =>
    rw [Bool.true_or] at hB
    subst hB
    go_enter Tryz.func35, Tryz.ntmps35
    go_wp2_with fail
    refine (CN.out _).mono ?_
    rintro en w1 ⟨rfl, hb1⟩
    go_wp2_with fail
    all_goals go_ret
    all_goals exact ⟨rfl, ((Below.refl _ _).alloc (Nat.le_refl _) _).trans (hb1.mono (by simp))⟩
  | false =>
    rw [Bool.false_or] at hB
    cases hD : allDig d.data.toList with
    | false =>
      obtain rfl : R = false := hB.trans (decide_eq_false (fun h => by have := h.1; simp only [] at this; rw [hD] at this; cases this))
      have HC := Lib.hid (fun w => refDigits_is d w false hd hD)
      clear hD hB
      go_enter Tryz.func35, Tryz.ntmps35
      go_wp2_with fail
      refine (CN.out _).mono ?_
      rintro en w1 ⟨rfl, hb1⟩
      obtain ⟨hc1, hf1⟩ := bcell hb1
      go_wp2_with fail
      refine (HC.out _).mono ?_
      rintro en w2 ⟨rfl, hb2⟩
      have HB := Lib.hid ((((Below.refl _ _).alloc (Nat.le_refl _) _).trans (hb1.mono (by simp))).trans (hb2.mono (by have := hb1.size; simp at this; omega)))
      have hz1 : w.heap.size < w1.heap.size := by have := hb1.size; simp at this; omega
      obtain ⟨hc2, hf2⟩ := bcell hb2
      clear hb1 hb2
      go_wp2_with fail
      all_goals go_ret
      all_goals exact ⟨rfl, HB.out⟩
    | true =>
      have h0 : 0 < d.size := by
        have := (allDig_ne hD).1
        rcases Nat.eq_zero_or_pos d.size with h | h
        · exact absurd (List.eq_nil_of_length_eq_zero (by omega)) this
        · exact h
      have HC := Lib.hid (fun w => refDigits_is d w true hd hD)
      have hlast : d.size - 1 < d.size := by omega
      have e1 := head_at d h0
      have e2 := last_at d hlast
      have b1 := is48 (d[0]'h0)
      have b2 := is48 (d[d.size - 1]'hlast)
      have RP : rightP ⟨neg, d.data.toList, e⟩ ↔ d.size ≤ 1000 ∧ ¬ (d[0]'h0) = 48 ∧ ¬ (d[d.size - 1]'hlast) = 48 ∧ -1000000 ≤ e ∧ e ≤ 1000000 := by
        unfold rightP
        simp only [hD, hl, e1, e2, true_and, ne_eq, Option.some.injEq]
      have n1 : (((d[0]'h0).toNat : Int) != 48) = !(((d[0]'h0).toNat : Int) == 48) := rfl
      have n2 : (((d[d.size - 1]'hlast).toNat : Int) != 48) = !(((d[d.size - 1]'hlast).toNat : Int) == 48) := rfl
      have hB2 : R = (decide (d.size ≤ 1000) && (!decide ((d[0]'h0) = 48) && (!decide ((d[d.size - 1]'hlast) = 48) && (decide (-1000000 ≤ e) && decide (e ≤ 1000000))))) := by
        rw [hB]
        refine Bool.eq_iff_iff.2 ?_
        simp only [Bool.and_eq_true, decide_eq_true_eq, Bool.not_eq_true', decide_eq_false_iff_not]
        exact RP
      clear hD e1 e2 RP hB
      rw [b1] at n1
      rw [b2] at n2
      generalize decide ((d[0]'h0) = 48) = X1 at *
      generalize decide ((d[d.size - 1]'hlast) = 48) = X2 at *
      have HR := Lib.hid hB2; clear hB2
      have hc : 1000 < d.size ∨ (d.size ≤ 1000 ∧ X1 = true) ∨ (d.size ≤ 1000 ∧ X1 = false ∧ X2 = true) ∨ (d.size ≤ 1000 ∧ X1 = false ∧ X2 = false) := by
        rcases Nat.lt_or_ge 1000 d.size with h | h
        · exact .inl h
        · cases X1 <;> cases X2 <;> simp [h]
      rcases hc with c1 | ⟨c1, rfl⟩ | ⟨c1, rfl, rfl⟩ | ⟨c1, rfl, rfl⟩
      all_goals
        go_enter Tryz.func35, Tryz.ntmps35
        go_wp2_with fail
        refine (CN.out _).mono ?_
        rintro en w1 ⟨rfl, hb1⟩
        obtain ⟨hc1, hf1⟩ := bcell hb1
        go_wp2_with fail
        refine (HC.out _).mono ?_
        rintro en w2 ⟨rfl, hb2⟩
        have HB := Lib.hid ((((Below.refl _ _).alloc (Nat.le_refl _) _).trans (hb1.mono (by simp))).trans (hb2.mono (by have := hb1.size; simp at this; omega)))
        have hz1 : w.heap.size < w1.heap.size := by have := hb1.size; simp at this; omega
        obtain ⟨hc2, hf2⟩ := bcell hb2
        clear hb1 hb2
        go_wp2_with fail
        all_goals go_ret
        all_goals refine ⟨ret_bool ?_, HB.out⟩
        all_goals rw [HR.out]
        all_goals first
          | (simp; omega)
          | (simp [c1]; done)
          | (simp [c1]; omega)
          | (rename_i h; simp [c1, h]; done)
          | (rename_i h; simp [c1, h]; omega)
def cutLen (p : UInt8 → Bool) (l : List UInt8) : Nat := (l.takeWhile (fun c => !p c)).length
theorem cutLen_le (p : UInt8 → Bool) (l : List UInt8) : cutLen p l ≤ l.length := (List.takeWhile_sublist _).length_le
theorem cutLen_take (p : UInt8 → Bool) (l : List UInt8) : l.take (cutLen p l) = l.takeWhile (fun c => !p c) := by
  have h := List.takeWhile_append_dropWhile (p := fun c => !p c) (l := l)
  unfold cutLen
  conv => lhs; arg 2; rw [← h]
  exact List.take_left
theorem cutLen_drop (p : UInt8 → Bool) (l : List UInt8) : l.drop (cutLen p l) = l.dropWhile (fun c => !p c) := by
  have h := List.takeWhile_append_dropWhile (p := fun c => !p c) (l := l)
  unfold cutLen
  conv => lhs; arg 2; rw [← h]
  exact List.drop_left
theorem cutAt_len3 (p : UInt8 → Bool) (l : List UInt8) : cutAt p l = (l.take (cutLen p l), l.drop (cutLen p l + 1), decide (cutLen p l < l.length)) := by
  have h1 := cutLen_take p l
  have h2 := cutLen_drop p l
  have h3 := congrArg List.length h2
  rw [List.length_drop] at h3
  unfold cutAt
  split
  · rename_i e
    rw [e] at h3
    simp only [List.length_nil] at h3
    rw [decide_eq_false (by omega), List.take_of_length_le (by omega), List.drop_of_length_le (by omega)]
  · rename_i e
    rw [e] at h2 h3
    simp only [List.length_cons] at h3
    rw [decide_eq_true (by omega), h1, ← List.drop_drop, h2]; rfl
theorem takeWhile_all {p : UInt8 → Bool} : ∀ {l : List UInt8}, l.all p = true → l.takeWhile p = l
  | [], _ => rfl
  | c :: t, h => by
    rw [List.all_cons, Bool.and_eq_true] at h
    rw [List.takeWhile_cons, if_pos h.1, takeWhile_all h.2]
theorem noneYet_cut {p : UInt8 → Bool} {l : List UInt8} {k : Nat} (h : NoneYet p (bs l) k) (hk : k = (bs l).size ∨ ∃ hk : k < (bs l).size, p ((bs l)[k]'hk) = true) : k = cutLen p l := by
  unfold NoneYet at h
  rw [bs_data] at h
  have hs := bs_size l
  rcases hk with hk | ⟨hk, hp⟩
  · rw [List.take_of_length_le (by omega)] at h
    unfold cutLen
    rw [takeWhile_all h]; omega
  · have hk2 : k < l.length := by omega
    have e : l = l.take k ++ (l[k] :: l.drop (k + 1)) := by rw [← List.drop_eq_getElem_cons hk2, List.take_append_drop]
    have hb : (bs l)[k]'hk = l[k] := by simp [bs, ByteArray.getElem_eq_getElem_data]
    rw [hb] at hp
    unfold cutLen
    rw [e, List.takeWhile_append_of_pos (by rw [List.all_eq_true] at h; exact h), List.takeWhile_cons, if_neg (by simp [hp])]
    simp; omega
def partsV (l : List UInt8) : Value :=
  let c := cutAt isE (unsign l)
  let m := cutAt isDot c.1
  let x := if c.2.2 then unplus c.2.1 else [48]
  let r := if m.2.2 then m.2.1 else [48]
  .tuple #[.bool (l.head? == some 45), .string (bs m.1), .string (bs (if m.2.2 then m.2.1 else [])), .bool (c.2.2 && c.2.1.head? == some 45), .string (bs x), .bool (allDig m.1 && allDig r && allDig x && (m.1 == [48] || m.1.head? != some 48))]
set_option maxRecDepth 100000 in
set_option maxHeartbeats 2000000 in
theorem parts_any (l : List UInt8) (w : World) (hs : l.length ≤ 4294967296) :
    Calls Tryz.prog 34 #[.string (bs l)] w fun e w' => e = .returned (partsV l) ∧ Below w.heap.size w w' := by
  have hu := unsign_len l
  have sl := bs_size l
  obtain ⟨R, hR⟩ : ∃ R, partsV l = R := ⟨_, rfl⟩
  rw [hR]
  obtain ⟨ng, hng⟩ : ∃ ng, (l.head? == some 45) = ng := ⟨_, rfl⟩
  have HR := Lib.hid hR; have HNg := Lib.hid hng; clear hR hng
  go_enter Tryz.func34, Tryz.ntmps34
  go_upto_region 1 with fail
  go_cut [8] (fun s8 wx => s8 = .bool ng ∧ w = wx)
  case first =>
    by_cases h0 : 0 < (bs l).size
    · have hT := head_is l 45 45 rfl h0
      rw [HNg.out] at hT
      cases ng
      all_goals
        go_wp2_with fail
        go_meet
        exact ⟨rfl, rfl⟩
    · have hl0 : l = [] := List.eq_nil_of_length_eq_zero (by omega)
      subst hl0
      obtain rfl : false = ng := HNg.out
      go_wp2_with fail
      go_meet
      exact ⟨rfl, rfl⟩
  case rest =>
    obtain ⟨rfl, rfl⟩ := hcut
    go_upto_if 23 with fail
    go_cut [0] (fun s0 wx => s0 = .string (bs (unsign l)) ∧ w = wx)
    case first =>
      have hng := HNg.out
      cases ng with
      | true =>
        have h1 : 1 ≤ (bs l).size := by
          cases l with
          | nil => exact absurd hng (by decide)
          | cons _ _ => simp at sl ⊢; omega
        have hU : unsign l = l.drop 1 := by unfold unsign; rw [if_pos (beq_iff_eq.1 hng)]
        have HU := Lib.hid hU
        clear hU hng
        go_wp2_with fail
        go_meet
        exact ⟨by rw [HU.out, bs_from _ _ _ rfl], rfl⟩
      | false =>
        have HU := Lib.hid (unsign_no hng).1
        clear hng
        go_wp2_with fail
        go_meet
        exact ⟨by rw [HU.out], rfl⟩
    obtain ⟨rfl, rfl⟩ := hcut
    obtain ⟨u, hU⟩ : ∃ u, unsign l = u := ⟨_, rfl⟩
    rw [hU] at hu ⊢
    have HU := Lib.hid hU; clear hU
    have su := bs_size u
    go_upto_block 0 with fail
    go_cut [9] (fun s9 wx => s9 = .int .i64 (cutLen isE u) ∧ w = wx)
    case first =>
      go_wp2_with fail
      go_loopw [9] (fun i wr => ∃ k : Nat, k ≤ (bs u).size ∧ i = .int .i64 k ∧ Hid (NoneYet isE (bs u) k) ∧ w = wr) (fun i _ => (bs u).size - (RowKit.intOf i).toNat)
      case atStart => exact ⟨0, by omega, rfl, rfl, rfl⟩
      case round =>
        obtain ⟨k, hk, rfl, HY, rfl⟩ := hrel
        by_cases hlt : k < (bs u).size
        · cases hp : isE ((bs u)[k]'hlt) with
          | true =>
            have HC := Lib.hid (noneYet_cut HY.out (.inr ⟨hlt, hp⟩))
            have T1 := byte_ne ((bs u)[k]'hlt) 101 101 rfl
            have T2 := byte_ne ((bs u)[k]'hlt) 69 69 rfl
            unfold isE at hp
            by_cases h1 : (((bs u)[k]'hlt) == 101) = true
            · rw [h1] at T1
              clear hp h1 T2
              go_wp2_with fail
              go_meet
              exact ⟨by rw [← HC.out], rfl⟩
            · rw [Bool.not_eq_true] at h1
              rw [h1, Bool.false_or] at hp
              rw [h1] at T1
              rw [hp] at T2
              clear hp h1
              go_wp2_with fail
              go_meet
              exact ⟨by rw [← HC.out], rfl⟩
          | false =>
            have HN := Lib.hid (HY.out.next hlt hp)
            have T1 := byte_ne ((bs u)[k]'hlt) 101 101 rfl
            have T2 := byte_ne ((bs u)[k]'hlt) 69 69 rfl
            unfold isE at hp
            rw [Bool.or_eq_false_iff] at hp
            rw [hp.1] at T1
            rw [hp.2] at T2
            clear hp
            go_wp2_with fail
            go_roundw
            case rel => exact ⟨k + 1, by omega, by go_num, HN.out, trivial⟩
            case measure => simp [RowKit.intOf]; omega
        · have HC := Lib.hid (noneYet_cut HY.out (.inl (by omega)))
          go_wp2_with fail
          go_meet
          exact ⟨by rw [← HC.out], rfl⟩
    obtain ⟨rfl, rfl⟩ := hcut
    have hcl := cutLen_le isE u
    obtain ⟨K, hK⟩ : ∃ K, cutLen isE u = K := ⟨_, rfl⟩
    have hc := cutAt_len3 isE u
    rw [hK] at hcl hc
    rw [hK]
    have HC := Lib.hid hc; clear hK hc
    obtain ⟨X, hX⟩ : ∃ X, (if (cutAt isE u).2.2 then unplus (cutAt isE u).2.1 else [48]) = X := ⟨_, rfl⟩
    obtain ⟨mn, hmn⟩ : ∃ mn, ((cutAt isE u).2.2 && (cutAt isE u).2.1.head? == some 45) = mn := ⟨_, rfl⟩
    have HX := Lib.hid hX; have HM := Lib.hid hmn; clear hX hmn
    go_upto_if 47 with fail
    go_cut [10, 11] (fun s10 s11 wx => s10 = .string (bs X) ∧ s11 = .bool mn ∧ w = wx)
    case first =>
      have hx := HX.out
      have hm := HM.out
      rw [HC.out] at hx hm
      by_cases hk : K < u.length
      · rw [decide_eq_true hk] at hx hm
        simp only [if_true, Bool.true_and] at hx hm
        obtain ⟨y, hy⟩ : ∃ y, u.drop (K + 1) = y := ⟨_, rfl⟩
        rw [hy] at hx hm
        have HY := Lib.hid hy
        have sy := bs_size y
        have hky : y.length ≤ u.length := by rw [← hy, List.length_drop]; omega
        clear hy
        have HX2 := Lib.hid hx; have HM2 := Lib.hid hm; clear hx hm
        go_upto_region 10 with fail
        go_cut [10] (fun s10 wx => s10 = .string (bs y) ∧ w = wx)
        case first =>
          go_wp2_with fail
          go_meet
          exact ⟨by rw [bs_from _ _ _ rfl, HY.out], rfl⟩
        obtain ⟨rfl, rfl⟩ := hcut
        go_upto_region 11 with fail
        go_cut [11] (fun s11 wx => s11 = .bool mn ∧ w = wx)
        case first =>
          by_cases h0 : 0 < (bs y).size
          · have hT := head_is y 45 45 rfl h0
            rw [HM2.out] at hT
            cases mn
            all_goals
              go_wp2_with fail
              go_meet
              exact ⟨rfl, rfl⟩
          · have hl0 : y = [] := List.eq_nil_of_length_eq_zero (by omega)
            subst hl0
            obtain rfl : false = mn := HM2.out
            go_wp2_with fail
            go_meet
            exact ⟨rfl, rfl⟩
        obtain ⟨rfl, rfl⟩ := hcut
        obtain ⟨pl, hpl⟩ : ∃ pl, (y.head? == some 43) = pl := ⟨_, rfl⟩
        have HP := Lib.hid hpl; clear hpl
        have hne : mn = true ∨ pl = true → 1 ≤ (bs y).size := by
          intro h
          have h1 := HM2.out; have h2 := HP.out
          cases y with
          | nil => rcases h with rfl | rfl; exact absurd h1 (by decide); exact absurd h2 (by decide)
          | cons _ _ => simp at sy ⊢; omega
        go_upto_region 12 with fail
        obtain ⟨q, hq⟩ : ∃ q, (mn || pl) = q := ⟨_, rfl⟩
        have HQ := Lib.hid hq; clear hq
        go_cut [70] (fun s70 wx => s70 = .bool q ∧ w = wx)
        case first =>
          cases mn with
          | true =>
            obtain rfl : true = q := HQ.out
            go_wp2_with fail
            go_meet
            exact ⟨rfl, rfl⟩
          | false =>
            by_cases h0 : 0 < (bs y).size
            · have hT := head_is y 43 43 rfl h0
              rw [HP.out] at hT
              cases pl
              · obtain rfl : false = q := HQ.out
                go_wp2_with fail
                go_meet
                exact ⟨rfl, rfl⟩
              · obtain rfl : true = q := HQ.out
                go_wp2_with fail
                go_meet
                exact ⟨rfl, rfl⟩
            · have hl0 : y = [] := List.eq_nil_of_length_eq_zero (by omega)
              subst hl0
              obtain rfl : false = pl := HP.out
              obtain rfl : false = q := HQ.out
              go_wp2_with fail
              go_meet
              exact ⟨rfl, rfl⟩
        obtain ⟨rfl, rfl⟩ := hcut
        have hxx := HX2.out
        unfold unplus at hxx
        cases q with
        | true =>
          have hor : mn = true ∨ pl = true := by have := HQ.out; rwa [Bool.or_eq_true] at this
          have h1 := hne hor
          have hor2 : y.head? = some 45 ∨ y.head? = some 43 := by
            rcases hor with h | h
            · exact .inl (beq_iff_eq.1 (HM2.out.trans h))
            · exact .inr (beq_iff_eq.1 (HP.out.trans h))
          rw [if_pos hor2] at hxx
          have HX3 := Lib.hid hxx; clear hxx hor hor2 hne
          go_wp2_with fail
          go_meet
          exact ⟨by rw [bs_from _ _ _ rfl, HX3.out], rfl, rfl⟩
        | false =>
          have hno := HQ.out
          rw [Bool.or_eq_false_iff] at hno
          have hor2 : ¬ (y.head? = some 45 ∨ y.head? = some 43) := by
            rintro (h | h)
            · have := HM2.out; rw [hno.1, beq_eq_false_iff_ne] at this; exact this h
            · have := HP.out; rw [hno.2, beq_eq_false_iff_ne] at this; exact this h
          rw [if_neg hor2] at hxx
          subst hxx
          clear hno hor2 hne
          go_wp2_with fail
          go_meet
          exact ⟨rfl, rfl, rfl⟩
      · rw [decide_eq_false hk] at hx hm
        simp only [Bool.false_eq_true, if_false, Bool.false_and] at hx hm
        subst hx
        subst hm
        have hk2 : K = u.length := by omega
        subst hk2
        go_wp2_with fail
        go_meet
        exact ⟨rfl, rfl, rfl⟩
    obtain ⟨rfl, rfl, rfl⟩ := hcut
    obtain ⟨m, hm⟩ : ∃ m, (cutAt isE u).1 = m := ⟨_, rfl⟩
    have hm2 := hm
    rw [HC.out] at hm2
    have hml : m.length ≤ u.length := by rw [← hm2]; simp; omega
    have HMm := Lib.hid hm; have HM3 := Lib.hid hm2; clear hm hm2
    have sm := bs_size m
    go_upto_region 14 with fail
    go_cut [0] (fun s0 wx => s0 = .string (bs m) ∧ w = wx)
    case first =>
      go_wp2_with fail
      go_meet
      exact ⟨by rw [bs_front, bs_data, HM3.out], rfl⟩
    obtain ⟨rfl, rfl⟩ := hcut
    go_upto_block 2 with fail
    go_cut [9] (fun s9 wx => s9 = .int .i64 (cutLen isDot m) ∧ w = wx)
    case first =>
      go_wp2_with fail
      go_loopw [9] (fun i wr => ∃ k : Nat, k ≤ (bs m).size ∧ i = .int .i64 k ∧ Hid (NoneYet isDot (bs m) k) ∧ w = wr) (fun i _ => (bs m).size - (RowKit.intOf i).toNat)
      case atStart => exact ⟨0, by omega, rfl, rfl, rfl⟩
      case round =>
        obtain ⟨k, hk, rfl, HY, rfl⟩ := hrel
        by_cases hlt : k < (bs m).size
        · have T1 := byte_ne ((bs m)[k]'hlt) 46 46 rfl
          cases hp : isDot ((bs m)[k]'hlt) with
          | true =>
            have HC := Lib.hid (noneYet_cut HY.out (.inr ⟨hlt, hp⟩))
            unfold isDot at hp
            rw [hp] at T1
            clear hp
            go_wp2_with fail
            go_meet
            exact ⟨by rw [← HC.out], rfl⟩
          | false =>
            have HN := Lib.hid (HY.out.next hlt hp)
            unfold isDot at hp
            rw [hp] at T1
            clear hp
            go_wp2_with fail
            go_roundw
            case rel => exact ⟨k + 1, by omega, by go_num, HN.out, trivial⟩
            case measure => simp [RowKit.intOf]; omega
        · have HC := Lib.hid (noneYet_cut HY.out (.inl (by omega)))
          go_wp2_with fail
          go_meet
          exact ⟨by rw [← HC.out], rfl⟩
    obtain ⟨rfl, rfl⟩ := hcut
    have hcl2 := cutLen_le isDot m
    obtain ⟨K2, hK2⟩ : ∃ K2, cutLen isDot m = K2 := ⟨_, rfl⟩
    have hc2 := cutAt_len3 isDot m
    rw [hK2] at hcl2 hc2
    rw [hK2]
    have HC2 := Lib.hid hc2; clear hK2 hc2
    obtain ⟨wh, hwh⟩ : ∃ wh, (cutAt isDot m).1 = wh := ⟨_, rfl⟩
    obtain ⟨r, hr⟩ : ∃ r, (if (cutAt isDot m).2.2 then (cutAt isDot m).2.1 else [48]) = r := ⟨_, rfl⟩
    obtain ⟨rs, hrs⟩ : ∃ rs, (if (cutAt isDot m).2.2 then (cutAt isDot m).2.1 else []) = rs := ⟨_, rfl⟩
    have HWh := Lib.hid hwh; have HRr := Lib.hid hr; have HRs := Lib.hid hrs
    rw [HC2.out] at hwh hr hrs
    simp only [] at hwh
    have hwl : wh.length ≤ m.length := by rw [← hwh]; simp; omega
    have HWh2 := Lib.hid hwh; clear hwh
    have swh := bs_size wh
    go_upto_region 18 with fail
    go_cut [12] (fun s12 wx => s12 = .string (bs wh) ∧ w = wx)
    case first =>
      go_wp2_with fail
      go_meet
      exact ⟨by rw [bs_front, bs_data, HWh2.out], rfl⟩
    obtain ⟨rfl, rfl⟩ := hcut
    have hrl : r.length ≤ 4294967296 := by
      rw [← hr]
      by_cases hk : K2 < m.length
      · rw [decide_eq_true hk]; simp; omega
      · rw [decide_eq_false hk]; simp
    have HR2 := Lib.hid hr; clear hr
    have HRs2 := Lib.hid hrs; clear hrs
    go_upto_if 94 with fail
    go_cut [13] (fun s13 wx => s13 = .string (bs r) ∧ w = wx)
    case first =>
      have hr := HR2.out
      by_cases hk : K2 < m.length
      · rw [decide_eq_true hk, if_pos rfl] at hr
        have HR3 := Lib.hid hr; clear hr
        go_wp2_with fail
        go_meet
        exact ⟨by rw [bs_from _ _ _ rfl, HR3.out], rfl⟩
      · rw [decide_eq_false hk, if_neg (by simp)] at hr
        subst hr
        have hk2 : K2 = m.length := by omega
        subst hk2
        go_wp2_with fail
        go_meet
        exact ⟨rfl, rfl⟩
    obtain ⟨rfl, rfl⟩ := hcut
    have hXl : X.length ≤ 4294967296 := by
      have hx := HX.out
      rw [HC.out] at hx
      rw [← hx]
      by_cases hk : K < u.length
      · rw [decide_eq_true hk, if_pos rfl]
        unfold unplus
        split <;> simp <;> omega
      · rw [decide_eq_false hk]; simp
    obtain ⟨D1, hD1⟩ : ∃ D1, allDig wh = D1 := ⟨_, rfl⟩
    obtain ⟨D2, hD2⟩ : ∃ D2, allDig r = D2 := ⟨_, rfl⟩
    obtain ⟨D3, hD3⟩ : ∃ D3, allDig X = D3 := ⟨_, rfl⟩
    have C1 := Lib.hid (fun w => refDigits_is (bs wh) w D1 (by rw [bs_size]; omega) (by rw [bs_data]; exact hD1))
    have C2 := Lib.hid (fun w => refDigits_is (bs r) w D2 (by rw [bs_size]; omega) (by rw [bs_data]; exact hD2))
    have C3 := Lib.hid (fun w => refDigits_is (bs X) w D3 (by rw [bs_size]; omega) (by rw [bs_data]; exact hD3))
    have HD1 := Lib.hid hD1; have HD2 := Lib.hid hD2; have HD3 := Lib.hid hD3
    clear hD1 hD2 hD3
    go_upto_region 22 with fail
    go_cut [14] (fun s14 wx => s14 = .bool (D1 && D2 && D3 && (wh == [48] || wh.head? != some 48)) ∧ Hid (Below w.heap.size w wx))
    case first =>
      cases D1 with
      | false =>
        go_wp2_with (go_at_call 54; (with_reducible refine (C1.out _).mono ?_); rintro e w1 ⟨rfl, hb1⟩)
        go_meet
        exact ⟨by simp, hb1⟩
      | true =>
        have hne : wh ≠ [] := (allDig_ne HD1.out).1
        have h0 : 0 < (bs wh).size := by
          cases wh with
          | nil => exact absurd rfl hne
          | cons _ _ => simp at swh ⊢; omega
        clear hne
        go_wp2_with (go_at_call 54; (with_reducible refine (C1.out _).mono ?_); rintro e w1 ⟨rfl, hb1⟩)
        cases D2 with
        | false =>
          refine (C2.out _).mono ?_
          rintro e w2 ⟨rfl, hb2⟩
          go_wp2_with fail
          go_meet
          exact ⟨by simp, below_of_new hb1 hb2⟩
        | true =>
          refine (C2.out _).mono ?_
          rintro e w2 ⟨rfl, hb2⟩
          have HB2 := Lib.hid (below_of_new hb1 hb2); clear hb1 hb2
          cases D3 with
          | false =>
            go_wp2_with (go_at_call 54; (with_reducible refine (C3.out _).mono ?_); rintro e w3 ⟨rfl, hb3⟩)
            go_meet
            exact ⟨by simp, below_of_new HB2.out hb3⟩
          | true =>
            have hT := head_is wh 48 48 rfl h0
            have hT2 := byte_ne ((bs wh)[0]'h0) 48 48 rfl
            have hT3 := byte_eq ((bs wh)[0]'h0) 48 48 rfl
            rw [← hT3, hT] at hT2
            clear hT hT3
            by_cases hz : wh = [48]
            · subst hz
              have e1 : ((bs [48]).toList == [48]) = true := by rw [Lib.toList_data, bs_data]; rfl
              go_wp2_with (go_at_call 54; (with_reducible refine (C3.out _).mono ?_); rintro e w3 ⟨rfl, hb3⟩)
              go_meet
              exact ⟨by simp, below_of_new HB2.out hb3⟩
            · have e1 : (bs wh).toList = wh := by rw [Lib.toList_data, bs_data]
              have e2 : (wh == [48]) = false := beq_eq_false_iff_ne.2 hz
              cases hh : wh.head? == some 48
              all_goals
                have HH := Lib.hid hh
                rw [hh] at hT2
                clear hh
                go_wp2_with (go_at_call 54; (with_reducible refine (C3.out _).mono ?_); rintro e w3 ⟨rfl, hb3⟩)
                go_meet
                exact ⟨by rw [bne, HH.out, e2]; rfl, below_of_new HB2.out hb3⟩
    obtain ⟨rfl, HB⟩ := hcut
    go_upto_if 121 with fail
    go_cut [13] (fun s13 wx => s13 = .string (bs rs) ∧ Hid (Below w.heap.size w wx))
    case first =>
      have hr := HR2.out
      have hr2 := HRs2.out
      by_cases hk : K2 < m.length
      · rw [decide_eq_true hk, if_pos rfl] at hr hr2
        have h3 := hr2.symm.trans hr
        have H3 := Lib.hid h3; clear hr hr2 h3
        have hT : ((K2 : Int) == (m.length : Int)) = false := beq_eq_false_iff_ne.2 (by omega)
        go_wp2_with fail
        go_meet
        exact ⟨by rw [H3.out], HB.out⟩
      · rw [decide_eq_false hk, if_neg (by simp)] at hr hr2
        subst hr hr2
        have hk2 : K2 = m.length := by omega
        subst hk2
        go_wp2_with fail
        go_meet
        exact ⟨rfl, HB.out⟩
    obtain ⟨rfl, HB2⟩ := hcut
    go_wp2_with fail
    refine bodyPost_ret (v := .tuple #[.bool ng, .string (bs wh), .string (bs rs), .bool mn, .string (bs X), .bool (D1 && D2 && D3 && (wh == [48] || wh.head? != some 48))]) ?_ rfl ⟨?_, HB2.out⟩
    · simp [results, Tryz.results34, go_sem]
    · rw [← HR.out]
      unfold partsV
      simp only [HU.out, HMm.out, HNg.out, HX.out, HM.out, HWh.out, HRr.out, HRs.out, HD1.out, HD2.out, HD3.out]
theorem neg_ne {n : Num} (h : rightB n = true) (hn : n.neg = true) : n.dig ≠ [] := by
  rcases of_decide_eq_true h with h | h
  · subst h; cases hn
  · exact (allDig_ne h.1).1
theorem cmpL_ref (a b : Num) (ha : rightB a = true) (hb : rightB b = true) : cmpL a b = if a.neg != b.neg then (if a.neg then -1 else 1) else if a.neg then sizeL b a else sizeL a b := by
  unfold cmpL
  rw [ha, hb, if_neg (by simp), if_neg (by simp), if_neg (by simp)]
  have na := neg_ne ha
  have nb := neg_ne hb
  have hf := farL_neg a b
  unfold sizeL sgn min1
  by_cases h1 : a.dig = [] <;> by_cases h2 : b.dig = [] <;> cases e1 : a.neg <;> cases e2 : b.neg
  all_goals simp_all
theorem refRight_num (n : Num) (w : World) (hd : n.dig.length ≤ 4294967296) (R : Bool) (h : rightB n = R) :
    Calls Tryz.prog 35 #[.agg #[.bool n.neg, .string (bs n.dig), .int .i64 n.exp]] w fun en w' => en = .returned (.bool R) ∧ Below w.heap.size w w' := by
  have := refRight_any n.neg (bs n.dig) n.exp w (by rw [bs_size]; omega)
  rw [bs_data, h] at this; exact this
end Go.Proofs.YtdegjfmjjabnnaaGreatDoor
