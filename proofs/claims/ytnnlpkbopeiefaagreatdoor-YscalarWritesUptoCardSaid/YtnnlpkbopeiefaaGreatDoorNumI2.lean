import Derived.Test.YtnnlpkbopeiefaaGreatDoorNumK
import Derived.Deep.CutBlock
/-! The walk of the reference's Int. -/
namespace Go.Proofs.YtnnlpkbopeiefaaGreatDoor
set_option linter.unusedSimpArgs false
set_option linter.unusedVariables false
open Go.RowKit
open Go.Lib hiding intOf
def digI (l : List UInt8) (k : Nat) : Int := match l[k]? with | some c => (c.toNat : Int) - 48 | none => 0
theorem rightB_digs {n : Num} (h : rightB n = true) : n.dig.all isDig = true ∧ n.dig.getLast? ≠ some 48 := by
  rcases of_decide_eq_true h with h | h
  · subst h; exact ⟨rfl, by decide⟩
  · exact ⟨(allDig_ne h.1).2, h.2.2.2.1⟩
theorem digI_bd (l : List UInt8) (k : Nat) (hd : l.all isDig = true) : 0 ≤ digI l k ∧ digI l k ≤ 9 := by
  unfold digI
  cases h : l[k]? with
  | none => simp
  | some c =>
    rw [List.all_eq_true] at hd
    have h1 := of_decide_eq_true (hd c (List.mem_of_getElem? h))
    simp only []; omega
theorem digI_at (l : List UInt8) (k : Nat) (h : k < (bs l).size) (hd : l.all isDig = true) : 48 ≤ ((bs l)[k]'h).toNat ∧ ((bs l)[k]'h).toNat ≤ 57 ∧ digI l k = (((bs l)[k]'h).toNat : Int) - 48 := by
  have hs := bs_size l
  have hk : k < l.length := by omega
  have hb : (bs l)[k]'h = l[k] := by simp [bs, ByteArray.getElem_eq_getElem_data]
  rw [List.all_eq_true] at hd
  have h1 := of_decide_eq_true (hd _ (List.getElem_mem hk))
  rw [hb]
  unfold digI
  rw [List.getElem?_eq_getElem hk]
  exact ⟨h1.1, h1.2, rfl⟩
theorem digI_out (l : List UInt8) (k : Nat) (h : l.length ≤ k) : digI l k = 0 := by unfold digI; rw [List.getElem?_eq_none h]
/-- A number as an int, where it is one. -/
def intL (n : Num) : Int × Bool :=
  if rightB n = false ∨ n.exp < 0 ∨ 19 < topOf n then (0, false) else
  if -9223372036854775808 ≤ (if n.neg then - mag n else mag n) ∧ (if n.neg then - mag n else mag n) ≤ 9223372036854775807 then (if n.neg then - mag n else mag n, true) else (0, false)
def intV (n : Num) : Ending := .returned (.tuple #[.int .i64 (intL n).1, .bool (intL n).2])
theorem lim_int (v c : Int) (h0 : 0 ≤ c) (h9 : c ≤ 9) : v < (-9223372036854775808 + c).tdiv 10 ↔ 10 * v - c < -9223372036854775808 := by
  rw [show (-9223372036854775808 + c) = -(9223372036854775808 - c) by omega, Int.neg_tdiv, Int.tdiv_eq_ediv_of_nonneg (by omega)]
  omega
theorem pre_step (Z : List UInt8) (i : Nat) (h : i < Z.length) (hd : Z.all isDig = true) : decV (Z.take (i + 1)) = 10 * decV (Z.take i) + digI Z i := by
  rw [List.take_succ_eq_append_getElem h, decV_snoc]
  unfold digI
  rw [List.getElem?_eq_getElem h]
theorem digI_pad (d : List UInt8) (E i : Nat) : digI (d ++ List.replicate E 48) i = digI d i := by
  unfold digI
  by_cases h : i < d.length
  · rw [List.getElem?_append_left h]
  · rw [List.getElem?_append_right (by omega), List.getElem?_eq_none (l := d) (by omega), List.getElem?_replicate]
    by_cases g : i - d.length < E
    · rw [if_pos g]; rfl
    · rw [if_neg g]
theorem decV_mono (Z : List UInt8) (hd : Z.all isDig = true) (i : Nat) : decV (Z.take i) ≤ decV Z := by
  have h := decV_append (Z.take i) (Z.drop i)
  rw [List.take_append_drop] at h
  have h1 : (Z.take i).all isDig = true := by rw [List.all_eq_true] at hd ⊢; exact fun x hx => hd x (List.take_subset _ _ hx)
  have h2 : (Z.drop i).all isDig = true := by rw [List.all_eq_true] at hd ⊢; exact fun x hx => hd x (List.drop_subset _ _ hx)
  have b1 := decV_bd _ h1
  have b2 := decV_bd _ h2
  have hp : (1 : Int) ≤ 10 ^ (Z.drop i).length := by
    have : ((1 : Nat) : Int) ≤ ((10 ^ (Z.drop i).length : Nat) : Int) := by exact_mod_cast Nat.pow_pos (n := (Z.drop i).length) (by decide)
    simpa using this
  have hm : decV (Z.take i) * 1 ≤ decV (Z.take i) * 10 ^ (Z.drop i).length := Int.mul_le_mul_of_nonneg_left hp b1.1
  omega
set_option maxRecDepth 100000 in
set_option maxHeartbeats 4000000 in
theorem refInt_any (n : Num) (w : World) (hd : n.dig.length ≤ 4294967296) :
    Calls Tryz.prog 216 #[.agg #[.bool n.neg, .string (bs n.dig), .int .i64 n.exp]] w fun e w' => e = intV n ∧ Below w.heap.size w w' := by
  obtain ⟨A1, hA⟩ : ∃ A1, rightB n = A1 := ⟨_, rfl⟩
  have CA := Lib.hid (fun w => refRight_num n w hd A1 hA)
  obtain ⟨R, hR⟩ : ∃ R, intV n = R := ⟨_, rfl⟩
  rw [hR]
  have hfacts : A1 = true → n.dig.length ≤ 1000 ∧ -1000000 ≤ n.exp ∧ n.exp ≤ 1000000 ∧ n.dig.all isDig = true := fun h => by
    have hb := rightB_bd (hA.trans h)
    exact ⟨hb.1, hb.2.1, hb.2.2, (rightB_digs (hA.trans h)).1⟩
  have hmag := mag_pad n
  unfold intV intL topOf at hR
  rw [hA] at hR
  obtain ⟨ng, d, ex⟩ := n
  simp only [] at hR hfacts hmag CA hd ⊢
  have sd := bs_size d
  have HN := Lib.hid (NumBox.new w ⟨ng, d, ex⟩)
  clear hA
  cases A1 with
  | false =>
    rw [if_pos (.inl rfl)] at hR
    have HR := Lib.hid hR; clear hR hfacts hmag
    go_enter Tryz.func216, Tryz.ntmps216
    go_wp2_with fail
    refine (CA.out _).mono ?_
    rintro e w1 ⟨rfl, hb1⟩
    go_wp2_with fail
    go_ret2
    exact ⟨HR.out, (below_alloc1 w _).trans (hb1.mono (by simp))⟩
  | true =>
    obtain ⟨f1, f2, f3, f4⟩ := hfacts rfl
    clear hfacts
    by_cases hbad : ex < 0 ∨ 19 < (d.length : Int) + ex
    · rw [if_pos (.inr hbad)] at hR
      have HR := Lib.hid hR; clear hR hmag f4
      by_cases hneg : ex < 0
      · go_enter Tryz.func216, Tryz.ntmps216
        go_wp2_with fail
        refine (CA.out _).mono ?_
        rintro e w1 ⟨rfl, hb1⟩
        have HN1 := Lib.hid (HN.out.keep hb1)
        obtain ⟨c0, c1, c2⟩ := HN1.out.cells
        go_wp2_with fail
        go_ret2
        exact ⟨HR.out, (below_alloc1 w _).trans (hb1.mono (by simp))⟩
      · have hbig := hbad.resolve_left hneg
        clear hbad
        go_enter Tryz.func216, Tryz.ntmps216
        go_wp2_with fail
        refine (CA.out _).mono ?_
        rintro e w1 ⟨rfl, hb1⟩
        have HN1 := Lib.hid (HN.out.keep hb1)
        obtain ⟨c0, c1, c2⟩ := HN1.out.cells
        go_wp2_with fail
        go_ret2
        exact ⟨HR.out, (below_alloc1 w _).trans (hb1.mono (by simp))⟩
    · rw [if_neg (by rintro (h | h); exact absurd h (by simp); exact hbad h)] at hR
      have g1 : 0 ≤ ex := by omega
      have g2 : (d.length : Int) + ex ≤ 19 := by omega
      obtain ⟨E, rfl⟩ : ∃ E : Nat, ex = E := ⟨ex.toNat, by omega⟩
      rw [Int.toNat_natCast] at hmag
      obtain ⟨Z, hZ⟩ : ∃ Z, d ++ List.replicate E 48 = Z := ⟨_, rfl⟩
      have hZl : Z.length = d.length + E := by rw [← hZ]; simp
      have hZd : Z.all isDig = true := by rw [← hZ, List.all_append, f4, Bool.true_and]; exact all_zeros E
      have hdg : ∀ i, digI Z i = digI d i := fun i => by rw [← hZ]; exact digI_pad d E i
      rw [hZ] at hmag
      rw [← hmag] at hR
      clear hmag hbad hZ
      have HR := Lib.hid hR; have HZd := Lib.hid hZd; have HDg := Lib.hid hdg; have HF4 := Lib.hid f4; have HZl := Lib.hid hZl
      have hl19 : d.length + E ≤ 19 := by omega
      clear hR hZd hdg f4 hZl
      go_enter Tryz.func216, Tryz.ntmps216
      go_wp2_with fail
      refine (CA.out _).mono ?_
      rintro e w1 ⟨rfl, hb1⟩
      have HO := Lib.hid (One.of (HN.out.keep hb1) ((below_alloc1 w _).trans (hb1.mono (by simp))))
      obtain ⟨c0, c1, c2⟩ := HO.out.1
      simp only [] at c0 c1 c2
      have HB := Lib.hid HO.out.2.out.2
      clear hb1
      go_upto_block 0 with fail
      go_cut [5] (fun s5 wx => Hid (s5 = .int .i64 (-(decV Z)) ∧ -9223372036854775808 ≤ -(decV Z)) ∧ w1 = wx)
      case first =>
        go_wp2_with fail
        go_loopw [5, 6, 7] (fun s5 s6 _ wr => ∃ i : Nat, s6 = .int .i64 i ∧ i ≤ d.length + E ∧ (∃ v : Int, s5 = .int .i64 v ∧ Hid (v = -(decV (Z.take i)) ∧ -9223372036854775808 ≤ v)) ∧ w1 = wr) (fun _ s6 _ _ => d.length + E - (RowKit.intOf s6).toNat)
        case atStart => exact ⟨0, rfl, by omega, ⟨0, rfl, by simp [decV], by decide⟩, rfl⟩
        case round =>
          obtain ⟨i, rfl, hi, ⟨v, rfl, HV⟩, rfl⟩ := hrel
          by_cases hlt : i < d.length + E
          · obtain ⟨c, hc⟩ : ∃ c, digI d i = c := ⟨_, rfl⟩
            have cb := digI_bd d i HF4.out
            rw [hc] at cb
            have hst := pre_step Z i (by rw [HZl.out]; exact hlt) HZd.out
            rw [HDg.out i, hc] at hst
            have hmono := decV_mono Z HZd.out (i + 1)
            have hpb := (decV_bd (Z.take i) (by have := HZd.out; rw [List.all_eq_true] at this ⊢; exact fun x hx => this x (List.take_subset _ _ hx))).1
            obtain ⟨hv1, hv2⟩ := HV.out
            have hv0 : v ≤ 0 := by omega
            have HC := Lib.hid hc
            have HS := Lib.hid (show decV (Z.take (i + 1)) = -(10 * v - c) by rw [hst, hv1]; omega)
            have HM := Lib.hid hmono
            clear hc hst hmono hpb hv1 HV
            go_upto_if 40 with fail
            go_cut [7] (fun s7 wx => s7 = .int .i64 c ∧ w1 = wx)
            case first =>
              by_cases h1 : i < d.length
              · have h1' : i < (bs d).size := by omega
                obtain ⟨q1, q2, q3⟩ := digI_at d i h1' HF4.out
                have HG := Lib.hid (HC.out.symm.trans q3); clear q3
                go_wp2_with fail
                go_meet
                exact ⟨by rw [HG.out], rfl⟩
              · have HG := Lib.hid (HC.out.symm.trans (digI_out d i (by omega)))
                go_wp2_with fail
                go_meet
                exact ⟨by rw [HG.out], rfl⟩
            obtain ⟨rfl, rfl⟩ := hcut
            go_upto_region 11 with fail
            obtain ⟨B, hB⟩ : ∃ B, decide (10 * v - c < -9223372036854775808) = B := ⟨_, rfl⟩
            go_cut [51] (fun s51 wx => s51 = .bool B ∧ w1 = wx)
            case first =>
              have HBl := Lib.hid (show decide (v < (-9223372036854775808 + c).tdiv 10) = B by rw [← hB]; exact decide_eq_decide.2 (lim_int v c cb.1 cb.2))
              clear hB hv2
              go_wp2_with fail
              go_meet
              exact ⟨by rw [HBl.out], rfl⟩
            obtain ⟨rfl, rfl⟩ := hcut
            cases B with
            | true =>
              have hlow := of_decide_eq_true hB
              have hr := HR.out
              rw [if_neg (by
                have h1 := HM.out
                have h2 := HS.out
                rintro ⟨h3, h4⟩
                cases ng
                · rw [if_neg (by simp)] at h3 h4; omega
                · rw [if_pos rfl] at h3 h4; omega)] at hr
              have HF := Lib.hid hr
              clear hr hlow hB hv2
              go_wp2_with fail
              go_ret2
              exact ⟨HF.out, HB.out⟩
            | false =>
              have hlow := of_decide_eq_false hB
              have hn1 : -9223372036854775808 ≤ 10 * v - c := by omega
              have HL := Lib.hid hn1
              have hn2 : -9223372036854775808 ≤ 10 * v := by omega
              clear hB hlow hv2
              go_wp2_with fail
              go_roundw
              case rel => exact ⟨i + 1, by go_num, by omega, ⟨10 * v - c, rfl, by rw [HS.out]; omega, HL.out⟩, trivial⟩
              case measure => simp [RowKit.intOf]; omega
          · obtain rfl : i = d.length + E := by omega
            have hv : v = -(decV Z) := by have := HV.out.1; rw [List.take_of_length_le (by rw [HZl.out]; exact Nat.le_refl _)] at this; exact this
            have HF := Lib.hid (And.intro hv (hv ▸ HV.out.2))
            clear hv
            go_wp2_with fail
            go_meet
            exact ⟨⟨by rw [← HF.out.1], HF.out.2⟩, rfl⟩
      obtain ⟨HV, rfl⟩ := hcut
      obtain ⟨M, hM⟩ : ∃ M, decV Z = M := ⟨_, rfl⟩
      have hM0 := (decV_bd Z HZd.out).1
      have hv := HV.out
      rw [hM] at hv hM0
      have hr := HR.out
      rw [hM] at hr
      obtain ⟨rfl, hv2⟩ := hv
      clear HV HR hM
      cases ng with
      | true =>
        simp only [if_true] at hr
        rw [if_pos (by omega)] at hr
        have HF := Lib.hid hr; clear hr
        go_wp2_with fail
        go_ret2
        exact ⟨HF.out, HB.out⟩
      | false =>
        simp only [Bool.false_eq_true, if_false] at hr
        by_cases hmin : M = 9223372036854775808
        · rw [if_neg (by omega)] at hr
          have HF := Lib.hid hr
          subst hmin
          clear hr hv2 hM0
          go_wp2_with fail
          go_ret2
          exact ⟨HF.out, HB.out⟩
        · rw [if_pos (by omega)] at hr
          have HF := Lib.hid hr; clear hr
          have hT : (-M == -9223372036854775808) = false := beq_eq_false_iff_ne.2 (by omega)
          have hM3 : M ≤ 9223372036854775807 := by omega
          clear hmin hv2
          go_wp2_with fail
          go_ret2
          exact ⟨HF.out, HB.out⟩
end Go.Proofs.YtnnlpkbopeiefaaGreatDoor
