import Derived.Test.YtpfkdnhjideflaaDoorNumR
import Derived.Test.YtpfkdnhjideflaaDoorNumX
/-! The walk of number.Int. -/
namespace Go.Proofs.YtpfkdnhjideflaaDoor
set_option linter.unusedSimpArgs false
set_option linter.unusedVariables false
open Go.RowKit
open Go.Lib hiding intOf

def RVar (w : World) : Prop := ∃ tp p, w.var? Tryd.prog "strconv.ErrRange" = some #[.iface tp p]
theorem RVar.keep {w w' : World} (h : RVar w) (hb : Below w.heap.size w w') : RVar w' := let ⟨tp, p, h⟩ := h; ⟨tp, p, var_keep h hb⟩
def intV (n : Num) : Ending := .returned (.tuple #[.int .i64 (intL n).1, .bool (intL n).2])
theorem zeros_any (e : Nat) (w : World) (he : e ≤ 1000000) :
    Calls Tryd.prog 52 #[.string ⟨#[48]⟩, .int .i64 e] w fun en w' => en = .returned (.string (bs (List.replicate e 48))) ∧ Below w.heap.size w w' := by
  have h := Tryd.strings_Repeat ⟨#[48]⟩ e w (by omega) (by show 1 * e ≤ _; omega)
  have hr : Lib.repeatL (⟨#[48]⟩ : ByteArray).data.toList e = List.replicate e 48 := by
    show Lib.repeatL [48] e = _
    clear h he
    induction e with
    | zero => rfl
    | succ k ih => rw [show Lib.repeatL [48] (k + 1) = [48] ++ Lib.repeatL [48] k from rfl, ih, List.replicate_succ]; rfl
  rw [hr] at h
  exact h
abbrev One (B : Nat) (n : Num) (w0 w' : World) : Prop :=
  (w'.cell? ⟨B, 0, none⟩ = some (.bool n.neg) ∧ w'.cell? ⟨B, 1, none⟩ = some (.string (bs n.dig)) ∧ w'.cell? ⟨B, 2, none⟩ = some (.int .i64 n.exp)) ∧ Hid (NumBox w' B n ∧ Below B w0 w')
theorem One.of {B : Nat} {n : Num} {w0 w1 : World} (h : NumBox w1 B n) (hb : Below B w0 w1) : One B n w0 w1 := ⟨h.cells, h, hb⟩
theorem One.step {B : Nat} {n : Num} {w0 w1 w2 : World} (h : One B n w0 w1) (hb : Below w1.heap.size w1 w2) : One B n w0 w2 :=
  One.of (h.2.out.1.keep hb) (h.2.out.2.trans (hb.mono (Nat.le_of_lt (cell_it h.2.out.1))))
theorem One.drew {B : Nat} {n : Num} {w0 w1 : World} (h : One B n w0 w1) : One B n w0 w1.drew := One.of h.2.out.1.drew h.2.out.2.drew
abbrev One2 (B : Nat) (n : Num) (w0 w1 w' : World) : Prop := One B n w0 w' ∧ Hid (Below w1.heap.size w1 w')
theorem One2.start {B : Nat} {n : Num} {w0 w1 : World} (h : One B n w0 w1) : One2 B n w0 w1 w1.drew := ⟨h.drew, (Below.refl _ _).drew⟩
theorem One2.step {B : Nat} {n : Num} {w0 w1 w2 w3 : World} (h : One2 B n w0 w1 w2) (hb : Below w2.heap.size w2 w3) : One2 B n w0 w1 w3 := ⟨h.1.step hb, below_of_new h.2.out hb⟩
set_option maxHeartbeats 4000000 in
theorem int_any (n : Num) (w : World) (hd : n.dig.length ≤ 4294967296) (hV : RVar w) :
    Calls Tryd.prog 31 #[.agg #[.bool n.neg, .string (bs n.dig), .int .i64 n.exp]] w fun e w' => e = intV n ∧ Below w.heap.size w w' := by
  obtain ⟨A1, hA⟩ : ∃ A1, rightB n = A1 := ⟨_, rfl⟩
  have CA := Lib.hid (fun w => right_num n w hd A1 hA)
  obtain ⟨R, hR⟩ : ∃ R, intV n = R := ⟨_, rfl⟩
  rw [hR]
  have hfacts : A1 = true → n.dig.length ≤ 1000 ∧ -1000000 ≤ n.exp ∧ n.exp ≤ 1000000 ∧ n.dig.all isDig = true ∧ (n.neg = true → n.dig ≠ []) ∧ (n.dig = [] → n.neg = false ∧ n.exp = 0) := fun h => by
    have hb := rightB_bd (hA.trans h)
    refine ⟨hb.1, hb.2.1, hb.2.2, ?_, ?_, ?_⟩
    · rcases of_decide_eq_true (hA.trans h) with g | g
      · rw [g]; rfl
      · exact (allDig_ne g.1).2
    · intro hn
      rcases of_decide_eq_true (hA.trans h) with g | g
      · rw [g] at hn; cases hn
      · exact (allDig_ne g.1).1
    · intro hn
      rcases of_decide_eq_true (hA.trans h) with g | g
      · rw [g]; exact ⟨rfl, rfl⟩
      · exact absurd hn (allDig_ne g.1).1
  have hmag := mag_pad n
  unfold intV intL topOf at hR
  rw [hA] at hR
  obtain ⟨ng, d, ex⟩ := n
  simp only [] at hR hfacts hmag CA hd ⊢
  have sd := bs_size d
  have HV := Lib.hid (hV.keep (below_alloc1 w (.cells #[.bool ng, .string (bs d), .int .i64 ex] 24)))
  have hN := NumBox.new w ⟨ng, d, ex⟩
  have HN := Lib.hid hN
  clear hV hA hN
  cases A1 with
  | false =>
    rw [if_pos (.inl rfl)] at hR
    have HR := Lib.hid hR; clear hR hfacts hmag
    go_enter Tryd.func31, Tryd.ntmps31
    go_wp2_with fail
    refine (CA.out _).mono ?_
    rintro e w1 ⟨rfl, hb1⟩
    go_wp2_with fail
    go_ret2
    exact ⟨HR.out, (below_alloc1 w _).trans (hb1.mono (by simp))⟩
  | true =>
    obtain ⟨f1, f2, f3, f4, f5, f6⟩ := hfacts rfl
    clear hfacts
    by_cases hbad : ex < 0 ∨ 19 < (d.length : Int) + ex
    · rw [if_pos (.inr hbad)] at hR
      have HR := Lib.hid hR; clear hR hmag f4 f5 f6
      rcases hbad with hbad | hbad
      · go_enter Tryd.func31, Tryd.ntmps31
        go_wp2_with fail
        refine (CA.out _).mono ?_
        rintro e w1 ⟨rfl, hb1⟩
        have HN1 := Lib.hid (HN.out.keep hb1)
        obtain ⟨c0, c1, c2⟩ := HN1.out.cells
        go_wp2_with fail
        go_ret2
        exact ⟨HR.out, (below_alloc1 w _).trans (hb1.mono (by simp))⟩
      · by_cases hneg : ex < 0
        all_goals
          go_enter Tryd.func31, Tryd.ntmps31
          go_wp2_with fail
          refine (CA.out _).mono ?_
          rintro e w1 ⟨rfl, hb1⟩
          have HN1 := Lib.hid (HN.out.keep hb1)
          obtain ⟨c0, c1, c2⟩ := HN1.out.cells
          go_wp2_with fail
          go_ret2
          exact ⟨HR.out, (below_alloc1 w _).trans (hb1.mono (by simp))⟩
    · rw [if_neg (by rintro (h | h); exact absurd h (by simp); exact hbad h)] at hR
      have g1 : 0 ≤ ex := by omega
      have g2 : (d.length : Int) + ex ≤ 19 := by omega
      obtain ⟨E, rfl⟩ : ∃ E : Nat, ex = E := ⟨ex.toNat, by omega⟩
      rw [Int.toNat_natCast] at hmag
      have CZ := Lib.hid (fun w => zeros_any E w (by omega))
      obtain ⟨Z, hZ⟩ : ∃ Z, d ++ List.replicate E 48 = Z := ⟨_, rfl⟩
      have hZl : Z.length = d.length + E := by rw [← hZ]; simp
      have hZb : bs d ++ bs (List.replicate E 48) = bs Z := by rw [bs_append, hZ]
      have hZd : Z.all isDig = true := by rw [← hZ, List.all_append, f4, Bool.true_and]; exact all_zeros E
      have hZne : Z = [] → ng = false ∧ d = [] := fun h => by
        rw [← hZ] at h
        have hd0 := (List.append_eq_nil_iff.1 h).1
        exact ⟨(f6 hd0).1, hd0⟩
      rw [hZ] at hmag
      obtain ⟨D, hD, _⟩ := decV_nat Z hZd
      rw [← hmag, hD] at hR
      have sz := bs_size (List.replicate E (48 : UInt8))
      rw [List.length_replicate] at sz
      have sZ := bs_size Z
      clear hmag hbad f5 f6 hZ
      have HR := Lib.hid hR; have HZb := Lib.hid hZb; have HZd := Lib.hid hZd; have HZn := Lib.hid hZne; have HD := Lib.hid hD
      clear hR hZb hZd hZne hD f4
      obtain ⟨z, hz⟩ : ∃ z, bs (List.replicate E 48) = z := ⟨_, rfl⟩
      rw [hz] at CZ HZb sz
      clear hz
      go_enter Tryd.func31, Tryd.ntmps31
      go_wp2_with fail
      refine (CA.out _).mono ?_
      rintro e w1 ⟨rfl, hb1⟩
      have HO := Lib.hid (One.of (HN.out.keep hb1) ((below_alloc1 w _).trans (hb1.mono (by simp))))
      obtain ⟨c0, c1, c2⟩ := HO.out.1
      simp only [] at c0 c1 c2
      have HV1 := Lib.hid (HV.out.keep hb1)
      clear hb1 HV
      go_upto_region 3 with fail
      go_cut [4] (fun s4 wx => s4 = .string (bs Z) ∧ Hid (One w.heap.size ⟨ng, d, E⟩ w wx ∧ Below w1.heap.size w1 wx))
      case first =>
        have hadd : ¬ 9223372036854775807 < d.length + E := by omega
        go_region_held3 (fun w' => One2 w.heap.size ⟨ng, d, E⟩ w w1 w') ((first | exact One2.start HO.out | exact One2.step (by assumption) (by assumption)))
          (first
          | (go_at_call 52; refine (CZ.out _).mono ?_; rintro e w2 ⟨rfl, hb2⟩))
        all_goals rename_i hH
        all_goals go_wp2_with fail
        all_goals go_meet
        all_goals exact ⟨by rw [HZb.out], hH.1, hH.2.out⟩
      obtain ⟨rfl, H3⟩ := hcut
      clear c0 c1 c2 CZ CA HN
      obtain ⟨c0, c1, c2⟩ := H3.out.1.1
      simp only [] at c0 c1 c2
      have HV3 := Lib.hid (HV1.out.keep H3.out.2)
      have HB3 := Lib.hid H3.out.1.2.out.2
      clear H3 HV1 HO
      obtain ⟨Y, hY⟩ : ∃ Y, (if ng then 45 :: Z else Z) = Y := ⟨_, rfl⟩
      have HY := Lib.hid hY
      clear hY
      rename_i wx
      go_upto_if 31 with fail
      go_cut [4] (fun s4 wy => s4 = .string (bs Y) ∧ wc = wy)
      case first =>
        have hy := HY.out
        cases ng with
        | false =>
          obtain rfl : Z = Y := hy
          go_wp2_with fail
          go_meet
          exact ⟨rfl, rfl⟩
        | true =>
          obtain rfl : 45 :: Z = Y := hy
          have hadd : ¬ 9223372036854775807 < 1 + Z.length := by omega
          go_wp2_with fail
          go_meet
          exact ⟨by rw [bs_cons], rfl⟩
      obtain ⟨rfl, rfl⟩ := hcut
      clear c0 c1 c2 sz HZb
      have sY := bs_size Y
      have hYl : Y.length ≤ Z.length + 1 := by rw [← HY.out]; split <;> simp
      by_cases hZ0 : Z = []
      · obtain ⟨hn, _⟩ := HZn.out hZ0
        have hy := HY.out
        rw [hn, if_neg (by simp), hZ0] at hy
        have hD0 : D = 0 := by have := HD.out; rw [hZ0] at this; simp [decV] at this; omega
        have hR := HR.out
        rw [hD0, hn] at hR
        have HF := Lib.hid hR
        have hYt : ((bs Y).toList == []) = true := by rw [← hy, Lib.toList_data, bs_data]; rfl
        have hYt2 : (bs Y).toList.isEmpty = true := by rw [← hy, Lib.toList_data, bs_data]; rfl
        have hYt3 : (bs Y).toList = [] := by rw [← hy, Lib.toList_data, bs_data]
        clear hR hD0 hy hn HR HZn HY HD hZ0
        go_wp2_with fail
        go_ret2
        exact ⟨HF.out, HB3.out⟩
      · have hYne : Y ≠ [] := by
          rw [← HY.out]; split
          · simp
          · exact hZ0
        have hYt : ((bs Y).toList == []) = false := by rw [Lib.toList_data, bs_data]; exact beq_eq_false_iff_ne.2 hYne
        have hYt2 : (bs Y).toList.isEmpty = false := by rw [Lib.toList_data, bs_data]; cases Y with | nil => exact absurd rfl hYne | cons _ _ => rfl
        have hYt3 : ¬ (bs Y).toList = [] := by rw [Lib.toList_data, bs_data]; exact hYne
        have hall := allDig_mk hZ0 HZd.out
        obtain ⟨V, hV⟩ : ∃ V, (if ng then -(D : Int) else (D : Int)) = V := ⟨_, rfl⟩
        have hR := HR.out
        rw [hV] at hR
        have hP : Lib.parseIntB 64 Y = if -9223372036854775808 ≤ V ∧ V ≤ 9223372036854775807 then .ok V else .range := by
          rw [← HY.out, ← hV]
          cases ng with
          | false =>
            rw [if_neg (by simp), parseIntB_dig Z D hall HD.out]
            simp only [Bool.false_eq_true, if_false]
            by_cases g : D ≤ 9223372036854775807
            · rw [if_pos g, if_pos (by omega)]
            · rw [if_neg g, if_neg (by omega)]
          | true =>
            rw [if_pos rfl, parseIntB_neg Z D hall HD.out]
            simp only [if_true]
            by_cases g : D ≤ 9223372036854775808
            · rw [if_pos g, if_pos (by omega)]
            · rw [if_neg g, if_neg (by omega)]
        clear hV hall hYne hZ0 HR HZn HY HD HZd
        by_cases hok : -9223372036854775808 ≤ V ∧ V ≤ 9223372036854775807
        · rw [if_pos hok] at hR hP
          have HF := Lib.hid hR
          have CP := Lib.hid (fun w => Tryd.strconv_ParseInt_10_at64_ok (bs Y) (by omega) V (by rw [bs_data]; exact hP) w)
          clear hR hP
          go_wp2_with fail
          refine (CP.out _).mono ?_
          rintro e w4 ⟨rfl, hw4⟩
          have hb4 : Below wc.heap.size wc w4 := by
            rcases hw4 with rfl | ⟨t, rfl⟩
            · exact Below.refl _ _
            · exact Lib.bytesWorld_below _ _ _
          clear hw4
          go_wp2_with fail
          go_ret2
          exact ⟨HF.out, HB3.out.trans (hb4.mono HB3.out.size)⟩
        · rw [if_neg hok] at hR hP
          have HF := Lib.hid hR
          obtain ⟨tp, p, hvar⟩ := HV3.out
          have CP := Lib.hid (Tryd.strconv_ParseInt_10_at64_range_var (bs Y) (by omega) (by rw [bs_data]; exact hP) tp p wc hvar)
          clear hR hP hok hvar
          go_wp2_with fail
          refine CP.out.mono ?_
          rintro e w4 ⟨N, rfl, _, _, hb4⟩
          go_wp2_with fail
          go_ret2
          exact ⟨HF.out, HB3.out.trans (hb4.mono HB3.out.size)⟩
end Go.Proofs.YtpfkdnhjideflaaDoor
