import Derived.Test.YtmghlaajocgoaaaGreatDoorQuoC
/-! The walks of quote: unicode, meant, escape, part. -/
namespace Go.Proofs.YtmghlaajocgoaaaGreatDoor
set_option linter.unusedSimpArgs false
set_option linter.unusedVariables false
open Go.RowKit
open Go.Lib hiding intOf

def meantI (n : Int) : Int × Bool :=
  if n = 34 then (34, true) else if n = 92 then (92, true) else if n = 47 then (47, true) else if n = 98 then (8, true) else if n = 102 then (12, true) else if n = 110 then (10, true) else if n = 114 then (13, true) else if n = 116 then (9, true) else (0, false)
set_option maxHeartbeats 1000000 in
theorem meant_any (n : Int) (w : World) (h0 : 0 ≤ n ∧ n ≤ 255) :
    Calls Tryz.prog 99 #[.int .u8 n] w fun e w' => e = .returned (.tuple #[.int .i32 (meantI n).1, .bool (meantI n).2]) ∧ w = w' := by
  obtain ⟨R, hR⟩ : ∃ R, meantI n = R := ⟨_, rfl⟩
  rw [hR]
  unfold meantI at hR
  by_cases c1 : n = 34
  · rw [if_pos c1] at hR; subst hR c1
    go_enter Tryz.func99, Tryz.ntmps99
    go_wp2_with fail
    go_ret2
    exact ⟨rfl, rfl⟩
  rw [if_neg c1] at hR
  by_cases c2 : n = 92
  · rw [if_pos c2] at hR; subst hR c2
    go_enter Tryz.func99, Tryz.ntmps99
    go_wp2_with fail
    go_ret2
    exact ⟨rfl, rfl⟩
  rw [if_neg c2] at hR
  by_cases c3 : n = 47
  · rw [if_pos c3] at hR; subst hR c3
    go_enter Tryz.func99, Tryz.ntmps99
    go_wp2_with fail
    go_ret2
    exact ⟨rfl, rfl⟩
  rw [if_neg c3] at hR
  by_cases c4 : n = 98
  · rw [if_pos c4] at hR; subst hR c4
    go_enter Tryz.func99, Tryz.ntmps99
    go_wp2_with fail
    go_ret2
    exact ⟨rfl, rfl⟩
  rw [if_neg c4] at hR
  by_cases c5 : n = 102
  · rw [if_pos c5] at hR; subst hR c5
    go_enter Tryz.func99, Tryz.ntmps99
    go_wp2_with fail
    go_ret2
    exact ⟨rfl, rfl⟩
  rw [if_neg c5] at hR
  by_cases c6 : n = 110
  · rw [if_pos c6] at hR; subst hR c6
    go_enter Tryz.func99, Tryz.ntmps99
    go_wp2_with fail
    go_ret2
    exact ⟨rfl, rfl⟩
  rw [if_neg c6] at hR
  by_cases c7 : n = 114
  · rw [if_pos c7] at hR; subst hR c7
    go_enter Tryz.func99, Tryz.ntmps99
    go_wp2_with fail
    go_ret2
    exact ⟨rfl, rfl⟩
  rw [if_neg c7] at hR
  by_cases c8 : n = 116
  · rw [if_pos c8] at hR; subst hR c8
    go_enter Tryz.func99, Tryz.ntmps99
    go_wp2_with fail
    go_ret2
    exact ⟨rfl, rfl⟩
  rw [if_neg c8] at hR
  subst hR
  have d1 : (n == 34) = false := beq_eq_false_iff_ne.2 c1
  have d2 : (n == 92) = false := beq_eq_false_iff_ne.2 c2
  have d3 : (n == 47) = false := beq_eq_false_iff_ne.2 c3
  have d4 : (n == 98) = false := beq_eq_false_iff_ne.2 c4
  have d5 : (n == 102) = false := beq_eq_false_iff_ne.2 c5
  have d6 : (n == 110) = false := beq_eq_false_iff_ne.2 c6
  have d7 : (n == 114) = false := beq_eq_false_iff_ne.2 c7
  have d8 : (n == 116) = false := beq_eq_false_iff_ne.2 c8
  go_enter Tryz.func99, Tryz.ntmps99
  go_wp2_with fail
  go_ret2
  exact ⟨rfl, rfl⟩
def uniL (l : List UInt8) : Int × Int :=
  match fourL (l.drop 2) with
  | none => (0, 0)
  | some h => if 56320 ≤ h ∧ h < 57344 then (0, 0) else if h < 55296 ∨ 57344 ≤ h then ((h : Int), 6) else if Lib.hasPrefix (l.drop 6) [92, 117] = false then (0, 0) else
    match fourL (l.drop 8) with
    | none => (0, 0)
    | some lo => if lo < 56320 ∨ 57344 ≤ lo then (0, 0) else (65536 + ((h : Int) - 55296) * 1024 + lo - 56320, 12)
def RW (r : Int × Int) : Ending := .returned (.tuple #[.int .i32 r.1, .int .i64 r.2])
theorem hasPrefix_len {l p : List UInt8} (h : Lib.hasPrefix l p = true) : p.length ≤ l.length := by
  unfold Lib.hasPrefix at h
  exact (List.isPrefixOf_iff_prefix.1 h).length_le
set_option maxRecDepth 100000 in
set_option maxHeartbeats 2000000 in
theorem unicode_any (l : List UInt8) (w : World) (h2 : 2 ≤ l.length) (hs : l.length ≤ 4294967296) (hV : SVar w) :
    Calls Tryz.prog 100 #[.string (bs l)] w fun e w' => e = RW (uniL l) ∧ Below w.heap.size w w' := by
  have sl := bs_size l
  have C1 : Hid (∀ w, SVar w → Calls Tryz.prog 107 #[.string ((bs l).extract 2 l.length)] w fun e w' => e = FourE (fourL (l.drop 2)) ∧ Below w.heap.size w w') := Lib.hid (fun w h => by rw [bs_from _ _ _ rfl]; exact four_any (l.drop 2) w (by rw [List.length_drop]; omega) h)
  have HV := Lib.hid hV; clear hV
  obtain ⟨R, hR⟩ : ∃ R, uniL l = R := ⟨_, rfl⟩
  rw [hR]
  unfold uniL at hR
  cases h1 : fourL (l.drop 2) with
  | none =>
    rw [h1] at hR C1
    simp only [] at hR
    subst hR
    go_enter Tryz.func100, Tryz.ntmps100
    go_wp2_with fail
    refine (C1.out _ HV.out).mono ?_
    unfold FourE
    rintro e w1 ⟨rfl, hb1⟩
    go_wp2_with fail
    go_ret2
    exact ⟨rfl, hb1⟩
  | some h =>
    rw [h1] at hR C1
    simp only [] at hR
    obtain ⟨hlt, hlen⟩ := fourL_lt h1
    rw [List.length_drop] at hlen
    unfold FourE at C1
    obtain ⟨H, hH⟩ : ∃ H : Int, (h : Int) = H := ⟨_, rfl⟩
    simp only [hH] at C1 hR
    have HB : 0 ≤ H ∧ H < 65536 := by omega
    by_cases g1 : 56320 ≤ h ∧ h < 57344
    · rw [if_pos g1] at hR; subst hR
      have ga : 56320 ≤ H := by omega
      have gb : H < 57344 := by omega
      clear g1 hH hlt h1
      go_enter Tryz.func100, Tryz.ntmps100
      go_wp2_with fail
      refine (C1.out _ HV.out).mono ?_
      rintro e w1 ⟨rfl, hb1⟩
      go_wp2_with fail
      go_ret2
      exact ⟨rfl, hb1⟩
    rw [if_neg g1] at hR
    by_cases g2 : h < 55296 ∨ 57344 ≤ h
    · rw [if_pos g2] at hR; subst hR
      have g2' : H < 55296 ∨ 57344 ≤ H := by omega
      clear g1 g2 hH hlt h1
      rcases g2' with g2 | g2
      all_goals
        go_enter Tryz.func100, Tryz.ntmps100
        go_wp2_with fail
        refine (C1.out _ HV.out).mono ?_
        rintro e w1 ⟨rfl, hb1⟩
        go_wp2_with fail
        go_ret2
        exact ⟨rfl, hb1⟩
    rw [if_neg g2] at hR
    have ga : 55296 ≤ H := by omega
    have gb : H < 56320 := by omega
    clear g1 g2 hH hlt h1
    obtain ⟨P, hP⟩ : ∃ P, Lib.hasPrefix (l.drop 6) [92, 117] = P := ⟨_, rfl⟩
    rw [hP] at hR
    have CP : Hid (∀ w, Calls Tryz.prog 108 #[.string ((bs l).extract 6 l.length), .string ⟨#[92, 117]⟩] w fun e w' => e = .returned (.bool P) ∧ w = w') := Lib.hid (fun w => by
      have := Tryz.strings_HasPrefix ((bs l).extract 6 l.length) ⟨#[92, 117]⟩ w
      rw [bs_from _ _ _ rfl, bs_data, show (⟨#[92, 117]⟩ : ByteArray).data.toList = [92, 117] from rfl, hP] at this
      rw [bs_from _ _ _ rfl]
      exact this.mono fun _ _ ⟨a, b⟩ => ⟨a, b.symm⟩)
    cases P with
    | false =>
      rw [if_pos rfl] at hR; subst hR
      clear hP
      go_enter Tryz.func100, Tryz.ntmps100
      go_wp2_with fail
      refine (C1.out _ HV.out).mono ?_
      rintro e w1 ⟨rfl, hb1⟩
      go_wp2_with (go_at_call 108; refine (CP.out _).mono ?_; rintro e w' ⟨rfl, rfl⟩)
      go_ret2
      exact ⟨rfl, hb1⟩
    | true =>
      rw [if_neg (by simp)] at hR
      have hl8 : 8 ≤ l.length := by have := hasPrefix_len hP; rw [List.length_drop] at this; simp at this; omega
      have C2 : Hid (∀ w, SVar w → Calls Tryz.prog 107 #[.string ((bs l).extract 8 l.length)] w fun e w' => e = FourE (fourL (l.drop 8)) ∧ Below w.heap.size w w') := Lib.hid (fun w h => by rw [bs_from _ _ _ rfl]; exact four_any (l.drop 8) w (by rw [List.length_drop]; omega) h)
      clear hP
      cases h3 : fourL (l.drop 8) with
      | none =>
        rw [h3] at hR C2
        simp only [] at hR
        subst hR
        unfold FourE at C2
        go_enter Tryz.func100, Tryz.ntmps100
        go_wp2_with fail
        refine (C1.out _ HV.out).mono ?_
        rintro e w1 ⟨rfl, hb1⟩
        have HB1 := Lib.hid hb1; clear hb1
        go_wp2_with (go_at_call 108; refine (CP.out _).mono ?_; rintro e w' ⟨rfl, rfl⟩)
        refine (C2.out _ (HV.out.keep HB1.out)).mono ?_
        rintro e w2 ⟨rfl, hb2⟩
        go_wp2_with fail
        go_ret2
        exact ⟨rfl, below_of_new HB1.out hb2⟩
      | some lo =>
        rw [h3] at hR C2
        simp only [] at hR
        obtain ⟨hlt2, _⟩ := fourL_lt h3
        unfold FourE at C2
        obtain ⟨L, hL⟩ : ∃ L : Int, (lo : Int) = L := ⟨_, rfl⟩
        simp only [hL] at C2 hR
        have LB : 0 ≤ L ∧ L < 65536 := by omega
        by_cases g3 : lo < 56320 ∨ 57344 ≤ lo
        · rw [if_pos g3] at hR; subst hR
          have g3' : L < 56320 ∨ 57344 ≤ L := by omega
          clear g3 hL hlt2 h3
          rcases g3' with g3 | g3
          all_goals
            go_enter Tryz.func100, Tryz.ntmps100
            go_wp2_with fail
            refine (C1.out _ HV.out).mono ?_
            rintro e w1 ⟨rfl, hb1⟩
            have HB1 := Lib.hid hb1; clear hb1
            go_wp2_with (go_at_call 108; refine (CP.out _).mono ?_; rintro e w' ⟨rfl, rfl⟩)
            refine (C2.out _ (HV.out.keep HB1.out)).mono ?_
            rintro e w2 ⟨rfl, hb2⟩
            go_wp2_with fail
            go_ret2
            exact ⟨rfl, below_of_new HB1.out hb2⟩
        · rw [if_neg g3] at hR; subst hR
          have gc : 56320 ≤ L := by omega
          have gd : L < 57344 := by omega
          clear g3 hL hlt2 h3
          go_enter Tryz.func100, Tryz.ntmps100
          go_wp2_with fail
          refine (C1.out _ HV.out).mono ?_
          rintro e w1 ⟨rfl, hb1⟩
          have HB1 := Lib.hid hb1; clear hb1
          go_wp2_with (go_at_call 108; refine (CP.out _).mono ?_; rintro e w' ⟨rfl, rfl⟩)
          refine (C2.out _ (HV.out.keep HB1.out)).mono ?_
          rintro e w2 ⟨rfl, hb2⟩
          go_wp2_with fail
          go_ret2
          exact ⟨rfl, below_of_new HB1.out hb2⟩
theorem at_bs (l : List UInt8) (k : Nat) (h : k < (bs l).size) : l[k]? = some ((bs l)[k]'h) := by
  have hk : k < l.length := by rw [← bs_size l]; exact h
  rw [List.getElem?_eq_getElem hk]
  simp [bs, ByteArray.getElem_eq_getElem_data]
def escL (l : List UInt8) : Int × Int :=
  match l[1]? with
  | some c => if (meantI c.toNat).2 then ((meantI c.toNat).1, 2) else if c.toNat = 117 then uniL l else (0, 0)
  | none => (0, 0)
set_option maxHeartbeats 1000000 in
theorem escape_any (l : List UInt8) (w : World) (hs : l.length ≤ 4294967296) (hV : SVar w) :
    Calls Tryz.prog 90 #[.string (bs l)] w fun e w' => e = RW (escL l) ∧ Below w.heap.size w w' := by
  have sl := bs_size l
  have HV := Lib.hid hV; clear hV
  obtain ⟨R, hR⟩ : ∃ R, escL l = R := ⟨_, rfl⟩
  rw [hR]
  by_cases h2 : l.length < 2
  · have hr : R = (0, 0) := by
      rw [← hR]; unfold escL; rw [List.getElem?_eq_none (by omega)]
    subst hr
    clear hR
    go_enter Tryz.func90, Tryz.ntmps90
    go_wp2_with fail
    go_ret2
    exact ⟨rfl, Below.refl _ _⟩
  · have h1' : 1 < (bs l).size := by omega
    obtain ⟨c, hc⟩ : ∃ c, (bs l)[1]'h1' = c := ⟨_, rfl⟩
    have hR2 : (if (meantI c.toNat).2 then ((meantI c.toNat).1, 2) else if c.toNat = 117 then uniL l else (0, 0)) = R := by
      rw [← hR]; unfold escL; rw [at_bs l 1 h1', hc]
    obtain ⟨M, hM⟩ : ∃ M, meantI c.toNat = M := ⟨_, rfl⟩
    obtain ⟨mc, mb⟩ := M
    rw [hM] at hR2
    simp only [] at hR2
    have CM : Hid (∀ w, Calls Tryz.prog 99 #[.int .u8 (c.toNat : Int)] w fun e w' => e = .returned (.tuple #[.int .i32 mc, .bool mb]) ∧ w = w') := Lib.hid (fun w => by
      have := meant_any (c.toNat : Int) w ⟨by omega, by have := c.toNat_lt; omega⟩
      rw [hM] at this; exact this)
    have CU := Lib.hid (fun w h => unicode_any l w (by omega) hs h)
    clear hR hM
    cases mb with
    | true =>
      rw [if_pos rfl] at hR2; subst hR2
      go_enter Tryz.func90, Tryz.ntmps90
      go_wp2_with fail
      refine (CM.out _).mono ?_
      rintro e w' ⟨rfl, rfl⟩
      go_wp2_with fail
      go_ret2
      exact ⟨rfl, Below.refl _ _⟩
    | false =>
      rw [if_neg (by simp)] at hR2
      by_cases hu : c.toNat = 117
      · rw [if_pos hu] at hR2
        have t1 : ((c.toNat : Int) == 117) = true := beq_iff_eq.2 (by omega)
        obtain ⟨ra, rb⟩ := R
        rw [hR2] at CU
        clear hu hR2
        unfold RW at CU
        go_enter Tryz.func90, Tryz.ntmps90
        go_wp2_with fail
        refine (CM.out _).mono ?_
        rintro e w' ⟨rfl, rfl⟩
        go_wp2_with fail
        refine (CU.out _ HV.out).mono ?_
        rintro e w1 ⟨rfl, hb1⟩
        go_wp2_with fail
        go_ret2
        exact ⟨rfl, hb1⟩
      · rw [if_neg hu] at hR2; subst hR2
        have t1 : ((c.toNat : Int) == 117) = false := beq_eq_false_iff_ne.2 (by omega)
        clear hu
        go_enter Tryz.func90, Tryz.ntmps90
        go_wp2_with fail
        refine (CM.out _).mono ?_
        rintro e w' ⟨rfl, rfl⟩
        go_wp2_with fail
        go_ret2
        exact ⟨rfl, Below.refl _ _⟩
def plainB (d : Nat × Nat) : Bool := decide (d.1 < 32) || (d.1 == 65533 && d.2 == 1)
def partL (l : List UInt8) : Int × Int :=
  if l.head? = some 92 then escL l else if plainB (Lib.decodeL l) then (0, 0) else (((Lib.decodeL l).1 : Int), ((Lib.decodeL l).2 : Int))
theorem decodeGo_L (l : List UInt8) (h : l ≠ []) : Lib.decodeGo (bs l) = Lib.decodeL l := by
  have h1 := decodeL_drop (bs l) 0
  rw [bs_data, List.drop_zero] at h1
  rw [h1]
  unfold Lib.decodeGo
  rw [if_neg]
  rw [bs_size]
  intro e
  exact h (List.eq_nil_of_length_eq_zero (by omega))
set_option maxHeartbeats 1000000 in
theorem part_any (l : List UInt8) (w : World) (hne : l ≠ []) (hs : l.length ≤ 4294967296) (hV : SVar w) (hT : Tabs w) :
    Calls Tryz.prog 73 #[.string (bs l)] w fun e w' => e = RW (partL l) ∧ Below w.heap.size w w' := by
  have sl := bs_size l
  have HV := Lib.hid hV; clear hV
  obtain ⟨R, hR⟩ : ∃ R, partL l = R := ⟨_, rfl⟩
  rw [hR]
  unfold partL at hR
  have h0 : 0 < (bs l).size := by rw [bs_size]; cases l with | nil => exact absurd rfl hne | cons _ _ => simp
  have hT0 := head_is l 92 92 rfl h0
  by_cases hb : l.head? = some 92
  · rw [if_pos hb] at hR
    have t1 : (((bs l)[0]'h0).toNat : Int) == 92 := by rw [hT0, hb]; rfl
    have CE := Lib.hid (fun w h => escape_any l w hs h)
    obtain ⟨ra, rb⟩ := R
    rw [hR] at CE
    unfold RW at CE
    clear hR hb hT0 hne hT
    go_enter Tryz.func73, Tryz.ntmps73
    go_wp2_with fail
    refine (CE.out _ HV.out).mono ?_
    rintro e w1 ⟨rfl, hb1⟩
    go_wp2_with fail
    go_ret2
    exact ⟨rfl, hb1⟩
  · rw [if_neg hb] at hR
    have t1 : ((((bs l)[0]'h0).toNat : Int) == 92) = false := by rw [hT0]; exact beq_eq_false_iff_ne.2 hb
    have CD := Tryz.utf8_DecodeRuneInString (bs l) w hT
    rw [decodeGo_L l hne] at CD
    obtain ⟨d, hd⟩ : ∃ d, Lib.decodeL l = d := ⟨_, rfl⟩
    have hbd : (d.1 : Int) ≤ 1114111 := by
      have h1 := decodeL_drop (bs l) 0
      rw [bs_data, List.drop_zero, hd] at h1
      rw [h1]
      have := (runeI_bd (bs l) 0).2
      exact this
    rw [hd] at CD hR
    obtain ⟨c, z⟩ := d
    unfold plainB at hR
    simp only [] at hR CD hbd
    have HC := Lib.hid CD
    clear CD hd hT0 hb hne hT HV
    obtain ⟨C, hC⟩ : ∃ C : Int, (c : Int) = C := ⟨_, rfl⟩
    obtain ⟨Z, hZ⟩ : ∃ Z : Int, (z : Int) = Z := ⟨_, rfl⟩
    by_cases g1 : c < 32
    · rw [decide_eq_true g1, Bool.true_or, if_pos rfl] at hR; subst hR
      have ga : C < 32 := by omega
      simp only [hC, hZ] at HC
      clear hC hZ g1 hbd
      go_enter Tryz.func73, Tryz.ntmps73
      go_wp2_with fail
      refine HC.out.mono ?_
      rintro e w1 ⟨rfl, hb1⟩
      go_wp2_with fail
      go_ret2
      exact ⟨rfl, hb1⟩
    · rw [decide_eq_false g1, Bool.false_or] at hR
      have ga : ¬ C < 32 := by omega
      by_cases g2 : c = 65533
      · have t2 : (C == 65533) = true := beq_iff_eq.2 (by omega)
        by_cases g3 : z = 1
        · rw [if_pos (by simp [g2, g3])] at hR; subst hR
          have t3 : (Z == 1) = true := beq_iff_eq.2 (by omega)
          simp only [hC, hZ] at HC
          clear hC hZ g1 g2 g3 hbd
          go_enter Tryz.func73, Tryz.ntmps73
          go_wp2_with fail
          refine HC.out.mono ?_
          rintro e w1 ⟨rfl, hb1⟩
          go_wp2_with fail
          go_ret2
          exact ⟨rfl, hb1⟩
        · rw [if_neg (by simp [g2, g3])] at hR; subst hR
          have t3 : (Z == 1) = false := beq_eq_false_iff_ne.2 (by omega)
          simp only [hC, hZ] at HC ⊢
          clear hC hZ g1 g2 g3 hbd
          go_enter Tryz.func73, Tryz.ntmps73
          go_wp2_with fail
          refine HC.out.mono ?_
          rintro e w1 ⟨rfl, hb1⟩
          go_wp2_with fail
          go_ret2
          exact ⟨rfl, hb1⟩
      · have t2 : (C == 65533) = false := beq_eq_false_iff_ne.2 (by omega)
        rw [if_neg (by simp [g2])] at hR; subst hR
        simp only [hC, hZ] at HC ⊢
        clear hC hZ g1 g2 hbd
        go_enter Tryz.func73, Tryz.ntmps73
        go_wp2_with fail
        refine HC.out.mono ?_
        rintro e w1 ⟨rfl, hb1⟩
        go_wp2_with fail
        go_ret2
        exact ⟨rfl, hb1⟩
end Go.Proofs.YtmghlaajocgoaaaGreatDoor
