import Derived.Test.YtnnlpkbopeiefaaGreatDoorQuoA
import Derived.Test.YtnnlpkbopeiefaaGreatDoorShelfB
/-! The walks of quote.read, Unquote, End. -/
namespace Go.Proofs.YtnnlpkbopeiefaaGreatDoor
set_option linter.unusedSimpArgs false
set_option linter.unusedVariables false
open Go.RowKit
open Go.Lib hiding intOf
/-- What stands in quotes: from the byte behind the first sign on. -/
def readGo : Nat → List UInt8 → Nat → List UInt8 → List UInt8 × Int × Int
  | 0, _, i, _ => ([], (i : Int), 2)
  | _ + 1, [], i, _ => ([], (i : Int), 2)
  | f + 1, c :: r, i, acc => if c = 34 then (acc, (i : Int) + 1, 0) else if (partL (c :: r)).2 = 0 then ([], (i : Int), 2) else
    readGo f ((c :: r).drop (partL (c :: r)).2.toNat) (i + (partL (c :: r)).2.toNat) (acc ++ Lib.encodeRune (partL (c :: r)).1)
def readL (l : List UInt8) (at' : Int) : List UInt8 × Int × Int :=
  if 0 ≤ at' ∧ l[at'.toNat]? = some 34 then readGo (l.length + 1) (l.drop (at'.toNat + 1)) (at'.toNat + 1) [] else ([], at', 2)
def ReadE (r : List UInt8 × Int × Int) : Ending := .returned (.tuple #[.string (bs r.1), .int .i64 r.2.1, .int .i64 r.2.2])
theorem uniL_bd (l : List UInt8) : 0 ≤ (uniL l).1 ∧ (uniL l).1 ≤ 1114111 ∧ ((uniL l).2 = 0 ∨ (1 ≤ (uniL l).2 ∧ (uniL l).2 ≤ l.length)) := by
  unfold uniL
  cases h1 : fourL (l.drop 2) with
  | none => simp
  | some h =>
    obtain ⟨h2, h3⟩ := fourL_lt h1
    rw [List.length_drop] at h3
    simp only []
    split
    · simp
    · split
      · simp only []; omega
      · split
        · simp
        · cases h4 : fourL (l.drop 8) with
          | none => simp
          | some lo =>
            obtain ⟨h5, h6⟩ := fourL_lt h4
            rw [List.length_drop] at h6
            simp only []
            split
            · simp
            · simp only []; omega
theorem meantI_bd (n : Int) : 0 ≤ (meantI n).1 ∧ (meantI n).1 ≤ 1114111 := by
  unfold meantI
  repeat' split
  all_goals simp
theorem partL_bd (l : List UInt8) (hne : l ≠ []) : 0 ≤ (partL l).1 ∧ (partL l).1 ≤ 1114111 ∧ ((partL l).2 = 0 ∨ (1 ≤ (partL l).2 ∧ (partL l).2 ≤ l.length)) := by
  unfold partL
  split
  · unfold escL
    cases h : l[1]? with
    | none => simp
    | some c =>
      have hl : 1 < l.length := (List.getElem?_eq_some_iff.1 h).1
      have hm := meantI_bd c.toNat
      simp only []
      split
      · simp only []; omega
      · split
        · exact uniL_bd l
        · simp
  · split
    · simp
    · have h1 := decodeL_drop (bs l) 0
      rw [bs_data, List.drop_zero] at h1
      have hb := runeI_bd (bs l) 0
      have hp : 0 < (bs l).size := by rw [bs_size]; cases l with | nil => exact absurd rfl hne | cons _ _ => simp
      have hw := widN_bd (bs l) 0 hp
      have sl := bs_size l
      unfold runeI at hb
      unfold widN at hw
      rw [h1]
      simp only []
      omega
set_option maxRecDepth 100000 in
set_option maxHeartbeats 4000000 in
theorem qread_any (l : List UInt8) (a : Nat) (w : World) (hs : l.length ≤ 1073741824) (ha : a ≤ l.length) (hV : SVar w) (hT : Tabs w) :
    Calls Tryz.prog 176 #[.string (bs l), .int .i64 a] w fun e w' => e = ReadE (readL l a) ∧ Below w.heap.size w w' := by
  have sl := bs_size l
  obtain ⟨R, hR⟩ : ∃ R, readL l a = R := ⟨_, rfl⟩
  rw [hR]
  unfold readL at hR
  rw [Int.toNat_natCast] at hR
  have HV := Lib.hid hV; have HT := Lib.hid hT; clear hV hT
  by_cases h34 : l[a]? = some 34
  · rw [if_pos ⟨by omega, h34⟩] at hR
    have hal : a < l.length := (List.getElem?_eq_some_iff.1 h34).1
    have hal' : a < (bs l).size := by omega
    have t1 : ((((bs l)[a]'hal').toNat : Int) != 34) = false := by
      have := at_bs l a hal'
      rw [h34] at this
      have h2 : (bs l)[a]'hal' = 34 := by simpa using this.symm
      rw [h2]; rfl
    have d1 : decide (l.length ≤ a) = false := decide_eq_false (by omega)
    have HR := Lib.hid hR; clear hR h34
    go_enter Tryz.func176, Tryz.ntmps176
    go_wp2_with fail
    go_loopw [1, 8, 9] (fun s1 _ _ wr => ∃ (i f : Nat) (acc : List UInt8), s1 = .int .i64 i ∧ i ≤ l.length ∧ acc.length ≤ 4 * i ∧ l.length < i + f ∧ Hid (readGo f (l.drop i) i acc = R) ∧ Hid (Bld w.heap.size w.heap.size acc wr) ∧ Hid (Below w.heap.size w wr)) (fun s1 _ _ _ => l.length - (RowKit.intOf s1).toNat)
    case atStart => exact ⟨a + 1, l.length + 1, [], by go_num, by omega, by simp, by omega, HR.out, Bld.new w, below_alloc1 w _⟩
    case round =>
      obtain ⟨i, f, acc, rfl, hi, hacc, hf, HG, HBd, HW⟩ := hrel
      obtain ⟨g, rfl⟩ : ∃ g, f = g + 1 := ⟨f - 1, by omega⟩
      by_cases hlt : i < l.length
      · have hlt' : i < (bs l).size := by omega
        have hdr : l.drop i = l[i]'hlt :: l.drop (i + 1) := List.drop_eq_getElem_cons hlt
        have hge := at_bs l i hlt'
        rw [List.getElem?_eq_getElem hlt] at hge
        have hge2 : (bs l)[i]'hlt' = l[i]'hlt := by simpa using hge.symm
        have T34 := byte_eq ((bs l)[i]'hlt') 34 34 rfl
        have hg := HG.out
        rw [hdr] at hg
        unfold readGo at hg
        rw [← hdr, ← hge2] at hg
        clear HG
        by_cases hq : (bs l)[i]'hlt' = 34
        · rw [if_pos hq] at hg
          have HF := Lib.hid hg
          rw [beq_iff_eq.2 hq] at T34
          clear hg hdr hge hge2 hq
          go_wp2_with fail
          refine (Tryz.Builder_String_any_k w.heap.size w.heap.size acc _ HBd.out HW.out.size).mono ?_
          rintro e W1 ⟨rfl, _, b1, _⟩
          go_wp2_with fail
          go_ret3
          exact ⟨by rw [← HF.out]; rfl, HW.out.trans b1⟩
        · rw [if_neg hq] at hg
          rw [beq_eq_false_iff_ne.2 hq] at T34
          have hne : l.drop i ≠ [] := by rw [hdr]; exact List.cons_ne_nil _ _
          have hpb := partL_bd (l.drop i) hne
          rw [List.length_drop] at hpb
          obtain ⟨P, hP⟩ : ∃ P, partL (l.drop i) = P := ⟨_, rfl⟩
          obtain ⟨rn, wd⟩ := P
          have CP : Hid (∀ w, SVar w → Tabs w → Calls Tryz.prog 219 #[.string ((bs l).extract i l.length)] w fun e w' => e = .returned (.tuple #[.int .i32 rn, .int .i64 wd]) ∧ Below w.heap.size w w') := Lib.hid (fun w h1 h2 => by
            have := part_any (l.drop i) w hne (by rw [List.length_drop]; omega) h1 h2
            rw [hP] at this
            rw [bs_from _ _ _ rfl]; exact this)
          rw [hP] at hg hpb
          simp only [] at hg hpb
          obtain ⟨p0, p1, p2⟩ := hpb
          have hz : w.heap.size ≤ wr.heap.size := HW.out.size
          clear hdr hge hge2 hq hne hP
          by_cases hw0 : wd = 0
          · rw [if_pos hw0] at hg
            have HF := Lib.hid hg
            subst hw0
            clear hg p2
            go_wp2_with fail
            refine (CP.out _ (HV.out.keep HW.out) (HT.out.keep HW.out)).mono ?_
            rintro e w1 ⟨rfl, hb1⟩
            go_wp2_with fail
            go_ret3
            exact ⟨by rw [← HF.out]; rfl, HW.out.trans (hb1.mono hz)⟩
          · rw [if_neg hw0] at hg
            obtain ⟨N, rfl⟩ : ∃ N : Nat, wd = N := ⟨wd.toNat, by omega⟩
            rw [Int.toNat_natCast, List.drop_drop] at hg
            have hN : 1 ≤ N ∧ N ≤ l.length - i := by omega
            have hl4 := Lib.runeCells_le rn
            rw [Lib.runeCells_length] at hl4
            have hw1 : ((N : Int) == 0) = false := beq_eq_false_iff_ne.2 hw0
            have HG2 := Lib.hid hg
            clear hg hw0 p2
            go_wp2_with fail
            refine (CP.out _ (HV.out.keep HW.out) (HT.out.keep HW.out)).mono ?_
            rintro e w1 ⟨rfl, hb1⟩
            have HBd1 := Lib.hid (HBd.out.keep hb1)
            have HW1 := Lib.hid (HW.out.trans (hb1.mono hz))
            clear hb1
            go_wp2_with fail
            refine (writeRune_any w.heap.size w.heap.size acc rn _ HBd1.out ⟨p0, p1⟩ (by omega) HW1.out.size).mono ?_
            rintro e w2 ⟨rfl, h2, b2, _⟩
            have HBd2 := Lib.hid h2
            have HW2 := Lib.hid (HW1.out.trans b2)
            clear h2 b2
            go_wp2_with fail
            go_roundw
            case rel => exact ⟨i + N, g, acc ++ Lib.encodeRune rn, by go_num, by omega, by rw [List.length_append]; omega, by omega, HG2.out, HBd2.out, HW2.out⟩
            case measure => simp [RowKit.intOf]; omega
      · have hg := HG.out
        rw [List.drop_of_length_le (by omega)] at hg
        have HF := Lib.hid (show ([], (i : Int), 2) = R from hg)
        obtain rfl : i = l.length := by omega
        clear hg HG
        go_wp2_with fail
        go_ret3
        exact ⟨by rw [← HF.out]; rfl, HW.out⟩
  · rw [if_neg (fun h => h34 h.2)] at hR
    subst hR
    by_cases hal : a < l.length
    · have hal' : a < (bs l).size := by omega
      have t1 : ((((bs l)[a]'hal').toNat : Int) != 34) = true := by
        rw [bne_iff_ne]
        intro h
        apply h34
        rw [at_bs l a hal']
        have : ((bs l)[a]'hal') = 34 := UInt8.toNat_inj.1 (by show _ = 34; omega)
        rw [this]
      clear h34
      go_enter Tryz.func176, Tryz.ntmps176
      go_wp2_with fail
      go_ret3
      exact ⟨rfl, Below.refl _ _⟩
    · clear h34
      go_enter Tryz.func176, Tryz.ntmps176
      go_wp2_with fail
      go_ret3
      exact ⟨rfl, Below.refl _ _⟩
def unqL (l : List UInt8) : List UInt8 × Int × Int :=
  if (readL l 0).2.2 = 0 ∧ (readL l 0).2.1 < l.length then ([], (readL l 0).2.1, 2) else readL l 0
def endL (l : List UInt8) (a : Int) : Int × Int := if a < 0 ∨ (l.length : Int) < a then (0, 2) else ((readL l a).2.1, (readL l a).2.2)
theorem end_any (l : List UInt8) (a : Int) (w : World) (hs : l.length ≤ 1073741824) (hV : SVar w) (hT : Tabs w) :
    Calls Tryz.prog 156 #[.string (bs l), .int .i64 a] w fun e w' => e = .returned (.tuple #[.int .i64 (endL l a).1, .int .i64 (endL l a).2]) ∧ Below w.heap.size w w' := by
  have sl := bs_size l
  unfold endL
  by_cases h : a < 0 ∨ (l.length : Int) < a
  · rw [if_pos h]
    rcases h with h | h
    all_goals
      go_enter Tryz.func156, Tryz.ntmps156
      go_wp2_with fail
      go_ret2
      exact ⟨rfl, Below.refl _ _⟩
  · rw [if_neg h]
    have h1 : 0 ≤ a := by omega
    have h2 : a ≤ l.length := by omega
    have C := qread_any l a.toNat w hs (by omega) hV hT
    rw [show ((a.toNat : Nat) : Int) = a by omega] at C
    obtain ⟨R, hR⟩ : ∃ R, readL l a = R := ⟨_, rfl⟩
    obtain ⟨s, k, er⟩ := R
    rw [hR] at C ⊢
    have HC := Lib.hid C
    clear C hR hV hT h
    go_enter Tryz.func156, Tryz.ntmps156
    go_wp2_with fail
    refine HC.out.mono ?_
    unfold ReadE
    rintro e w1 ⟨rfl, hb1⟩
    go_wp2_with fail
    go_ret2
    exact ⟨rfl, hb1⟩
end Go.Proofs.YtnnlpkbopeiefaaGreatDoor
/-! The walk of quote.Unquote. -/
namespace Go.Proofs.YtnnlpkbopeiefaaGreatDoor
set_option linter.unusedSimpArgs false
set_option linter.unusedVariables false
open Go.RowKit
open Go.Lib hiding intOf
theorem unquote_any (l : List UInt8) (w : World) (hs : l.length ≤ 1073741824) (hV : SVar w) (hT : Tabs w) :
    Calls Tryz.prog 120 #[.string (bs l)] w fun e w' => e = ReadE (unqL l) ∧ Below w.heap.size w w' := by
  have sl := bs_size l
  have C := qread_any l 0 w hs (by omega) hV hT
  have hq : unqL l = if (readL l 0).2.2 = 0 ∧ (readL l 0).2.1 < l.length then ([], (readL l 0).2.1, 2) else readL l 0 := rfl
  obtain ⟨R, hR⟩ : ∃ R, readL l 0 = R := ⟨_, rfl⟩
  obtain ⟨s, k, er⟩ := R
  rw [show ((0 : Nat) : Int) = 0 from rfl, hR] at C
  rw [hR] at hq
  simp only [] at hq
  have HC := Lib.hid C
  clear C hR hV hT
  by_cases h1 : er = 0
  · subst h1
    by_cases h2 : k < l.length
    · rw [hq, if_pos ⟨rfl, h2⟩]
      clear hq
      go_enter Tryz.func120, Tryz.ntmps120
      go_wp2_with fail
      refine HC.out.mono ?_
      unfold ReadE
      rintro e w1 ⟨rfl, hb1⟩
      go_wp2_with fail
      go_ret3
      exact ⟨rfl, hb1⟩
    · rw [hq, if_neg (fun h => h2 h.2)]
      clear hq
      go_enter Tryz.func120, Tryz.ntmps120
      go_wp2_with fail
      refine HC.out.mono ?_
      unfold ReadE
      rintro e w1 ⟨rfl, hb1⟩
      go_wp2_with fail
      go_ret3
      exact ⟨rfl, hb1⟩
  · rw [hq, if_neg (fun h => h1 h.1)]
    have t1 : (er == 0) = false := beq_eq_false_iff_ne.2 h1
    clear hq h1
    go_enter Tryz.func120, Tryz.ntmps120
    go_wp2_with fail
    refine HC.out.mono ?_
    unfold ReadE
    rintro e w1 ⟨rfl, hb1⟩
    go_wp2_with fail
    go_ret3
    exact ⟨rfl, hb1⟩
end Go.Proofs.YtnnlpkbopeiefaaGreatDoor
