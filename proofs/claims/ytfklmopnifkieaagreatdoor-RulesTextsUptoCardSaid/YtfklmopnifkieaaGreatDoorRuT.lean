import Derived.Test.YtfklmopnifkieaaGreatDoorRuS
import Derived.Test.YtfklmopnifkieaaGreatDoorRuE
import Derived.Test.YtfklmopnifkieaaGreatDoorRuG
/-! The walks of scarfref07.Right, scarfref18.Right, scarfref18.Find, scarflaw18.Few. -/
namespace Go.Proofs.YtfklmopnifkieaaGreatDoor
set_option linter.unusedSimpArgs false
set_option linter.unusedVariables false
open Go.RowKit
open Go.Lib hiding intOf

theorem refValid_at (l : Stp) (hs : l.length ≤ 1073741824) :
    ∃ N, ∀ w, Calls Tryz.prog 28 #[.string (bs l)] w fun e w' => e = .returned (.tuple #[.int .i64 N, .bool (validD l)]) ∧ w = w' :=
  ⟨(validRes (bs l)).1, fun w => by
    have C := refValid_any (bs l) w (by rw [bs_size]; omega)
    rw [vres_snd, bs_data] at C
    exact C⟩
set_option maxRecDepth 100000 in
set_option maxHeartbeats 4000000 in
theorem refPath_any (v : Value) (l : List Stp) (w : World) (hv : SV w v l) (hl : l.length ≤ 1073741824) (hs : ∀ x ∈ l, x.length ≤ 1073741824) :
    Calls Tryz.prog 27 #[v] w fun e w' => e = .returned (.bool (pathOk l)) ∧ Below w.heap.size w w' := by
  obtain ⟨p, c, rfl, hc, hp⟩ := hv
  have HP := Lib.hid hp
  have HS := Lib.hid hs
  have hrr : pathOk l = (decide (l.length ≤ 64) && l.all validD) := rfl
  have HR0 : Hid ((∀ x ∈ l, validD x = true) → pathOk l = decide ((l.length : Int) ≤ 64)) := Lib.hid (fun h => by
    rw [hrr, List.all_eq_true.2 h, Bool.and_true]
    by_cases h64 : l.length ≤ 64
    · rw [decide_eq_true h64, decide_eq_true (by omega)]
    · rw [decide_eq_false h64, decide_eq_false (by omega)])
  have HR1 : Hid (∀ x ∈ l, validD x = false → pathOk l = false) := Lib.hid (fun x hx h => by
    rw [hrr]
    have : l.all validD = false := by
      rw [List.all_eq_false]
      exact ⟨x, hx, by rw [h]; decide⟩
    rw [this, Bool.and_false])
  clear hp hs hrr
  obtain ⟨R, hR⟩ : ∃ R, pathOk l = R := ⟨_, rfl⟩
  rw [hR] at HR0 HR1 ⊢
  clear hR
  go_enter Tryz.func27, Tryz.ntmps27
  go_wp2_with fail
  go_loopw [3] (fun s3 wr => ∃ (j : Nat), s3 = .int .i64 j ∧ j ≤ l.length ∧ Hid (∀ i x, i < j → l[i]? = some x → validD x = true) ∧ Hid (Below w.heap.size w wr)) (fun s3 _ => l.length - (RowKit.intOf s3).toNat)
  case atStart => exact ⟨0, rfl, by omega, Lib.hid (fun i x hi => by omega), Lib.hid (Below.refl _ _)⟩
  case round =>
    obtain ⟨j, rfl, hj, HC, HB⟩ := hrel
    by_cases hlt : j < l.length
    · have hlz : (j : Int) < (l.length : Int) := by omega
      obtain ⟨x, hx⟩ : ∃ x, l[j]? = some x := ⟨_, List.getElem?_eq_getElem hlt⟩
      obtain ⟨g, o, rfl, cx⟩ := (HP.out.keep HB.out).at_ hx
      have hxm := List.mem_of_getElem? hx
      obtain ⟨N, CV⟩ := refValid_at x (HS.out x hxm)
      obtain ⟨b, hb⟩ : ∃ b, validD x = b := ⟨_, rfl⟩
      rw [hb] at CV
      have HV := Lib.hid CV
      clear CV
      cases b with
      | false =>
        have HF := Lib.hid (HR1.out x hxm hb)
        clear hx hxm hb
        go_wp2_with fail
        refine (HV.out _).mono ?_
        rintro e w1 ⟨rfl, rfl⟩
        go_wp2_with fail
        go_ret
        exact ⟨by rw [HF.out] <;> rfl, HB.out⟩
      | true =>
        have HC2 : Hid (∀ i x, i < j + 1 → l[i]? = some x → validD x = true) := Lib.hid (fun i y hi hy => by
          by_cases h : i < j
          · exact HC.out i y h hy
          · obtain rfl : i = j := by omega
            rw [hx] at hy
            cases hy
            exact hb)
        clear hx hxm hb HC
        go_wp2_with fail
        refine (HV.out _).mono ?_
        rintro e w1 ⟨rfl, rfl⟩
        go_wp2_with fail
        go_roundw
        case rel => exact ⟨j + 1, by go_num, by omega, HC2, HB⟩
        case measure => simp [RowKit.intOf]; omega
    · have hlz : ¬ (j : Int) < (l.length : Int) := by omega
      have HF := Lib.hid (HR0.out (fun x hx => by
        obtain ⟨i, hi⟩ := List.getElem?_of_mem hx
        exact HC.out i x (by have := (List.getElem?_eq_some_iff.1 hi).1; omega) hi))
      go_wp2_with fail
      go_ret
      exact ⟨ret_bool HF.out.symm, HB.out⟩
set_option maxRecDepth 100000 in
set_option maxHeartbeats 4000000 in
theorem refRight_any (v : Value) (l : List Rul) (w : World) (hv : RV w v l) (hl : RB l) :
    Calls Tryz.prog 13 #[v] w fun e w' => e = .returned (.bool (rightR l)) ∧ Below w.heap.size w w' := by
  obtain ⟨p, c, rfl, hc, hp⟩ := hv
  have HP := Lib.hid hp
  have HS := Lib.hid hl
  have hlen := hl.1
  have hrr : rightR l = (decide (l.length ≤ 32) && l.all rightX) := rfl
  have HR0 : Hid ((∀ x ∈ l, rightX x = true) → rightR l = decide ((l.length : Int) ≤ 32)) := Lib.hid (fun h => by
    rw [hrr, List.all_eq_true.2 h, Bool.and_true]
    by_cases h64 : l.length ≤ 32
    · rw [decide_eq_true h64, decide_eq_true (by omega)]
    · rw [decide_eq_false h64, decide_eq_false (by omega)])
  have HR1 : Hid (∀ x ∈ l, rightX x = false → rightR l = false) := Lib.hid (fun x hx h => by
    rw [hrr]
    have : l.all rightX = false := by
      rw [List.all_eq_false]
      exact ⟨x, hx, by rw [h]; decide⟩
    rw [this, Bool.and_false])
  clear hp hrr hl
  obtain ⟨R, hR⟩ : ∃ R, rightR l = R := ⟨_, rfl⟩
  rw [hR] at HR0 HR1 ⊢
  clear hR
  go_enter Tryz.func13, Tryz.ntmps13
  go_wp2_with fail
  go_loopw [3] (fun s3 wr => ∃ (j : Nat), s3 = .int .i64 j ∧ j ≤ l.length ∧ Hid (∀ i x, i < j → l[i]? = some x → rightX x = true) ∧ Hid (Below w.heap.size w wr)) (fun s3 _ => l.length - (RowKit.intOf s3).toNat)
  case atStart => exact ⟨0, rfl, by omega, Lib.hid (fun i x hi => by omega), Lib.hid (Below.refl _ _)⟩
  case round =>
    obtain ⟨j, rfl, hj, HC, HB⟩ := hrel
    by_cases hlt : j < l.length
    · have hlz : (j : Int) < (l.length : Int) := by omega
      obtain ⟨x, hx⟩ : ∃ x, l[j]? = some x := ⟨_, List.getElem?_eq_getElem hlt⟩
      obtain ⟨g, o, pv, rfl, hg, cx0, cx1, hsv⟩ := (HP.out.keep HB.out).at_ hx
      have hxm := List.mem_of_getElem? hx
      have hbx := HS.out.2 x hxm
      obtain ⟨N, CV⟩ := refValid_at x.2 (by omega)
      have CP := refPath_any pv x.1 wr hsv (by have := hbx.1.len; omega) (fun y hy => by have := hbx.1.mem y hy; omega)
      obtain ⟨b1, hb1⟩ : ∃ b, validD x.2 = b := ⟨_, rfl⟩
      obtain ⟨b2, hb2⟩ : ∃ b, pathOk x.1 = b := ⟨_, rfl⟩
      have hrx : rightX x = (b1 && b2) := by rw [← hb1, ← hb2]; rfl
      rw [hb1] at CV
      rw [hb2] at CP
      have HV := Lib.hid CV
      have HPt := Lib.hid CP
      have HX := Lib.hid (And.intro hx (And.intro hxm hrx))
      clear CV CP hb1 hb2 hx hxm hrx hbx hsv
      go_wp2_with fail
      refine HPt.out.mono ?_
      rintro e w1 ⟨rfl, hw1⟩
      have HB1 := Lib.hid (below_of_new HB.out hw1)
      have cx1' : w1.cell? ⟨g, o + j * 2 + 1, none⟩ = some (.string (bs x.2)) := by rw [hw1.cell (p := ⟨g, o + j * 2 + 1, none⟩) hg]; exact cx1
      clear hw1 cx0 cx1
      go_wp2_with fail
      refine (HV.out _).mono ?_
      rintro e w2 ⟨rfl, rfl⟩
      cases b2 with
      | false =>
        have HF := Lib.hid (HR1.out x HX.out.2.1 (by rw [HX.out.2.2, Bool.and_false]))
        clear HX
        go_wp2_with fail
        go_ret
        exact ⟨by rw [HF.out] <;> rfl, HB1.out⟩
      | true =>
        cases b1 with
        | false =>
          have HF := Lib.hid (HR1.out x HX.out.2.1 (by rw [HX.out.2.2, Bool.false_and]))
          clear HX
          go_wp2_with fail
          go_ret
          exact ⟨by rw [HF.out] <;> rfl, HB1.out⟩
        | true =>
          have HC2 : Hid (∀ i x, i < j + 1 → l[i]? = some x → rightX x = true) := Lib.hid (fun i y hi hy => by
            by_cases h : i < j
            · exact HC.out i y h hy
            · obtain rfl : i = j := by omega
              rw [HX.out.1] at hy
              cases hy
              rw [HX.out.2.2]; rfl)
          clear HX HC
          go_wp2_with fail
          go_roundw
          case rel => exact ⟨j + 1, by go_num, by omega, HC2, HB1⟩
          case measure => simp [RowKit.intOf]; omega
    · have hlz : ¬ (j : Int) < (l.length : Int) := by omega
      have HF := Lib.hid (HR0.out (fun x hx => by
        obtain ⟨i, hi⟩ := List.getElem?_of_mem hx
        exact HC.out i x (by have := (List.getElem?_eq_some_iff.1 hi).1; omega) hi))
      go_wp2_with fail
      go_ret
      exact ⟨ret_bool HF.out.symm, HB.out⟩
theorem find_hit {l : List Rul} {a : List Stp} {j : Nat} {x : Rul} (hx : l[j]? = some x) (hm : mMatch x.1 a = true) (hn : ∀ i y, i < j → l[i]? = some y → mMatch y.1 a = false) : findR l a = (x.2, true) := by
  have h := fI_hit (q := fun x : Rul => mMatch x.1 a) hx hm hn
  rcases findR_of l a with ⟨h1, h2⟩ | ⟨i, y, h1, hi, hy, h2⟩
  · rw [h] at h1; omega
  · have : i = j := by rw [h] at h1; omega
    subst this
    rw [hx] at hy
    rw [h2, Option.some.inj hy]
theorem find_miss {l : List Rul} {a : List Stp} (hn : ∀ i y, i < l.length → l[i]? = some y → mMatch y.1 a = false) : findR l a = ([], false) := by
  have h := fI_miss (q := fun x : Rul => mMatch x.1 a) hn
  rcases findR_of l a with ⟨h1, h2⟩ | ⟨i, y, h1, hi, hy, h2⟩
  · exact h2
  · rw [h] at h1; omega
set_option maxRecDepth 100000 in
set_option maxHeartbeats 4000000 in
theorem refFind_any (v av : Value) (l : List Rul) (a : List Stp) (w : World) (hv : RV w v l) (ha : SV w av a) (hl : RB l) (hal : a.length ≤ 1073741824) :
    Calls Tryz.prog 11 #[v, av] w fun e w' => e = FindE (findR l a) ∧ Below w.heap.size w w' := by
  obtain ⟨p, c, rfl, hc, hp⟩ := hv
  obtain ⟨ap, ac, rfl, hac, hap⟩ := ha
  have HA : Hid (SV w (.slice ap a.length ac) a) := Lib.hid ⟨ap, ac, rfl, hac, hap⟩
  have HP := Lib.hid hp
  have HS := Lib.hid hl
  have hlen := hl.1
  obtain ⟨R, hR⟩ : ∃ R, findR l a = R := ⟨_, rfl⟩
  rw [hR]
  have HR := Lib.hid hR
  clear hp hl hR hap
  go_enter Tryz.func11, Tryz.ntmps11
  go_wp2_with fail
  go_loopw [6] (fun s6 wr => ∃ (j : Nat), s6 = .int .i64 j ∧ j ≤ l.length ∧ Hid (∀ i x, i < j → l[i]? = some x → mMatch x.1 a = false) ∧ Hid (Below w.heap.size w wr)) (fun s6 _ => l.length - (RowKit.intOf s6).toNat)
  case atStart => exact ⟨0, rfl, by omega, Lib.hid (fun i x hi => by omega), Lib.hid (Below.refl _ _)⟩
  case round =>
    obtain ⟨j, rfl, hj, HC, HB⟩ := hrel
    by_cases hlt : j < l.length
    · have hlz : (j : Int) < (l.length : Int) := by omega
      obtain ⟨x, hx⟩ : ∃ x, l[j]? = some x := ⟨_, List.getElem?_eq_getElem hlt⟩
      obtain ⟨g, o, pv, rfl, hg, cx0, cx1, hsv⟩ := (HP.out.keep HB.out).at_ hx
      have hbx := HS.out.2 x (List.mem_of_getElem? hx)
      have CM := refMatch_any pv (.slice ap a.length ac) x.1 a wr hsv (HA.out.keep HB.out) (by have := hbx.1.len; omega) hal
      obtain ⟨b, hb⟩ : ∃ b, mMatch x.1 a = b := ⟨_, rfl⟩
      rw [hb] at CM
      have HM := Lib.hid CM
      clear CM hsv hbx
      cases b with
      | true =>
        have HF := Lib.hid (HR.out.symm.trans (find_hit hx hb HC.out))
        clear hx hb
        go_wp2_with fail
        refine HM.out.mono ?_
        rintro e w1 ⟨rfl, hw1⟩
        have HB1 := Lib.hid (below_of_new HB.out hw1)
        have cx1' : w1.cell? ⟨g, o + j * 2 + 1, none⟩ = some (.string (bs x.2)) := by rw [hw1.cell (p := ⟨g, o + j * 2 + 1, none⟩) hg]; exact cx1
        clear hw1 cx0 cx1
        go_wp2_with fail
        go_ret2
        exact ⟨by rw [HF.out] <;> rfl, HB1.out⟩
      | false =>
        have HC2 : Hid (∀ i x, i < j + 1 → l[i]? = some x → mMatch x.1 a = false) := Lib.hid (fun i y hi hy => by
          by_cases h : i < j
          · exact HC.out i y h hy
          · obtain rfl : i = j := by omega
            rw [hx] at hy
            cases hy
            exact hb)
        clear hx hb
        go_wp2_with fail
        refine HM.out.mono ?_
        rintro e w1 ⟨rfl, hw1⟩
        have HB1 := Lib.hid (below_of_new HB.out hw1)
        clear hw1
        go_wp2_with fail
        go_roundw
        case rel => exact ⟨j + 1, by go_num, by omega, HC2, HB1⟩
        case measure => simp [RowKit.intOf]; omega
    · have hlz : ¬ (j : Int) < (l.length : Int) := by omega
      have HF := Lib.hid (HR.out.symm.trans (find_miss (fun i y hi hy => HC.out i y (by omega) hy)))
      go_wp2_with fail
      go_ret2
      exact ⟨by rw [HF.out] <;> rfl, HB.out⟩
/-- Rules that are short enough to be played. -/
def FewP (l : List Rul) : Prop := l.length ≤ 60 ∧ ∀ x ∈ l, ShortP x.1 ∧ x.2.length ≤ 1024
def FewE (l : List Rul) (e : Ending) : Prop := ∃ b, e = .returned (.bool b) ∧ (b = true → FewP l)
def SmallR (l : List Rul) : Prop := l.length ≤ 1073741824 ∧ ∀ x ∈ l, SmallS x.1 ∧ x.2.length ≤ 1099511627776
set_option maxRecDepth 100000 in
set_option maxHeartbeats 4000000 in
theorem few_any (v : Value) (l : List Rul) (w : World) (hv : RV w v l) (hs : SmallR l) :
    Calls Tryz.prog 8 #[v] w fun e w' => FewE l e ∧ Below w.heap.size w w' := by
  obtain ⟨p, c, rfl, hc, hp⟩ := hv
  have HP := Lib.hid hp
  have HS := Lib.hid hs
  have hl := hs.1
  clear hp hs
  go_enter Tryz.func8, Tryz.ntmps8
  go_wp2_with fail
  go_loopw [3] (fun s3 wr => ∃ (j : Nat), s3 = .int .i64 j ∧ j ≤ l.length ∧ j ≤ 100 ∧ Hid (∀ i x, i < j → l[i]? = some x → ShortP x.1 ∧ x.2.length ≤ 1024) ∧ Hid (Below w.heap.size w wr)) (fun s3 _ => l.length - (RowKit.intOf s3).toNat)
  case atStart => exact ⟨0, rfl, by omega, by omega, Lib.hid (fun i x hi => by omega), Lib.hid (Below.refl _ _)⟩
  case round =>
    obtain ⟨j, rfl, hj, hj1, HC, HB⟩ := hrel
    by_cases hlt : j < l.length
    · have hlz : (j : Int) < (l.length : Int) := by omega
      have dz1 : decide ((j : Int) < (l.length : Int)) = true := decide_eq_true hlz
      have dz2 : decide (j < l.length) = true := decide_eq_true hlt
      by_cases h300 : j < 100
      · have hhz : (j : Int) < 100 := by omega
        have dh : decide ((j : Int) < 100) = true := decide_eq_true hhz
        have dh2 : decide (j < 100) = true := decide_eq_true h300
        obtain ⟨x, hx⟩ : ∃ x, l[j]? = some x := ⟨_, List.getElem?_eq_getElem hlt⟩
        obtain ⟨g, o, pv, rfl, hg, cx0, cx1, hsv⟩ := (HP.out.keep HB.out).at_ hx
        have hxs := HS.out.2 x (List.mem_of_getElem? hx)
        have hxl := hxs.2
        have sx := bs_size x.2
        have CS := Lib.hid (short_any pv x.1 wr hsv hxs.1)
        have HX := Lib.hid hx
        clear hx hsv hxs
        go_wp2_with fail
        refine CS.out.mono ?_
        rintro e w1 ⟨⟨b, rfl, hsh⟩, hw1⟩
        have HB1 := Lib.hid (below_of_new HB.out hw1)
        have cx1' : w1.cell? ⟨g, o + j * 2 + 1, none⟩ = some (.string (bs x.2)) := by rw [hw1.cell (p := ⟨g, o + j * 2 + 1, none⟩) hg]; exact cx1
        have HSH := Lib.hid hsh
        clear hw1 cx0 cx1 hsh
        cases b with
        | false =>
          go_wp2_with fail
          go_ret
          exact ⟨⟨_, rfl, fun h => (by cases h)⟩, HB1.out⟩
        | true =>
          by_cases hbig : 1024 < x.2.length
          · have hbz : (1024 : Int) < (x.2.length : Int) := by omega
            have db1 : decide ((1024 : Int) < (x.2.length : Int)) = true := decide_eq_true hbz
            have db2 : decide (1024 < x.2.length) = true := decide_eq_true hbig
            go_wp2_with fail
            go_ret
            exact ⟨⟨_, rfl, fun h => (by cases h)⟩, HB1.out⟩
          · have hbz : ¬ (1024 : Int) < (x.2.length : Int) := by omega
            have db1 : decide ((1024 : Int) < (x.2.length : Int)) = false := decide_eq_false hbz
            have db2 : decide (1024 < x.2.length) = false := decide_eq_false hbig
            have HC2 : Hid (∀ i x, i < j + 1 → l[i]? = some x → ShortP x.1 ∧ x.2.length ≤ 1024) := Lib.hid (fun i y hi hy => by
              by_cases h : i < j
              · exact HC.out i y h hy
              · obtain rfl : i = j := by omega
                rw [HX.out] at hy
                cases hy
                exact ⟨by first | exact HSH.out rfl | exact HSH.out trivial, by omega⟩)
            clear HX HC HSH
            go_wp2_with fail
            go_roundw
            case rel => exact ⟨j + 1, by go_num, by omega, by omega, HC2, HB1⟩
            case measure => simp [RowKit.intOf]; omega
      · have hhz : ¬ (j : Int) < 100 := by omega
        have hh2 : ¬ (l.length : Int) ≤ 60 := by omega
        have dh : decide ((j : Int) < 100) = false := decide_eq_false hhz
        have dh3 : decide (j < 100) = false := decide_eq_false h300
        have dh2 : decide ((l.length : Int) ≤ 60) = false := decide_eq_false hh2
        go_wp2_with fail
        go_ret
        exact ⟨⟨false, rfl, fun h => (by cases h)⟩, HB.out⟩
    · have hlz : ¬ (j : Int) < (l.length : Int) := by omega
      have dz1 : decide ((j : Int) < (l.length : Int)) = false := decide_eq_false hlz
      have dz2 : decide (j < l.length) = false := decide_eq_false hlt
      have HF : Hid (l.length ≤ 60 → FewP l) := Lib.hid (fun h => ⟨h, fun x hx => by
        obtain ⟨i, hi⟩ := List.getElem?_of_mem hx
        exact HC.out i x (by have := (List.getElem?_eq_some_iff.1 hi).1; omega) hi⟩)
      go_wp2_with fail
      go_ret
      exact ⟨⟨decide ((l.length : Int) ≤ 60), rfl, fun h => HF.out (by have := of_decide_eq_true h; omega)⟩, HB.out⟩
end Go.Proofs.YtfklmopnifkieaaGreatDoor
