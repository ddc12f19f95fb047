import Derived.Test.YtfklmopnifkieaaGreatDoorRuA
import Derived.Test.YtfklmopnifkieaaGreatDoorSm
import Derived.Deep.DeepCutAuto
/-! Rows of texts in memory; the search's measure. -/
namespace Go.Proofs.YtfklmopnifkieaaGreatDoor
set_option linter.unusedSimpArgs false
set_option linter.unusedVariables false
open Go.RowKit
open Go.Lib hiding intOf
/-- Where a row of texts lies. -/
def SLies (w : World) (p : Option Addr) (l : List Stp) : Prop := l = [] ∨ ∃ g o, p = some ⟨g, o, none⟩ ∧ g < w.heap.size ∧ ∀ (j : Nat) (x : Stp), l[j]? = some x → w.cell? ⟨g, o + j, none⟩ = some (.string (bs x))
theorem SLies.keep {w w' : World} {p : Option Addr} {l : List Stp} (h : SLies w p l) (hb : Below w.heap.size w w') : SLies w' p l := by
  rcases h with h | ⟨g, o, h2, h3, h4⟩
  · exact .inl h
  · exact .inr ⟨g, o, h2, Nat.lt_of_lt_of_le h3 hb.size, fun j x hx => by rw [hb.cell (p := ⟨g, o + j, none⟩) h3]; exact h4 j x hx⟩
theorem SLies.at_ {w : World} {p : Option Addr} {l : List Stp} (h : SLies w p l) {j : Nat} {x : Stp} (hx : l[j]? = some x) : ∃ g o, p = some ⟨g, o, none⟩ ∧ w.cell? ⟨g, o + j, none⟩ = some (.string (bs x)) := by
  rcases h with h | ⟨g, o, h2, h3, h4⟩
  · rw [h] at hx; simp at hx
  · exact ⟨g, o, h2, h4 j x hx⟩
/-- A value that reads as a row of texts. -/
def SV (w : World) (v : Value) (l : List Stp) : Prop := ∃ p c, v = .slice p l.length c ∧ l.length ≤ c ∧ SLies w p l
theorem SV.keep {w w' : World} {v : Value} {l : List Stp} (h : SV w v l) (hb : Below w.heap.size w w') : SV w' v l := by
  obtain ⟨p, c, h1, h2, h3⟩ := h
  exact ⟨p, c, h1, h2, h3.keep hb⟩
/-- How much of the search is left. -/
def grM (P A : Nat) (s t k : Nat) : Nat := ((P + 1 - s) * (A + 1) + (A - t)) * (A + 1) + (A - k)
theorem grM_step {P A s t k : Nat} (hk : k < A) : grM P A s t (k + 1) < grM P A s t k := by
  unfold grM
  generalize ((P + 1 - s) * (A + 1) + (A - t)) * (A + 1) = X
  omega
theorem grM_back {P A s t k k' : Nat} (ht : t < A) : grM P A s (t + 1) k' < grM P A s t k := by
  unfold grM
  have h : ((P + 1 - s) * (A + 1) + (A - t)) = ((P + 1 - s) * (A + 1) + (A - (t + 1))) + 1 := by omega
  rw [h, Nat.add_mul _ 1]
  generalize ((P + 1 - s) * (A + 1) + (A - (t + 1))) * (A + 1) = X
  omega
theorem grM_star {P A s s' t t' k k' : Nat} (hs : s < s') (hs' : s' ≤ P + 1) : grM P A s' t' k' < grM P A s t k := by
  unfold grM
  have h1 : ((P + 1 - s') * (A + 1) + (A - t')) + 1 ≤ ((P + 1 - s) * (A + 1) + (A - t)) := by
    have : (P + 1 - s') + 1 ≤ P + 1 - s := by omega
    have h2 := Nat.mul_le_mul_right (A + 1) this
    rw [Nat.add_mul] at h2
    omega
  have h3 := Nat.mul_le_mul_right (A + 1) h1
  rw [Nat.add_mul] at h3
  omega
end Go.Proofs.YtfklmopnifkieaaGreatDoor
/-! The walk of rules.Match. -/
namespace Go.Proofs.YtfklmopnifkieaaGreatDoor
set_option linter.unusedSimpArgs false
set_option linter.unusedVariables false
open Go.RowKit
open Go.Lib hiding intOf
def starI : Option (Nat × Nat) → Int
  | none => -1
  | some (s, _) => (s : Int)
def takenI : Option (Nat × Nat) → Nat
  | none => 0
  | some (_, t) => t
def starN : Option (Nat × Nat) → Nat
  | none => 0
  | some (s, _) => s + 1
theorem str_is (x y : Stp) (B : ByteArray) (hB : B = bs y) : ((bs x).toList == B.toList) = (x == y) := by
  subst hB
  rw [Lib.toList_data, Lib.toList_data, bs_data, bs_data]
theorem str_lit (x y : Stp) : ((bs x).toList == y) = (x == y) := by rw [Lib.toList_data, bs_data]
def mMatch (p a : List Stp) : Bool := decide (p.length ≤ 200) && decide (a.length ≤ 200) && fits p a
set_option maxRecDepth 100000 in
set_option maxHeartbeats 8000000 in
theorem match_any (pv av : Value) (p a : List Stp) (w : World) (hp : SV w pv p) (ha : SV w av a) (hpl : p.length ≤ 1073741824) (hal : a.length ≤ 1073741824) :
    Calls Tryz.prog 14 #[pv, av] w fun e w' => e = .returned (.bool (mMatch p a)) ∧ Below w.heap.size w w' := by
  obtain ⟨pp, pc, rfl, hpc, hp⟩ := hp
  obtain ⟨ap, ac, rfl, hac, ha⟩ := ha
  have HP := Lib.hid hp
  have HA := Lib.hid ha
  clear hp ha
  by_cases hb1 : 200 < p.length
  · have d1 : decide ((200 : Int) < (p.length : Int)) = true := decide_eq_true (by omega)
    have d2 : decide (200 < p.length) = true := decide_eq_true hb1
    have HF : Hid (mMatch p a = false) := Lib.hid (by unfold mMatch; rw [decide_eq_false (by omega)]; rfl)
    clear hb1
    go_enter Tryz.func14, Tryz.ntmps14
    go_wp2_with fail
    go_ret
    exact ⟨ret_bool HF.out.symm, Below.refl _ _⟩
  have d1 : decide ((200 : Int) < (p.length : Int)) = false := decide_eq_false (by omega)
  have d2 : decide (200 < p.length) = false := decide_eq_false hb1
  by_cases hb2 : 200 < a.length
  · have d3 : decide ((200 : Int) < (a.length : Int)) = true := decide_eq_true (by omega)
    have d4 : decide (200 < a.length) = true := decide_eq_true hb2
    have HF : Hid (mMatch p a = false) := Lib.hid (by unfold mMatch; rw [decide_eq_false (show ¬ a.length ≤ 200 by omega), Bool.and_false]; rfl)
    clear hb1 hb2
    go_enter Tryz.func14, Tryz.ntmps14
    go_wp2_with fail
    go_ret
    exact ⟨ret_bool HF.out.symm, Below.refl _ _⟩
  have d3 : decide ((200 : Int) < (a.length : Int)) = false := decide_eq_false (by omega)
  have d4 : decide (200 < a.length) = false := decide_eq_false hb2
  have hr : mMatch p a = fits p a := by unfold mMatch; rw [decide_eq_true (by omega), decide_eq_true (by omega)]; rfl
  rw [hr]
  have hgs := GrE.start p a
  obtain ⟨R, hR⟩ : ∃ R, fits p a = R := ⟨_, rfl⟩
  rw [hR] at hgs
  rw [hR]
  have HG0 := Lib.hid hgs
  clear hR hgs hr
  have hpz : (p.length : Int) ≤ 200 := by omega
  have haz : (a.length : Int) ≤ 200 := by omega
  go_enter Tryz.func14, Tryz.ntmps14
  go_wp2_with fail
  go_loopw [5, 6, 7, 8] (fun s5 s6 s7 s8 wr => ∃ (i k : Nat) (st : Option (Nat × Nat)), s5 = .int .i64 i ∧ s6 = .int .i64 k ∧ s7 = .int .i64 (starI st) ∧ s8 = .int .i64 (takenI st) ∧ i ≤ p.length ∧ k ≤ a.length ∧ Hid (GrE p a R i k st) ∧ Hid (Below w.heap.size w wr)) (fun _ s6 s7 s8 _ => grM p.length a.length (RowKit.intOf s7 + 1).toNat (RowKit.intOf s8).toNat (RowKit.intOf s6).toNat)
  case atStart => exact ⟨0, 0, none, rfl, rfl, rfl, rfl, by omega, by omega, HG0, Lib.hid (Below.refl _ _)⟩
  case round =>
    obtain ⟨i, k, st, rfl, rfl, rfl, rfl, hi, hk, HG, HB⟩ := hrel
    have HPk := Lib.hid (HP.out.keep HB.out)
    have HAk := Lib.hid (HA.out.keep HB.out)
    by_cases hend : k < a.length
    · have hkz : (k : Int) < (a.length : Int) := by omega
      obtain ⟨y, hy⟩ : ∃ y, a[k]? = some y := ⟨_, List.getElem?_eq_getElem hend⟩
      by_cases hin : i < p.length
      · have hiz : (i : Int) < (p.length : Int) := by omega
        have dz1 : decide ((i : Int) < (p.length : Int)) = true := decide_eq_true hiz
        have dz2 : decide (i < p.length) = true := decide_eq_true hin
        obtain ⟨x, hx⟩ : ∃ x, p[i]? = some x := ⟨_, List.getElem?_eq_getElem hin⟩
        obtain ⟨gx, ox, rfl, cx⟩ := HPk.out.at_ hx
        obtain ⟨bx, hbx⟩ : ∃ b, (x == anyS) = b := ⟨_, rfl⟩
        have e1' : ((bs x).toList == [42, 42]) = bx := by rw [str_lit]; exact hbx
        cases bx with
        | true =>
          have HG2 := Lib.hid (HG.out.star hend (by rw [hx, beq_iff_eq.1 hbx]))
          have hlt : (starI st + 1).toNat < ((i : Int) + 1).toNat := by
            cases st with
            | none => simp [starI]
            | some st => obtain ⟨s, t⟩ := st; have := (HG.out.res s t rfl).1; show ((s : Int) + 1).toNat < _; omega
          clear hbx hx hy
          go_wp2_with fail
          go_roundw
          case rel => exact ⟨i + 1, k, some (i, k), by go_num, rfl, rfl, rfl, by omega, hk, HG2, HB⟩
          case measure => simp [RowKit.intOf]; exact grM_star hlt (by omega)
        | false =>
          have hxa : x ≠ anyS := beq_eq_false_iff_ne.1 hbx
          obtain ⟨gy, oy, rfl, cy⟩ := HAk.out.at_ hy
          obtain ⟨c1, hc1⟩ : ∃ b, (x == oneS) = b := ⟨_, rfl⟩
          have e2' : ((bs x).toList == [42]) = c1 := by rw [str_lit]; exact hc1
          have e3 := str_is x y (bs y) rfl
          obtain ⟨c2, hc2⟩ : ∃ b, (x == y) = b := ⟨_, rfl⟩
          rw [hc2] at e3
          have hcc : (x == oneS || x == y) = (c1 || c2) := by rw [hc1, hc2]
          have HCC := Lib.hid (And.intro hcc (And.intro hx hy))
          clear hbx hx hy hc1 hc2 hcc
          have HXA := Lib.hid hxa
          clear hxa
          go_upto_region 9 with fail
          go_cut [37] (fun s37 wx => s37 = .bool (c1 || c2) ∧ Hid (Below w.heap.size w wx))
          case first =>
            cases c1 with
            | true =>
              go_wp2_with fail
              try (go_region; go_wp2_with fail)
              go_meet
              exact ⟨rfl, by first | exact HB | exact Lib.hid (below_drewN HB.out _)⟩
            | false =>
              go_wp2_with fail
              try (go_region; go_wp2_with fail)
              go_meet
              exact ⟨by first | rfl | simp, by first | exact HB | exact Lib.hid (below_drewN HB.out _)⟩
          case rest =>
            obtain ⟨rfl, HB2⟩ := hcut
            obtain ⟨c, hc⟩ : ∃ c, (c1 || c2) = c := ⟨_, rfl⟩
            have hcc := HCC.out.1
            rw [hc] at hcc
            rw [hc]
            have hx := HCC.out.2.1
            have hy := HCC.out.2.2
            clear hc HCC e1' e2' e3
            cases c with
            | true =>
              have HG2 := Lib.hid (HG.out.step hx hy HXA.out hcc)
              clear hcc hx hy
              go_wp2_with fail
              go_roundw
              case rel => exact ⟨i + 1, k + 1, st, by go_num, by go_num, rfl, rfl, by omega, by omega, HG2, HB2⟩
              case measure => simp [RowKit.intOf]; exact grM_step (by omega)
            | false =>
              have hno := miss_no hx hy HXA.out hcc
              clear hcc hx hy
              cases st with
              | none =>
                have HF := Lib.hid (HG.out.fail hno)
                clear hno
                simp only [starI, takenI]
                go_wp2_with fail
                go_ret
                exact ⟨ret_bool HF.out.symm, HB2.out⟩
              | some st =>
                obtain ⟨s, t⟩ := st
                have HG2 := Lib.hid (HG.out.back hend hno)
                have hst := HG.out.res s t rfl
                have hs1 : s < p.length := by omega
                have ht1 : t < a.length := by omega
                clear hno hst
                simp only [starI, takenI]
                go_wp2_with fail
                go_roundw
                case rel => exact ⟨s + 1, t + 1, some (s, t + 1), by go_num, by go_num, rfl, by go_num, by omega, by omega, HG2, HB2⟩
                case measure => simp [RowKit.intOf]; exact grM_back ht1
      · have hiz : ¬ (i : Int) < (p.length : Int) := by omega
        have dz1 : decide ((i : Int) < (p.length : Int)) = false := decide_eq_false hiz
        have dz2 : decide (i < p.length) = false := decide_eq_false hin
        have hno : fits (p.drop i) (a.drop k) = false := miss_end (by omega) hend
        cases st with
        | none =>
          have HF := Lib.hid (HG.out.fail hno)
          clear hno hy
          simp only [starI, takenI]
          go_wp2_with fail
          try (go_region; go_wp2_with fail)
          go_ret
          exact ⟨ret_bool HF.out.symm, by first | exact HB.out | exact below_drewN HB.out _⟩
        | some st =>
          obtain ⟨s, t⟩ := st
          have HG2 := Lib.hid (HG.out.back hend hno)
          have hst := HG.out.res s t rfl
          have hs1 : s < p.length := by omega
          have ht1 : t < a.length := by omega
          clear hno hst hy
          simp only [starI, takenI]
          go_wp2_with fail
          try (go_region; go_wp2_with fail)
          go_roundw
          case rel => exact ⟨s + 1, t + 1, some (s, t + 1), by go_num, by go_num, rfl, by go_num, by omega, by omega, HG2, by first | exact HB | exact Lib.hid (below_drewN HB.out _)⟩
          case measure => simp [RowKit.intOf]; exact grM_back ht1
    · have hkz : ¬ (k : Int) < (a.length : Int) := by omega
      have HE : Hid (R = (p.drop i).all (· == anyS)) := Lib.hid (by
        obtain rfl : k = a.length := by omega
        exact HG.out.fin)
      clear HG hkz
      have hkz : ¬ (k : Int) < (a.length : Int) := by omega
      go_wp2_with fail
      go_loopw [5] (fun s5 wy => ∃ j : Nat, s5 = .int .i64 j ∧ j ≤ p.length ∧ Hid (R = (p.drop j).all (· == anyS)) ∧ Hid (Below w.heap.size w wy)) (fun s5 _ => p.length - (RowKit.intOf s5).toNat)
      case atStart => exact ⟨i, rfl, hi, HE, HB⟩
      case round =>
        obtain ⟨j, rfl, hj, HE, HB2⟩ := hrel
        by_cases hjl : j < p.length
        · have hjz : (j : Int) < (p.length : Int) := by omega
          have dz1 : decide ((j : Int) < (p.length : Int)) = true := decide_eq_true hjz
          have dz2 : decide (j < p.length) = true := decide_eq_true hjl
          obtain ⟨x, hx⟩ : ∃ x, p[j]? = some x := ⟨_, List.getElem?_eq_getElem hjl⟩
          obtain ⟨gx, ox, rfl, cx⟩ := (HP.out.keep HB2.out).at_ hx
          obtain ⟨bx, hbx⟩ : ∃ b, (x == anyS) = b := ⟨_, rfl⟩
          have e1' : ((bs x).toList == [42, 42]) = bx := by rw [str_lit]; exact hbx
          have hE := HE.out
          rw [drop_cons hx, List.all_cons, hbx] at hE
          clear hx hbx
          cases bx with
          | true =>
            have HE2 : Hid (R = (p.drop (j + 1)).all (· == anyS)) := Lib.hid (by rw [hE, Bool.true_and])
            clear hE
            go_wp2_with fail
            go_roundw
            case rel => exact ⟨j + 1, by go_num, by omega, HE2, HB2⟩
            case measure => simp [RowKit.intOf]; omega
          | false =>
            have HF : Hid (R = false) := Lib.hid (by rw [hE, Bool.false_and])
            have hne : ((j : Int) == (p.length : Int)) = false := beq_eq_false_iff_ne.2 (by omega)
            clear hE
            go_wp2_with fail
            go_ret
            exact ⟨ret_bool HF.out.symm, HB2.out⟩
        · have hje : j = p.length := by omega
          have HF : Hid (R = true) := Lib.hid (by rw [HE.out, hje, List.drop_length]; rfl)
          have hne : ((j : Int) == (p.length : Int)) = true := by rw [hje]; simp
          have hjz : ¬ (j : Int) < (p.length : Int) := by omega
          have dz1 : decide ((j : Int) < (p.length : Int)) = false := decide_eq_false hjz
          have dz2 : decide (j < p.length) = false := decide_eq_false hjl
          clear hje
          go_wp2_with fail
          go_ret
          exact ⟨ret_bool HF.out.symm, HB2.out⟩
end Go.Proofs.YtfklmopnifkieaaGreatDoor
