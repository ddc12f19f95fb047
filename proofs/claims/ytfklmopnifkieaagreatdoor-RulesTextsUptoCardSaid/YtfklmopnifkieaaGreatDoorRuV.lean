import Derived.Test.YtfklmopnifkieaaGreatDoorRuT
/-! The walks of scarfref07.Compare, Same, scarfref18.Same. -/
namespace Go.Proofs.YtfklmopnifkieaaGreatDoor
set_option linter.unusedSimpArgs false
set_option linter.unusedVariables false
open Go.RowKit
open Go.Lib hiding intOf

set_option maxRecDepth 100000 in
set_option maxHeartbeats 4000000 in
theorem refCompare_any (pv av : Value) (p a : List Stp) (w : World) (hp : SV w pv p) (ha : SV w av a) (hpl : p.length ≤ 1073741824) (hal : a.length ≤ 1073741824) :
    Calls Tryz.prog 54 #[pv, av] w fun e w' => (∃ r : Int, e = .returned (.int .i64 r) ∧ (r == 0) = (p == a)) ∧ Below w.heap.size w w' := by
  obtain ⟨pp, pc, rfl, hpc, hp⟩ := hp
  obtain ⟨ap, ac, rfl, hac, ha⟩ := ha
  have HP := Lib.hid hp
  have HA := Lib.hid ha
  have HE0 : Hid (∀ j, j < 0 → p[j]? = a[j]?) := Lib.hid (fun j h => by omega)
  clear hp ha
  go_enter Tryz.func54, Tryz.ntmps54
  go_wp2_with fail
  go_loopw [5] (fun s5 wr => ∃ (j : Nat), s5 = .int .i64 j ∧ j ≤ p.length ∧ j ≤ a.length ∧ Hid (∀ i, i < j → p[i]? = a[i]?) ∧ Hid (Below w.heap.size w wr)) (fun s5 _ => p.length - (RowKit.intOf s5).toNat)
  case atStart => exact ⟨0, rfl, by omega, by omega, HE0, Lib.hid (Below.refl _ _)⟩
  case round =>
    obtain ⟨j, rfl, hj, hja, HE, HB⟩ := hrel
    by_cases hlt : j < p.length
    · have hlz : (j : Int) < (p.length : Int) := by omega
      have dp1 : decide ((j : Int) < (p.length : Int)) = true := decide_eq_true hlz
      have dp2 : decide (j < p.length) = true := decide_eq_true hlt
      by_cases hla : j < a.length
      · have hlaz : (j : Int) < (a.length : Int) := by omega
        have da1 : decide ((j : Int) < (a.length : Int)) = true := decide_eq_true hlaz
        have da2 : decide (j < a.length) = true := decide_eq_true hla
        obtain ⟨x, hx⟩ : ∃ x, p[j]? = some x := ⟨_, List.getElem?_eq_getElem hlt⟩
        obtain ⟨gx, ox, rfl, cx⟩ := (HP.out.keep HB.out).at_ hx
        obtain ⟨y, hy⟩ : ∃ y, a[j]? = some y := ⟨_, List.getElem?_eq_getElem hla⟩
        obtain ⟨gy, oy, rfl, cy⟩ := (HA.out.keep HB.out).at_ hy
        obtain ⟨L1, hL1⟩ : ∃ L, Op.bytesLess (bs x).toList (bs y).toList = L := ⟨_, rfl⟩
        obtain ⟨L2, hL2⟩ : ∃ L, ((bs x).toList == (bs y).toList) = L := ⟨_, rfl⟩
        have HN : Hid (x ≠ y → (p == a) = false) := Lib.hid (fun hn => beq_eq_false_iff_ne.2 (fun e => by
          rw [e, hy] at hx
          exact hn (Option.some.inj hx).symm))
        have HXY := Lib.hid (And.intro hx hy)
        have H1 : Hid (L1 = true → x ≠ y) := Lib.hid (fun h e => by
          rw [← hL1, Lib.toList_data, Lib.toList_data, bs_data, bs_data, e, less_self] at h
          cases h)
        have H2 : Hid ((x == y) = L2) := Lib.hid (by rw [← hL2, Lib.toList_data, Lib.toList_data, bs_data, bs_data])
        clear hx hy
        cases L1 with
        | true =>
          have HF := Lib.hid (HN.out (H1.out rfl))
          go_wp2_with fail
          go_region
          go_wp2_with fail
          go_ret
          exact ⟨⟨-1, rfl, by rw [HF.out]; rfl⟩, by first | exact HB.out | exact HB.out.drew | exact HB.out.drew.drew | exact below_drewN HB.out _⟩
        | false =>
          cases L2 with
          | false =>
            have HF := Lib.hid (HN.out (beq_eq_false_iff_ne.1 H2.out))
            go_wp2_with fail
            go_region
            go_wp2_with fail
            go_region
            go_wp2_with fail
            go_ret
            exact ⟨⟨1, rfl, by rw [HF.out]; rfl⟩, by first | exact HB.out | exact HB.out.drew | exact HB.out.drew.drew | exact below_drewN HB.out _⟩
          | true =>
            have HE2 : Hid (∀ i, i < j + 1 → p[i]? = a[i]?) := Lib.hid (fun i hi => by
              by_cases h : i < j
              · exact HE.out i h
              · obtain rfl : i = j := by omega
                rw [HXY.out.1, HXY.out.2, beq_iff_eq.1 H2.out])
            go_wp2_with fail
            go_region
            go_wp2_with fail
            go_region
            go_wp2_with fail
            go_roundw
            case rel => exact ⟨j + 1, by go_num, by omega, by omega, HE2, by first | exact HB | exact Lib.hid HB.out.drew | exact Lib.hid HB.out.drew.drew | exact Lib.hid (below_drewN HB.out _)⟩
            case measure => simp [RowKit.intOf]; omega
      · have hlan : ¬ (j : Int) < (a.length : Int) := by omega
        have da1 : decide ((j : Int) < (a.length : Int)) = false := decide_eq_false hlan
        have da2 : decide (j < a.length) = false := decide_eq_false hla
        have hgt : (a.length : Int) < (p.length : Int) := by omega
        have hng : ¬ (p.length : Int) < (a.length : Int) := by omega
        have HF : Hid ((p == a) = false) := Lib.hid (beq_eq_false_iff_ne.2 (fun e => by rw [e] at hlt; exact hla hlt))
        go_wp2_with fail
        go_ret
        exact ⟨⟨1, rfl, by rw [HF.out]; rfl⟩, HB.out⟩
    · have hlz : ¬ (j : Int) < (p.length : Int) := by omega
      have dp1 : decide ((j : Int) < (p.length : Int)) = false := decide_eq_false hlz
      have dp2 : decide (j < p.length) = false := decide_eq_false hlt
      by_cases hla : p.length < a.length
      · have hlaz : (p.length : Int) < (a.length : Int) := by omega
        have HF : Hid ((p == a) = false) := Lib.hid (beq_eq_false_iff_ne.2 (fun e => by rw [e] at hla; omega))
        go_wp2_with fail
        go_ret
        exact ⟨⟨-1, rfl, by rw [HF.out]; rfl⟩, HB.out⟩
      · have hlaz : ¬ (p.length : Int) < (a.length : Int) := by omega
        have hlaz2 : ¬ (a.length : Int) < (p.length : Int) := by omega
        have HF : Hid ((p == a) = true) := Lib.hid (beq_iff_eq.2 (list_eq_at p a (fun i hi => HE.out i (by omega)) (by omega)))
        go_wp2_with fail
        go_ret
        exact ⟨⟨0, rfl, by rw [HF.out]; rfl⟩, HB.out⟩
theorem refSame07_any (pv av : Value) (p a : List Stp) (w : World) (hp : SV w pv p) (ha : SV w av a) (hpl : p.length ≤ 1073741824) (hal : a.length ≤ 1073741824) :
    Calls Tryz.prog 36 #[pv, av] w fun e w' => e = .returned (.bool (p == a)) ∧ Below w.heap.size w w' := by
  have CC := Lib.hid (refCompare_any pv av p a w hp ha hpl hal)
  obtain ⟨pp, pc, rfl, hpc, hp⟩ := hp
  obtain ⟨ap, ac, rfl, hac, ha⟩ := ha
  clear hp ha
  obtain ⟨b, hb⟩ : ∃ b, (p == a) = b := ⟨_, rfl⟩
  rw [hb] at CC ⊢
  clear hb
  go_enter Tryz.func36, Tryz.ntmps36
  go_wp2_with fail
  refine CC.out.mono ?_
  rintro e w1 ⟨⟨r, rfl, hr⟩, hb1⟩
  go_wp2_with fail
  go_ret
  exact ⟨by first | rfl | exact ret_bool hr, hb1⟩
/-- Two rules that lie in the older world. -/
abbrev SHeld (w : World) (g1 o1 g2 o2 : Nat) (u v : Value) (k : Stp) (w' : World) : Prop := w'.cell? ⟨g1, o1, none⟩ = some u ∧ w'.cell? ⟨g1, o1 + 1, none⟩ = some (.string (bs k)) ∧ w'.cell? ⟨g2, o2, none⟩ = some v ∧ w'.cell? ⟨g2, o2 + 1, none⟩ = some (.string (bs k)) ∧
  Hid (Below w.heap.size w w' ∧ g1 < w.heap.size ∧ g2 < w.heap.size)
section
variable {w w1 w2 : World} {g1 o1 g2 o2 : Nat} {u v : Value} {k : Stp}
theorem SHeld.drew (h : SHeld w g1 o1 g2 o2 u v k w1) : SHeld w g1 o1 g2 o2 u v k w1.drew := by
  obtain ⟨a, b, c, d, e⟩ := h
  exact ⟨a, b, c, d, Lib.hid ⟨e.out.1.drew, e.out.2⟩⟩
theorem SHeld.step (h : SHeld w g1 o1 g2 o2 u v k w1) (hb : Below w1.heap.size w1 w2) : SHeld w g1 o1 g2 o2 u v k w2 := by
  obtain ⟨a, b, c, d, e⟩ := h
  obtain ⟨e1, e2, e3⟩ := e.out
  have l1 : g1 < w1.heap.size := Nat.lt_of_lt_of_le e2 e1.size
  have l2 : g2 < w1.heap.size := Nat.lt_of_lt_of_le e3 e1.size
  exact ⟨by rw [hb.cell (p := ⟨g1, o1, none⟩) l1]; exact a, by rw [hb.cell (p := ⟨g1, o1 + 1, none⟩) l1]; exact b, by rw [hb.cell (p := ⟨g2, o2, none⟩) l2]; exact c, by rw [hb.cell (p := ⟨g2, o2 + 1, none⟩) l2]; exact d, Lib.hid ⟨below_of_new e1 hb, e2, e3⟩⟩
theorem SHeld.bel (h : SHeld w g1 o1 g2 o2 u v k w1) : Below w.heap.size w w1 := h.2.2.2.2.out.1
theorem SHeld.of {w' : World} (hb : Below w.heap.size w w') (l1 : g1 < w.heap.size) (l2 : g2 < w.heap.size) (a : w.cell? ⟨g1, o1, none⟩ = some u) (b : w.cell? ⟨g1, o1 + 1, none⟩ = some (.string (bs k))) (c : w.cell? ⟨g2, o2, none⟩ = some v) (d : w.cell? ⟨g2, o2 + 1, none⟩ = some (.string (bs k))) : SHeld w g1 o1 g2 o2 u v k w' :=
  ⟨by rw [hb.cell (p := ⟨g1, o1, none⟩) l1]; exact a, by rw [hb.cell (p := ⟨g1, o1 + 1, none⟩) l1]; exact b, by rw [hb.cell (p := ⟨g2, o2, none⟩) l2]; exact c, by rw [hb.cell (p := ⟨g2, o2 + 1, none⟩) l2]; exact d, Lib.hid ⟨hb, l1, l2⟩⟩
end
set_option maxRecDepth 100000 in
set_option maxHeartbeats 4000000 in
theorem rulesSame_yes (v1 v2 : Value) (l : List Rul) (w : World) (h1 : RV w v1 l) (h2 : RV w v2 l) (hl : RB l) :
    Calls Tryz.prog 20 #[v1, v2] w fun e w' => e = .returned (.bool true) ∧ Below w.heap.size w w' := by
  obtain ⟨p, c, rfl, hc, hp⟩ := h1
  obtain ⟨q, d, rfl, hd, hq⟩ := h2
  have HP := Lib.hid hp
  have HQ := Lib.hid hq
  have HL := Lib.hid hl
  have hlen := hl.1
  clear hp hq hl
  go_enter Tryz.func20, Tryz.ntmps20
  go_wp2_with fail
  go_loopw [5] (fun s5 wr => ∃ (j : Nat), s5 = .int .i64 j ∧ j ≤ l.length ∧ Hid (Below w.heap.size w wr)) (fun s5 _ => l.length - (RowKit.intOf s5).toNat)
  case atStart => exact ⟨0, rfl, by omega, Lib.hid (Below.refl _ _)⟩
  case round =>
    obtain ⟨j, rfl, hj, HB⟩ := hrel
    by_cases hlt : j < l.length
    · obtain ⟨x, hx⟩ : ∃ x, l[j]? = some x := ⟨_, List.getElem?_eq_getElem hlt⟩
      obtain ⟨g, o, u, rfl, hg, c0, c1, s1⟩ := HP.out.at_ hx
      obtain ⟨g2, o2, v, rfl, hg2, d0, d1, s2⟩ := HQ.out.at_ hx
      have hlz : (j : Int) < (l.length : Int) := by omega
      have hbx := HL.out.2 x (List.mem_of_getElem? hx)
      have CS : Hid (∀ w', Below w.heap.size w w' → Calls Tryz.prog 36 #[u, v] w' fun e w2 => e = .returned (.bool true) ∧ Below w'.heap.size w' w2) := Lib.hid (fun w' hb => by
        have := refSame07_any u v x.1 x.1 w' (s1.keep hb) (s2.keep hb) (by have := hbx.1.len; omega) (by have := hbx.1.len; omega)
        rw [beq_self_eq_true] at this
        exact this)
      have hS : SHeld w g (o + j * 2) g2 (o2 + j * 2) u v x.2 wr := SHeld.of HB.out hg hg2 c0 c1 d0 d1
      have ek : ((bs x.2).toList != (bs x.2).toList) = false := by rw [bne, beq_self_eq_true]; rfl
      clear hx s1 s2 c0 c1 d0 d1 hbx
      go_upto_region 6 with fail
      go_region_held3 (fun w' => SHeld w g (o + j * 2) g2 (o2 + j * 2) u v x.2 w') ((first | exact SHeld.drew (by assumption) | exact SHeld.step (by assumption) (by assumption) | assumption))
        ((go_at_call 36; (with_reducible refine (CS.out _ (SHeld.bel (by assumption : SHeld w g (o + j * 2) g2 (o2 + j * 2) u v x.2 _))).mono ?_); rintro e w5 ⟨rfl, hb5⟩; have hn5 : SHeld w g (o + j * 2) g2 (o2 + j * 2) u v x.2 w5 := SHeld.step (by assumption) hb5))
      have HB5 := Lib.hid hn5.bel
      clear hn5 hS
      go_wp2_with fail
      go_roundw
      case rel => exact ⟨j + 1, by go_num, by omega, HB5⟩
      case measure => simp [RowKit.intOf]; omega
    · have hlz : ¬ (j : Int) < (l.length : Int) := by omega
      go_wp2_with fail
      go_ret
      exact ⟨rfl, HB.out⟩
end Go.Proofs.YtfklmopnifkieaaGreatDoor
