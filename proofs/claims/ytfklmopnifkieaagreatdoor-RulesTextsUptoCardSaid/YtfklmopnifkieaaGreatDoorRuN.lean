import Derived.Test.YtfklmopnifkieaaGreatDoorRuK
import Derived.Test.YtfklmopnifkieaaGreatDoorRuD
import Derived.Test.YtfklmopnifkieaaGreatDoorQuoE2
import Derived.Deep.DeepCutAuto
import Derived.Deep.RegionHeld3
/-! The walks of rules.right, Right, Find. Printed by gen_index.py. -/
namespace Go.Proofs.YtfklmopnifkieaaGreatDoor
set_option linter.unusedSimpArgs false
set_option linter.unusedVariables false
open Go.RowKit
open Go.Lib hiding intOf
/-- Rules of a size that no walk stumbles at. -/
def RB (l : List Rul) : Prop := l.length ≤ 1073741824 ∧ ∀ x ∈ l, PB x.1 ∧ x.2.length ≤ 536870912
theorem ruleOk_any (pv : Value) (p : List Stp) (k : Stp) (w : World) (hv : SV w pv p) (hp : PB p) (hk : k.length ≤ 536870912) (hT : Tabs w) :
    Calls Tryz.prog 26 #[.agg #[pv, .string (bs k)]] w fun e w' => e = .returned (.bool (rightX (p, k))) ∧ Below w.heap.size w w' := by
  have ba := below_alloc1 w (.cells #[pv, .string (bs k)] 38)
  obtain ⟨N, C⟩ := rvalid_at k (by omega)
  have hC := C _ (hT.keep ba)
  have hR : Hid (∀ w', Below w.heap.size w w' → Calls Tryz.prog 39 #[pv] w' fun e w2 => e = .returned (.bool (pathOk p)) ∧ Below w'.heap.size w' w2) := Lib.hid (fun w' hb => right_any pv p w' (hv.keep hb) (by have := hp.len; omega) (fun x hx => by have := hp.mem x hx; omega) (hT.keep hb))
  have hX : rightX (p, k) = (validD k && pathOk p) := rfl
  obtain ⟨b1, hb1⟩ : ∃ b, validD k = b := ⟨_, rfl⟩
  obtain ⟨b2, hb2⟩ : ∃ b, pathOk p = b := ⟨_, rfl⟩
  rw [hb1] at hC
  rw [hb2] at hR
  rw [hX, hb1, hb2]
  have HC := Lib.hid hC
  clear C hC hX hb1 hb2 hT hp hk hv
  cases b1 with
  | false =>
    go_enter Tryz.func26, Tryz.ntmps26
    go_wp2_with fail
    refine HC.out.mono ?_
    rintro e w1 ⟨rfl, hb1⟩
    have HB1 := Lib.hid (below_of_new (Below.refl w.heap.size w) (ba.trans (hb1.mono (by simp))))
    clear hb1 ba
    go_wp2_with fail
    go_ret
    exact ⟨rfl, HB1.out⟩
  | true =>
    go_enter Tryz.func26, Tryz.ntmps26
    go_wp2_with fail
    refine HC.out.mono ?_
    rintro e w1 ⟨rfl, hb1⟩
    have HB1 := Lib.hid (below_of_new (Below.refl w.heap.size w) (ba.trans (hb1.mono (by simp))))
    have cx0 : w1.cell? ⟨w.heap.size, 0, none⟩ = some pv := by
      rw [hb1.cell (p := ⟨w.heap.size, 0, none⟩) (by simp)]
      exact cell_new w _ _ 0 _ rfl
    clear hb1 ba
    go_wp2_with fail
    with_reducible refine (hR.out _ HB1.out).mono ?_
    rintro e w2 ⟨rfl, hb2⟩
    have HB2 := Lib.hid (below_of_new HB1.out hb2)
    clear hb2
    go_wp2_with fail
    go_ret
    exact ⟨rfl, HB2.out⟩
theorem ruleBad_any (pv : Value) (x : Rul) (w : World) (hv : SV w pv x.1) (hp : PB x.1) (hk : x.2.length ≤ 536870912) (hT : Tabs w) :
    Calls Tryz.prog 25 #[.agg #[pv, .string (bs x.2)]] w fun e w' => e = .returned (.bool (!rightX x)) ∧ Below w.heap.size w w' := by
  obtain ⟨p, k⟩ := x
  have ba := below_alloc1 w (.cells #[pv, .string (bs k)] 38)
  have C := ruleOk_any pv p k _ (hv.keep ba) hp hk (hT.keep ba)
  obtain ⟨b, hb⟩ : ∃ b, rightX (p, k) = b := ⟨_, rfl⟩
  rw [hb] at C ⊢
  have HC := Lib.hid C
  clear C hb hT hp hk hv
  go_enter Tryz.func25, Tryz.ntmps25
  go_wp2_with fail
  refine HC.out.mono ?_
  rintro e w1 ⟨rfl, hb1⟩
  have HB1 := Lib.hid (below_of_new (Below.refl w.heap.size w) (ba.trans (hb1.mono (by simp))))
  clear hb1
  go_wp2_with fail
  go_ret
  exact ⟨rfl, HB1.out⟩
theorem fits1_any (pv av : Value) (x : Rul) (a : List Stp) (X : Nat) (w : World) (hv : SV w pv x.1) (ha : SV w av a) (hc : w.cell? ⟨X, 0, none⟩ = some av) (hp : x.1.length ≤ 1073741824) (hal : a.length ≤ 1073741824) :
    Calls Tryz.prog 23 #[.agg #[pv, .string (bs x.2)], .pointer (some ⟨X, 0, none⟩)] w fun e w' => e = .returned (.bool (mMatch x.1 a)) ∧ Below w.heap.size w w' := by
  obtain ⟨p, k⟩ := x
  have ba := below_alloc1 w (.cells #[pv, .string (bs k)] 38)
  have C := match_any pv av p a _ (hv.keep ba) (ha.keep ba) hp hal
  have hc1 : (w.alloc (.cells #[pv, .string (bs k)] 38)).cell? ⟨X, 0, none⟩ = some av := by rw [ba.cell (p := ⟨X, 0, none⟩) (cell_lt hc)]; exact hc
  have HC := Lib.hid C
  clear C hp hal hv ha
  go_enter Tryz.func23, Tryz.ntmps23
  go_wp2_with fail
  refine HC.out.mono ?_
  rintro e w1 ⟨rfl, hb1⟩
  have HB1 := Lib.hid (below_of_new (Below.refl w.heap.size w) (ba.trans (hb1.mono (by simp))))
  clear hb1
  go_wp2_with fail
  go_ret
  exact ⟨rfl, HB1.out⟩
set_option maxRecDepth 100000 in
set_option maxHeartbeats 4000000 in
theorem indexRule_any  (v : Value) (l : List Rul) (w : World) (hv : RV w v l) (hl : RB l) (hT : Tabs w) :
    Calls Tryz.prog 22 #[v, .func (.func 25) #[] #[]] w fun e w' => e = .returned (.int .i64 (fI (fun x => !rightX x) l)) ∧ Below w.heap.size w w' := by
  obtain ⟨p, c, rfl, hc, hp⟩ := hv
  have HP := Lib.hid hp
  have HL := Lib.hid hl
  have hlen := hl.1
  have HT := Lib.hid hT
  clear hT
  clear hp hl
  obtain ⟨R, hR⟩ : ∃ R, fI (fun x => !rightX x) l = R := ⟨_, rfl⟩
  rw [hR]
  have HR := Lib.hid hR
  clear hR
  go_enter Tryz.func22, Tryz.ntmps22
  go_wp2_with fail
  go_loopw [8] (fun s8 wr => ∃ i : Nat, s8 = .int .i64 i ∧ i ≤ l.length ∧ Hid (∀ j y, j < i → l[j]? = some y → (fun x => !rightX x) y = false) ∧ Hid (Below w.heap.size w wr)) (fun s8 _ => l.length - (RowKit.intOf s8).toNat)
  case atStart => exact ⟨0, rfl, by omega, Lib.hid (fun j y hj => by omega), Lib.hid (Below.refl _ _)⟩
  case round =>
    obtain ⟨i, rfl, hi, HN, HB⟩ := hrel
    by_cases hlt : i < l.length
    · have hiz : (i : Int) < (l.length : Int) := by omega
      obtain ⟨x, hx⟩ : ∃ x, l[i]? = some x := ⟨_, List.getElem?_eq_getElem hlt⟩
      obtain ⟨gx, ox, pv, rfl, hgx, cx0, cx1, hsv⟩ := (HP.out.keep HB.out).at_ hx
      have hbx := HL.out.2 x (List.mem_of_getElem? hx)
      obtain ⟨b, hb⟩ : ∃ b, (fun x => !rightX x) x = b := ⟨_, rfl⟩
      have C := ruleBad_any pv x wr hsv hbx.1 hbx.2 (HT.out.keep HB.out)
      have C2 : Calls Tryz.prog 25 #[.agg #[pv, .string (bs x.2)]] wr fun e w' => e = .returned (.bool b) ∧ Below wr.heap.size wr w' := by rw [← hb]; exact C
      have HC := Lib.hid C2
      clear C C2
      cases b with
      | true =>
        have HF := Lib.hid (HR.out.symm.trans (fI_hit (q := fun x => !rightX x) hx hb HN.out))
        clear hx hb hbx
        go_wp2_with fail
        refine HC.out.mono ?_
        rintro e w1 ⟨rfl, hb1⟩
        have HB1 := Lib.hid (below_of_new HB.out hb1)
        clear hb1
        go_wp2_with fail
        go_ret
        exact ⟨by rw [HF.out] <;> rfl, HB1.out⟩
      | false =>
        have HN2 : Hid (∀ j y, j < i + 1 → l[j]? = some y → (fun x => !rightX x) y = false) := Lib.hid (fun j y hj hy => by
          by_cases hji : j < i
          · exact HN.out j y hji hy
          · obtain rfl : j = i := by omega
            rw [hx] at hy
            obtain rfl := Option.some.inj hy
            exact hb)
        clear hx hb hbx
        go_wp2_with fail
        refine HC.out.mono ?_
        rintro e w1 ⟨rfl, hb1⟩
        have HB1 := Lib.hid (below_of_new HB.out hb1)
        clear hb1
        go_wp2_with fail
        go_roundw
        case rel => exact ⟨i + 1, by go_num, by omega, HN2, HB1⟩
        case measure => simp [RowKit.intOf]; omega
    · have hiz : ¬ (i : Int) < (l.length : Int) := by omega
      have HF := Lib.hid (HR.out.symm.trans (fI_miss (q := fun x => !rightX x) (fun j y hj hy => HN.out j y (by omega) hy)))
      go_wp2_with fail
      go_ret
      exact ⟨by rw [HF.out] <;> rfl, HB.out⟩
set_option maxRecDepth 100000 in
set_option maxHeartbeats 4000000 in
theorem indexFits_any (X : Nat) (av : Value) (a : List Stp) (v : Value) (l : List Rul) (w : World) (hv : RV w v l) (hl : RB l) (ha : SV w av a) (hX : w.cell? ⟨X, 0, none⟩ = some av) (hal : a.length ≤ 1073741824) :
    Calls Tryz.prog 22 #[v, .func (.func 23) #[] #[.pointer (some ⟨X, 0, none⟩)]] w fun e w' => e = .returned (.int .i64 (fI (fun x : Rul => mMatch x.1 a) l)) ∧ Below w.heap.size w w' := by
  obtain ⟨p, c, rfl, hc, hp⟩ := hv
  have HP := Lib.hid hp
  have HL := Lib.hid hl
  have hlen := hl.1
  have HA := Lib.hid ha
  have HX := Lib.hid hX
  clear ha hX
  clear hp hl
  obtain ⟨R, hR⟩ : ∃ R, fI (fun x : Rul => mMatch x.1 a) l = R := ⟨_, rfl⟩
  rw [hR]
  have HR := Lib.hid hR
  clear hR
  go_enter Tryz.func22, Tryz.ntmps22
  go_wp2_with fail
  go_loopw [8] (fun s8 wr => ∃ i : Nat, s8 = .int .i64 i ∧ i ≤ l.length ∧ Hid (∀ j y, j < i → l[j]? = some y → (fun x : Rul => mMatch x.1 a) y = false) ∧ Hid (Below w.heap.size w wr)) (fun s8 _ => l.length - (RowKit.intOf s8).toNat)
  case atStart => exact ⟨0, rfl, by omega, Lib.hid (fun j y hj => by omega), Lib.hid (Below.refl _ _)⟩
  case round =>
    obtain ⟨i, rfl, hi, HN, HB⟩ := hrel
    by_cases hlt : i < l.length
    · have hiz : (i : Int) < (l.length : Int) := by omega
      obtain ⟨x, hx⟩ : ∃ x, l[i]? = some x := ⟨_, List.getElem?_eq_getElem hlt⟩
      obtain ⟨gx, ox, pv, rfl, hgx, cx0, cx1, hsv⟩ := (HP.out.keep HB.out).at_ hx
      have hbx := HL.out.2 x (List.mem_of_getElem? hx)
      obtain ⟨b, hb⟩ : ∃ b, (fun x : Rul => mMatch x.1 a) x = b := ⟨_, rfl⟩
      have C := fits1_any pv av x a X wr hsv (HA.out.keep HB.out) (by rw [HB.out.cell (p := ⟨X, 0, none⟩) (cell_lt HX.out)]; exact HX.out) (by have := hbx.1.len; omega) hal
      have C2 : Calls Tryz.prog 23 #[.agg #[pv, .string (bs x.2)], .pointer (some ⟨X, 0, none⟩)] wr fun e w' => e = .returned (.bool b) ∧ Below wr.heap.size wr w' := by rw [← hb]; exact C
      have HC := Lib.hid C2
      clear C C2
      cases b with
      | true =>
        have HF := Lib.hid (HR.out.symm.trans (fI_hit (q := fun x : Rul => mMatch x.1 a) hx hb HN.out))
        clear hx hb hbx
        go_wp2_with fail
        refine HC.out.mono ?_
        rintro e w1 ⟨rfl, hb1⟩
        have HB1 := Lib.hid (below_of_new HB.out hb1)
        clear hb1
        go_wp2_with fail
        go_ret
        exact ⟨by rw [HF.out] <;> rfl, HB1.out⟩
      | false =>
        have HN2 : Hid (∀ j y, j < i + 1 → l[j]? = some y → (fun x : Rul => mMatch x.1 a) y = false) := Lib.hid (fun j y hj hy => by
          by_cases hji : j < i
          · exact HN.out j y hji hy
          · obtain rfl : j = i := by omega
            rw [hx] at hy
            obtain rfl := Option.some.inj hy
            exact hb)
        clear hx hb hbx
        go_wp2_with fail
        refine HC.out.mono ?_
        rintro e w1 ⟨rfl, hb1⟩
        have HB1 := Lib.hid (below_of_new HB.out hb1)
        clear hb1
        go_wp2_with fail
        go_roundw
        case rel => exact ⟨i + 1, by go_num, by omega, HN2, HB1⟩
        case measure => simp [RowKit.intOf]; omega
    · have hiz : ¬ (i : Int) < (l.length : Int) := by omega
      have HF := Lib.hid (HR.out.symm.trans (fI_miss (q := fun x : Rul => mMatch x.1 a) (fun j y hj hy => HN.out j y (by omega) hy)))
      go_wp2_with fail
      go_ret
      exact ⟨by rw [HF.out] <;> rfl, HB.out⟩
theorem rightR_of (l : List Rul) : rightR l = (decide (l.length ≤ 32) && !(l.any fun x => !rightX x)) := by
  unfold rightR
  rw [List.all_eq_not_any_not]
theorem containsRule_any (v : Value) (l : List Rul) (w : World) (hv : RV w v l) (hl : RB l) (hT : Tabs w) :
    Calls Tryz.prog 24 #[v, .func (.func 25) #[] #[]] w fun e w' => e = .returned (.bool (l.any fun x => !rightX x)) ∧ Below w.heap.size w w' := by
  have C := indexRule_any v l w hv hl hT
  have hg := fI_ge (fun x => !rightX x) l
  obtain ⟨k, hk⟩ : ∃ k, fI (fun x => !rightX x) l = k := ⟨_, rfl⟩
  obtain ⟨b, hb⟩ : ∃ b, (l.any fun x => !rightX x) = b := ⟨_, rfl⟩
  rw [hk, hb] at hg
  rw [hk] at C
  rw [hb]
  have HC := Lib.hid C
  have d1 : decide (k ≥ 0) = b := by
    cases b with
    | true => exact decide_eq_true (hg.1.2 rfl)
    | false => exact decide_eq_false (by have := hg.2.1.2 rfl; omega)
  have d2 : decide (0 ≤ k) = b := d1
  clear C hk hb hg hv hl hT
  go_enter Tryz.func24, Tryz.ntmps24
  go_wp2_with fail
  refine HC.out.mono ?_
  rintro e w1 ⟨rfl, hb1⟩
  go_wp2_with fail
  go_ret
  exact ⟨by first | exact ret_bool d1 | rfl, hb1⟩
theorem rulesRight_any (v : Value) (l : List Rul) (w : World) (hv : RV w v l) (hl : RB l) (hT : Tabs w) :
    Calls Tryz.prog 12 #[v] w fun e w' => e = .returned (.bool (rightR l)) ∧ Below w.heap.size w w' := by
  have C := containsRule_any v l w hv hl hT
  have hr := rightR_of l
  have hl1 := hl.1
  obtain ⟨b, hb⟩ : ∃ b, (l.any fun x => !rightX x) = b := ⟨_, rfl⟩
  rw [hb] at hr C
  rw [hr]
  have HC := Lib.hid C
  obtain ⟨p, c, rfl, hc, hp⟩ := hv
  clear C hr hb hT hp hl
  by_cases h32 : l.length ≤ 32
  · have d1 : decide ((l.length : Int) ≤ 32) = true := decide_eq_true (by omega)
    have d2 : decide (l.length ≤ 32) = true := decide_eq_true h32
    clear h32
    go_enter Tryz.func12, Tryz.ntmps12
    go_wp2_with fail
    refine HC.out.mono ?_
    rintro e w1 ⟨rfl, hb1⟩
    go_wp2_with fail
    go_ret
    exact ⟨by rw [d2]; first | rfl | simp, hb1⟩
  · have d1 : decide ((l.length : Int) ≤ 32) = false := decide_eq_false (by omega)
    have d2 : decide (l.length ≤ 32) = false := decide_eq_false h32
    clear h32 HC
    go_enter Tryz.func12, Tryz.ntmps12
    go_wp2_with fail
    go_ret
    exact ⟨by rw [d2]; first | rfl | simp, Below.refl _ _⟩
/-- rules.Find. -/
def findR (l : List Rul) (a : List Stp) : Stp × Bool := match l.find? (fun x => mMatch x.1 a) with
  | some x => (x.2, true)
  | none => ([], false)
theorem findR_of (l : List Rul) (a : List Stp) : (fI (fun x : Rul => mMatch x.1 a) l = -1 ∧ findR l a = ([], false)) ∨ ∃ (i : Nat) (x : Rul), fI (fun x : Rul => mMatch x.1 a) l = i ∧ i < l.length ∧ l[i]? = some x ∧ findR l a = (x.2, true) := by
  cases h : l.any (fun x => mMatch x.1 a) with
  | false =>
    left
    have hn : l.find? (fun x => mMatch x.1 a) = none := by
      rw [List.find?_eq_none]
      intro x hx hq
      have := (List.any_eq_true (p := fun x : Rul => mMatch x.1 a)).2 ⟨x, hx, hq⟩
      rw [h] at this; cases this
    unfold fI findR
    rw [if_neg (by rw [h]; decide), hn]
    exact ⟨rfl, rfl⟩
  | true =>
    right
    have hlt : l.findIdx (fun x => mMatch x.1 a) < l.length := by
      obtain ⟨x, hx, hq⟩ := List.any_eq_true.1 h
      exact List.findIdx_lt_length_of_exists (p := fun x : Rul => mMatch x.1 a) ⟨x, hx, hq⟩
    refine ⟨_, l[l.findIdx (fun x => mMatch x.1 a)]'hlt, by unfold fI; rw [if_pos h], hlt, List.getElem?_eq_getElem hlt, ?_⟩
    unfold findR
    rw [List.find?_eq_getElem?_findIdx, List.getElem?_eq_getElem hlt]
def FindE (r : Stp × Bool) : Ending := .returned (.tuple #[.string (bs r.1), .bool r.2])
set_option maxRecDepth 100000 in
set_option maxHeartbeats 4000000 in
theorem rulesFind_any (v av : Value) (l : List Rul) (a : List Stp) (w : World) (hv : RV w v l) (ha : SV w av a) (hl : RB l) (hal : a.length ≤ 1073741824) :
    Calls Tryz.prog 10 #[v, av] w fun e w' => e = FindE (findR l a) ∧ Below w.heap.size w w' := by
  have hmf : ∀ (fn : Fn) (first cap : Array Value) (w : World), (Instr.makeFunc fn first cap).run Tryz.prog w = .ok (.func fn first cap) w := fun _ _ _ _ => rfl
  obtain ⟨ap, ac, rfl, hac, hap⟩ := ha
  have ha : SV w (.slice ap a.length ac) a := ⟨ap, ac, rfl, hac, hap⟩
  have ba := below_alloc1 w (.cells #[.slice ap a.length ac] 23)
  have C := indexFits_any w.heap.size (.slice ap a.length ac) a v l _ (hv.keep ba) hl (ha.keep ba) (cell_new w _ _ 0 _ rfl) hal
  have hlen := hl.1
  have HV := Lib.hid hv
  rcases findR_of l a with ⟨h1, h2⟩ | ⟨i, x, h1, hi, hx, h2⟩
  · rw [h1] at C
    rw [h2]
    have HC := Lib.hid C
    obtain ⟨p, c, rfl, hc, hp⟩ := hv
    clear C h1 h2 ha hap hl hal hp
    go_enter Tryz.func10, Tryz.ntmps10
    go_wp2_with fail
    refine HC.out.mono ?_
    rintro e w1 ⟨rfl, hb1⟩
    have HB1 := Lib.hid (below_of_new (Below.refl w.heap.size w) (ba.trans (hb1.mono (by simp))))
    clear hb1
    go_wp2_with fail
    go_ret2
    exact ⟨rfl, HB1.out⟩
  · rw [h1] at C
    rw [h2]
    have HC := Lib.hid C
    obtain ⟨p, c, rfl, hc, hp⟩ := hv
    have HP := Lib.hid hp
    have hiz : (i : Int) < (l.length : Int) := by omega
    have HX := Lib.hid hx
    have dn : decide ((i : Int) < 0) = false := decide_eq_false (by omega)
    clear C h1 h2 ha hap hl hal hp hx
    go_enter Tryz.func10, Tryz.ntmps10
    go_wp2_with fail
    refine HC.out.mono ?_
    rintro e w1 ⟨rfl, hb1⟩
    have HB1 := Lib.hid (below_of_new (Below.refl w.heap.size w) (ba.trans (hb1.mono (by simp))))
    clear hb1
    obtain ⟨gx, ox, pv, rfl, hgx, cx0, cx1, hsv⟩ := (HP.out.keep HB1.out).at_ HX.out
    clear hsv
    go_wp2_with fail
    go_ret2
    exact ⟨rfl, HB1.out⟩
end Go.Proofs.YtfklmopnifkieaaGreatDoor
/-! The walk of rules.rule. -/
namespace Go.Proofs.YtfklmopnifkieaaGreatDoor
set_option linter.unusedSimpArgs false
set_option linter.unusedVariables false
open Go.RowKit
open Go.Lib hiding intOf
theorem readR_len : ∀ (f : Nat) (l : List UInt8) (i : Nat) (acc : List UInt8), (readGo f l i acc).1.length ≤ acc.length + 4 * l.length
  | 0, _, _, _ => by simp [readGo]
  | _ + 1, [], _, _ => by simp [readGo]
  | f + 1, c :: r, i, acc => by
    unfold readGo
    split
    · simp
    · split
      · simp
      · rename_i h
        have hp := partL_bd (c :: r) (List.cons_ne_nil _ _)
        obtain ⟨P, hP⟩ : ∃ P, partL (c :: r) = P := ⟨_, rfl⟩
        rw [hP] at hp h ⊢
        have := readR_len f ((c :: r).drop P.2.toNat) (i + P.2.toNat) (acc ++ encodeRune P.1)
        have h4 := Lib.runeCells_le P.1
        rw [Lib.runeCells_length] at h4
        rw [List.length_drop, List.length_append] at this
        omega
theorem unqL_len (l : List UInt8) : (unqL l).1.length ≤ 4 * l.length := by
  have h : (readL l 0).1.length ≤ 4 * l.length := by
    unfold readL
    split
    · have := readR_len (l.length + 1) (l.drop ((0 : Int).toNat + 1)) ((0 : Int).toNat + 1) []
      rw [List.length_drop] at this
      simp only [List.length_nil] at this
      omega
    · simp
  unfold unqL
  split
  · simp
  · exact h
def RBox (w : World) (X : Nat) (pv : Value) (k : Stp) : Prop := w.heap[X]? = some (.cells #[pv, .string (bs k)] 38 (0, 0))
abbrev RCells (w : World) (X : Nat) (pv : Value) (k : Stp) : Prop := w.cell? ⟨X, 0, none⟩ = some pv ∧ w.cell? ⟨X, 1, none⟩ = some (.string (bs k)) ∧ w.frozen? ⟨X, 0, none⟩ = false ∧ w.frozen? ⟨X, 1, none⟩ = false
theorem RBox.cells {w : World} {X : Nat} {pv : Value} {k : Stp} (h : RBox w X pv k) : RCells w X pv k := by
  unfold RBox at h
  refine ⟨?_, ?_, ?_, ?_⟩ <;> simp [World.cell?, World.frozen?, h]
theorem RBox.lt {w : World} {X : Nat} {pv : Value} {k : Stp} (h : RBox w X pv k) : X < w.heap.size := cell_it h
theorem RBox.keep {w w' : World} {X : Nat} {pv : Value} {k : Stp} (h : RBox w X pv k) (hb : Below w.heap.size w w') : RBox w' X pv k := (hb.block X h.lt).trans h
theorem RBox.new (w : World) (pv : Value) (k : Stp) : RBox (w.alloc (.cells #[pv, .string (bs k)] 38)) w.heap.size pv k := heap_alloc_new w _
def putR (w : World) (X : Nat) (pv : Value) (k : Stp) : World := (w.setCell ⟨X, 0, none⟩ pv).setCell ⟨X, 1, none⟩ (.string (bs k))
theorem RBox.put {w : World} {X : Nat} {pv pv2 : Value} {k k2 : Stp} (h : RBox w X pv k) : RBox (putR w X pv2 k2) X pv2 k2 := by
  unfold RBox at h ⊢
  unfold putR
  simp [World.setCell, h, Array.getElem?_modify]
theorem below_putR {B : Nat} {w w' : World} {X : Nat} {pv : Value} {k : Stp} (h : Below B w w') (hX : B ≤ X) : Below B w (putR w' X pv k) := by
  unfold putR
  exact (h.setCell (p := ⟨X, 0, none⟩) hX _).setCell (p := ⟨X, 1, none⟩) hX _
theorem OwnsS.put_rule {B X : Nat} {l : List Stp} {v pv0 pv : Value} {w : World} {k0 k : Stp} (h : OwnsS B l v w) (hX : RBox w X pv0 k0) : OwnsS B l v (putR w X pv k) := by
  have hne : v.ownBlock = none ∨ v.ownBlock ≠ some X := by
    rcases h.2 with ⟨rfl, _⟩ | ⟨g, cap, cur, rfl, _, hg, _⟩
    · exact .inl rfl
    · refine .inr fun e => ?_
      have hgg : g = X := Option.some.inj e
      subst hgg
      unfold RBox at hX
      rw [hg] at hX
      injection hX with hX
      injection hX with _ hX
      exact absurd hX (by decide)
  have hb := below_putR (B := X) (pv := pv) (k := k) (Below.refl X w) (Nat.le_refl _)
  refine World.ownsRow.kept h ⟨hb.os, hb.tape, hb.output, hb.size, fun i hi hn => ?_⟩ hne
  unfold putR
  have hn' : i ≠ X := fun e => hn (by rw [e])
  rw [Below.heap_setCell _ _ _ i hn', Below.heap_setCell _ _ _ i hn']
def RuleE (r : Rul × Bool) (w : World) (e : Ending) (w' : World) : Prop := ∃ pv, e = .returned (.tuple #[.agg #[pv, .string (bs r.1.2)], .bool r.2]) ∧ OwnsS w.heap.size r.1.1 pv w' ∧ Below w.heap.size w w'
theorem ruleR_of (s : List UInt8) (k : Nat) (h : endL s 0 = ((k : Int), 0)) (hk : k ≠ s.length) : ruleR s = (((parseP (unqL (s.take k)).1).1, (unqL (s.drop (k + 1))).1),
    ((unqL (s.drop (k + 1))).2.2 == 0) && ((parseP (unqL (s.take k)).1).2 == 0) && (lineR ((parseP (unqL (s.take k)).1).1, (unqL (s.drop (k + 1))).1) == s)) := by
  unfold ruleR
  rw [h]
  simp only [Int.toNat_natCast]
  rw [if_neg (by rintro (h | h); exact h rfl; exact hk (by omega))]
theorem parse_err (s : List UInt8) : (parseP s).2 = 0 ∨ (parseP s).2 = 2 ∨ (parseP s).2 = 3 := by
  unfold parseP
  repeat' split
  all_goals simp
/-- What the drawn region of rule finds: the rule that it has made, its pattern; its result's place. -/
def RAny (w : World) (X : Nat) (p : List Stp) (k : Stp) (pv : Value) (w' : World) : Prop := (∃ pv0 k0, RBox w' w.heap.size pv0 k0) ∧ RBox w' X pv k ∧ w.heap.size < X ∧ OwnsS w.heap.size p pv w' ∧ Below w.heap.size w w'
abbrev RTwo (w : World) (X : Nat) (p : List Stp) (k : Stp) (pv : Value) (w' : World) : Prop := w'.cell? ⟨X, 0, none⟩ = some pv ∧ w'.cell? ⟨X, 1, none⟩ = some (.string (bs k)) ∧ Hid (RAny w X p k pv w')
section
variable {w w1 w2 : World} {X : Nat} {p : List Stp} {k : Stp} {pv : Value}
theorem RTwo.of (h : RAny w X p k pv w1) : RTwo w X p k pv w1 := ⟨h.2.1.cells.1, h.2.1.cells.2.1, Lib.hid h⟩
theorem RTwo.drew (h : RTwo w X p k pv w1) : RTwo w X p k pv w1.drew := by
  obtain ⟨h1, h2, h3, h4, h5⟩ := h.2.2.out
  exact RTwo.of ⟨h1, h2, h3, h4, h5.drew⟩
theorem RTwo.step (h : RTwo w X p k pv w1) (hb : Below w1.heap.size w1 w2) : RTwo w X p k pv w2 := by
  obtain ⟨⟨pv0, k0, h1⟩, h2, h3, h4, h5⟩ := h.2.2.out
  exact RTwo.of ⟨⟨pv0, k0, h1.keep hb⟩, h2.keep hb, h3, h4.keep hb, h5.trans (hb.mono h5.size)⟩
theorem RTwo.own (h : RTwo w X p k pv w1) : SV w1 pv p := by
  obtain ⟨h1, h2, h3, h4, h5⟩ := h.2.2.out
  exact h4.toSV
theorem RTwo.bel (h : RTwo w X p k pv w1) : Below w.heap.size w w1 := by
  obtain ⟨h1, h2, h3, h4, h5⟩ := h.2.2.out
  exact h5
theorem RTwo.free (h : RTwo w X p k pv w1) : ∃ pv0 k0, RCells w1 w.heap.size pv0 k0 := by
  obtain ⟨⟨pv0, k0, h1⟩, h2, h3, h4, h5⟩ := h.2.2.out
  exact ⟨pv0, k0, h1.cells⟩
theorem RTwo.putG (h : RTwo w X p k pv w1) : RBox (putR w1 w.heap.size pv k) w.heap.size pv k ∧ OwnsS w.heap.size p pv (putR w1 w.heap.size pv k) ∧ Below w.heap.size w (putR w1 w.heap.size pv k) := by
  obtain ⟨⟨pv0, k0, h1⟩, h2, h3, h4, h5⟩ := h.2.2.out
  exact ⟨h1.put, h4.put_rule h1, below_putR h5 (Nat.le_refl _)⟩
theorem RTwo.put (h : RTwo w X p k pv w1) : RTwo w X p k pv ((w1.setCell ⟨w.heap.size, 0, none⟩ pv).setCell ⟨w.heap.size, 1, none⟩ (.string (bs k))) := by
  obtain ⟨g1, g2, g3⟩ := h.putG
  obtain ⟨h1, h2, h3, h4, h5⟩ := h.2.2.out
  refine RTwo.of ⟨⟨_, _, g1⟩, ?_, h3, g2, g3⟩
  have hn : X ≠ w.heap.size := by omega
  unfold RBox at h2 ⊢
  rw [Below.heap_setCell _ _ _ X hn, Below.heap_setCell _ _ _ X hn]
  exact h2
end
set_option maxRecDepth 100000 in
set_option maxHeartbeats 4000000 in
theorem rule_any (s : List UInt8) (w : World) (hs : s.length ≤ 67108864) (hV : RuV w) :
    Calls Tryz.prog 35 #[.string (bs s)] w (RuleE (ruleR s) w) := by
  have sl := bs_size s
  have hz := endL_zero s
  have hbd := endL_bd s
  have hr0 : (endL s 0).2 ≠ 0 ∨ (endL s 0).1 = (s.length : Int) → ruleR s = (([], []), false) := fun h => by unfold ruleR; rw [if_pos h]
  have hr1 := ruleR_of s
  obtain ⟨E, hE⟩ : ∃ E, endL s 0 = E := ⟨_, rfl⟩
  obtain ⟨kz, er⟩ := E
  rw [hE] at hz hbd hr0 hr1
  simp only [] at hz hbd hr0
  obtain ⟨k, rfl⟩ : ∃ k : Nat, kz = k := ⟨kz.toNat, by omega⟩
  have CE : Hid (∀ w, RuV w → Calls Tryz.prog 51 #[.string (bs s), .int .i64 0] w fun e w' => e = .returned (.tuple #[.int .i64 (k : Int), .int .i64 er]) ∧ Below w.heap.size w w') := Lib.hid (fun w h => by
    have := end_any s 0 w (by omega) h.s h.t
    rw [hE] at this
    exact this)
  have hB0 := RBox.new w (.slice none 0 0) []
  have ba := below_alloc1 w (.cells #[.slice none 0 0, .string (bs [])] 38)
  have HV := Lib.hid hV
  have hk : k ≤ s.length := by omega
  clear hE hV hbd
  by_cases h1 : er = 0
  · subst h1
    by_cases h2 : k = s.length
    · subst h2
      have HF := Lib.hid (hr0 (.inr rfl))
      clear hr0 hr1 hz
      go_enter Tryz.func35, Tryz.ntmps35
      go_wp2_with fail
      refine (CE.out _ (HV.out.keep ba)).mono ?_
      rintro e w1 ⟨rfl, hb1⟩
      have hB1 := hB0.keep hb1
      have HB1 := Lib.hid (below_of_new (Below.refl w.heap.size w) (ba.trans (hb1.mono (by simp))))
      obtain ⟨c0, c1, f0, f1⟩ := hB1.cells
      clear hb1 ba hB0
      go_wp2_with fail
      have hP := hB1.put (pv2 := .slice none 0 0) (k2 := [])
      have hPB := below_putR (pv := .slice none 0 0) (k := []) HB1.out (Nat.le_refl w.heap.size)
      obtain ⟨WF, hWF⟩ : ∃ W, putR w1 w.heap.size (.slice none 0 0) [] = W := ⟨_, rfl⟩
      rw [hWF] at hP hPB
      have hWF' : (w1.setCell ⟨w.heap.size, 0, none⟩ (.slice none 0 0)).setCell ⟨w.heap.size, 1, none⟩ (.string ⟨#[]⟩) = WF := hWF
      rw [hWF']
      obtain ⟨d0, d1, _⟩ := hP.cells
      clear c0 c1 f0 f1 hWF hWF' hB1
      refine bodyPost_ret (v := .tuple #[.agg #[.slice none 0 0, .string (bs [])], .bool false]) ?_ rfl (by rw [HF.out]; exact ⟨_, rfl, OwnsS.nil _ _, hPB⟩)
      simp [results, Tryz.results35, go_sem, d0, d1]
    · have hr := hr1 k rfl h2
      have hkl : k < s.length := by omega
      have hkz : ((k : Int) == (s.length : Int)) = false := beq_eq_false_iff_ne.2 (by omega)
      have u1 := unqL_len (s.take k)
      have u2 := unqL_len (s.drop (k + 1))
      rw [List.length_take] at u1
      rw [List.length_drop] at u2
      have CU1 : Hid (∀ w, RuV w → Calls Tryz.prog 52 #[.string ((bs s).extract 0 k)] w fun e w' => e = ReadE (unqL (s.take k)) ∧ Below w.heap.size w w') := Lib.hid (fun w h => by
        have e : (bs s).extract 0 k = bs (s.take k) := by rw [bs_front, bs_data]
        rw [e]
        exact unquote_any _ w (by rw [List.length_take]; omega) h.s h.t)
      have CU2 : Hid (∀ w, RuV w → Calls Tryz.prog 52 #[.string ((bs s).extract (k + 1) s.length)] w fun e w' => e = ReadE (unqL (s.drop (k + 1))) ∧ Below w.heap.size w w') := Lib.hid (fun w h => by
        rw [bs_from _ _ _ rfl]
        exact unquote_any _ w (by rw [List.length_drop]; omega) h.s h.t)
      obtain ⟨U1, hU1⟩ : ∃ U, unqL (s.take k) = U := ⟨_, rfl⟩
      obtain ⟨U2, hU2⟩ : ∃ U, unqL (s.drop (k + 1)) = U := ⟨_, rfl⟩
      obtain ⟨t, n1, e1⟩ := U1
      obtain ⟨key, n2, e2⟩ := U2
      rw [hU1] at CU1 hr u1
      rw [hU2] at CU2 hr u2
      simp only [] at hr u1 u2
      have hpr := parse_right t
      have CP : Hid (∀ w, RuV w → Calls Tryz.prog 53 #[.string (bs t)] w (PathE (parseP t) w)) := Lib.hid (fun w h => parse_any t w (by omega) h.t h.m)
      obtain ⟨P, hP⟩ : ∃ P, parseP t = P := ⟨_, rfl⟩
      obtain ⟨p, bad⟩ := P
      rw [hP] at CP hr hpr
      simp only [] at hr hpr
      have hpb : PB p := by unfold PB; have := hpr.2.2.1; omega
      have hkey : key.length ≤ 536870912 := by omega
      have CL : Hid (∀ w pv, RuV w → SV w pv p → Calls Tryz.prog 30 #[.agg #[pv, .string (bs key)]] w fun e w' => e = .returned (.string (bs (lineR (p, key)))) ∧ Below w.heap.size w w') := Lib.hid (fun w pv h hv => line_any pv p key w hv hpb hkey h)
      obtain ⟨Z, hZ⟩ : ∃ Z, lineR (p, key) = Z := ⟨_, rfl⟩
      rw [hZ] at CL hr
      have hqz := str_is Z s (bs s) rfl
      obtain ⟨b3, hb3⟩ : ∃ b, (Z == s) = b := ⟨_, rfl⟩
      rw [hb3] at hr
      rw [hb3] at hqz
      have HF := Lib.hid hr
      have he2 : e2 = 0 ∨ e2 = 2 := by
        have := (unq_facts (s.drop (k + 1))).1
        rw [hU2] at this
        by_cases h : e2 = 0
        · exact .inl h
        · exact .inr (this h).2.2.2
      have hbad : bad = 0 ∨ bad = 2 ∨ bad = 3 := by
        have := parse_err t
        rw [hP] at this
        exact this
      clear hr0 hr1 hz h2 u1 u2 hU1 hU2 hpr hP hpb hkey hZ hb3 hr
      go_enter Tryz.func35, Tryz.ntmps35
      go_wp2_with fail
      refine (CE.out _ (HV.out.keep ba)).mono ?_
      rintro e w1 ⟨rfl, hb1⟩
      have hB1 := Lib.hid (hB0.keep hb1)
      have HB1 := Lib.hid (below_of_new (Below.refl w.heap.size w) (ba.trans (hb1.mono (by simp))))
      clear hb1 ba hB0
      go_wp2_with fail
      refine (CU1.out _ (HV.out.keep HB1.out)).mono ?_
      rintro e w2 ⟨rfl, hb2⟩
      unfold ReadE
      have hB2 := Lib.hid (hB1.out.keep hb2)
      have HB2 := Lib.hid (below_of_new HB1.out hb2)
      clear hb2 hB1
      go_wp2_with fail
      refine (CU2.out _ (HV.out.keep HB2.out)).mono ?_
      rintro e w3 ⟨rfl, hb3⟩
      unfold ReadE
      have hB3 := Lib.hid (hB2.out.keep hb3)
      have HB3 := Lib.hid (below_of_new HB2.out hb3)
      clear hb3 hB2
      go_wp2_with fail
      with_reducible refine (CP.out _ (HV.out.keep HB3.out)).mono ?_
      rintro e w4 ⟨pv, rfl, ho, hb4⟩
      have hB4 := hB3.out.keep hb4
      have HB4 := below_of_new HB3.out hb4
      have ho4 : OwnsS w.heap.size p pv w4 := World.ownsRow.mono ho HB3.out.size
      have ba4 := below_alloc1 w4 (.cells #[pv, .string (bs key)] 38)
      have hS : RTwo w w4.heap.size p key pv (w4.alloc (.cells #[pv, .string (bs key)] 38)) := RTwo.of ⟨⟨_, _, hB4.keep ba4⟩, RBox.new w4 pv key, hB4.lt, ho4.keep ba4, HB4.trans (ba4.mono HB4.size)⟩
      clear hb4 hB3 hB4 ho ho4 ba4 HB4
      obtain ⟨ap, al, ac, rfl⟩ : ∃ ap al ac, pv = .slice ap al ac := by
        obtain ⟨q, c, rfl, _⟩ := hS.own
        exact ⟨_, _, _, rfl⟩
      obtain ⟨g0, k0, y0, y1, f0, f1⟩ := hS.free
      go_upto_region 8 with fail
      rcases he2 with rfl | rfl
      · rcases hbad with rfl | rfl | rfl
        · have HF2 : Hid (ruleR s = ((p, key), b3)) := HF
          clear y0 y1 f0 f1
          go_region_held3 (fun w' => RTwo w w4.heap.size p key (.slice ap al ac) w') ((first | exact RTwo.drew (by assumption) | exact RTwo.step (by assumption) (by assumption) | exact RTwo.put (by assumption) | assumption))
            ((go_at_call 30; (with_reducible refine (CL.out _ _ (HV.out.keep (RTwo.bel (by assumption : RTwo w w4.heap.size p key (.slice ap al ac) _))) (RTwo.own (by assumption : RTwo w w4.heap.size p key (.slice ap al ac) _))).mono ?_); rintro e w5 ⟨rfl, hb5⟩; have hn5 : RTwo w w4.heap.size p key (.slice ap al ac) w5 := RTwo.step (by assumption) hb5; obtain ⟨g5, k5, y0, y1, f0, f1⟩ := hn5.free))
          have HG := Lib.hid hn5.putG
          go_wp2_with fail
          obtain ⟨hP, hO, hPB⟩ := HG.out
          obtain ⟨WF, hWF⟩ : ∃ W, putR w5 w.heap.size (.slice ap al ac) key = W := ⟨_, rfl⟩
          rw [hWF] at hP hO hPB
          have hWF' : (w5.setCell ⟨w.heap.size, 0, none⟩ (.slice ap al ac)).setCell ⟨w.heap.size, 1, none⟩ (.string (bs key)) = WF := hWF
          rw [hWF']
          obtain ⟨d0, d1, _⟩ := hP.cells
          clear y0 y1 f0 f1 hWF hWF' HG
          refine bodyPost_ret (v := .tuple #[.agg #[.slice ap al ac, .string (bs key)], .bool b3]) ?_ rfl (by rw [HF2.out]; exact ⟨_, rfl, hO, hPB⟩)
          simp [results, Tryz.results35, go_sem, d0, d1]
        · have HF2 : Hid (ruleR s = ((p, key), false)) := HF
          have HG := Lib.hid hS.putG
          obtain ⟨z0, z1, _⟩ := hS
          clear CL CU1 CU2 CP CE
          go_region
          go_wp2_with fail
          obtain ⟨hP, hO, hPB⟩ := HG.out
          obtain ⟨WF, hWF⟩ : ∃ W, (putR (w4.alloc (.cells #[.slice ap al ac, .string (bs key)] 38)) w.heap.size (.slice ap al ac) key).drew = W := ⟨_, rfl⟩
          have hP' : RBox WF w.heap.size (.slice ap al ac) key := by rw [← hWF]; exact hP
          have hO' : OwnsS w.heap.size p (.slice ap al ac) WF := by rw [← hWF]; exact hO
          have hPB' : Below w.heap.size w WF := by rw [← hWF]; exact hPB.drew
          have hWF' : (((w4.alloc (.cells #[.slice ap al ac, .string (bs key)] 38)).setCell ⟨w.heap.size, 0, none⟩ (.slice ap al ac)).setCell ⟨w.heap.size, 1, none⟩ (.string (bs key))).drew = WF := hWF
          rw [hWF']
          obtain ⟨d0, d1, _⟩ := hP'.cells
          clear y0 y1 f0 f1 z0 z1 hWF hWF' hP hO hPB hP' HG
          refine bodyPost_ret (v := .tuple #[.agg #[.slice ap al ac, .string (bs key)], .bool false]) ?_ rfl (by rw [HF2.out]; exact ⟨_, rfl, hO', hPB'⟩)
          simp [results, Tryz.results35, go_sem, d0, d1]
        · have HF2 : Hid (ruleR s = ((p, key), false)) := HF
          have HG := Lib.hid hS.putG
          obtain ⟨z0, z1, _⟩ := hS
          clear CL CU1 CU2 CP CE
          go_region
          go_wp2_with fail
          obtain ⟨hP, hO, hPB⟩ := HG.out
          obtain ⟨WF, hWF⟩ : ∃ W, (putR (w4.alloc (.cells #[.slice ap al ac, .string (bs key)] 38)) w.heap.size (.slice ap al ac) key).drew = W := ⟨_, rfl⟩
          have hP' : RBox WF w.heap.size (.slice ap al ac) key := by rw [← hWF]; exact hP
          have hO' : OwnsS w.heap.size p (.slice ap al ac) WF := by rw [← hWF]; exact hO
          have hPB' : Below w.heap.size w WF := by rw [← hWF]; exact hPB.drew
          have hWF' : (((w4.alloc (.cells #[.slice ap al ac, .string (bs key)] 38)).setCell ⟨w.heap.size, 0, none⟩ (.slice ap al ac)).setCell ⟨w.heap.size, 1, none⟩ (.string (bs key))).drew = WF := hWF
          rw [hWF']
          obtain ⟨d0, d1, _⟩ := hP'.cells
          clear y0 y1 f0 f1 z0 z1 hWF hWF' hP hO hPB hP' HG
          refine bodyPost_ret (v := .tuple #[.agg #[.slice ap al ac, .string (bs key)], .bool false]) ?_ rfl (by rw [HF2.out]; exact ⟨_, rfl, hO', hPB'⟩)
          simp [results, Tryz.results35, go_sem, d0, d1]
      · have HF2 : Hid (ruleR s = ((p, key), false)) := HF
        have HG := Lib.hid hS.putG
        obtain ⟨z0, z1, _⟩ := hS
        clear CL CU1 CU2 CP CE
        go_region
        go_wp2_with fail
        obtain ⟨hP, hO, hPB⟩ := HG.out
        obtain ⟨WF, hWF⟩ : ∃ W, (putR (w4.alloc (.cells #[.slice ap al ac, .string (bs key)] 38)) w.heap.size (.slice ap al ac) key).drew = W := ⟨_, rfl⟩
        have hP' : RBox WF w.heap.size (.slice ap al ac) key := by rw [← hWF]; exact hP
        have hO' : OwnsS w.heap.size p (.slice ap al ac) WF := by rw [← hWF]; exact hO
        have hPB' : Below w.heap.size w WF := by rw [← hWF]; exact hPB.drew
        have hWF' : (((w4.alloc (.cells #[.slice ap al ac, .string (bs key)] 38)).setCell ⟨w.heap.size, 0, none⟩ (.slice ap al ac)).setCell ⟨w.heap.size, 1, none⟩ (.string (bs key))).drew = WF := hWF
        rw [hWF']
        obtain ⟨d0, d1, _⟩ := hP'.cells
        clear y0 y1 f0 f1 z0 z1 hWF hWF' hP hO hPB hP' HG
        refine bodyPost_ret (v := .tuple #[.agg #[.slice ap al ac, .string (bs key)], .bool false]) ?_ rfl (by rw [HF2.out]; exact ⟨_, rfl, hO', hPB'⟩)
        simp [results, Tryz.results35, go_sem, d0, d1]
  · have he2 : er = 2 := by rcases hz with h | h; exact absurd h h1; exact h
    subst he2
    have HF := Lib.hid (hr0 (.inl (by decide)))
    clear hr0 hr1 hz h1
    go_enter Tryz.func35, Tryz.ntmps35
    go_wp2_with fail
    refine (CE.out _ (HV.out.keep ba)).mono ?_
    rintro e w1 ⟨rfl, hb1⟩
    have hB1 := hB0.keep hb1
    have HB1 := Lib.hid (below_of_new (Below.refl w.heap.size w) (ba.trans (hb1.mono (by simp))))
    obtain ⟨c0, c1, f0, f1⟩ := hB1.cells
    clear hb1 ba hB0
    go_wp2_with fail
    have hP := hB1.put (pv2 := .slice none 0 0) (k2 := [])
    have hPB := below_putR (pv := .slice none 0 0) (k := []) HB1.out (Nat.le_refl w.heap.size)
    obtain ⟨WF, hWF⟩ : ∃ W, putR w1 w.heap.size (.slice none 0 0) [] = W := ⟨_, rfl⟩
    rw [hWF] at hP hPB
    have hWF' : (w1.setCell ⟨w.heap.size, 0, none⟩ (.slice none 0 0)).setCell ⟨w.heap.size, 1, none⟩ (.string ⟨#[]⟩) = WF := hWF
    rw [hWF']
    obtain ⟨d0, d1, _⟩ := hP.cells
    clear c0 c1 f0 f1 hWF hWF' hB1
    refine bodyPost_ret (v := .tuple #[.agg #[.slice none 0 0, .string (bs [])], .bool false]) ?_ rfl (by rw [HF.out]; exact ⟨_, rfl, OwnsS.nil _ _, hPB⟩)
    simp [results, Tryz.results35, go_sem, d0, d1]
end Go.Proofs.YtfklmopnifkieaaGreatDoor
