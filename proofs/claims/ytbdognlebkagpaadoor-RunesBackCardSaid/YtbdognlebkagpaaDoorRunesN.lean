import Derived.Test.YtbdognlebkagpaaDoorRunesM
namespace Go.Proofs.YtbdognlebkagpaaDoor
open Go.RowKit
open Go.Lib hiding intOf

/-! RunesLines. -/
theorem linesL_at : ∀ (l : List UInt8) (k pos n a b : Nat), k ≤ pos → (linesL l k pos)[n]? = some (a, b) →
    (n = 0 → a = k) ∧ (∀ c d, (linesL l k pos)[n + 1]? = some (c, d) → c = b) ∧ (n + 1 = (linesL l k pos).length → b = pos + l.length) ∧ (0 < n → pos < a) ∧ (n + 1 < (linesL l k pos).length → pos < b) ∧
    ∀ j, a ≤ j → pos ≤ j → j < b → (l[j - pos]? = some 10 ↔ (j + 1 = b ∧ n + 1 < (linesL l k pos).length))
  | [], k, pos, n, a, b, hk, h => by
    simp only [linesL] at h ⊢
    rcases n with _ | n
    · simp at h
      obtain ⟨rfl, rfl⟩ := h
      refine ⟨fun _ => rfl, fun c d h => by simp at h, fun _ => by simp, fun h => by omega, fun h => by simp at h, fun j _ h1 h2 => by omega⟩
    · simp at h
  | c :: t, k, pos, n, a, b, hk, h => by
    unfold linesL at h ⊢
    by_cases hc : c = 10
    · rw [if_pos hc] at h ⊢
      have hl := (linesL_len t (pos + 1) (pos + 1)).2
      rcases n with _ | n
      · simp at h
        obtain ⟨rfl, rfl⟩ := h
        refine ⟨fun _ => rfl, fun c d h => ?_, fun h => by rw [List.length_cons] at h; omega, fun h => by omega, fun _ => by omega, fun j _ h1 h2 => ?_⟩
        · rw [List.getElem?_cons_succ] at h
          exact (linesL_at t (pos + 1) (pos + 1) 0 c d (Nat.le_refl _) h).1 rfl
        · obtain rfl : j = pos := by omega
          simp [hc]; omega
      · rw [List.getElem?_cons_succ] at h
        obtain ⟨h1, h2, h3, h4, h5, h6⟩ := linesL_at t (pos + 1) (pos + 1) n a b (Nat.le_refl _) h
        have ha : pos + 1 ≤ a := by
          rcases Nat.eq_zero_or_pos n with h0 | h0
          · have := h1 h0; omega
          · have := h4 h0; omega
        refine ⟨fun h => by omega, fun c d h => ?_, fun h => ?_, fun _ => by omega, fun h => ?_, fun j hj1 hj2 hj3 => ?_⟩
        · rw [List.getElem?_cons_succ] at h; exact h2 c d h
        · have := h3 (by simpa using h); simp; omega
        · have := h5 (by simpa using h); omega
        · rw [show j - pos = (j - (pos + 1)) + 1 by omega, List.getElem?_cons_succ, h6 j hj1 (by omega) hj3]; simp
    · rw [if_neg hc] at h ⊢
      obtain ⟨h1, h2, h3, h4, h5, h6⟩ := linesL_at t k (pos + 1) n a b (by omega) h
      refine ⟨h1, h2, fun h => ?_, fun h => ?_, fun h => ?_, fun j hj1 hj2 hj3 => ?_⟩
      · have := h3 h; simp; omega
      · have := h4 h; omega
      · have := h5 h; omega
      · by_cases hjp : j = pos
        · subst hjp
          simp [hc]
          intro hb
          rcases Nat.lt_or_ge (n + 1) (linesL t k (j + 1)).length with h7 | h7
          · have := h5 h7; omega
          · omega
        · rw [show j - pos = (j - (pos + 1)) + 1 by omega, List.getElem?_cons_succ]; exact h6 j hj1 (by omega) hj3
theorem linesOf_at (s : ByteArray) (n a b : Nat) (h : (linesOf s)[n]? = some (a, b)) :
    (n = 0 → a = 0) ∧ (∀ c d, (linesOf s)[n + 1]? = some (c, d) → c = b) ∧ (n + 1 = (linesOf s).length → b = s.size) ∧
    ∀ j (hj : j < s.size), a ≤ j → j < b → (s[j]'hj = 10 ↔ (j + 1 = b ∧ n + 1 < (linesOf s).length)) := by
  have hl : s.data.toList.length = s.size := rfl
  obtain ⟨h1, h2, h3, h4, h5, h6⟩ := linesL_at s.data.toList 0 0 n a b (Nat.le_refl _) h
  refine ⟨h1, h2, fun h => ?_, fun j hj hj1 hj2 => ?_⟩
  · have := h3 h; omega
  · have := h6 j hj1 (Nat.zero_le _) hj2
    rw [Nat.sub_zero] at this
    rw [show (linesL s.data.toList 0 0).length = (linesOf s).length from rfl] at this
    rw [← this, Array.getElem?_toList, Array.getElem?_eq_getElem hj]
    exact ⟨fun h => by rw [← h]; rfl, fun h => Option.some.inj h⟩
theorem SpansAt.below {w w' : World} {g B : Nat} {xs : List (Nat × Nat)} (h : SpansAt w g xs) (hb : Below B w w') (hg : g < B) : SpansAt w' g xs := fun j a b hj => by
  rw [hb.cell (p := ⟨g, j * 2, none⟩) hg, hb.cell (p := ⟨g, j * 2 + 1, none⟩) hg]; exact h j a b hj
/-- Where the n-th line begins. -/
def begOf (s : ByteArray) (n : Nat) : Nat := match (linesOf s)[n]? with | some (a, _) => a | none => s.size
theorem begOf_at {s : ByteArray} {n a b : Nat} (h : (linesOf s)[n]? = some (a, b)) : begOf s n = a := by unfold begOf; rw [h]
theorem begOf_zero (s : ByteArray) : begOf s 0 = 0 := by
  have hl := (linesOf_len s).2
  obtain ⟨a, b, hab⟩ : ∃ a b, (linesOf s)[0]? = some (a, b) := ⟨_, _, List.getElem?_eq_getElem (by omega)⟩
  rw [begOf_at hab]; exact (linesOf_at s 0 a b hab).1 rfl
theorem begOf_next {s : ByteArray} {n a b : Nat} (h : (linesOf s)[n]? = some (a, b)) : begOf s (n + 1) = b := by
  obtain ⟨_, h2, h3, _⟩ := linesOf_at s n a b h
  have hn : n < (linesOf s).length := (List.getElem?_eq_some_iff.1 h).1
  unfold begOf
  cases hc : (linesOf s)[n + 1]? with
  | some x => exact h2 x.1 x.2 hc
  | none => exact (h3 (by have := List.getElem?_eq_none_iff.1 hc; omega)).symm
theorem begOf_end (s : ByteArray) : begOf s (linesOf s).length = s.size := by
  unfold begOf; rw [List.getElem?_eq_none_iff.2 (Nat.le_refl _)]

set_option maxHeartbeats 4000000 in
set_option maxRecDepth 100000 in
theorem runesLines_walk (s : ByteArray) (w : World) (hs : s.size ≤ 4294967000) (hT : Tabs w) :
    Calls Tryd.prog 4 #[.string s] w fun e w' => e = .returned (.bool true) ∧ Below w.heap.size w w' := by
  have hll := linesOf_len s
  have hpos : 0 < (linesOf s).length := by omega
  go_enter Tryd.func4, Tryd.ntmps4
  go_wp2_with fail
  refine (small_any _ hT).mono ?_
  rintro e w1 ⟨rfl, hb1⟩
  have HB1 := Lib.hid hb1
  clear hb1
  go_wp2_with (go_at_call 13; go_must (refine (lines_open s _ hs).mono ?_); rintro e w2 ⟨g, cap, rfl, hBg, hgs, hcell, hb2⟩; have HB2 := Lib.hid (below_of_new HB1.out hb2); clear hb2)
  have H0 := Lib.hid (begOf_zero s)
  have HE := Lib.hid (begOf_end s)
  go_loopw [5, 6] (fun a i wr => ∃ n : Nat, n ≤ (linesOf s).length ∧ i = .int .i64 n ∧ a = .int .i64 (begOf s n) ∧ Hid (Below w2.heap.size w2 wr)) (fun _ i _ => (linesOf s).length - (RowKit.intOf i).toNat)
  case atStart => exact ⟨0, by omega, rfl, by rw [H0.out]; rfl, Below.refl _ _⟩
  case round =>
    obtain ⟨n, hn, rfl, rfl, HW⟩ := hrel
    by_cases hlt : n < (linesOf s).length
    · obtain ⟨a, b, hab⟩ : ∃ a b, (linesOf s)[n]? = some (a, b) := ⟨_, _, List.getElem?_eq_getElem hlt⟩
      obtain ⟨hab1, hab2, hE⟩ := linesOf_ends s n a b hab
      obtain ⟨_, _, _, hchars⟩ := linesOf_at s n a b hab
      have HCh := Lib.hid hchars
      have HNx := Lib.hid (begOf_next hab)
      have hcr := hcell.below HW.out hgs
      obtain ⟨ca, cb⟩ := hcr.at_ hab
      have hba := begOf_at hab
      generalize begOf s n = at0 at *
      subst hba
      clear hchars hab hE
      have hd1 : decide (b < at0) = false := decide_eq_false (by omega)
      have hd2 : decide (s.size < b) = false := decide_eq_false (by omega)
      have hgz : g < wr.heap.size := by have := HW.out.size; omega
      obtain ⟨wo, rfl⟩ : ∃ wo : World, wo = wr := ⟨_, rfl⟩
      go_wp2_with fail
      go_loopw [7] (fun k wr => ∃ j : Nat, at0 ≤ j ∧ j ≤ b ∧ k = .int .i64 j ∧ Hid (Below wo.heap.size wo wr)) (fun k _ => b - (RowKit.intOf k).toNat)
      case atStart => exact ⟨at0, by omega, by omega, rfl, Below.refl _ _⟩
      case round =>
        obtain ⟨j, hj1, hj2, rfl, HJ⟩ := hrel
        have ca' : wr.cell? ⟨g, n * 2, none⟩ = some (.int .i64 at0) := (HJ.out.cell (p := ⟨g, n * 2, none⟩) hgz).trans ca
        have cb' : wr.cell? ⟨g, n * 2 + 1, none⟩ = some (.int .i64 b) := (HJ.out.cell (p := ⟨g, n * 2 + 1, none⟩) hgz).trans cb
        by_cases hjb : j < b
        · have hjs : j < s.size := by omega
          have hjz : (j : Int) < (s.size : Int) := by omega
          have hiff := HCh.out j hjs hj1 hjb
          have hnz : (n : Int) < ((linesOf s).length : Int) := by omega
          by_cases h1 : j + 1 = b
          · by_cases h2 : n + 1 < (linesOf s).length
            · have hb10 : (((s[j]'hjs).toNat : Int) == 10) = true := by rw [hiff.2 ⟨h1, h2⟩]; rfl
              have e1 : ((j : Int) == (b : Int) - 1) = true := beq_iff_eq.2 (by omega)
              have e2 : decide ((n : Int) < ((linesOf s).length : Int) - 1) = true := decide_eq_true (by omega)
              clear hiff h1
              go_wp2_with fail
              go_quiet (fail)
              go_wp2_with fail
              go_roundw
              case rel => exact ⟨j + 1, by omega, by omega, by go_num, below_drewN HJ.out _⟩
              case measure => simp [RowKit.intOf]; omega
            · have hb10 : (((s[j]'hjs).toNat : Int) == 10) = false := by
                rw [beq_eq_false_iff_ne]; intro h
                exact h2 (hiff.1 (UInt8.toNat_inj.1 (by rw [show (10 : UInt8).toNat = 10 from rfl]; omega))).2
              have e1 : ((j : Int) == (b : Int) - 1) = true := beq_iff_eq.2 (by omega)
              have e2 : decide ((n : Int) < ((linesOf s).length : Int) - 1) = false := decide_eq_false (by omega)
              clear hiff h1
              go_wp2_with fail
              go_quiet (fail)
              go_wp2_with fail
              go_roundw
              case rel => exact ⟨j + 1, by omega, by omega, by go_num, below_drewN HJ.out _⟩
              case measure => simp [RowKit.intOf]; omega
          · have hb10 : (((s[j]'hjs).toNat : Int) == 10) = false := by
              rw [beq_eq_false_iff_ne]; intro h
              exact h1 (hiff.1 (UInt8.toNat_inj.1 (by rw [show (10 : UInt8).toNat = 10 from rfl]; omega))).1
            have e1 : ((j : Int) == (b : Int) - 1) = false := beq_eq_false_iff_ne.2 (by omega)
            clear hiff h1
            go_wp2_with fail
            go_quiet (fail)
            go_wp2_with fail
            go_roundw
            case rel => exact ⟨j + 1, by omega, by omega, by go_num, below_drewN HJ.out _⟩
            case measure => simp [RowKit.intOf]; omega
        · obtain rfl : j = b := by omega
          go_wp2_with fail
          go_roundw
          case rel => exact ⟨n + 1, by omega, by go_num, by rw [HNx.out], HW.out.trans (HJ.out.mono HW.out.size)⟩
          case measure => simp [RowKit.intOf]; omega
    · obtain rfl : n = (linesOf s).length := by omega
      have hbe := HE.out
      generalize begOf s (linesOf s).length = at0 at *
      subst hbe
      go_wp2_with fail
      go_ret
      exact ⟨rfl, HB2.out.trans (HW.out.mono HB2.out.size)⟩
end Go.Proofs.YtbdognlebkagpaaDoor
