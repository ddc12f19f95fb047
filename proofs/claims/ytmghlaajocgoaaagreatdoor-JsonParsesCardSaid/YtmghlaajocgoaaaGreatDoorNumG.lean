import Derived.Test.YtmghlaajocgoaaaGreatDoorNumF
import Derived.Test.YtmghlaajocgoaaaGreatDoorSm
import Derived.Lib.IndexBytes
/-! The walks of number: cut, Right. -/
namespace Go.Proofs.YtmghlaajocgoaaaGreatDoor
set_option linter.unusedSimpArgs false
set_option linter.unusedVariables false
open Go.RowKit
open Go.Lib hiding intOf
theorem cutAt_miss {p : UInt8 → Bool} {l : List UInt8} (h : l.all (fun c => !p c) = true) : cutAt p l = (l, [], false) :=
  cutAt_none p l fun c hc => by have := List.all_eq_true.1 h c hc; simpa using this
theorem cutAt_hit {p : UInt8 → Bool} {l : List UInt8} {k : Nat} {b : UInt8} (h : (l.take k).all (fun c => !p c) = true) (hb : l[k]? = some b) (hp : p b = true) : cutAt p l = (l.take k, l.drop (k + 1), true) := by
  obtain ⟨hk, e⟩ := List.getElem?_eq_some_iff.1 hb
  have hl : l = l.take k ++ b :: l.drop (k + 1) := by
    rw [← e, ← List.drop_eq_getElem_cons hk, List.take_append_drop]
  have := cutAt_some p (l.take k) b (l.drop (k + 1)) (fun c hc => by have := List.all_eq_true.1 h c hc; simpa using this) hp
  rw [← hl] at this
  exact this
def NoneYet (p : UInt8 → Bool) (s : ByteArray) (k : Nat) : Prop := (s.data.toList.take k).all (fun c => !p c) = true
theorem NoneYet.next {p : UInt8 → Bool} {s : ByteArray} {k : Nat} (h : NoneYet p s k) (hk : k < s.size) (hp : p (s[k]'hk) = false) : NoneYet p s (k + 1) := by
  unfold NoneYet at *
  rw [take_next s k hk, List.all_append, h, List.all_cons, hp]; rfl
theorem NoneYet.fin {p : UInt8 → Bool} {s : ByteArray} {k : Nat} (h : NoneYet p s k) (hk : s.size ≤ k) : cutAt p s.data.toList = (s.data.toList, [], false) := by
  unfold NoneYet at h
  rw [List.take_of_length_le (by have : s.data.toList.length = s.size := rfl; omega)] at h
  exact cutAt_miss h
theorem NoneYet.hit {p : UInt8 → Bool} {s : ByteArray} {k : Nat} (h : NoneYet p s k) (hk : k < s.size) (hp : p (s[k]'hk) = true) : cutAt p s.data.toList = (s.data.toList.take k, s.data.toList.drop (k + 1), true) :=
  cutAt_hit h (by rw [Array.getElem?_toList, Array.getElem?_eq_getElem hk]; rfl) hp
def Trip (R : List UInt8 × List UInt8 × Bool) : Ending := .returned (.tuple #[.string (bs R.1), .string (bs R.2.1), .bool R.2.2])
set_option maxHeartbeats 1000000 in
theorem cut_any (s A : ByteArray) (p : UInt8 → Bool) (w : World) (hp : ∀ b, p b = decide (0 ≤ Lib.indexByte A.data.toList b)) (hs : s.size ≤ 4294967296) :
    Calls Tryz.prog 80 #[.string s, .string A] w fun e w' => e = Trip (cutAt p s.data.toList) ∧ Below w.heap.size w w' := by
  obtain ⟨R, hR⟩ : ∃ R, cutAt p s.data.toList = R := ⟨_, rfl⟩
  rw [hR]
  have HR := Lib.hid hR; clear hR
  have HP := Lib.hid hp; clear hp
  go_enter Tryz.func80, Tryz.ntmps80
  go_wp2_with fail
  go_loopw [10] (fun i wr => ∃ k : Nat, k ≤ s.size ∧ i = .int .i64 k ∧ Hid (NoneYet p s k) ∧ Hid (Below w.heap.size w wr)) (fun i _ => s.size - (RowKit.intOf i).toNat)
  case atStart => exact ⟨0, by omega, rfl, rfl, Below.refl _ _⟩
  case round =>
    obtain ⟨k, hk, rfl, HY, HW⟩ := hrel
    by_cases hlt : k < s.size
    · have hlz : (k : Int) < (s.size : Int) := by omega
      have hix := index_in A (s[k]'hlt)
      have hpb := HP.out (s[k]'hlt)
      cases hpp : p (s[k]'hlt) with
      | true =>
        have HF := Lib.hid (HR.out.symm.trans (HY.out.hit hlt hpp))
        rw [hpp] at hpb
        have hge : 0 ≤ Lib.indexByte A.data.toList (s[k]'hlt) := of_decide_eq_true hpb.symm
        generalize Lib.indexByte A.data.toList (s[k]'hlt) = I at *
        have HIX := Lib.hid hix; clear hix hpp hpb
        go_wp2_with (go_at_call 54; go_must (refine (HIX.out _).mono ?_); rintro e w' ⟨rfl, rfl⟩)
        go_quiet (fail)
        go_wp2_with fail
        go_ret3
        exact ⟨by rw [HF.out, bs_front, bs_back]; rfl, below_drewN HW.out _⟩
      | false =>
        have HN := Lib.hid (HY.out.next hlt hpp)
        rw [hpp] at hpb
        have hge : Lib.indexByte A.data.toList (s[k]'hlt) < 0 := Int.not_le.1 (of_decide_eq_false hpb.symm)
        generalize Lib.indexByte A.data.toList (s[k]'hlt) = I at *
        have HIX := Lib.hid hix; clear hix hpp hpb
        go_wp2_with (go_at_call 54; go_must (refine (HIX.out _).mono ?_); rintro e w' ⟨rfl, rfl⟩)
        go_roundw
        case rel => exact ⟨k + 1, by omega, by go_num, HN.out, HW.out⟩
        case measure => simp [RowKit.intOf]; omega
    · have HF := Lib.hid (HR.out.symm.trans (HY.out.fin (by omega)))
      go_wp2_with fail
      go_ret3
      exact ⟨by rw [HF.out]; unfold Trip; simp only [bs_of]; rfl, HW.out⟩
end Go.Proofs.YtmghlaajocgoaaaGreatDoor
/-! The walks of number: Right. -/
namespace Go.Proofs.YtmghlaajocgoaaaGreatDoor
set_option linter.unusedSimpArgs false
set_option linter.unusedVariables false
open Go.RowKit
open Go.Lib hiding intOf
theorem digits_is (s : ByteArray) (w : World) (R : Bool) (h : allDig s.data.toList = R) :
    Calls Tryz.prog 82 #[.string s] w fun e w' => e = .returned (.bool R) ∧ Below w.heap.size w w' := by
  rw [← h]; exact digits_any s w
theorem rightB_no {n : Num} (h : n ≠ nought) (h2 : ¬ rightP n) : rightB n = false := decide_eq_false (by rintro (h3 | h3); exact h h3; exact h2 h3)
theorem last_at (s : ByteArray) (h : s.size - 1 < s.size) : s.data.toList.getLast? = some (s[s.size - 1]'h) := by
  rw [List.getLast?_eq_getElem?, Array.getElem?_toList]
  have hl : s.data.toList.length = s.size := rfl
  rw [hl, Array.getElem?_eq_getElem h]; rfl
theorem is48 (b : UInt8) : ((b.toNat : Int) == 48) = decide (b = 48) := by
  by_cases h : b = 48
  · subst h; rfl
  · rw [decide_eq_false h, beq_eq_false_iff_ne]
    intro e; apply h; apply UInt8.toNat_inj.1; rw [show (48 : UInt8).toNat = 48 from rfl]; omega
set_option maxHeartbeats 2000000 in
theorem right_any (neg : Bool) (d : ByteArray) (e : Int) (w : World) (hd : d.size ≤ 9223372036854775807) :
    Calls Tryz.prog 71 #[.agg #[.bool neg, .string d, .int .i64 e]] w fun en w' => en = .returned (.bool (rightB ⟨neg, d.data.toList, e⟩)) ∧ Below w.heap.size w w' := by
  have hl : d.data.toList.length = d.size := rfl
  by_cases hn : (⟨neg, d.data.toList, e⟩ : Num) = nought
  · rw [hn, show rightB nought = true from rfl]
    injection hn with h1 h2 h3
    subst h1 h3
    have h4 : d.toList = [] := by rw [Lib.toList_data]; exact h2
    clear h2 hl
    go_enter Tryz.func71, Tryz.ntmps71
    go_wp2_with fail
    go_ret
    exact ⟨rfl, (Below.refl _ _).alloc (Nat.le_refl _) _⟩
  · have hn' : neg = true ∨ ¬ d.toList = [] ∨ ¬ e = 0 := by
      by_cases h1 : neg = true
      · exact .inl h1
      by_cases h2 : d.toList = []
      · right; right; intro h3; apply hn
        rw [Lib.toList_data] at h2
        rw [h2, h3]; cases neg <;> first | rfl | exact absurd rfl h1
      · exact .inr (.inl h2)
    have hno := fun h2 => rightB_no (n := ⟨neg, d.data.toList, e⟩) hn h2
    have hyes : rightP ⟨neg, d.data.toList, e⟩ → rightB ⟨neg, d.data.toList, e⟩ = true := fun h => decide_eq_true (.inr h)
    generalize rightB ⟨neg, d.data.toList, e⟩ = R at *
    have fin : ∀ (D : Bool), allDig d.data.toList = D → (D = true → 0 < d.size) := by
      intro D h1 h2; rw [h2] at h1
      have := (allDig_ne h1).1
      rcases Nat.eq_zero_or_pos d.size with h | h
      · exact absurd (List.eq_nil_of_length_eq_zero (by omega)) this
      · exact h
    cases hD : allDig d.data.toList with
    | false =>
      obtain rfl := hno (fun h => by have := h.1; simp only [] at this; rw [hD] at this; cases this)
      have HC := Lib.hid (fun w => digits_is d w false hD)
      clear hno hyes fin hD hn
      rcases hn' with hn' | hn' | hn'
      all_goals
        go_enter Tryz.func71, Tryz.ntmps71
        go_wp2_with (go_at_call 82; go_must (refine (HC.out _).mono ?_); rintro en w1 ⟨rfl, hb1⟩)
        all_goals go_ret
        all_goals exact ⟨rfl, ((Below.refl _ _).alloc (Nat.le_refl _) _).trans (hb1.mono (by simp))⟩
    | true =>
      have h0 := fin true hD rfl
      have HC := Lib.hid (fun w => digits_is d w true hD)
      have hlast : d.size - 1 < d.size := by omega
      have e1 := head_at d h0
      have e2 := last_at d hlast
      have b1 := is48 (d[0]'h0)
      have b2 := is48 (d[d.size - 1]'hlast)
      have hne : ¬ d.toList = [] := by rw [Lib.toList_data]; intro h; rw [h] at hl; simp at hl; omega
      have RP : rightP ⟨neg, d.data.toList, e⟩ ↔ d.size ≤ 1000 ∧ ¬ (d[0]'h0) = 48 ∧ ¬ (d[d.size - 1]'hlast) = 48 ∧ -1000000 ≤ e ∧ e ≤ 1000000 := by
        unfold rightP
        simp only [hD, hl, e1, e2, true_and, ne_eq, Option.some.injEq]
      clear fin hD hn hn' e1 e2
      by_cases c1 : d.size ≤ 1000
      · by_cases c2 : (d[0]'h0) = 48
        · obtain rfl := hno (fun h => (RP.1 h).2.1 c2)
          rw [decide_eq_true c2] at b1
          clear hno hyes RP c2 b2
          go_enter Tryz.func71, Tryz.ntmps71
          go_wp2_with (go_at_call 82; go_must (refine (HC.out _).mono ?_); rintro en w1 ⟨rfl, hb1⟩)
          all_goals go_ret
          all_goals exact ⟨rfl, ((Below.refl _ _).alloc (Nat.le_refl _) _).trans (hb1.mono (by simp))⟩
        · rw [decide_eq_false c2] at b1
          by_cases c3 : (d[d.size - 1]'hlast) = 48
          · obtain rfl := hno (fun h => (RP.1 h).2.2.1 c3)
            rw [decide_eq_true c3] at b2
            clear hno hyes RP c2 c3
            go_enter Tryz.func71, Tryz.ntmps71
            go_wp2_with (go_at_call 82; go_must (refine (HC.out _).mono ?_); rintro en w1 ⟨rfl, hb1⟩)
            all_goals go_ret
            all_goals exact ⟨rfl, ((Below.refl _ _).alloc (Nat.le_refl _) _).trans (hb1.mono (by simp))⟩
          · rw [decide_eq_false c3] at b2
            have hR : R = decide (-1000000 ≤ e ∧ e ≤ 1000000) := by
              by_cases c4 : -1000000 ≤ e ∧ e ≤ 1000000
              · rw [decide_eq_true c4]; exact hyes (RP.2 ⟨c1, c2, c3, c4.1, c4.2⟩)
              · rw [decide_eq_false c4]; exact hno (fun h => c4 (RP.1 h).2.2.2)
            have HR := Lib.hid hR
            clear hno hyes RP c2 c3 hR
            have hlo : e < -1000000 ∨ (-1000000 ≤ e ∧ e ≤ 1000000) ∨ (-1000000 ≤ e ∧ 1000000 < e) := by omega
            rcases hlo with hlo | ⟨hlo, hhi⟩ | ⟨hlo, hhi⟩
            all_goals
              go_enter Tryz.func71, Tryz.ntmps71
              go_wp2_with (go_at_call 82; go_must (refine (HC.out _).mono ?_); rintro en w1 ⟨rfl, hb1⟩; obtain ⟨hc1, hf1⟩ := bcell hb1)
              go_ret
              refine ⟨ret_bool ?_, ((Below.refl _ _).alloc (Nat.le_refl _) _).trans (hb1.mono (by simp))⟩
              rw [HR.out]
              first
                | (rw [decide_eq_false (p := -1000000 ≤ e ∧ e ≤ 1000000) (by omega)]; simp; omega)
                | (rw [decide_eq_true (p := -1000000 ≤ e ∧ e ≤ 1000000) (by omega)]; simp; omega)
                | (rw [decide_eq_false (p := -1000000 ≤ e ∧ e ≤ 1000000) (by omega)]; simp)
                | (rw [decide_eq_true (p := -1000000 ≤ e ∧ e ≤ 1000000) (by omega)]; simp)
                | (rw [decide_eq_false (p := -1000000 ≤ e ∧ e ≤ 1000000) (by omega)])
                | (rw [decide_eq_true (p := -1000000 ≤ e ∧ e ≤ 1000000) (by omega)])
      · obtain rfl := hno (fun h => c1 (RP.1 h).1)
        clear hno hyes RP b1 b2
        go_enter Tryz.func71, Tryz.ntmps71
        go_wp2_with (go_at_call 82; go_must (refine (HC.out _).mono ?_); rintro en w1 ⟨rfl, hb1⟩)
        all_goals go_ret
        all_goals exact ⟨rfl, ((Below.refl _ _).alloc (Nat.le_refl _) _).trans (hb1.mono (by simp))⟩
end Go.Proofs.YtmghlaajocgoaaaGreatDoor
