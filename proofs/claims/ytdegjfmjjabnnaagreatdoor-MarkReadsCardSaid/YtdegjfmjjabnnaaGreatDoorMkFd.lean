import Derived.Test.YtdegjfmjjabnnaaGreatDoorMkEn
/-! Where a text stands in another one; scarfref25.find. -/
namespace Go.Proofs.YtdegjfmjjabnnaaGreatDoor
set_option linter.unusedSimpArgs false
set_option linter.unusedVariables false
open Go.RowKit
open Go.Lib hiding intOf

/-- Where t stands in s first, from f on; -1: nowhere. -/
def findI (s t : List UInt8) (f : Nat) : Int := if (cut (s.drop f) t).2.2 then ((f + (cut (s.drop f) t).1.length : Nat) : Int) else -1
theorem findI_hit {s t : List UInt8} {f i : Nat} (hf : f ≤ i) (hi : i ≤ s.length) (h : t.isPrefixOf (s.drop i) = true) (hn : ∀ j, f ≤ j → j < i → t.isPrefixOf (s.drop j) = false) : findI s t f = (i : Int) := by
  have hx : index (s.drop f) t = ((i - f : Nat) : Int) := index_first (by rw [List.length_drop]; omega) (by unfold occAt; rw [List.drop_drop, show f + (i - f) = i by omega]; exact h) (fun j hj => by unfold occAt; rw [List.drop_drop]; exact hn _ (by omega) (by omega))
  unfold findI cut
  rw [if_pos (show 0 ≤ index (s.drop f) t by rw [hx]; omega), hx, Int.toNat_natCast]
  simp only [if_true, List.length_take, List.length_drop]
  omega
theorem findI_miss {s t : List UInt8} {f : Nat} (hn : ∀ j, f ≤ j → j ≤ s.length → t.isPrefixOf (s.drop j) = false) (hf : f ≤ s.length) : findI s t f = -1 := by
  have hx : index (s.drop f) t = -1 := index_none (fun j hj => by
    rw [List.length_drop] at hj
    unfold occAt
    rw [List.drop_drop]
    exact hn _ (by omega) (by omega))
  have hc : cut (s.drop f) t = (s.drop f, [], false) := by
    unfold cut
    rw [if_neg (by rw [hx]; omega)]
  unfold findI
  rw [hc]
  rfl
theorem prefix_short {t s : List UInt8} {i : Nat} (h : s.length < i + t.length) (ht : 0 < t.length) : t.isPrefixOf (s.drop i) = false := by
  rw [Bool.eq_false_iff]
  intro hp
  have := (List.isPrefixOf_iff_prefix.1 hp).length_le
  rw [List.length_drop] at this
  omega
theorem cmp_prefix (s t : List UInt8) (i : Nat) : (((bs s).extract i (i + t.length)).toList == (bs t).toList) = t.isPrefixOf (s.drop i) := by
  rw [bs_extract, Lib.toList_data, Lib.toList_data, bs_data, bs_data, bs_data, show i + t.length - i = t.length by omega]
  by_cases h : t <+: s.drop i
  · rw [List.isPrefixOf_iff_prefix.2 h, ← List.prefix_iff_eq_take.1 h]
    simp
  · have : t.isPrefixOf (s.drop i) = false := by rw [Bool.eq_false_iff]; exact fun hp => h (List.isPrefixOf_iff_prefix.1 hp)
    rw [this, beq_eq_false_iff_ne]
    exact fun e => h (List.prefix_iff_eq_take.2 e.symm)
set_option maxRecDepth 100000 in
set_option maxHeartbeats 4000000 in
theorem find_any (s t : List UInt8) (f : Nat) (w : World) (hs : s.length ≤ 1073741824) (ht0 : 0 < t.length) (ht : t.length ≤ 1073741824) (hf : f ≤ s.length) :
    Calls Tryz.prog 15 #[.string (bs s), .string (bs t), .int .i64 f] w fun e w' => e = .returned (.int .i64 (findI s t f)) ∧ Below w.heap.size w w' := by
  have sl := bs_size s
  have st := bs_size t
  obtain ⟨R, hR⟩ : ∃ R, findI s t f = R := ⟨_, rfl⟩
  rw [hR]
  have HR := Lib.hid hR
  have HN : Hid (∀ j, f ≤ j → j < f → t.isPrefixOf (s.drop j) = false) := Lib.hid (fun j h1 h2 => by omega)
  clear hR
  go_enter Tryz.func15, Tryz.ntmps15
  go_wp2_with fail
  go_loopw [7] (fun s7 wr => ∃ i : Nat, s7 = .int .i64 i ∧ f ≤ i ∧ i ≤ s.length + 1 ∧ Hid (∀ j, f ≤ j → j < i → t.isPrefixOf (s.drop j) = false) ∧ Hid (Below w.heap.size w wr)) (fun s7 _ => s.length + 1 - (RowKit.intOf s7).toNat)
  case atStart => exact ⟨f, rfl, Nat.le_refl _, by omega, HN, Lib.hid (Below.refl _ _)⟩
  case round =>
    obtain ⟨i, rfl, hfi, hi, HC, HB⟩ := hrel
    by_cases hend : i + t.length ≤ s.length
    · have hz1 : (i : Int) + (t.length : Int) ≤ (s.length : Int) := by omega
      have dz1 : decide ((i : Int) + (t.length : Int) ≤ (s.length : Int)) = true := decide_eq_true hz1
      have hcp := cmp_prefix s t i
      obtain ⟨k, hk⟩ : ∃ k, i + t.length = k := ⟨_, rfl⟩
      have hkI : (i : Int) + (t.length : Int) = (k : Int) := by omega
      have hwr : IntKind.i64.wrap ((i : Int) + (t.length : Int)) = (k : Int) := by rw [IntKind.wrap_i64]; omega
      have hwr2 : IntKind.i64.wrap (k : Int) = (k : Int) := by rw [IntKind.wrap_i64]; omega
      have hks : (k : Int) ≤ (s.length : Int) := by omega
      have dks : decide ((k : Int) ≤ (s.length : Int)) = true := decide_eq_true hks
      have hik : (i : Int) ≤ (k : Int) := by omega
      rw [hk] at hcp
      obtain ⟨b, hb⟩ : ∃ b, t.isPrefixOf (s.drop i) = b := ⟨_, rfl⟩
      rw [hb] at hcp
      cases b with
      | true =>
        have HF : Hid (R = (i : Int)) := Lib.hid (by rw [← HR.out]; exact findI_hit hfi (by omega) hb HC.out)
        clear hb hk
        go_wp2_with fail
        go_ret
        exact ⟨ret_int HF.out.symm, HB.out⟩
      | false =>
        have HC2 : Hid (∀ j, f ≤ j → j < i + 1 → t.isPrefixOf (s.drop j) = false) := Lib.hid (fun j h1 h2 => by
          by_cases h : j < i
          · exact HC.out j h1 h
          · obtain rfl : j = i := by omega
            exact hb)
        clear hb hk
        go_wp2_with fail
        go_roundw
        case rel => exact ⟨i + 1, by go_num, by omega, by omega, HC2, HB⟩
        case measure => simp [RowKit.intOf]; omega
    · have hz1 : ¬ (i : Int) + (t.length : Int) ≤ (s.length : Int) := by omega
      have dz1 : decide ((i : Int) + (t.length : Int) ≤ (s.length : Int)) = false := decide_eq_false hz1
      have HF : Hid (R = -1) := Lib.hid (by
        rw [← HR.out]
        refine findI_miss (fun j h1 h2 => ?_) hf
        by_cases h : j < i
        · exact HC.out j h1 h
        · exact prefix_short (by omega) ht0)
      go_wp2_with fail
      go_ret
      exact ⟨ret_int HF.out.symm, HB.out⟩
end Go.Proofs.YtdegjfmjjabnnaaGreatDoor
