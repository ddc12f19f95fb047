import Derived.Test.YtmghlaajocgoaaaGreatDoorNumF
import Derived.Test.YtmghlaajocgoaaaGreatDoorSm
import Derived.Lib.IndexBytes
/-! The walks of number: cut, Right. -/
namespace Go.Proofs.YtmghlaajocgoaaaGreatDoor
set_option linter.unusedSimpArgs false
set_option linter.unusedVariables false
open Go.RowKit
open Go.Lib hiding intOf

theorem cutAt_miss {p : UInt8 → Bool} {l : List UInt8} (h : l.all (fun c => !p c) = true) : cutAt p l = (l, [], false) :=
  cutAt_none p l fun c hc => by have := List.all_eq_true.1 h c hc; simpa using this
theorem cutAt_hit {p : UInt8 → Bool} {l : List UInt8} {k : Nat} {b : UInt8} (h : (l.take k).all (fun c => !p c) = true) (hb : l[k]? = some b) (hp : p b = true) : cutAt p l = (l.take k, l.drop (k + 1), true) := by
  obtain ⟨hk, e⟩ := List.getElem?_eq_some_iff.1 hb
  have hl : l = l.take k ++ b :: l.drop (k + 1) := by
    rw [← e, ← List.drop_eq_getElem_cons hk, List.take_append_drop]
  have := cutAt_some p (l.take k) b (l.drop (k + 1)) (fun c hc => by have := List.all_eq_true.1 h c hc; simpa using this) hp
  rw [← hl] at this
  exact this
def NoneYet (p : UInt8 → Bool) (s : ByteArray) (k : Nat) : Prop := (s.data.toList.take k).all (fun c => !p c) = true
theorem NoneYet.next {p : UInt8 → Bool} {s : ByteArray} {k : Nat} (h : NoneYet p s k) (hk : k < s.size) (hp : p (s[k]'hk) = false) : NoneYet p s (k + 1) := by
  unfold NoneYet at *
  rw [take_next s k hk, List.all_append, h, List.all_cons, hp]; rfl
theorem NoneYet.fin {p : UInt8 → Bool} {s : ByteArray} {k : Nat} (h : NoneYet p s k) (hk : s.size ≤ k) : cutAt p s.data.toList = (s.data.toList, [], false) := by
  unfold NoneYet at h
  rw [List.take_of_length_le (by have : s.data.toList.length = s.size := rfl; omega)] at h
  exact cutAt_miss h
theorem NoneYet.hit {p : UInt8 → Bool} {s : ByteArray} {k : Nat} (h : NoneYet p s k) (hk : k < s.size) (hp : p (s[k]'hk) = true) : cutAt p s.data.toList = (s.data.toList.take k, s.data.toList.drop (k + 1), true) :=
  cutAt_hit h (by rw [Array.getElem?_toList, Array.getElem?_eq_getElem hk]; rfl) hp
def Trip (R : List UInt8 × List UInt8 × Bool) : Ending := .returned (.tuple #[.string (bs R.1), .string (bs R.2.1), .bool R.2.2])

set_option maxHeartbeats 1000000 in
theorem cut_any (s A : ByteArray) (p : UInt8 → Bool) (w : World) (hp : ∀ b, p b = decide (0 ≤ Lib.indexByte A.data.toList b)) (hs : s.size ≤ 4294967296) :
    Calls Tryz.prog 80 #[.string s, .string A] w fun e w' => e = Trip (cutAt p s.data.toList) ∧ Below w.heap.size w w' := by
  obtain ⟨R, hR⟩ : ∃ R, cutAt p s.data.toList = R := ⟨_, rfl⟩
  rw [hR]
  have HR := Lib.hid hR; clear hR
  have HP := Lib.hid hp; clear hp
  go_enter Tryz.func80, Tryz.ntmps80
  go_wp2_with fail
  go_loopw [10] (fun i wr => ∃ k : Nat, k ≤ s.size ∧ i = .int .i64 k ∧ Hid (NoneYet p s k) ∧ Hid (Below w.heap.size w wr)) (fun i _ => s.size - (RowKit.intOf i).toNat)
  case atStart => exact ⟨0, by omega, rfl, rfl, Below.refl _ _⟩
  case round =>
    obtain ⟨k, hk, rfl, HY, HW⟩ := hrel
    by_cases hlt : k < s.size
    · have hlz : (k : Int) < (s.size : Int) := by omega
      have hix := index_in A (s[k]'hlt)
      have hpb := HP.out (s[k]'hlt)
      cases hpp : p (s[k]'hlt) with
      | true =>
        have HF := Lib.hid (HR.out.symm.trans (HY.out.hit hlt hpp))
        rw [hpp] at hpb
        have hge : 0 ≤ Lib.indexByte A.data.toList (s[k]'hlt) := of_decide_eq_true hpb.symm
        generalize Lib.indexByte A.data.toList (s[k]'hlt) = I at *
        have HIX := Lib.hid hix; clear hix hpp hpb
        go_wp2_with (go_at_call 54; go_must (refine (HIX.out _).mono ?_); rintro e w' ⟨rfl, rfl⟩)
        go_quiet (fail)
        go_wp2_with fail
        go_ret3
        exact ⟨by rw [HF.out, bs_front, bs_back]; rfl, below_drewN HW.out _⟩
      | false =>
        have HN := Lib.hid (HY.out.next hlt hpp)
        rw [hpp] at hpb
        have hge : Lib.indexByte A.data.toList (s[k]'hlt) < 0 := Int.not_le.1 (of_decide_eq_false hpb.symm)
        generalize Lib.indexByte A.data.toList (s[k]'hlt) = I at *
        have HIX := Lib.hid hix; clear hix hpp hpb
        go_wp2_with (go_at_call 54; go_must (refine (HIX.out _).mono ?_); rintro e w' ⟨rfl, rfl⟩)
        go_roundw
        case rel => exact ⟨k + 1, by omega, by go_num, HN.out, HW.out⟩
        case measure => simp [RowKit.intOf]; omega
    · have HF := Lib.hid (HR.out.symm.trans (HY.out.fin (by omega)))
      go_wp2_with fail
      go_ret3
      exact ⟨by rw [HF.out]; unfold Trip; simp only [bs_of]; rfl, HW.out⟩
end Go.Proofs.YtmghlaajocgoaaaGreatDoor
