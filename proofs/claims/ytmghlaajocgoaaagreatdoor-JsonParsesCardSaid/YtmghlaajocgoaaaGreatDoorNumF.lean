import Derived.Test.YtmghlaajocgoaaaGreatDoorProg
import Derived.Test.YtmghlaajocgoaaaGreatDoorRnA
import Derived.Test.YtmghlaajocgoaaaGreatDoorNumB
import Derived.BigQuiet
import Derived.Deep.QuietTactic
/-! The walks of number: digits, cut, Right. -/
namespace Go.Proofs.YtmghlaajocgoaaaGreatDoor
set_option linter.unusedSimpArgs false
set_option linter.unusedVariables false
open Go.RowKit
open Go.Lib

theorem rune_yes (s : ByteArray) (p : Nat) (h : p < s.size) (hd : isDig (s[p]'h) = true) : runeI s p = ((s[p]'h).toNat : Int) ∧ widN s p = 1 := by
  have h1 := of_decide_eq_true hd
  have := decode_ascii s p h (by omega)
  unfold runeI widN; rw [this]; exact ⟨rfl, rfl⟩
theorem rune_no (s : ByteArray) (p : Nat) (h : p < s.size) (hd : isDig (s[p]'h) = false) : runeI s p < 48 ∨ 57 < runeI s p := by
  have h1 : ¬ (48 ≤ (s[p]'h).toNat ∧ (s[p]'h).toNat ≤ 57) := of_decide_eq_false hd
  by_cases ha : (s[p]'h).toNat < 128
  · have := decode_ascii s p h ha
    unfold runeI; rw [this]; simp only []; omega
  · have := (decode_high s p h (by omega)).1
    unfold runeI; omega
def Digs (s : ByteArray) (p : Nat) : Prop := (s.data.toList.take p).all isDig = true
theorem Digs.zero (s : ByteArray) : Digs s 0 := rfl
theorem take_next (s : ByteArray) (p : Nat) (h : p < s.size) : s.data.toList.take (p + 1) = s.data.toList.take p ++ [s[p]'h] := by
  rw [List.take_succ_eq_append_getElem (by simpa using h)]; rfl
theorem Digs.next {s : ByteArray} {p : Nat} (h : Digs s p) (hp : p < s.size) (hd : isDig (s[p]'hp) = true) : Digs s (p + 1) := by
  unfold Digs at *
  rw [take_next s p hp, List.all_append, h, List.all_cons, hd]; rfl
theorem Digs.fin {s : ByteArray} {p : Nat} (h : Digs s p) (hp : s.size ≤ p) : allDig s.data.toList = !s.toList.isEmpty := by
  unfold Digs at h
  rw [List.take_of_length_le (by have : s.data.toList.length = s.size := rfl; omega)] at h
  unfold allDig; rw [h, Lib.toList_data, Bool.and_true]
theorem digs_no {s : ByteArray} {p : Nat} (hp : p < s.size) (hd : isDig (s[p]'hp) = false) : allDig s.data.toList = false := by
  unfold allDig
  rw [Bool.and_eq_false_iff]; right
  rw [List.all_eq_false]
  exact ⟨s[p]'hp, Array.getElem_mem_toList _, by rw [hd]; simp⟩

set_option maxHeartbeats 1000000 in
theorem digits_any (s : ByteArray) (w : World) :
    Calls Tryz.prog 82 #[.string s] w fun e w' => e = .returned (.bool (allDig s.data.toList)) ∧ Below w.heap.size w w' := by
  obtain ⟨R, hR⟩ : ∃ R, allDig s.data.toList = R := ⟨_, rfl⟩
  rw [hR]
  have HR := Lib.hid hR; clear hR
  go_enter Tryz.func82, Tryz.ntmps82
  go_wp2_with fail
  go_loopw [4] (fun _ wr => ∃ p : Nat, p ≤ s.size ∧ Hid (Digs s p) ∧ Hid (wr.heap[w.heap.size]? = some (.stringIter s p)) ∧ Hid (Below w.heap.size w wr)) (fun _ wr => s.size - wr.iterPos w.heap.size)
  case atStart => exact ⟨0, by omega, Digs.zero s, World.iter_heap w s 0, (Below.refl _ _).alloc (Nat.le_refl _) _⟩
  case round =>
    obtain ⟨p, hp, HD, HI, HW⟩ := hrel
    by_cases hlt : p < s.size
    · have hw := widN_bd s p hlt
      have hrb := runeI_bd s p
      have hnx : ∀ ty, (Instr.next (.pointer (some ⟨w.heap.size, 0, none⟩)) true ty).run Tryz.prog wr = .ok (.tuple #[.bool true, .int .i64 p, .int .i32 (runeI s p)]) (wr.iterAt w.heap.size s (p + widN s p)) := fun ty => Lib.run_next_any_at wr _ s p ty HI.out hlt
      have HI2 := Lib.hid (Lib.iterAt_heap wr w.heap.size s p (p + widN s p) HI.out)
      have HW2 := Lib.hid (Lib.below_iterAt HW.out (Nat.le_refl w.heap.size) s (p + widN s p))
      have HM := Lib.hid (iterPos_of HI.out)
      cases hd : isDig (s[p]'hlt) with
      | true =>
        obtain ⟨e1, e2⟩ := rune_yes s p hlt hd
        have HN := Lib.hid (HD.out.next hlt hd)
        have hb := of_decide_eq_true hd
        rw [e1, e2] at hnx
        rw [e2] at HI2 HW2
        clear e1 e2 hd
        go_wp2_with fail
        go_roundw
        case rel => exact ⟨p + 1, by omega, HN.out, HI2.out, HW2.out⟩
        case measure => rw [iterPos_of HI2.out, HM.out]; omega
      | false =>
        have hno := rune_no s p hlt hd
        have HF := Lib.hid (HR.out.symm.trans (digs_no hlt hd))
        clear hd
        rcases hno with hno | hno
        all_goals
          go_wp2_with fail
          go_ret
          exact ⟨ret_bool HF.out.symm, HW2.out⟩
    · have hnx : ∀ ty, (Instr.next (.pointer (some ⟨w.heap.size, 0, none⟩)) true ty).run Tryz.prog wr = .ok (.tuple #[.bool false]) wr := fun ty => Lib.run_next_end_at wr _ s p ty HI.out hlt
      have HF := Lib.hid (HR.out.symm.trans (HD.out.fin (by omega)))
      go_wp2_with fail
      go_ret
      exact ⟨ret_bool HF.out.symm, HW.out⟩
end Go.Proofs.YtmghlaajocgoaaaGreatDoor
