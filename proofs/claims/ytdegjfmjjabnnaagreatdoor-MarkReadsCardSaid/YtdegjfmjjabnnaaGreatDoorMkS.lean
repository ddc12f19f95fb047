import Derived.Test.YtdegjfmjjabnnaaGreatDoorMkR
/-! The walks of Encode's own function, slices.IndexFunc and ContainsFunc at it. -/
namespace Go.Proofs.YtdegjfmjjabnnaaGreatDoor
set_option linter.unusedSimpArgs false
set_option linter.unusedVariables false
open Go.RowKit
open Go.Lib hiding intOf

theorem enc1_any (x : Part) (w : World) : Calls Tryz.prog 23 #[partV x] w fun e w' => e = .returned (.bool x.hunk) ∧ Below w.heap.size w w' := by
  unfold partV
  go_enter Tryz.func23, Tryz.ntmps23
  go_wp2_with fail
  go_ret
  exact ⟨rfl, below_alloc1 _ _⟩
def ixE (l : List Part) (w : World) (e : Ending) (w' : World) : Prop := ∃ r : Int, e = .returned (.int .i64 r) ∧ decide (0 ≤ r) = anyHunk l ∧ Below w.heap.size w w'
set_option maxRecDepth 100000 in
set_option maxHeartbeats 8000000 in
theorem indexFunc_any (v : Value) (l : List Part) (w : World) (hv : PV w v l) (hl : l.length ≤ 1073741825) :
    Calls Tryz.prog 40 #[v, .func (.func 23) #[] #[]] w (ixE l w) := by
  obtain ⟨p, c, rfl, hp⟩ := hv
  have HP : Hid (PLies w p l) := Lib.hid hp
  clear hp
  have HN : Hid (anyHunk l = anyHunk (l.drop 0)) := Lib.hid (by rw [List.drop_zero])
  have CE := Lib.hid (fun x w => enc1_any x w)
  unfold partV at CE
  go_enter Tryz.func40, Tryz.ntmps40
  go_wp2_with fail
  go_loopw [8] (fun s8 wr => ∃ (j : Nat), s8 = .int .i64 j ∧ j ≤ l.length ∧ Hid (anyHunk l = anyHunk (l.drop j)) ∧ Hid (Below w.heap.size w wr)) (fun s8 _ => l.length - (RowKit.intOf s8).toNat)
  case atStart => exact ⟨0, rfl, by omega, HN, Below.refl _ _⟩
  case round =>
    obtain ⟨j, rfl, hj, HC, HB⟩ := hrel
    by_cases hlt : j < l.length
    · obtain ⟨x, hx⟩ : ∃ x, l[j]? = some x := ⟨_, List.getElem?_eq_getElem hlt⟩
      obtain ⟨g, o, rfl, hg, _, c0, c1, c2, c3, c4⟩ := (HP.out.keep HB.out).at_ hx
      have hlz : (j : Int) < (l.length : Int) := by omega
      have hc := HC.out
      rw [drop_at hx] at hc
      unfold anyHunk at hc
      rw [List.any_cons] at hc
      have C1 := Lib.hid (fun w => CE.out x w)
      obtain ⟨b, hb⟩ : ∃ b, x.hunk = b := ⟨_, rfl⟩
      rw [hb] at c0 hc C1
      clear hx hb
      cases b with
      | true =>
        have HF : Hid (anyHunk l = true) := Lib.hid (by unfold anyHunk; rw [hc]; rfl)
        clear hc HC
        go_wp2_with fail
        with_reducible refine (C1.out _).mono ?_
        rintro e w1 ⟨rfl, hb⟩
        go_wp2_with fail
        go_ret
        exact ⟨_, rfl, by rw [HF.out]; exact decide_eq_true (by omega), below_of_new HB.out hb⟩
      | false =>
        have HC2 : Hid (anyHunk l = anyHunk (l.drop (j + 1))) := Lib.hid (by unfold anyHunk; rw [hc]; rfl)
        clear hc HC
        go_wp2_with fail
        with_reducible refine (C1.out _).mono ?_
        rintro e w1 ⟨rfl, hb⟩
        have HB2 := Lib.hid (below_of_new HB.out hb)
        clear hb
        go_wp2_with fail
        go_roundw
        case rel => exact ⟨j + 1, by go_num, by omega, HC2, HB2⟩
        case measure => simp [RowKit.intOf]; omega
    · have HF : Hid (anyHunk l = false) := Lib.hid (by rw [HC.out, List.drop_of_length_le (by omega)]; rfl)
      go_wp2_with fail
      go_ret
      exact ⟨_, rfl, by rw [HF.out]; decide, HB.out⟩
theorem containsFunc_any (v : Value) (l : List Part) (w : World) (hv : PV w v l) (hl : l.length ≤ 1073741825) :
    Calls Tryz.prog 22 #[v, .func (.func 23) #[] #[]] w fun e w' => e = .returned (.bool (anyHunk l)) ∧ Below w.heap.size w w' := by
  have CI := Lib.hid (indexFunc_any v l w hv hl)
  clear hv
  go_enter Tryz.func22, Tryz.ntmps22
  go_wp2_with (go_at_call 40; (with_reducible refine CI.out.mono ?_); rintro e w1 ⟨r, rfl, hr, hb⟩; have HR := Lib.hid hr; have HB := Lib.hid hb; clear hr hb)
  go_ret
  exact ⟨ret_bool HR.out, HB.out⟩
end Go.Proofs.YtdegjfmjjabnnaaGreatDoor
