import Derived.Test.YtnnlpkbopeiefaaGreatDoorRnB
/-! The walks of Valid: runes' and the reference's. -/
namespace Go.Proofs.YtnnlpkbopeiefaaGreatDoor
set_option linter.unusedSimpArgs false
set_option linter.unusedVariables false
open Go.RowKit
open Go.Lib hiding intOf
set_option maxHeartbeats 1000000 in
theorem refValid_any (s : ByteArray) (w : World) (hs : s.size ≤ 4611686018427387904) :
    Calls Tryz.prog 69 #[.string s] w fun e w' => e = .returned (.tuple #[.int .i64 (validRes s).1, .bool (validRes s).2]) ∧ w = w' := by
  obtain ⟨R, hR⟩ : ∃ R, validRes s = R := ⟨_, rfl⟩
  rw [hR]
  have HR := Lib.hid hR; clear hR
  go_enter Tryz.func69, Tryz.ntmps69
  go_wp2_with fail
  go_loop [4] (fun a => ∃ pos : Nat, pos ≤ s.size ∧ a = .int .i64 pos ∧ Hid (Bads s pos)) (fun a => s.size - (intOf a).toNat)
  case atStart => exact ⟨0, by omega, rfl, Bads.zero s⟩
  case round =>
    obtain ⟨pos, hp, rfl, HB⟩ := hrel
    by_cases hlt : pos < s.size
    · have hw := widN_bd s pos hlt
      cases hg : goodB s pos with
      | true =>
        have HG := Lib.hid hg
        have hgc := good_at s pos w hlt hs
        rw [hg] at hgc; clear hg
        have HGC := Lib.hid hgc; clear hgc
        go_wp2_with (first | (go_at_call 117; refine HGC.out.mono ?_; rintro e w' ⟨rfl, rfl⟩) | (go_at_call 118; refine (refNext_at s pos _ hlt hs).mono ?_; rintro e w' ⟨rfl, rfl⟩))
        go_round
        case rel => exact ⟨pos + widN s pos, by omega, by go_num, HB.out.next hlt HG.out⟩
        case measure => simp [intOf]; omega
      | false =>
        have HG := Lib.hid hg
        have hgc := good_at s pos w hlt hs
        rw [hg] at hgc; clear hg
        have HGC := Lib.hid hgc; clear hgc
        go_wp2_with (go_at_call 117; refine HGC.out.mono ?_; rintro e w' ⟨rfl, rfl⟩)
        go_ret2
        exact ⟨ret_vb (HR.out.symm.trans (HB.out.bad hlt HG.out)), rfl⟩
    · go_wp2_with fail
      go_ret2
      exact ⟨ret_vb (HR.out.symm.trans (HB.out.fin (by omega))), rfl⟩
set_option maxHeartbeats 1000000 in
theorem valid_any (s : ByteArray) (w : World) (hs : s.size ≤ 4611686018427387904) (hT : Tabs w) :
    Calls Tryz.prog 45 #[.string s] w fun e w' => e = .returned (.tuple #[.int .i64 (validRes s).1, .bool (validRes s).2]) ∧ Below w.heap.size w w' := by
  obtain ⟨R, hR⟩ : ∃ R, validRes s = R := ⟨_, rfl⟩
  rw [hR]
  have HR := Lib.hid hR; clear hR
  cases hv : Lib.validD s.data.toList with
  | true =>
    have h0 := validRes_yes hv
    have hc := Tryz.utf8_ValidString s w (by omega) hT
    rw [hv] at hc; clear hv
    have HC := Lib.hid hc; clear hc
    have H0 := Lib.hid h0; clear h0
    go_enter Tryz.func45, Tryz.ntmps45
    go_wp2_with (go_at_call 91; refine HC.out.mono ?_; rintro e w' ⟨rfl, hb⟩)
    go_ret2
    exact ⟨ret_vb (HR.out.symm.trans H0.out), hb⟩
  | false =>
    have hc := Tryz.utf8_ValidString s w (by omega) hT
    rw [hv] at hc; clear hv
    have HC := Lib.hid hc; clear hc
    go_enter Tryz.func45, Tryz.ntmps45
    go_wp2_with (go_at_call 91; refine HC.out.mono ?_; rintro e w1 ⟨rfl, hb1⟩)
    have hT1 := hT.keep hb1
    have hz := hb1.size
    have hw1 : Hid (Below w.heap.size w w1) := hb1
    obtain ⟨hc1, hf1⟩ := bcell hb1
    clear hb1 hc1 hf1
    go_loopw [4] (fun _ wr => ∃ pos : Nat, pos ≤ s.size ∧ Hid (Bads s pos) ∧ Hid (wr.heap[w1.heap.size]? = some (.stringIter s pos)) ∧ Hid (Below w1.heap.size w1 wr)) (fun _ wr => s.size - wr.iterPos w1.heap.size)
    case atStart => exact ⟨0, by omega, Bads.zero s, World.iter_heap w1 s 0, (Below.refl _ _).alloc (Nat.le_refl _) _⟩
    case round =>
      obtain ⟨pos, hp, HB, HI, HW⟩ := hrel
      by_cases hlt : pos < s.size
      · have hw := widN_bd s pos hlt
        have hrb := runeI_bd s pos
        have hnx : ∀ ty, (Instr.next (.pointer (some ⟨w1.heap.size, 0, none⟩)) true ty).run Tryz.prog wr = .ok (.tuple #[.bool true, .int .i64 pos, .int .i32 (runeI s pos)]) (wr.iterAt w1.heap.size s (pos + widN s pos)) := fun ty => Lib.run_next_any_at wr _ s pos ty HI.out hlt
        have HI2 := Lib.hid (Lib.iterAt_heap wr w1.heap.size s pos (pos + widN s pos) HI.out)
        have HW2 := Lib.hid (Lib.below_iterAt HW.out (Nat.le_refl w1.heap.size) s (pos + widN s pos))
        have hT2 : Tabs (wr.iterAt w1.heap.size s (pos + widN s pos)) := hT1.keep HW2.out
        have HM := Lib.hid (iterPos_of HI.out)
        have HM2 := Lib.hid (iterPos_of HI2.out)
        by_cases hr : runeI s pos = 65533
        · by_cases h1 : widN s pos = 1
          · have HG := Lib.hid (goodB_no hr h1)
            have hrB : (runeI s pos != 65533) = false := by rw [hr]; rfl
            have h1B : (((widN s pos : Nat) : Int) == 1) = true := by rw [h1]; rfl
            clear hr h1
            go_wp2_with (go_at_call 92; refine (dec_at s pos _ hlt hT2).mono ?_; rintro e w' ⟨rfl, hb⟩)
            go_ret2
            exact ⟨ret_vb (HR.out.symm.trans (HB.out.bad hlt HG.out)), hw1.out.trans ((HW2.out.trans (hb.mono HW2.out.size)).mono hw1.out.size)⟩
          · have HG := Lib.hid (goodB_wide h1)
            have hrB : (runeI s pos != 65533) = false := by rw [hr]; rfl
            have h1B : (((widN s pos : Nat) : Int) == 1) = false := beq_eq_false_iff_ne.2 (by omega)
            clear hr h1
            go_wp2_with (go_at_call 92; refine (dec_at s pos _ hlt hT2).mono ?_; rintro e w' ⟨rfl, hb⟩)
            have HI3 := (hb.block w1.heap.size (cell_it HI2.out)).trans HI2.out
            go_roundw
            case rel => exact ⟨pos + widN s pos, by omega, HB.out.next hlt HG.out, HI3, HW2.out.trans (hb.mono HW2.out.size)⟩
            case measure => rw [iterPos_of HI3, HM.out]; omega
        · have HG := Lib.hid (goodB_rune hr)
          have hrB : (runeI s pos != 65533) = true := bne_iff_ne.2 hr
          clear hr
          go_wp2
          go_roundw
          case rel => exact ⟨pos + widN s pos, by omega, HB.out.next hlt HG.out, HI2.out, HW2.out⟩
          case measure => rw [HM2.out, HM.out]; omega
      · have hnx : ∀ ty, (Instr.next (.pointer (some ⟨w1.heap.size, 0, none⟩)) true ty).run Tryz.prog wr = .ok (.tuple #[.bool false]) wr := fun ty => Lib.run_next_end_at wr _ s pos ty HI.out hlt
        go_wp2
        go_ret2
        exact ⟨ret_vb (HR.out.symm.trans (HB.out.fin (by omega))), hw1.out.trans (HW.out.mono hw1.out.size)⟩
end Go.Proofs.YtnnlpkbopeiefaaGreatDoor
