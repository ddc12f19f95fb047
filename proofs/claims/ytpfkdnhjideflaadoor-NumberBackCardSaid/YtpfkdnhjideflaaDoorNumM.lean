import Derived.Test.YtpfkdnhjideflaaDoorNumJ
import Derived.Test.YtpfkdnhjideflaaDoorNumL
/-! The walks of number: sign, Of, Text. -/
namespace Go.Proofs.YtpfkdnhjideflaaDoor
set_option linter.unusedSimpArgs false
set_option linter.unusedVariables false
open Go.RowKit
open Go.Lib hiding intOf

theorem sign_any (neg : Bool) (d : ByteArray) (e : Int) (w : World) :
    Calls Tryd.prog 42 #[.agg #[.bool neg, .string d, .int .i64 e]] w fun en w' => en = .returned (.int .i64 (sgn ⟨neg, d.data.toList, e⟩)) ∧ Below w.heap.size w w' := by
  obtain ⟨R, hR⟩ : ∃ R, sgn ⟨neg, d.data.toList, e⟩ = R := ⟨_, rfl⟩
  rw [hR]
  have HR := Lib.hid hR; clear hR
  go_enter Tryd.func42, Tryd.ntmps42
  go_wp2_with fail
  all_goals go_ret
  all_goals refine ⟨ret_int ?_, (Below.refl _ _).alloc (Nat.le_refl _) _⟩
  all_goals rw [← HR.out]
  all_goals clear HR
  all_goals try simp only [Lib.toList_data] at *
  all_goals simp_all [sgn]
theorem or2_any (k : Nat) (t : TypeId) (x y : Int) (w : World) (hk : w.heap[k]? = some (.cells #[.int .i64 x, .int .i64 y] t (0, 0))) :
    Calls Tryd.prog 73 #[.slice (some ⟨k, 0, none⟩) 2 2] w fun en w' => en = .returned (.int .i64 (if x = 0 then y else x)) ∧ Below w.heap.size w w' := by
  have c0 := box_cell hk 0
  have c1 := box_cell hk 1
  have HK := Lib.hid hk
  go_enter Tryd.func73, Tryd.ntmps73
  go_wp2_with fail
  go_loopw [5, 8] (fun _ i wr => wr = w ∧ (i = .int .i64 0 ∨ (i = .int .i64 1 ∧ x = 0) ∨ (i = .int .i64 2 ∧ x = 0 ∧ y = 0))) (fun _ i _ => 2 - (RowKit.intOf i).toNat)
  case atStart => exact ⟨rfl, .inl rfl⟩
  case round =>
    obtain ⟨rfl, rfl | ⟨rfl, h1⟩ | ⟨rfl, h1, h2⟩⟩ := hrel
    · by_cases h1 : x = 0
      · go_wp2_with fail
        go_roundw
        case rel => first | exact ⟨rfl, .inr (.inl ⟨rfl, h1⟩)⟩ | (clear c0 c1 HK; simp [h1])
        case measure => simp [RowKit.intOf]
      · go_wp2_with fail
        go_ret
        exact ⟨ret_int (by first | rfl | simp [h1]), Below.refl _ _⟩
    · by_cases h2 : y = 0
      · go_wp2_with fail
        go_roundw
        case rel => first | exact ⟨rfl, .inr (.inr ⟨rfl, h1, h2⟩)⟩ | (clear c0 c1 HK; simp [h1, h2])
        case measure => simp [RowKit.intOf]
      · go_wp2_with fail
        go_ret
        exact ⟨ret_int (by first | rfl | simp [h1]), Below.refl _ _⟩
    · go_wp2_with fail
      go_ret
      exact ⟨ret_int (by first | rfl | simp [h1, h2]), Below.refl _ _⟩
theorem far_any (na nb : Bool) (da db : ByteArray) (ea eb : Int) (w : World) (h1 : da.size ≤ 1000) (h2 : db.size ≤ 1000) (h3 : -1000000 ≤ ea ∧ ea ≤ 1000000) (h4 : -1000000 ≤ eb ∧ eb ≤ 1000000) :
    Calls Tryd.prog 43 #[.agg #[.bool na, .string da, .int .i64 ea], .agg #[.bool nb, .string db, .int .i64 eb]] w fun en w' => en = .returned (.int .i64 (farL ⟨na, da.data.toList, ea⟩ ⟨nb, db.data.toList, eb⟩)) ∧ Below w.heap.size w w' := by
  obtain ⟨R, hR⟩ : ∃ R, farL ⟨na, da.data.toList, ea⟩ ⟨nb, db.data.toList, eb⟩ = R := ⟨_, rfl⟩
  rw [hR]
  have HR := Lib.hid hR; clear hR
  go_enter Tryd.func43, Tryd.ntmps43
  go_wp2_with fail
  refine (Tryd.cmp_Compare_int _ _ _).mono ?_
  rintro e w' ⟨rfl, rfl⟩
  go_wp2_with fail
  refine (Tryd.strings_Compare _ _ _).mono ?_
  rintro e w' ⟨rfl, rfl⟩
  go_wp2_with fail
  refine (or2_any (w.heap.size + 1 + 1) _ _ _ _ (by
    have := heap_alloc_new ((w.alloc (.cells #[.bool na, .string da, .int .i64 ea] 24)).alloc (.cells #[.bool nb, .string db, .int .i64 eb] 24)) (.cells #[.int .i64 (Lib.compareInt (↑da.size + ea) (↑db.size + eb)), .int .i64 (Lib.compareBytes da.data.toList db.data.toList)] 3)
    simp only [World.size_alloc] at this
    exact this)).mono ?_
  rintro e w4 ⟨rfl, hb4⟩
  go_wp2_with fail
  all_goals go_ret
  all_goals refine ⟨ret_int ?_, ((((Below.refl _ _).alloc (Nat.le_refl _) _).alloc (by simp) _).alloc (by simp; omega) _).trans (hb4.mono (by simp; omega))⟩
  all_goals
    rw [← HR.out]
    have hl1 : da.data.toList.length = da.size := rfl
    have hl2 : db.data.toList.length = db.size := rfl
    clear HR hb4
    unfold farL topOf
    simp only [hl1, hl2]
    unfold Lib.compareInt at *
    by_cases g1 : (da.size : Int) + ea < (db.size : Int) + eb
    · simp [g1] at h ⊢
    · by_cases g2 : (db.size : Int) + eb < (da.size : Int) + ea
      · simp [g1, g2] at h ⊢
      · simp [g1, g2] at h ⊢
end Go.Proofs.YtpfkdnhjideflaaDoor
