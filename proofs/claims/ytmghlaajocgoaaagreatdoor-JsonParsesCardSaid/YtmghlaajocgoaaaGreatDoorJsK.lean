import Derived.Test.YtmghlaajocgoaaaGreatDoorJsJ
/-! The walk of the parser's value: whole. -/
namespace Go.Proofs.YtmghlaajocgoaaaGreatDoor
set_option linter.unusedSimpArgs false
set_option linter.unusedVariables false
open Go.RowKit Go.Maps Go.WideMaps
open Go.Lib hiding intOf

theorem value_any (w0 : World) (P : Nat) (txt : List UInt8) (hs : txt.length ≤ 65536) (hSV : SVar w0) (hT : Tabs w0) : ∀ lv, lv ≤ 32 → VC w0 P txt lv
  | 0, _ => fun w rest l nodes key lev h hb ht hN hl => by
    unfold valueM
    by_cases hk : kindOfT (kindT rest) = 0
    · rw [if_pos hk]
      exact value_form w0 P txt hs w rest l nodes key lev h hb ht.1 hk
    · rw [if_neg hk]
      exact value_deep w0 P txt hs w rest l nodes key lev h hb ht.1 hk (by omega)
  | lv + 1, hlv => fun w rest l nodes key lev h hb ht hN hl => by
    by_cases hk : kindOfT (kindT rest) = 0
    · have e : valueM txt (lv + 1) rest l nodes key = .bad (hereT txt.length rest) 2 := by unfold valueM; rw [if_pos hk]
      rw [e]
      exact value_form w0 P txt hs w rest l nodes key lev h hb ht.1 hk
    by_cases hm : nodes.length = 4096
    · have e : valueM txt (lv + 1) rest l nodes key = .bad (hereT txt.length rest) 6 := by unfold valueM; rw [if_neg hk, if_pos hm]
      rw [e]
      exact value_many w0 P txt hs w rest l nodes key lev h hb ht.1 hk (by omega) hm
    · cases rest with
      | nil => exact absurd rfl hk
      | cons t r =>
        have htl := ht.1
        simp only [List.length_cons] at hN htl
        exact value_push w0 P txt hs w t r l nodes key lev h hb (by omega) hk lv (value_any w0 P txt hs hSV hT lv (by omega)) (by omega) (by omega) hm hN ht hSV hT
end Go.Proofs.YtmghlaajocgoaaaGreatDoor
