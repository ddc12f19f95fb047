import Derived.Test.YtmghlaajocgoaaaGreatDoorSm
import Derived.BigQuiet
import Derived.Deep.QuietTactic
import Derived.Deep.DeepCutAuto
import Derived.Deep.CutBlock
import Derived.Deep.RegionHeld3
import Derived.Lib.IndexBytes
import Derived.Lib.ConvBytes
import Derived.Lib.AtoiAllMem
import Derived.Laws.Closers25
import Derived.Laws.Closers25b
import Derived.BigCall
import Derived.BigGuard
/-! The walks of strconv.ParseUint at base 16 and four bytes. -/
namespace Go.Proofs.YtmghlaajocgoaaaGreatDoor
set_option linter.unusedSimpArgs false
set_option linter.unusedVariables false
open Go.RowKit
open Go.Lib hiding intOf

/-- A digit of base 16. -/
def hexN (c : UInt8) : Option Nat :=
  if 48 ≤ c.toNat ∧ c.toNat ≤ 57 then some (c.toNat - 48) else if 97 ≤ c.toNat ∧ c.toNat ≤ 102 then some (c.toNat - 87) else if 65 ≤ c.toNat ∧ c.toNat ≤ 70 then some (c.toNat - 55) else none
def hexGo : Nat → List UInt8 → Option Nat
  | acc, [] => some acc
  | acc, c :: r => match hexN c with | none => none | some d => hexGo (16 * acc + d) r
def hexEnd (r : Option Nat) : Ending := match r with
  | some n => .returned (.tuple #[.int .u64 n, .nilIface])
  | none => .returned (.tuple #[.int .u64 0, .iface 152 (.int .i64 2)])
theorem lower_all : ∀ n : Fin 256, ((65 ≤ n.val ∧ n.val ≤ 70 → bits .or .u8 (n.val : Int) 32 = (n.val : Int) + 32) ∧ (97 ≤ n.val ∧ n.val ≤ 102 → bits .or .u8 (n.val : Int) 32 = (n.val : Int)) ∧
    (¬ (65 ≤ n.val ∧ n.val ≤ 70) → ¬ (97 ≤ n.val ∧ n.val ≤ 102) → bits .or .u8 (n.val : Int) 32 < 97 ∨ 103 ≤ bits .or .u8 (n.val : Int) 32) ∧ 0 ≤ bits .or .u8 (n.val : Int) 32 ∧ bits .or .u8 (n.val : Int) 32 ≤ 255) := by decide +kernel
theorem lower_at (c : UInt8) : (65 ≤ c.toNat ∧ c.toNat ≤ 70 → bits .or .u8 (c.toNat : Int) 32 = (c.toNat : Int) + 32) ∧ (97 ≤ c.toNat ∧ c.toNat ≤ 102 → bits .or .u8 (c.toNat : Int) 32 = (c.toNat : Int)) ∧
    (¬ (65 ≤ c.toNat ∧ c.toNat ≤ 70) → ¬ (97 ≤ c.toNat ∧ c.toNat ≤ 102) → bits .or .u8 (c.toNat : Int) 32 < 97 ∨ 103 ≤ bits .or .u8 (c.toNat : Int) 32) ∧ 0 ≤ bits .or .u8 (c.toNat : Int) 32 ∧ bits .or .u8 (c.toNat : Int) 32 ≤ 255 :=
  lower_all ⟨c.toNat, c.toNat_lt⟩
theorem lower_any (c : Int) (w : World) :
    Calls Tryz.prog 118 #[.int .u8 c] w fun e w' => e = .returned (.int .u8 (bits .or .u8 c 32)) ∧ w = w' := by
  go_enter Tryz.func118, Tryz.ntmps118
  go_wp2_with fail
  go_ret
  exact ⟨rfl, rfl⟩
set_option maxHeartbeats 8000000 in
set_option maxRecDepth 100000 in
theorem parse16_any (t : ByteArray) (ht : t.size = 4) (w : World) :
    Calls Tryz.prog 115 #[.string t, .int .i64 16, .int .i64 32] w fun e w' => e = hexEnd (hexGo 0 t.data.toList) ∧ Below w.heap.size w w' := by
  have hemp : t.toList.isEmpty = false := by
    rw [← decide_eq_emptyBytes]
    exact decide_eq_false (fun h => by rw [h] at ht; cases ht)
  have hcv := Lib.run_convert_string_bytes (P := Tryz.prog) w 9 108 5 t (u := .string) Tryz.underlying9 Tryz.underlying108 Tryz.underlying5
  have hB : ∀ j, j < t.size → (Lib.bytesWorld w 5 t).cell? ⟨w.heap.size, j, none⟩ = some (.int .u8 (t.data.toList.getD j 0).toNat) := fun j hj => Lib.bytesWorld_cell w 5 t j hj
  have hbel := Lib.hid (Lib.bytesWorld_below w 5 t)
  obtain ⟨W1, hW1⟩ : ∃ W1, W1 = Lib.bytesWorld w 5 t := ⟨_, rfl⟩
  rw [← hW1] at hcv hB hbel
  clear hW1
  obtain ⟨bl, hL⟩ : ∃ bl, bl = t.data.toList := ⟨_, rfl⟩
  have hLn : bl.length = t.size := by rw [hL, Lib.size_eq]
  rw [← hL] at hB ⊢
  clear hL
  obtain ⟨R, hR⟩ : ∃ R, hexEnd (hexGo 0 bl) = R := ⟨_, rfl⟩
  rw [hR]
  have HR := Lib.hid hR; clear hR
  have hmv : IntKind.u64.wrap (IntKind.u64.wrap 4294967296 - 1) = 4294967295 := by
    rw [IntKind.wrap_u64, IntKind.wrap_u64]
    decide
  go_enter Tryz.func115, Tryz.ntmps115
  go_wp2_with fail
  go_loop [12, 13, 101] (fun vu vn vi => ∃ (k acc : Nat) (a : Int), vu = .bool false ∧ vn = .int .u64 a ∧ vi = .int .i64 k ∧ k ≤ t.size ∧ a ≤ 65535 ∧ 0 ≤ a ∧ (k ≤ 3 → a ≤ 4095) ∧ Hid (a = (acc : Int) ∧ acc < 16 ^ k ∧ hexGo 0 bl = hexGo acc (bl.drop k)))
    (fun _ _ vi => t.size - (RowKit.intOf vi).toNat)
  case atStart => exact ⟨0, 0, 0, rfl, rfl, rfl, by omega, by omega, by omega, fun _ => by omega, rfl, by decide, rfl⟩
  case round =>
    obtain ⟨k, acc, a, rfl, rfl, rfl, hk, ha1, ha2, ha3, hh⟩ := hrel
    obtain ⟨ha, hacc, hdec⟩ := hh.out
    clear hh
    by_cases hkn : k < t.size
    · have hc := hB k hkn
      have hdrop : bl.drop k = bl[k]'(by omega) :: bl.drop (k + 1) := List.drop_eq_getElem_cons (by omega)
      have hget : bl.getD k 0 = bl[k]'(by omega) := by simp [List.getD, List.getElem?_eq_getElem (show k < bl.length by omega)]
      rw [hdrop] at hdec
      rw [hget] at hc
      generalize bl[k]'(by omega) = c at hc hdec
      have hc256 : c.toNat < 256 := c.toNat_lt
      have hk3 : a ≤ 4095 := ha3 (by omega)
      obtain ⟨lw1, lw2, lw3, lw4, lw5⟩ := lower_at c
      have hpow : 16 ^ (k + 1) = 16 * 16 ^ k := by rw [Nat.pow_succ]; omega
      have hk16 : k ≤ 2 → (16 : Nat) ^ (k + 1) ≤ 4096 := fun h => Nat.le_trans (Nat.pow_le_pow_right (by decide) (show k + 1 ≤ 3 by omega)) (by decide)
      clear hB hdrop hget ha3
      have hstep : ∀ d : Nat, hexN c = some d → d < 16 → Hid (a * 16 + (d : Int) = ((16 * acc + d : Nat) : Int) ∧ 16 * acc + d < 16 ^ (k + 1) ∧ hexGo 0 bl = hexGo (16 * acc + d) (bl.drop (k + 1))) ∧ (k + 1 ≤ 3 → a * 16 + (d : Int) ≤ 4095) := fun d hd hd16 => by
        have h2 : 16 * acc + d < 16 ^ (k + 1) := by rw [hpow]; omega
        refine ⟨⟨by omega, h2, ?_⟩, fun h => by have := hk16 (by omega); omega⟩
        rw [hdec]; simp only [hexGo, hd]
      by_cases hdig : 48 ≤ c.toNat ∧ c.toNat ≤ 57
      · obtain ⟨hd0, hd1⟩ := hdig
        obtain ⟨HN, h3⟩ := hstep (c.toNat - 48) (by unfold hexN; rw [if_pos ⟨hd0, hd1⟩]) (by omega)
        rw [show ((c.toNat - 48 : Nat) : Int) = (c.toNat : Int) - 48 by omega] at HN h3
        clear hdec hstep lw1 lw2 lw3 lw4 lw5 hacc ha hpow hk16
        go_wp2_with fail
        refine ⟨⟨k + 1, 16 * acc + (c.toNat - 48), a * 16 + ((c.toNat : Int) - 48), rfl, (by first | rfl | (congr 1; omega)), (by first | rfl | (congr 1; omega)), by omega, by omega, by omega, h3, HN⟩, by simp [RowKit.intOf]; omega⟩
      · by_cases hlo : 97 ≤ c.toNat ∧ c.toNat ≤ 102
        · have hl := lw2 hlo
          obtain ⟨hd0, hd1⟩ := hlo
          obtain ⟨HN, h3⟩ := hstep (c.toNat - 87) (by unfold hexN; rw [if_neg hdig, if_pos ⟨hd0, hd1⟩]) (by omega)
          rw [show ((c.toNat - 87 : Nat) : Int) = (c.toNat : Int) - 97 + 10 by omega] at HN h3
          have hnd : ¬ c.toNat ≤ 57 := by omega
          have HL : Hid (∀ w, Calls Tryz.prog 118 #[.int .u8 (c.toNat : Int)] w fun e w' => e = .returned (.int .u8 (c.toNat : Int)) ∧ w = w') := Lib.hid (fun w => by have := lower_any (c.toNat : Int) w; rw [hl] at this; exact this)
          clear hdec hstep lw1 lw2 lw3 lw4 lw5 hacc ha hpow hk16 hl hdig
          go_wp2_with (go_at_call 118; refine (HL.out _).mono ?_; rintro e w' ⟨rfl, rfl⟩)
          refine ⟨⟨k + 1, 16 * acc + (c.toNat - 87), a * 16 + ((c.toNat : Int) - 97 + 10), rfl, (by first | rfl | (congr 1; omega)), (by first | rfl | (congr 1; omega)), by omega, by omega, by omega, h3, HN⟩, by simp [RowKit.intOf]; omega⟩
        · by_cases hup : 65 ≤ c.toNat ∧ c.toNat ≤ 70
          · have hl := lw1 hup
            obtain ⟨hd0, hd1⟩ := hup
            obtain ⟨HN, h3⟩ := hstep (c.toNat - 55) (by unfold hexN; rw [if_neg hdig, if_neg hlo, if_pos ⟨hd0, hd1⟩]) (by omega)
            rw [show ((c.toNat - 55 : Nat) : Int) = (c.toNat : Int) + 32 - 97 + 10 by omega] at HN h3
            have hnd : ¬ c.toNat ≤ 57 := by omega
            have HL : Hid (∀ w, Calls Tryz.prog 118 #[.int .u8 (c.toNat : Int)] w fun e w' => e = .returned (.int .u8 ((c.toNat : Int) + 32)) ∧ w = w') := Lib.hid (fun w => by have := lower_any (c.toNat : Int) w; rw [hl] at this; exact this)
            clear hdec hstep lw1 lw2 lw3 lw4 lw5 hacc ha hpow hk16 hl hdig hlo
            go_wp2_with (go_at_call 118; refine (HL.out _).mono ?_; rintro e w' ⟨rfl, rfl⟩)
            refine ⟨⟨k + 1, 16 * acc + (c.toNat - 55), a * 16 + ((c.toNat : Int) + 32 - 97 + 10), rfl, (by first | rfl | (congr 1; omega)), (by first | rfl | (congr 1; omega)), by omega, by omega, by omega, h3, HN⟩, by simp [RowKit.intOf]; omega⟩
          · have hF : hexGo acc (c :: bl.drop (k + 1)) = none := by simp only [hexGo]; unfold hexN; rw [if_neg hdig, if_neg hlo, if_neg hup]
            rw [hF] at hdec
            have HF := Lib.hid (HR.out.symm.trans (by rw [hdec]))
            have hv := lw3 hup hlo
            obtain ⟨v, hV⟩ : ∃ v, bits .or .u8 (c.toNat : Int) 32 = v := ⟨_, rfl⟩
            have HL : Hid (∀ w, Calls Tryz.prog 118 #[.int .u8 (c.toNat : Int)] w fun e w' => e = .returned (.int .u8 v) ∧ w = w') := Lib.hid (fun w => by have := lower_any (c.toNat : Int) w; rw [hV] at this; exact this)
            have h95v : c.toNat = 95 → v = 127 := fun h => by rw [← hV, h]; decide +kernel
            rw [hV] at hv lw4 lw5
            have hnd : c.toNat < 48 ∨ 57 < c.toNat := by omega
            clear hdec hstep lw1 lw2 lw3 hacc ha hpow hk16 hdig hlo hup hF hV
            by_cases h95 : c.toNat = 95
            · obtain rfl := h95v h95
              have h95b : ((c.toNat : Int) == 95) = true := beq_iff_eq.2 (by omega)
              have hnd2 : 57 < c.toNat := by omega
              clear h95 h95v
              go_wp2_with (go_at_call 118; refine (HL.out _).mono ?_; rintro e w' ⟨rfl, rfl⟩)
              go_ret2
              exact ⟨HF.out.symm, hbel.out⟩
            · clear h95v
              have h95b : ((c.toNat : Int) == 95) = false := beq_eq_false_iff_ne.2 (by omega)
              by_cases hv1 : v < 97
              · rcases hnd with hnd | hnd
                all_goals
                  go_wp2_with (go_at_call 118; refine (HL.out _).mono ?_; rintro e w' ⟨rfl, rfl⟩)
                  go_ret2
                  exact ⟨HF.out.symm, hbel.out⟩
              · have hv2 : 103 ≤ v := hv.resolve_left hv1
                by_cases hv3 : v ≤ 122
                · rcases hnd with hnd | hnd
                  all_goals
                    go_wp2_with (go_at_call 118; refine (HL.out _).mono ?_; rintro e w' ⟨rfl, rfl⟩)
                    go_ret2
                    exact ⟨HF.out.symm, hbel.out⟩
                · rcases hnd with hnd | hnd
                  all_goals
                    go_wp2_with (go_at_call 118; refine (HL.out _).mono ?_; rintro e w' ⟨rfl, rfl⟩)
                    go_ret2
                    exact ⟨HF.out.symm, hbel.out⟩
    · obtain rfl : k = t.size := by omega
      have hF : hexGo acc (bl.drop t.size) = some acc := by rw [List.drop_eq_nil_of_le (by omega)]; rfl
      rw [hF] at hdec
      have HF := Lib.hid (HR.out.symm.trans (by rw [hdec]))
      have HA := Lib.hid ha
      clear hacc hF hdec ha
      go_wp2_with fail
      go_ret2
      exact ⟨by rw [HF.out, HA.out]; rfl, hbel.out⟩
end Go.Proofs.YtmghlaajocgoaaaGreatDoor
