import Derived.Test.YtdegjfmjjabnnaaGreatDoorMkJ
import Derived.Deep.RegionHeld3
/-! The walk of scarfref25.Width. -/
namespace Go.Proofs.YtdegjfmjjabnnaaGreatDoor
set_option linter.unusedSimpArgs false
set_option linter.unusedVariables false
open Go.RowKit
open Go.Lib hiding intOf

def mx (x y : Int) : Int := if y > x then y else x
theorem mx_max (x y : Int) : mx x y = max x y := by unfold mx; split <;> omega
theorem max5 (ts : Array TypeId) (t : TypeId) (x y z u v : Int) (w : World) : (Builtin.max_ ts t #[.int .i64 x, .int .i64 y, .int .i64 z, .int .i64 u, .int .i64 v]).run Tryz.prog w = .ok (.int .i64 (mx (mx (mx (mx x y) z) u) v)) w := by
  simp [Builtin.max_, Builtin.max2, mx]
attribute [local go_sem] max5
/-- What holds of a part's cells all through a region: and that nothing older has changed. -/
abbrev PHeld (w0 : World) (g o : Nat) (h : Bool) (t a b c : ByteArray) (w' : World) : Prop :=
  (w'.cell? ⟨g, o, none⟩ = some (.bool h) ∧ w'.cell? ⟨g, o + 1, none⟩ = some (.string t) ∧ w'.cell? ⟨g, o + 2, none⟩ = some (.string a) ∧ w'.cell? ⟨g, o + 3, none⟩ = some (.string b) ∧ w'.cell? ⟨g, o + 4, none⟩ = some (.string c)) ∧
  Hid (g < w'.heap.size ∧ Below w0.heap.size w0 w')
theorem PHeld.step {w0 w1 w2 : World} {g o : Nat} {h : Bool} {t a b c : ByteArray} (H : PHeld w0 g o h t a b c w1) (hb : Below w1.heap.size w1 w2) : PHeld w0 g o h t a b c w2 := by
  obtain ⟨⟨r0, r1, r2, r3, r4⟩, h1, h2⟩ := H
  obtain ⟨hc, _⟩ := bcell hb
  exact ⟨⟨(hc _ _ h1).trans r0, (hc _ _ h1).trans r1, (hc _ _ h1).trans r2, (hc _ _ h1).trans r3, (hc _ _ h1).trans r4⟩, Nat.lt_of_lt_of_le h1 hb.size, below_of_new h2 hb⟩
theorem PHeld.drew {w0 w1 : World} {g o : Nat} {h : Bool} {t a b c : ByteArray} (H : PHeld w0 g o h t a b c w1) : PHeld w0 g o h t a b c w1.drew := ⟨H.1, H.2.1, H.2.2.drew⟩
set_option maxRecDepth 100000 in
set_option maxHeartbeats 8000000 in
theorem rWidth_any (v : Value) (l : List Part) (w : World) (hv : PV w v l) (hs : Sz l) :
    Calls Tryz.prog 37 #[v] w fun e w' => e = .returned (.int .i64 (widthM l : Nat)) ∧ Below w.heap.size w w' := by
  obtain ⟨p, c, rfl, hp⟩ := hv
  have HP : Hid (PLies w p l) := Lib.hid hp
  clear hp
  have hl := hs.1
  obtain ⟨R, hR⟩ : ∃ R, widthM l = R := ⟨_, rfl⟩
  rw [hR]
  have HN : Hid (R = (l.drop 0).foldl (fun n x => max n (runP x + 1)) 7) := Lib.hid (by rw [List.drop_zero, ← hR]; rfl)
  clear hR
  have CR := Lib.hid (fun s w (h : s.length ≤ 1099511627776) => rRun_any s w h)
  go_enter Tryz.func37, Tryz.ntmps37
  go_wp2_with fail
  go_loopw [3, 4] (fun s3 s4 wr => ∃ (j m : Nat), s4 = .int .i64 j ∧ s3 = .int .i64 m ∧ j ≤ l.length ∧ m ≤ 1073741825 ∧ Hid (R = (l.drop j).foldl (fun n x => max n (runP x + 1)) m) ∧ Hid (Below w.heap.size w wr)) (fun _ s4 _ => l.length - (RowKit.intOf s4).toNat)
  case atStart => exact ⟨0, 7, rfl, rfl, by omega, by omega, HN, Below.refl _ _⟩
  case round =>
    obtain ⟨j, m, rfl, rfl, hj, hm, HC, HB⟩ := hrel
    by_cases hlt : j < l.length
    · obtain ⟨x, hx⟩ : ∃ x, l[j]? = some x := ⟨_, List.getElem?_eq_getElem hlt⟩
      obtain ⟨g, o, rfl, hg, _, hpc⟩ := (HP.out.keep HB.out).at_ hx
      have hlz : (j : Int) < (l.length : Int) := by omega
      obtain ⟨z0, z1, z2, z3⟩ := hs.at_ hx
      have k0 := runM_le x.text; have k1 := runM_le x.s0; have k2 := runM_le x.s1; have k3 := runM_le x.s2
      have hc := HC.out
      rw [drop_at hx, List.foldl_cons] at hc
      have C0 := Lib.hid (fun w => CR.out x.text w (by omega))
      have C1 := Lib.hid (fun w => CR.out x.s0 w (by omega))
      have C2 := Lib.hid (fun w => CR.out x.s1 w (by omega))
      have C3 := Lib.hid (fun w => CR.out x.s2 w (by omega))
      have hrp : runP x = max (max (runM x.s0) (runM x.s1)) (max (runM x.s2) (runM x.text)) := rfl
      obtain ⟨r0, q0⟩ : ∃ r, runM x.text = r := ⟨_, rfl⟩
      obtain ⟨r1, q1⟩ : ∃ r, runM x.s0 = r := ⟨_, rfl⟩
      obtain ⟨r2, q2⟩ : ∃ r, runM x.s1 = r := ⟨_, rfl⟩
      obtain ⟨r3, q3⟩ : ∃ r, runM x.s2 = r := ⟨_, rfl⟩
      rw [q0] at C0 k0 hrp; rw [q1] at C1 k1 hrp; rw [q2] at C2 k2 hrp; rw [q3] at C3 k3 hrp
      rw [hrp] at hc
      have HC2 := Lib.hid hc
      have HPC : PHeld w g (o + j * 5) x.hunk (bs x.text) (bs x.s0) (bs x.s1) (bs x.s2) wr := ⟨hpc, hg, HB.out⟩
      clear hc HC hrp q0 q1 q2 q3 hx hpc
      have hw : ∀ r : Nat, r ≤ 1099511627776 → IntKind.i64.wrap ((r : Int) + 1) = (r : Int) + 1 := fun r hr => by rw [IntKind.wrap_i64]; omega
      have hw0 := hw r0 (by omega); have hw1 := hw r1 (by omega); have hw2 := hw r2 (by omega); have hw3 := hw r3 (by omega)
      clear hw
      go_upto_region 5 with fail
      go_region_held3 (fun w' => PHeld w g (o + j * 5) x.hunk (bs x.text) (bs x.s0) (bs x.s1) (bs x.s2) w') ((first | exact PHeld.drew (by assumption) | exact PHeld.step (by assumption) (by assumption) | assumption))
        (first
        | (go_at_call_of 56 (bs x.text); (with_reducible refine (C0.out _).mono ?_); rintro e w1 ⟨rfl, hb1⟩)
        | (go_at_call_of 56 (bs x.s0); (with_reducible refine (C1.out _).mono ?_); rintro e w1 ⟨rfl, hb1⟩)
        | (go_at_call_of 56 (bs x.s1); (with_reducible refine (C2.out _).mono ?_); rintro e w1 ⟨rfl, hb1⟩)
        | (go_at_call_of 56 (bs x.s2); (with_reducible refine (C3.out _).mono ?_); rintro e w1 ⟨rfl, hb1⟩))
      rename_i hH
      have HB2 := Lib.hid hH.2.out.2
      clear hH
      go_wp2_with fail
      go_roundw
      case rel => exact ⟨j + 1, max m (max (max r1 r2) (max r3 r0) + 1), by go_num, by simp only [mx_max]; congr 1; omega, by omega, by omega, HC2, HB2.out⟩
      case measure => simp [RowKit.intOf]; omega
    · have HF : Hid (R = m) := Lib.hid (by
        have := HC.out
        rw [List.drop_of_length_le (by omega)] at this
        exact this)
      go_wp2_with fail
      go_ret
      exact ⟨ret_int (by rw [HF.out]), HB.out⟩
end Go.Proofs.YtdegjfmjjabnnaaGreatDoor
