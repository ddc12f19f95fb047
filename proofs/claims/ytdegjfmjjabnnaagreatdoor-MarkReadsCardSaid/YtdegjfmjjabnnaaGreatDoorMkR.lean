import Derived.Test.YtdegjfmjjabnnaaGreatDoorMkQ
/-! The walk of mark.Right. -/
namespace Go.Proofs.YtdegjfmjjabnnaaGreatDoor
set_option linter.unusedSimpArgs false
set_option linter.unusedVariables false
open Go.RowKit
open Go.Lib hiding intOf

/-- Block L is a part. -/
def PBox (W : World) (L : Nat) (y : Part) : Prop := W.heap[L]? = some (.cells #[.bool y.hunk, .string (bs y.text), .string (bs y.s0), .string (bs y.s1), .string (bs y.s2)] 30 (0, 0))
theorem PBox.cells {W : World} {L : Nat} {y : Part} (h : PBox W L y) : (W.cell? ⟨L, 0, none⟩ = some (.bool y.hunk) ∧ W.cell? ⟨L, 1, none⟩ = some (.string (bs y.text)) ∧ W.cell? ⟨L, 2, none⟩ = some (.string (bs y.s0)) ∧ W.cell? ⟨L, 3, none⟩ = some (.string (bs y.s1)) ∧ W.cell? ⟨L, 4, none⟩ = some (.string (bs y.s2))) ∧
    (W.frozen? ⟨L, 0, none⟩ = false ∧ W.frozen? ⟨L, 1, none⟩ = false ∧ W.frozen? ⟨L, 2, none⟩ = false ∧ W.frozen? ⟨L, 3, none⟩ = false ∧ W.frozen? ⟨L, 4, none⟩ = false) :=
  ⟨⟨cell_of_row _ _ 0 _ _ (0, 0) h, cell_of_row _ _ 1 _ _ (0, 0) h, cell_of_row _ _ 2 _ _ (0, 0) h, cell_of_row _ _ 3 _ _ (0, 0) h, cell_of_row _ _ 4 _ _ (0, 0) h⟩, by simp [World.frozen?, show W.heap[L]? = _ from h]⟩
theorem PBox.lt {W : World} {L : Nat} {y : Part} (h : PBox W L y) : L < W.heap.size := cell_it h
theorem PBox.keep {W W' : World} {L : Nat} {y : Part} (h : PBox W L y) (hb : Below W.heap.size W W') : PBox W' L y := (hb.block L h.lt).trans h
theorem PBox.new (W : World) (y : Part) : PBox (W.alloc (.cells #[.bool y.hunk, .string (bs y.text), .string (bs y.s0), .string (bs y.s1), .string (bs y.s2)] 30)) W.heap.size y := heap_alloc_new W _
def putP (W : World) (L : Nat) (y : Part) : World := ((((W.setCell ⟨L, 0, none⟩ (.bool y.hunk)).setCell ⟨L, 1, none⟩ (.string (bs y.text))).setCell ⟨L, 2, none⟩ (.string (bs y.s0))).setCell ⟨L, 3, none⟩ (.string (bs y.s1))).setCell ⟨L, 4, none⟩ (.string (bs y.s2))
theorem PBox.put {W : World} {L : Nat} {x : Part} (h : PBox W L x) (y : Part) : PBox (putP W L y) L y := by
  unfold PBox at h ⊢
  unfold putP
  simp [World.setCell, Array.getElem?_modify, h]
theorem below_putP {B : Nat} {w W : World} {L : Nat} {y : Part} (h : Below B w W) (hL : B ≤ L) : Below B w (putP W L y) :=
  ((((h.setCell (p := ⟨L, 0, none⟩) hL _).setCell (p := ⟨L, 1, none⟩) hL _).setCell (p := ⟨L, 2, none⟩) hL _).setCell (p := ⟨L, 3, none⟩) hL _).setCell (p := ⟨L, 4, none⟩) hL _
theorem behind_right {p : Bool} {x : Part} (h : okPart p x = true) : behindOk x = x.hunk := by
  unfold behindOk
  cases hh : x.hunk with
  | true => rfl
  | false =>
    have := (part_text x p h hh).2.1
    simp [this]
set_option maxRecDepth 100000 in
set_option maxHeartbeats 8000000 in
theorem Right_any (v : Value) (l : List Part) (w : World) (hv : PV w v l) (hl : l.length ≤ 1073741825) :
    Calls Tryz.prog 21 #[v] w fun e w' => e = .returned (.bool (rightM l)) ∧ Below w.heap.size w w' := by
  obtain ⟨p, c, rfl, hp⟩ := hv
  have HP : Hid (PLies w p l) := Lib.hid hp
  clear hp
  obtain ⟨R, hR⟩ : ∃ R, rightGo true l = R := ⟨_, rfl⟩
  have hrm : rightM l = (R && decide (l.length ≤ 4096)) := by unfold rightM; rw [hR]
  obtain ⟨R2, hR2⟩ : ∃ R, rightM l = R := ⟨_, rfl⟩
  rw [hR2]
  rw [hR2] at hrm
  have HRM := Lib.hid hrm
  have HN : Hid (PBox (w.alloc (.cells #[.bool false, .string ⟨#[]⟩, .string ⟨#[]⟩, .string ⟨#[]⟩, .string ⟨#[]⟩] 30)) w.heap.size ⟨false, [], [], [], []⟩ ∧ Below w.heap.size w (w.alloc (.cells #[.bool false, .string ⟨#[]⟩, .string ⟨#[]⟩, .string ⟨#[]⟩, .string ⟨#[]⟩] 30)) ∧ behindOk ⟨false, [], [], [], []⟩ = prevH l 0 ∧ R = rightGo (prevH l 0) (l.drop 0)) :=
    Lib.hid ⟨PBox.new w ⟨false, [], [], [], []⟩, below_alloc1 _ _, rfl, by rw [List.drop_zero, ← hR]; rfl⟩
  clear hR hR2 hrm
  have CR := Lib.hid (fun x y w => right_any x y w)
  unfold partV at CR
  go_enter Tryz.func21, Tryz.ntmps21
  go_wp2_with fail
  go_loopw [8] (fun s8 wr => ∃ (j : Nat) (y : Part), s8 = .int .i64 j ∧ j ≤ l.length ∧ Hid (PBox wr w.heap.size y ∧ Below w.heap.size w wr ∧ behindOk y = prevH l j ∧ R = rightGo (prevH l j) (l.drop j))) (fun s8 _ => l.length - (RowKit.intOf s8).toNat)
  case atStart => exact ⟨0, _, rfl, by omega, HN.out⟩
  case round =>
    obtain ⟨j, y, rfl, hj, HI⟩ := hrel
    by_cases hlt : j < l.length
    · obtain ⟨x, hx⟩ : ∃ x, l[j]? = some x := ⟨_, List.getElem?_eq_getElem hlt⟩
      obtain ⟨g, o, rfl, hg, _, c0, c1, c2, c3, c4⟩ := (HP.out.keep HI.out.2.1).at_ hx
      have hlz : (j : Int) < (l.length : Int) := by omega
      have hc := HI.out.2.2.2
      rw [drop_at hx, rightGo, ← HI.out.2.2.1] at hc
      have hps := prevH_succ hx
      have C1 := Lib.hid (fun w => CR.out x y w)
      obtain ⟨K, hK⟩ : ∃ K, okPart (behindOk y) x = K := ⟨_, rfl⟩
      rw [hK] at C1 hc
      go_upto_region 5 with fail
      have hbx := PBox.new wr x
      have hb1 := below_alloc1 wr (.cells #[.bool x.hunk, .string (bs x.text), .string (bs x.s0), .string (bs x.s1), .string (bs x.s2)] 30)
      obtain ⟨W1, hW1⟩ : ∃ W, wr.alloc (.cells #[.bool x.hunk, .string (bs x.text), .string (bs x.s0), .string (bs x.s1), .string (bs x.s2)] 30) = W := ⟨_, rfl⟩
      obtain ⟨X, hX⟩ : ∃ X, wr.heap.size = X := ⟨_, rfl⟩
      rw [hW1] at hbx hb1 ⊢
      rw [hX] at hbx ⊢
      have HY := Lib.hid (And.intro hbx (And.intro (HI.out.1.keep hb1) (And.intro (below_of_new HI.out.2.1 hb1) (show w.heap.size < X by rw [← hX]; exact HI.out.1.lt))))
      have HC := Lib.hid (And.intro hc (And.intro hK hps))
      clear hW1 hX hbx hb1 c0 c1 c2 c3 c4 hc hK hps hx HI
      obtain ⟨⟨x0, x1, x2, x3, x4⟩, _⟩ := HY.out.1.cells
      obtain ⟨⟨y0, y1, y2, y3, y4⟩, _⟩ := HY.out.2.1.cells
      cases K with
      | false =>
        have HF : Hid (R2 = false) := Lib.hid (by rw [HRM.out, HC.out.1]; rfl)
        go_wp2_with (go_at_call 39; (with_reducible refine (C1.out _).mono ?_); rintro e w1 ⟨rfl, hb⟩; have HB := Lib.hid (below_of_new HY.out.2.2.1 hb); clear hb)
        go_ret
        exact ⟨ret_bool HF.out.symm, HB.out⟩
      | true =>
        have HC2 : Hid (behindOk x = prevH l (j + 1) ∧ R = rightGo (prevH l (j + 1)) (l.drop (j + 1))) := Lib.hid ⟨by rw [HC.out.2.2, behind_right HC.out.2.1], by rw [HC.out.2.2]; simpa using HC.out.1⟩
        go_wp2_with (go_at_call 39; (with_reducible refine (C1.out _).mono ?_); rintro e w1 ⟨rfl, hb⟩; have HB := Lib.hid (And.intro (HY.out.1.keep hb) (And.intro (HY.out.2.1.keep hb) (below_of_new HY.out.2.2.1 hb))); clear hb x0 x1 x2 x3 x4 y0 y1 y2 y3 y4; obtain ⟨⟨x0, x1, x2, x3, x4⟩, _⟩ := HB.out.1.cells; obtain ⟨⟨y0, y1, y2, y3, y4⟩, ⟨f0, f1, f2, f3, f4⟩⟩ := HB.out.2.1.cells)
        go_roundw
        case rel => exact ⟨j + 1, x, by go_num, by omega, HB.out.2.1.put x, below_putP HB.out.2.2 (Nat.le_refl _), HC2.out.1, HC2.out.2⟩
        case measure => simp [RowKit.intOf]; omega
    · have HF : Hid (R = true) := Lib.hid (by
        have := HI.out.2.2.2
        rw [List.drop_of_length_le (by omega)] at this
        exact this)
      have HF2 : Hid (R2 = decide ((l.length : Int) ≤ 4096)) := Lib.hid (by rw [HRM.out, HF.out, Bool.true_and]; exact decide_eq_decide.2 (by omega))
      go_wp2_with fail
      go_ret
      exact ⟨ret_bool HF2.out.symm, HI.out.2.1⟩
end Go.Proofs.YtdegjfmjjabnnaaGreatDoor
