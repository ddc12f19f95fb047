import Derived.Test.YtbbjgdnbekoaeaaGreatDoorYlB
import Derived.Test.YtbbjgdnbekoaeaaGreatDoorRnT
/-! The walks of wrong: yline's and the reference's. -/
namespace Go.Proofs.YtbbjgdnbekoaeaaGreatDoor
set_option linter.unusedSimpArgs false
set_option linter.unusedVariables false
open Go.RowKit
open Go.Lib hiding intOf

/-- A rune that may not stand in a line. -/
def badR (r : Int) (n : Nat) : Bool := decide (r < 32) || (r == 65533 && n == 1) || r == 127
theorem bad_iff (c : UInt8) (r : List UInt8) : (plainB (decodeL (c :: r)) || c == 127) = badR ((decodeL (c :: r)).1 : Int) (decodeL (c :: r)).2 := by
  unfold badR plainB
  have h127 : (c == 127) = (((decodeL (c :: r)).1 : Int) == 127) := by
    by_cases hc : c.toNat < 128
    · rw [decodeL_ascii c r hc]
      simp only []
      rw [Bool.eq_iff_iff, beq_iff_eq, beq_iff_eq]
      constructor
      · rintro rfl; rfl
      · intro h; exact UInt8.toNat_inj.1 (by show c.toNat = 127; omega)
    · have hf : ((decodeL (c :: r)).1 : Int) ≠ 127 := by
        have := decodeN_far (c :: r).length ((c :: r).getD 0 0).toNat ((c :: r).getD 1 0).toNat ((c :: r).getD 2 0).toNat ((c :: r).getD 3 0).toNat (by simp; omega) (UInt8.toNat_lt _)
        rw [← decodeL_N] at this
        omega
      rw [beq_eq_false_iff_ne.2 hf, beq_eq_false_iff_ne.2 (by rintro rfl; exact hc (by decide))]
  rw [h127]
  congr 1
  rw [Bool.eq_iff_iff]
  simp only [Bool.or_eq_true, decide_eq_true_eq, Bool.and_eq_true, beq_iff_eq]
  omega
/-- At a byte, W being where the first bad rune stands. -/
def Wr (del : Bool) (l : List UInt8) (p W : Nat) : Prop := ∃ f, l.length ≤ p + f ∧ wrGo del f (l.drop p) p = W
theorem Wr.zero (del : Bool) (l : List UInt8) : Wr del l 0 (wrL del l) := ⟨l.length, by omega, by rw [List.drop_zero]; rfl⟩
theorem Wr.fin {del : Bool} {l : List UInt8} {p W : Nat} (h : Wr del l p W) (hp : l.length ≤ p) : W = p := by
  obtain ⟨f, _, h2⟩ := h
  rw [List.drop_of_length_le hp] at h2
  rw [← h2]
  cases f <;> rfl
theorem Wr.step {del : Bool} {l : List UInt8} {p W : Nat} (h : Wr del l p W) (hp : p < l.length) :
    ((plainB (decodeL (l.drop p)) || (del && l[p]'hp == 127)) = true → W = p) ∧ ((plainB (decodeL (l.drop p)) || (del && l[p]'hp == 127)) = false → Wr del l (p + (decodeL (l.drop p)).2) W) := by
  obtain ⟨f, h1, h2⟩ := h
  obtain ⟨g, rfl⟩ : ∃ g, f = g + 1 := ⟨f - 1, by omega⟩
  have hd := List.drop_eq_getElem_cons hp
  rw [hd] at h2 ⊢
  rw [wrGo_cons] at h2
  refine ⟨fun hb => ?_, fun hb => ?_⟩
  · rw [if_pos hb] at h2; exact h2.symm
  · rw [if_neg (by rw [hb]; simp)] at h2
    have hw := decodeL_width (l[p]'hp :: l.drop (p + 1))
    refine ⟨g, by omega, ?_⟩
    rw [← hd, List.drop_drop, hd] at h2
    exact h2
def wrP (l : List UInt8) : Int × Bool := if wrL true l < l.length then ((wrL true l : Int), true) else (0, false)
theorem wrP_yes {l : List UInt8} {p : Nat} (h : wrL true l = p) (hp : p < l.length) : wrP l = ((p : Int), true) := by unfold wrP; rw [h, if_pos hp]
theorem wrP_no {l : List UInt8} (h : wrL true l = l.length) : wrP l = (0, false) := by unfold wrP; rw [h, if_neg (by omega)]
theorem dec_l (l : List UInt8) (i : Nat) (w : World) (hi : i < l.length) (hT : Tabs w) :
    Calls Tryz.prog 37 #[.string ((bs l).extract i l.length)] w fun e w' => e = .returned (.tuple #[.int .i32 (runeI (bs l) i), .int .i64 (widN (bs l) i)]) ∧ Below w.heap.size w w' := by
  have h := dec_at (bs l) i w (by rw [bs_size]; exact hi) hT
  rw [bs_size] at h
  exact h
theorem wrP_ret {k : Int} {b : Bool} {R : Int × Bool} (h : R = (k, b)) : Ending.returned (.tuple #[.int .i64 k, .bool b]) = .returned (.tuple #[.int .i64 R.1, .bool R.2]) := by rw [h]
/-- At a byte, in the walk's words. -/
theorem Wr.rune {l : List UInt8} {p W : Nat} (h : Wr true l p W) (hp : p < l.length) :
    (badR (runeI (bs l) p) (widN (bs l) p) = true → W = p) ∧ (badR (runeI (bs l) p) (widN (bs l) p) = false → Wr true l (p + widN (bs l) p) W) := by
  have hs := h.step hp
  have hd := decodeL_drop (bs l) p
  rw [bs_data] at hd
  have hb := bad_iff (l[p]'hp) (l.drop (p + 1))
  rw [← List.drop_eq_getElem_cons hp] at hb
  rw [Bool.true_and, hb, hd] at hs
  exact hs
set_option maxHeartbeats 1000000 in
theorem wrong_any (l : List UInt8) (w : World) (hs : l.length ≤ 1073741824) (hT : Tabs w) :
    Calls Tryz.prog 28 #[.string (bs l)] w fun e w' => e = .returned (.tuple #[.int .i64 (wrP l).1, .bool (wrP l).2]) ∧ Below w.heap.size w w' := by
  have sl := bs_size l
  obtain ⟨R, hR⟩ : ∃ R, wrP l = R := ⟨_, rfl⟩
  rw [hR]
  have HR := Lib.hid hR; have HT := Lib.hid hT; clear hR hT
  go_enter Tryz.func28, Tryz.ntmps28
  go_wp2_with fail
  go_loopw [4] (fun _ wr => ∃ p : Nat, p ≤ l.length ∧ Hid (Wr true l p (wrL true l)) ∧ Hid (wr.heap[w.heap.size]? = some (.stringIter (bs l) p)) ∧ Hid (Below w.heap.size w wr)) (fun _ wr => l.length - wr.iterPos w.heap.size)
  case atStart => exact ⟨0, by omega, Wr.zero true l, World.iter_heap w (bs l) 0, (Below.refl _ _).alloc (Nat.le_refl _) _⟩
  case round =>
    obtain ⟨p, hp, HB, HI, HW⟩ := hrel
    by_cases hlt : p < l.length
    · have hlt' : p < (bs l).size := by omega
      have hw := widN_bd (bs l) p hlt'
      have hrb := runeI_bd (bs l) p
      have hnx : ∀ ty, (Instr.next (.pointer (some ⟨w.heap.size, 0, none⟩)) true ty).run Tryz.prog wr = .ok (.tuple #[.bool true, .int .i64 p, .int .i32 (runeI (bs l) p)]) (wr.iterAt w.heap.size (bs l) (p + widN (bs l) p)) := fun ty => Lib.run_next_any_at wr _ (bs l) p ty HI.out hlt'
      have HI2 := Lib.hid (Lib.iterAt_heap wr w.heap.size (bs l) p (p + widN (bs l) p) HI.out)
      have HW2 := Lib.hid (Lib.below_iterAt HW.out (Nat.le_refl w.heap.size) (bs l) (p + widN (bs l) p))
      have hT2 := HT.out.keep HW2.out
      have HM := Lib.hid (iterPos_of HI.out)
      have HM2 := Lib.hid (iterPos_of HI2.out)
      obtain ⟨hyes, hno⟩ := HB.out.rune hlt
      have CD := Lib.hid (dec_l l p _ hlt hT2)
      obtain ⟨r, hr⟩ : ∃ r, runeI (bs l) p = r := ⟨_, rfl⟩
      obtain ⟨n, hn⟩ : ∃ n, widN (bs l) p = n := ⟨_, rfl⟩
      rw [hr] at hnx hrb CD hyes hno
      rw [hn] at hnx hw HI2 HW2 HM2 CD hyes hno
      clear hT2 hr hn
      unfold badR at hyes hno
      by_cases hr1 : r = 65533
      · by_cases h1 : n = 1
        · have HG := Lib.hid (hyes (by rw [hr1, h1]; decide))
          have hrB : (r == 65533) = true := by rw [hr1]; rfl
          have h1B : (((n : Nat) : Int) == 1) = true := by rw [h1]; rfl
          clear hr1 h1 hyes hno
          go_wp2_with fail
          with_reducible refine CD.out.mono ?_
          rintro e w1 ⟨rfl, hb⟩
          go_wp2_with fail
          go_ret2
          exact ⟨wrP_ret (HR.out.symm.trans (wrP_yes HG.out hlt)), below_of_new HW2.out hb⟩
        · have HG := Lib.hid (hno (by rw [hr1, beq_eq_false_iff_ne.2 h1]; decide))
          have hrB : (r == 65533) = true := by rw [hr1]; rfl
          have h1B : (((n : Nat) : Int) == 1) = false := beq_eq_false_iff_ne.2 (by omega)
          have h3 : decide (r < 32) = false := decide_eq_false (by omega)
          have h4 : (r == 127) = false := beq_eq_false_iff_ne.2 (by omega)
          clear hr1 h1 hyes hno
          go_wp2_with fail
          with_reducible refine CD.out.mono ?_
          rintro e w1 ⟨rfl, hb⟩
          go_wp2_with fail
          have HI3 := Lib.hid ((hb.block w.heap.size (cell_it HI2.out)).trans HI2.out)
          go_roundw
          case rel => exact ⟨p + n, by omega, HG.out, HI3.out, below_of_new HW2.out hb⟩
          case measure => rw [iterPos_of HI3.out, HM.out]; omega
      · have hrB : (r == 65533) = false := beq_eq_false_iff_ne.2 hr1
        by_cases h3 : r < 32
        · have HG := Lib.hid (hyes (by rw [decide_eq_true h3]; rfl))
          clear hr1 hyes hno
          go_wp2_with fail
          go_ret2
          exact ⟨wrP_ret (HR.out.symm.trans (wrP_yes HG.out hlt)), HW2.out⟩
        · have hd3 : decide (r < 32) = false := decide_eq_false h3
          by_cases h4 : r = 127
          · have HG := Lib.hid (hyes (by rw [h4]; simp))
            have h4B : (r == 127) = true := beq_iff_eq.2 h4
            clear hr1 h4 hyes hno
            go_wp2_with fail
            go_ret2
            exact ⟨wrP_ret (HR.out.symm.trans (wrP_yes HG.out hlt)), HW2.out⟩
          · have HG := Lib.hid (hno (by rw [hd3, hrB, beq_eq_false_iff_ne.2 h4]; rfl))
            have h4B : (r == 127) = false := beq_eq_false_iff_ne.2 h4
            clear hr1 h4 hyes hno
            go_wp2_with fail
            go_roundw
            case rel => exact ⟨p + n, by omega, HG.out, HI2.out, HW2.out⟩
            case measure => rw [HM2.out, HM.out]; omega
    · have hnx : ∀ ty, (Instr.next (.pointer (some ⟨w.heap.size, 0, none⟩)) true ty).run Tryz.prog wr = .ok (.tuple #[.bool false]) wr := fun ty => Lib.run_next_end_at wr _ (bs l) p ty HI.out (by omega)
      have HG := Lib.hid (HB.out.fin (by omega))
      go_wp2_with fail
      go_ret2
      exact ⟨wrP_ret (HR.out.symm.trans (wrP_no (by rw [HG.out]; omega))), HW.out⟩
end Go.Proofs.YtbbjgdnbekoaeaaGreatDoor
