import Derived.Test.YtbdognlebkagpaaDoorRunesD
import Derived.Lib.ValidU
namespace Go.Proofs.YtbdognlebkagpaaDoor
open Go.RowKit
open Go.Lib hiding intOf

/-! Valid. -/
/-- Where the first rune begins that is none, from a place on. -/
def badFrom (s : ByteArray) : Nat → Nat → Option Nat
  | 0, _ => none
  | f + 1, pos => if pos < s.size then (if goodB s pos then badFrom s f (pos + widN s pos) else some pos) else none
def badAt (s : ByteArray) : Option Nat := badFrom s s.size 0
def validRes (s : ByteArray) : Int × Bool := match badAt s with | some p => (p, false) | none => (s.size, true)
theorem badFrom_end (s : ByteArray) (f pos : Nat) (h : s.size ≤ pos) : badFrom s f pos = none := by
  cases f
  · rfl
  · unfold badFrom; rw [if_neg (by omega)]
theorem badFrom_good (s : ByteArray) (f pos : Nat) (h : pos < s.size) (hg : goodB s pos = true) (hf : s.size ≤ f + pos) : ∃ g, badFrom s f pos = badFrom s g (pos + widN s pos) ∧ s.size ≤ g + (pos + widN s pos) := by
  obtain ⟨g, rfl⟩ : ∃ g, f = g + 1 := ⟨f - 1, by omega⟩
  have := widN_bd s pos h
  refine ⟨g, ?_, by omega⟩
  show (if pos < s.size then (if goodB s pos then badFrom s g (pos + widN s pos) else some pos) else none) = _
  rw [if_pos h, if_pos hg]
theorem badFrom_bad (s : ByteArray) (f pos : Nat) (h : pos < s.size) (hg : goodB s pos = false) (hf : s.size ≤ f + pos) : badFrom s f pos = some pos := by
  obtain ⟨g, rfl⟩ : ∃ g, f = g + 1 := ⟨f - 1, by omega⟩
  show (if pos < s.size then (if goodB s pos then badFrom s g (pos + widN s pos) else some pos) else none) = _
  rw [if_pos h, hg]; rfl
/-- A round's word: what is still to come. -/
def Bads (s : ByteArray) (pos : Nat) : Prop := ∃ f, badAt s = badFrom s f pos ∧ s.size ≤ f + pos
theorem Bads.zero (s : ByteArray) : Bads s 0 := ⟨s.size, rfl, by omega⟩
theorem Bads.next {s : ByteArray} {pos : Nat} (h : Bads s pos) (hp : pos < s.size) (hg : goodB s pos = true) : Bads s (pos + widN s pos) := by
  obtain ⟨f, h1, h2⟩ := h
  obtain ⟨g, h3, h4⟩ := badFrom_good s f pos hp hg h2
  exact ⟨g, h1.trans h3, h4⟩
theorem Bads.bad {s : ByteArray} {pos : Nat} (h : Bads s pos) (hp : pos < s.size) (hg : goodB s pos = false) : validRes s = ((pos : Int), false) := by
  obtain ⟨f, h1, h2⟩ := h
  unfold validRes; rw [h1, badFrom_bad s f pos hp hg h2]
theorem Bads.fin {s : ByteArray} {pos : Nat} (h : Bads s pos) (hp : s.size ≤ pos) : validRes s = ((s.size : Int), true) := by
  obtain ⟨f, h1, h2⟩ := h
  unfold validRes; rw [h1, badFrom_end s f pos hp]
theorem decodeL_drop (s : ByteArray) (pos : Nat) : decodeL (s.data.toList.drop pos) = Utf8.decode s pos := by
  rw [decodeL_N, decode_N]
  simp only [List.length_drop, List.getD_eq_getElem?_getD, List.getElem?_drop, Nat.add_zero]
theorem goodB_iff (s : ByteArray) (pos : Nat) : goodB s pos = decide (¬ ((Utf8.decode s pos).1 = 65533 ∧ (Utf8.decode s pos).2 = 1)) := by
  unfold goodB runeI widN
  rw [Bool.eq_iff_iff]
  simp
  omega
theorem validGo_badFrom (s : ByteArray) : ∀ f pos, s.size ≤ f + pos → validGoD f (s.data.toList.drop pos) = (badFrom s f pos).isNone
  | 0, pos, h => by simp [validGoD, badFrom]
  | f + 1, pos, h => by
    have hl : s.data.toList.length = s.size := rfl
    unfold validGoD badFrom
    by_cases hp : pos < s.size
    · have hne : ¬ (s.data.toList.drop pos = []) := by rw [List.drop_eq_nil_iff]; omega
      have hw := widN_bd s pos hp
      rw [if_neg hne, if_pos hp, decodeL_drop, goodB_iff]
      by_cases hb : (Utf8.decode s pos).1 = 65533 ∧ (Utf8.decode s pos).2 = 1
      · rw [if_pos hb]; simp [hb]
      · rw [if_neg hb, List.drop_drop]
        have ih := validGo_badFrom s f (pos + widN s pos) (by omega)
        unfold widN at ih hw ⊢
        rw [ih, decide_eq_true hb]; rfl
    · have hne : s.data.toList.drop pos = [] := by rw [List.drop_eq_nil_iff]; omega
      rw [if_pos hne, if_neg hp]; rfl
theorem validD_bad (s : ByteArray) : Lib.validD s.data.toList = (badAt s).isNone := by
  unfold Lib.validD badAt
  have := validGo_badFrom s s.size 0 (by omega)
  simpa using this
theorem validRes_yes {s : ByteArray} (h : Lib.validD s.data.toList = true) : validRes s = ((s.size : Int), true) := by
  rw [validD_bad, Option.isNone_iff_eq_none] at h
  unfold validRes; rw [h]
theorem ret_vb {R : Int × Bool} {a : Int} {b : Bool} (h : R = (a, b)) : Ending.returned (.tuple #[.int .i64 a, .bool b]) = .returned (.tuple #[.int .i64 R.1, .bool R.2]) := by subst h; rfl

set_option maxHeartbeats 1000000 in
theorem refValid_any (s : ByteArray) (w : World) (hs : s.size ≤ 4611686018427387904) :
    Calls Tryd.prog 15 #[.string s] w fun e w' => e = .returned (.tuple #[.int .i64 (validRes s).1, .bool (validRes s).2]) ∧ w = w' := by
  obtain ⟨R, hR⟩ : ∃ R, validRes s = R := ⟨_, rfl⟩
  rw [hR]
  have HR := Lib.hid hR; clear hR
  go_enter Tryd.func15, Tryd.ntmps15
  go_wp2_with fail
  go_loop [4] (fun a => ∃ pos : Nat, pos ≤ s.size ∧ a = .int .i64 pos ∧ Hid (Bads s pos)) (fun a => s.size - (intOf a).toNat)
  case atStart => exact ⟨0, by omega, rfl, Bads.zero s⟩
  case round =>
    obtain ⟨pos, hp, rfl, HB⟩ := hrel
    by_cases hlt : pos < s.size
    · have hw := widN_bd s pos hlt
      cases hg : goodB s pos with
      | true =>
        have HG := Lib.hid hg
        have hgc := good_at s pos w hlt hs
        rw [hg] at hgc; clear hg
        have HGC := Lib.hid hgc; clear hgc
        go_wp2_with (first | (go_at_call 27; refine HGC.out.mono ?_; rintro e w' ⟨rfl, rfl⟩) | (go_at_call 17; refine (refNext_at s pos _ hlt hs).mono ?_; rintro e w' ⟨rfl, rfl⟩))
        go_round
        case rel => exact ⟨pos + widN s pos, by omega, by go_num, HB.out.next hlt HG.out⟩
        case measure => simp [intOf]; omega
      | false =>
        have HG := Lib.hid hg
        have hgc := good_at s pos w hlt hs
        rw [hg] at hgc; clear hg
        have HGC := Lib.hid hgc; clear hgc
        go_wp2_with (go_at_call 27; refine HGC.out.mono ?_; rintro e w' ⟨rfl, rfl⟩)
        go_ret2
        exact ⟨ret_vb (HR.out.symm.trans (HB.out.bad hlt HG.out)), rfl⟩
    · go_wp2_with fail
      go_ret2
      exact ⟨ret_vb (HR.out.symm.trans (HB.out.fin (by omega))), rfl⟩

theorem goodB_rune {s : ByteArray} {pos : Nat} (h : runeI s pos ≠ 65533) : goodB s pos = true := by
  unfold goodB; rw [beq_eq_false_iff_ne.2 h]; rfl
theorem goodB_wide {s : ByteArray} {pos : Nat} (h : widN s pos ≠ 1) : goodB s pos = true := by
  unfold goodB; rw [show (((widN s pos : Nat) : Int) == 1) = false from beq_eq_false_iff_ne.2 (by omega)]; simp
theorem goodB_no {s : ByteArray} {pos : Nat} (h : runeI s pos = 65533) (h1 : widN s pos = 1) : goodB s pos = false := by
  unfold goodB; rw [h, h1]; rfl

theorem cell_it {w : World} {k : Nat} {o : Obj} (h : w.heap[k]? = some o) : k < w.heap.size := (Array.getElem?_eq_some_iff.1 h).1
set_option maxHeartbeats 1000000 in
theorem valid_any (s : ByteArray) (w : World) (hs : s.size ≤ 4611686018427387904) (hT : Tabs w) :
    Calls Tryd.prog 14 #[.string s] w fun e w' => e = .returned (.tuple #[.int .i64 (validRes s).1, .bool (validRes s).2]) ∧ Below w.heap.size w w' := by
  obtain ⟨R, hR⟩ : ∃ R, validRes s = R := ⟨_, rfl⟩
  rw [hR]
  have HR := Lib.hid hR; clear hR
  cases hv : Lib.validD s.data.toList with
  | true =>
    have h0 := validRes_yes hv
    have hc := Tryd.utf8_ValidString s w (by omega) hT
    rw [hv] at hc; clear hv
    have HC := Lib.hid hc; clear hc
    have H0 := Lib.hid h0; clear h0
    go_enter Tryd.func14, Tryd.ntmps14
    go_wp2_with (go_at_call 26; refine HC.out.mono ?_; rintro e w' ⟨rfl, hb⟩)
    go_ret2
    exact ⟨ret_vb (HR.out.symm.trans H0.out), hb⟩
  | false =>
    have hc := Tryd.utf8_ValidString s w (by omega) hT
    rw [hv] at hc; clear hv
    have HC := Lib.hid hc; clear hc
    go_enter Tryd.func14, Tryd.ntmps14
    go_wp2_with (go_at_call 26; refine HC.out.mono ?_; rintro e w1 ⟨rfl, hb1⟩)
    have hT1 := hT.keep hb1
    have hz := hb1.size
    have hw1 : Hid (Below w.heap.size w w1) := hb1
    obtain ⟨hc1, hf1⟩ := bcell hb1
    clear hb1 hc1 hf1
    go_loopw [4] (fun _ wr => ∃ pos : Nat, pos ≤ s.size ∧ Hid (Bads s pos) ∧ Hid (wr.heap[w1.heap.size]? = some (.stringIter s pos)) ∧ Hid (Below w1.heap.size w1 wr)) (fun _ wr => s.size - wr.iterPos w1.heap.size)
    case atStart => exact ⟨0, by omega, Bads.zero s, World.iter_heap w1 s 0, (Below.refl _ _).alloc (Nat.le_refl _) _⟩
    case round =>
      obtain ⟨pos, hp, HB, HI, HW⟩ := hrel
      by_cases hlt : pos < s.size
      · have hw := widN_bd s pos hlt
        have hrb := runeI_bd s pos
        have hnx : ∀ ty, (Instr.next (.pointer (some ⟨w1.heap.size, 0, none⟩)) true ty).run Tryd.prog wr = .ok (.tuple #[.bool true, .int .i64 pos, .int .i32 (runeI s pos)]) (wr.iterAt w1.heap.size s (pos + widN s pos)) := fun ty => Lib.run_next_any_at wr _ s pos ty HI.out hlt
        have HI2 := Lib.hid (Lib.iterAt_heap wr w1.heap.size s pos (pos + widN s pos) HI.out)
        have HW2 := Lib.hid (Lib.below_iterAt HW.out (Nat.le_refl w1.heap.size) s (pos + widN s pos))
        have hT2 : Tabs (wr.iterAt w1.heap.size s (pos + widN s pos)) := hT1.keep HW2.out
        have HM := Lib.hid (iterPos_of HI.out)
        have HM2 := Lib.hid (iterPos_of HI2.out)
        by_cases hr : runeI s pos = 65533
        · by_cases h1 : widN s pos = 1
          · have HG := Lib.hid (goodB_no hr h1)
            have hrB : (runeI s pos != 65533) = false := by rw [hr]; rfl
            have h1B : (((widN s pos : Nat) : Int) == 1) = true := by rw [h1]; rfl
            clear hr h1
            go_wp2_with (go_at_call 22; refine (dec_at s pos _ hlt hT2).mono ?_; rintro e w' ⟨rfl, hb⟩)
            go_ret2
            exact ⟨ret_vb (HR.out.symm.trans (HB.out.bad hlt HG.out)), hw1.out.trans ((HW2.out.trans (hb.mono HW2.out.size)).mono hw1.out.size)⟩
          · have HG := Lib.hid (goodB_wide h1)
            have hrB : (runeI s pos != 65533) = false := by rw [hr]; rfl
            have h1B : (((widN s pos : Nat) : Int) == 1) = false := beq_eq_false_iff_ne.2 (by omega)
            clear hr h1
            go_wp2_with (go_at_call 22; refine (dec_at s pos _ hlt hT2).mono ?_; rintro e w' ⟨rfl, hb⟩)
            have HI3 := (hb.block w1.heap.size (cell_it HI2.out)).trans HI2.out
            go_roundw
            case rel => exact ⟨pos + widN s pos, by omega, HB.out.next hlt HG.out, HI3, HW2.out.trans (hb.mono HW2.out.size)⟩
            case measure => rw [iterPos_of HI3, HM.out]; omega
        · have HG := Lib.hid (goodB_rune hr)
          have hrB : (runeI s pos != 65533) = true := bne_iff_ne.2 hr
          clear hr
          go_wp2
          go_roundw
          case rel => exact ⟨pos + widN s pos, by omega, HB.out.next hlt HG.out, HI2.out, HW2.out⟩
          case measure => rw [HM2.out, HM.out]; omega
      · have hnx : ∀ ty, (Instr.next (.pointer (some ⟨w1.heap.size, 0, none⟩)) true ty).run Tryd.prog wr = .ok (.tuple #[.bool false]) wr := fun ty => Lib.run_next_end_at wr _ s pos ty HI.out hlt
        go_wp2
        go_ret2
        exact ⟨ret_vb (HR.out.symm.trans (HB.out.fin (by omega))), hw1.out.trans (HW.out.mono hw1.out.size)⟩
end Go.Proofs.YtbdognlebkagpaaDoor
