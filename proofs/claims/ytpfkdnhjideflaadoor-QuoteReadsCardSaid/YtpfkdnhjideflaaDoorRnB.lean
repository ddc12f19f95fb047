import Derived.Test.YtpfkdnhjideflaaDoorProg
import Derived.Test.YtpfkdnhjideflaaDoorRnA
import Derived.Test.YtpfkdnhjideflaaDoorShelf
/-! The walks of the reference of layer 1, and of runes.Valid. -/
namespace Go.Proofs.YtpfkdnhjideflaaDoor
open Go.RowKit
open Go.Lib hiding intOf
set_option maxHeartbeats 400000 in
theorem wide_any (c : Int) (w : World) :
    Calls Tryd.prog 108 #[.int .i64 c] w fun e w' => e = .returned (.int .i64 (refWide c)) ∧ w = w' := by
  go_enter Tryd.func108, Tryd.ntmps108
  go_wp2
  all_goals go_ret
  all_goals (refine ⟨ret_eq (congrArg (Value.int .i64) ?_), rfl⟩; unfold refWide; (repeat split) <;> first | rfl | omega)

set_option maxHeartbeats 400000 in
theorem refNext_out (s : ByteArray) (a : Int) (w : World) (h : a < 0 ∨ (s.size : Int) ≤ a) :
    Calls Tryd.prog 84 #[.string s, .int .i64 a] w fun e w' => e = .returned (.tuple #[.int .i32 0, .int .i64 0]) ∧ w = w' := by
  rcases h with h | h
  · go_enter Tryd.func84, Tryd.ntmps84
    go_wp2
    all_goals go_ret2
    all_goals exact ⟨rfl, rfl⟩
  · by_cases h0 : a < 0
    all_goals
      go_enter Tryd.func84, Tryd.ntmps84
      go_wp2
      all_goals go_ret2
      all_goals exact ⟨rfl, rfl⟩

theorem wide_is (c n : Int) (w : World) (h : refWide c = n) :
    Calls Tryd.prog 108 #[.int .i64 c] w fun e w' => e = .returned (.int .i64 n) ∧ w = w' := by
  subst h; exact wide_any c w
set_option maxRecDepth 100000 in
set_option maxHeartbeats 4000000 in
theorem refNext_n (s : ByteArray) (i : Nat) (n : Int) (w : World) (hi : i < s.size) (hs : s.size ≤ 4611686018427387904)
    (h1 : 1 ≤ n) (h4 : n ≤ 4) (hn : Hid (refWide ((s[i]'hi).toNat : Int) = n)) (hfit : n ≤ (s.size : Int) - i) :
    Calls Tryd.prog 84 #[.string s, .int .i64 i] w fun e w' => e = .returned (.tuple #[.int .i32 (tailOf s i n).1, .int .i64 (tailOf s i n).2]) ∧ w = w' := by
  have hb : (s[i]'hi).toNat < 256 := (s[i]'hi).toNat_lt
  obtain ⟨R, hR⟩ : ∃ R, tailOf s i n = R := ⟨_, rfl⟩
  rw [hR]
  have HR := Lib.hid hR; clear hR
  have hbd := refHead_bd _ n hn.out (by omega) (by omega)
  have hH := refHead_is ((s[i]'hi).toNat : Int) n
  rcases (show n = 1 ∨ n = 2 ∨ n = 3 ∨ n = 4 by omega) with h | h | h | h
  all_goals
    first | have hV := hH.1 h | have hV := hH.2.1 h | have hV := hH.2.2.1 h | have hV := hH.2.2.2 h
    have hlo := Int.le_of_eq h; have hhi := Int.le_of_eq h.symm
    have n0 : (n == 0) = false := beq_eq_false_iff_ne.2 (by omega)
    first | have n2 : (n == 2) = false := beq_eq_false_iff_ne.2 (by omega) | have n2 : (n == 2) = true := beq_iff_eq.2 (by omega)
    first | have n3 : (n == 3) = false := beq_eq_false_iff_ne.2 (by omega) | have n3 : (n == 3) = true := beq_iff_eq.2 (by omega)
    first | have n4 : (n == 4) = false := beq_eq_false_iff_ne.2 (by omega) | have n4 : (n == 4) = true := beq_iff_eq.2 (by omega)
    rw [hV] at hbd; clear hH h
    have HV := Lib.hid hV; clear hV
    go_enter Tryd.func84, Tryd.ntmps84
    go_wp2_with (go_at_call 108; refine (wide_is _ _ _ hn.out).mono ?_; rintro e w' ⟨rfl, rfl⟩)
    go_loop [7, 8] (fun v k => ∃ (j : Nat) (V : Int), 1 ≤ j ∧ (j : Int) ≤ n ∧ k = .int .i64 j ∧ v = .int .i64 V ∧ 0 ≤ V ∧ Hid (V < bnd j) ∧ Hid (refTail s (n.toNat - 1) (i + 1) (refHead (byteAt s i) n) = refTail s (n.toNat - j) (i + j) V)) (fun _ k => (n - intOf k).toNat)
    case atStart => exact ⟨1, _, by omega, by omega, rfl, rfl, by omega, by unfold Hid bnd; simp; omega, by unfold Hid; rw [← byteAt_eq s i hi, HV.out]⟩
    case round =>
      obtain ⟨j, V, hj1, hj2, rfl, rfl, hV0, HB, HT⟩ := hrel
      by_cases hlt : (j : Int) < n
      · have hbV : V < 1048576 := Int.lt_of_lt_of_le HB.out (bnd_le j (by omega))
        have hij : i + j < s.size := by omega
        have hcb : (s[i + j]'hij).toNat < 256 := (s[i + j]'hij).toNat_lt
        go_wp2
        all_goals first
          | (go_round
             case rel => exact ⟨j + 1, _, by omega, by omega, by go_num, rfl, by omega, bnd_step j V _ HB.out hj1 (by omega) (by omega), tail_next HT hlt hij (by omega) (by omega)⟩
             case measure => simp [intOf]; omega)
          | (go_ret2; exact ⟨pair_ret (tail_bad HR HT hlt hij (by omega)), rfl⟩)
      · have hbV : V < 67108864 := by have h := HB.out; unfold bnd at h; revert h; (repeat' split) <;> omega
        go_wp2
        all_goals go_ret2
        all_goals
          refine ⟨pair_ret ((tail_end HR HT (by omega)).trans ?_), rfl⟩
          first
            | (rw [show refBad n V = true from decide_eq_true (by omega)]; rfl)
            | (rw [show refBad n V = false from decide_eq_false (by omega)]; rfl)

set_option maxRecDepth 100000 in
set_option maxHeartbeats 1000000 in
theorem refNext_no (s : ByteArray) (i : Nat) (n : Int) (w : World) (hi : i < s.size) (hs : s.size ≤ 4611686018427387904)
    (h1 : 0 ≤ n) (h4 : n ≤ 4) (hn : Hid (refWide ((s[i]'hi).toNat : Int) = n)) (hno : n = 0 ∨ (s.size : Int) - i < n) :
    Calls Tryd.prog 84 #[.string s, .int .i64 i] w fun e w' => e = .returned (.tuple #[.int .i32 65533, .int .i64 1]) ∧ w = w' := by
  have hb : (s[i]'hi).toNat < 256 := (s[i]'hi).toNat_lt
  by_cases h : n = 0
  all_goals
    first | have n0 : (n == 0) = false := beq_eq_false_iff_ne.2 (by omega) | have n0 : (n == 0) = true := beq_iff_eq.2 (by omega)
    have hno' : 1 ≤ n → (s.size : Int) - i < n := fun _ => by omega
    have hno'' : (s.size : Int) - i < n ∨ n ≤ 0 := by omega
    clear hno
    rcases hno'' with hno'' | hno''
    all_goals
      clear h hno'
      go_enter Tryd.func84, Tryd.ntmps84
      go_wp2_with (go_at_call 108; refine (wide_is _ _ _ hn.out).mono ?_; rintro e w' ⟨rfl, rfl⟩)
      all_goals go_ret2
      all_goals exact ⟨rfl, rfl⟩

theorem refNext_any (s : ByteArray) (i : Nat) (w : World) (hi : i < s.size) (hs : s.size ≤ 4611686018427387904) :
    Calls Tryd.prog 84 #[.string s, .int .i64 i] w fun e w' => e = .returned (.tuple #[.int .i32 (refNext s i).1, .int .i64 (refNext s i).2]) ∧ w = w' := by
  obtain ⟨n, hn⟩ : ∃ n, refWide ((s[i]'hi).toNat : Int) = n := ⟨_, rfl⟩
  have hc := refWide_cases ((s[i]'hi).toNat : Int)
  have hn' := hn; rw [byteAt_eq] at hn'
  by_cases h : n = 0 ∨ (s.size : Int) - i < n
  · rw [show refNext s i = (65533, 1) by unfold refNext; simp only [hn']; rw [if_pos h]]
    exact refNext_no s i n w hi hs (by omega) (by omega) hn h
  · rw [show refNext s i = tailOf s i n by unfold refNext tailOf; simp only [hn']; rw [if_neg h]]
    exact refNext_n s i n w hi hs (by omega) (by omega) hn (by omega)

def Tabs (w : World) : Prop := Lib.Utf8Tabs 0 1 w
theorem Tabs.below {w w' : World} (h : Tabs w) {B : Nat} (hB : 0 < B ∧ 1 < B) (hb : Below B w w') : Tabs w' := by
  obtain ⟨h1, h2⟩ := h
  refine ⟨fun c hc => ?_, fun i hi => ⟨?_, ?_⟩⟩
  · rw [hb.cell (p := ⟨_, c, none⟩) hB.1]; exact h1 c hc
  · rw [hb.cell (p := ⟨_, 2 * i, none⟩) hB.2]; exact (h2 i hi).1
  · rw [hb.cell (p := ⟨_, 2 * i + 1, none⟩) hB.2]; exact (h2 i hi).2
theorem Tabs.lt {w : World} (h : Tabs w) : 0 < w.heap.size ∧ 1 < w.heap.size :=
  ⟨cell_lt (h.1 0 (by decide)), cell_lt (h.2 0 (by decide)).1⟩
theorem Tabs.keep {w w' : World} (h : Tabs w) (hb : Below w.heap.size w w') : Tabs w' := h.below h.lt hb

theorem decodeGo_tail (s : ByteArray) (i : Nat) (hi : i < s.size) : Lib.decodeGo (s.extract i s.size) = Utf8.decode s i := by
  have hsz : (s.extract i s.size).size = s.size - i := by rw [ByteArray.size_extract]; omega
  unfold Lib.decodeGo
  rw [if_neg (by omega), Lib.tail_decode, Nat.add_zero]

/-- utf8.DecodeRuneInString(s[i:]). -/
theorem dec_at (s : ByteArray) (i : Nat) (w : World) (hi : i < s.size) (hT : Tabs w) :
    Calls Tryd.prog 56 #[.string (s.extract i s.size)] w fun e w' => e = .returned (.tuple #[.int .i32 (runeI s i), .int .i64 (widN s i)]) ∧ Below w.heap.size w w' := by
  have h := Tryd.utf8_DecodeRuneInString (s.extract i s.size) w hT
  rw [decodeGo_tail s i hi] at h
  exact h

theorem refNext_at (s : ByteArray) (i : Nat) (w : World) (hi : i < s.size) (hs : s.size ≤ 4611686018427387904) :
    Calls Tryd.prog 84 #[.string s, .int .i64 i] w fun e w' => e = .returned (.tuple #[.int .i32 (runeI s i), .int .i64 (widN s i)]) ∧ w = w' := by
  have h := refNext_any s i w hi hs
  rw [refNext_eq s i hi] at h
  exact h

set_option maxHeartbeats 400000 in
theorem good_at (s : ByteArray) (i : Nat) (w : World) (hi : i < s.size) (hs : s.size ≤ 4611686018427387904) :
    Calls Tryd.prog 83 #[.string s, .int .i64 i] w fun e w' => e = .returned (.bool (goodB s i)) ∧ w = w' := by
  have hw := widN_bd s i hi
  unfold goodB
  have hc := refNext_at s i w hi hs
  generalize runeI s i = c at *
  generalize widN s i = n at *
  have HC := Lib.hid hc; clear hc
  by_cases h1 : (c == 65533) = true
  all_goals
    first | have h1' : (c == 65533) = false := by simpa using h1 | skip
    go_enter Tryd.func83, Tryd.ntmps83
    go_wp2_with (go_at_call 84; refine HC.out.mono ?_; rintro e w' ⟨rfl, rfl⟩)
    all_goals go_ret
    all_goals (refine ⟨ret_bool ?_, rfl⟩; simp_all)

set_option maxHeartbeats 1000000 in
theorem refValid_any (s : ByteArray) (w : World) (hs : s.size ≤ 4611686018427387904) :
    Calls Tryd.prog 54 #[.string s] w fun e w' => e = .returned (.tuple #[.int .i64 (validRes s).1, .bool (validRes s).2]) ∧ w = w' := by
  obtain ⟨R, hR⟩ : ∃ R, validRes s = R := ⟨_, rfl⟩
  rw [hR]
  have HR := Lib.hid hR; clear hR
  go_enter Tryd.func54, Tryd.ntmps54
  go_wp2_with fail
  go_loop [4] (fun a => ∃ pos : Nat, pos ≤ s.size ∧ a = .int .i64 pos ∧ Hid (Bads s pos)) (fun a => s.size - (intOf a).toNat)
  case atStart => exact ⟨0, by omega, rfl, Bads.zero s⟩
  case round =>
    obtain ⟨pos, hp, rfl, HB⟩ := hrel
    by_cases hlt : pos < s.size
    · have hw := widN_bd s pos hlt
      cases hg : goodB s pos with
      | true =>
        have HG := Lib.hid hg
        have hgc := good_at s pos w hlt hs
        rw [hg] at hgc; clear hg
        have HGC := Lib.hid hgc; clear hgc
        go_wp2_with (first | (go_at_call 83; refine HGC.out.mono ?_; rintro e w' ⟨rfl, rfl⟩) | (go_at_call 84; refine (refNext_at s pos _ hlt hs).mono ?_; rintro e w' ⟨rfl, rfl⟩))
        go_round
        case rel => exact ⟨pos + widN s pos, by omega, by go_num, HB.out.next hlt HG.out⟩
        case measure => simp [intOf]; omega
      | false =>
        have HG := Lib.hid hg
        have hgc := good_at s pos w hlt hs
        rw [hg] at hgc; clear hg
        have HGC := Lib.hid hgc; clear hgc
        go_wp2_with (go_at_call 83; refine HGC.out.mono ?_; rintro e w' ⟨rfl, rfl⟩)
        go_ret2
        exact ⟨ret_vb (HR.out.symm.trans (HB.out.bad hlt HG.out)), rfl⟩
    · go_wp2_with fail
      go_ret2
      exact ⟨ret_vb (HR.out.symm.trans (HB.out.fin (by omega))), rfl⟩

set_option maxHeartbeats 1000000 in
theorem valid_any (s : ByteArray) (w : World) (hs : s.size ≤ 4611686018427387904) (hT : Tabs w) :
    Calls Tryd.prog 26 #[.string s] w fun e w' => e = .returned (.tuple #[.int .i64 (validRes s).1, .bool (validRes s).2]) ∧ Below w.heap.size w w' := by
  obtain ⟨R, hR⟩ : ∃ R, validRes s = R := ⟨_, rfl⟩
  rw [hR]
  have HR := Lib.hid hR; clear hR
  cases hv : Lib.validD s.data.toList with
  | true =>
    have h0 := validRes_yes hv
    have hc := Tryd.utf8_ValidString s w (by omega) hT
    rw [hv] at hc; clear hv
    have HC := Lib.hid hc; clear hc
    have H0 := Lib.hid h0; clear h0
    go_enter Tryd.func26, Tryd.ntmps26
    go_wp2_with (go_at_call 55; refine HC.out.mono ?_; rintro e w' ⟨rfl, hb⟩)
    go_ret2
    exact ⟨ret_vb (HR.out.symm.trans H0.out), hb⟩
  | false =>
    have hc := Tryd.utf8_ValidString s w (by omega) hT
    rw [hv] at hc; clear hv
    have HC := Lib.hid hc; clear hc
    go_enter Tryd.func26, Tryd.ntmps26
    go_wp2_with (go_at_call 55; refine HC.out.mono ?_; rintro e w1 ⟨rfl, hb1⟩)
    have hT1 := hT.keep hb1
    have hz := hb1.size
    have hw1 : Hid (Below w.heap.size w w1) := hb1
    obtain ⟨hc1, hf1⟩ := bcell hb1
    clear hb1 hc1 hf1
    go_loopw [4] (fun _ wr => ∃ pos : Nat, pos ≤ s.size ∧ Hid (Bads s pos) ∧ Hid (wr.heap[w1.heap.size]? = some (.stringIter s pos)) ∧ Hid (Below w1.heap.size w1 wr)) (fun _ wr => s.size - wr.iterPos w1.heap.size)
    case atStart => exact ⟨0, by omega, Bads.zero s, World.iter_heap w1 s 0, (Below.refl _ _).alloc (Nat.le_refl _) _⟩
    case round =>
      obtain ⟨pos, hp, HB, HI, HW⟩ := hrel
      by_cases hlt : pos < s.size
      · have hw := widN_bd s pos hlt
        have hrb := runeI_bd s pos
        have hnx : ∀ ty, (Instr.next (.pointer (some ⟨w1.heap.size, 0, none⟩)) true ty).run Tryd.prog wr = .ok (.tuple #[.bool true, .int .i64 pos, .int .i32 (runeI s pos)]) (wr.iterAt w1.heap.size s (pos + widN s pos)) := fun ty => Lib.run_next_any_at wr _ s pos ty HI.out hlt
        have HI2 := Lib.hid (Lib.iterAt_heap wr w1.heap.size s pos (pos + widN s pos) HI.out)
        have HW2 := Lib.hid (Lib.below_iterAt HW.out (Nat.le_refl w1.heap.size) s (pos + widN s pos))
        have hT2 : Tabs (wr.iterAt w1.heap.size s (pos + widN s pos)) := hT1.keep HW2.out
        have HM := Lib.hid (iterPos_of HI.out)
        have HM2 := Lib.hid (iterPos_of HI2.out)
        by_cases hr : runeI s pos = 65533
        · by_cases h1 : widN s pos = 1
          · have HG := Lib.hid (goodB_no hr h1)
            have hrB : (runeI s pos != 65533) = false := by rw [hr]; rfl
            have h1B : (((widN s pos : Nat) : Int) == 1) = true := by rw [h1]; rfl
            clear hr h1
            go_wp2_with (go_at_call 56; refine (dec_at s pos _ hlt hT2).mono ?_; rintro e w' ⟨rfl, hb⟩)
            go_ret2
            exact ⟨ret_vb (HR.out.symm.trans (HB.out.bad hlt HG.out)), hw1.out.trans ((HW2.out.trans (hb.mono HW2.out.size)).mono hw1.out.size)⟩
          · have HG := Lib.hid (goodB_wide h1)
            have hrB : (runeI s pos != 65533) = false := by rw [hr]; rfl
            have h1B : (((widN s pos : Nat) : Int) == 1) = false := beq_eq_false_iff_ne.2 (by omega)
            clear hr h1
            go_wp2_with (go_at_call 56; refine (dec_at s pos _ hlt hT2).mono ?_; rintro e w' ⟨rfl, hb⟩)
            have HI3 := (hb.block w1.heap.size (cell_it HI2.out)).trans HI2.out
            go_roundw
            case rel => exact ⟨pos + widN s pos, by omega, HB.out.next hlt HG.out, HI3, HW2.out.trans (hb.mono HW2.out.size)⟩
            case measure => rw [iterPos_of HI3, HM.out]; omega
        · have HG := Lib.hid (goodB_rune hr)
          have hrB : (runeI s pos != 65533) = true := bne_iff_ne.2 hr
          clear hr
          go_wp2
          go_roundw
          case rel => exact ⟨pos + widN s pos, by omega, HB.out.next hlt HG.out, HI2.out, HW2.out⟩
          case measure => rw [HM2.out, HM.out]; omega
      · have hnx : ∀ ty, (Instr.next (.pointer (some ⟨w1.heap.size, 0, none⟩)) true ty).run Tryd.prog wr = .ok (.tuple #[.bool false]) wr := fun ty => Lib.run_next_end_at wr _ s pos ty HI.out hlt
        go_wp2
        go_ret2
        exact ⟨ret_vb (HR.out.symm.trans (HB.out.fin (by omega))), hw1.out.trans (HW.out.mono hw1.out.size)⟩

end Go.Proofs.YtpfkdnhjideflaaDoor
